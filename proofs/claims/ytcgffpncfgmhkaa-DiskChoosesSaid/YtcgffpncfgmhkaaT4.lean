import Derived.Test.YtcgffpncfgmhkaaT2
set_option linter.unusedVariables false
set_option maxRecDepth 100000
set_option maxHeartbeats 1000000
namespace Go.Proofs.Ytcgffpncfgmhkaa
open Go.Proofs Go.RowKit
open Go.Proofs.YtcgffpncfgmhkaaW.PrintWords

theorem chk58 (x : Int) (s : Sec) (B : Nat) (w : World) (A : Option Addr) (n c : Nat) (hn : n ≤ 9223372036854775807) (hcell : w.cell? ⟨B, 0, none⟩ = some (.slice A n c)) :
   Calls Try.prog 58 #[.agg #[.int .i64 x, .int .u8 s.b0, .int .u8 s.b1, .int .u8 s.b2, .int .u8 s.b3, .int .u8 s.b4, .int .u8 s.b5, .int .u8 s.b6, .int .u8 s.b7], .pointer (some ⟨B, 0, none⟩)] w fun e w' =>
     e = .returned (.bool (decide (x < 0) || decide ((n : Int) ≤ x))) ∧ Ext w w' := by
  have hB : B < w.heap.size := World.block_lt_of_cell? w _ hcell
  have hne : B ≠ w.heap.size := by omega
  go_enter Try.func58, Try.ntmps58
  go_wp2
  all_goals (go_ret; exact ⟨by simp_all, (Ext.refl w).alloc _⟩)

/-- Some cached sector does not exist. -/
def anyBad (ca : List (Int × Sec)) (n : Nat) : Bool := ca.any fun x => decide (x.1 < 0) || decide ((n : Int) ≤ x.1)
theorem anyBad_true {ca : List (Int × Sec)} {n j : Nat} {x : Int × Sec} (hj : ca[j]? = some x) (h : x.1 < 0 ∨ (n : Int) ≤ x.1) : anyBad ca n = true := by
  unfold anyBad
  rw [List.any_eq_true]
  exact ⟨x, List.mem_of_getElem? hj, by simpa using h⟩
theorem anyBad_false {ca : List (Int × Sec)} {n : Nat} (h : ∀ j x, j < ca.length → ca[j]? = some x → ¬ (x.1 < 0 ∨ (n : Int) ≤ x.1)) : anyBad ca n = false := by
  unfold anyBad
  rw [List.any_eq_false]
  intro x hx
  obtain ⟨j, hj⟩ := List.getElem?_of_mem hx
  have := h j x (List.getElem?_eq_some_iff.1 hj).1 hj
  simpa using this
theorem anyBad_ok {ca : List (Int × Sec)} {n : Nat} (h : anyBad ca n = false) : ∀ x ∈ ca, 0 ≤ x.1 ∧ x.1 < (n : Int) := by
  unfold anyBad at h
  rw [List.any_eq_false] at h
  intro x hx
  have := h x hx
  simp at this
  omega
def IdxPost (b : Bool) (i : Int) : Prop := 0 ≤ i ↔ b = true

theorem idx68 (vc vs : Value) (ca : List (Int × Sec)) (B : Nat) (w : World) (A : Option Addr) (n c : Nat) (hr : Rd w 9 vc ca.length (cellsOf cachedC ca)) (hl : ca.length ≤ 1000000) (hn : n ≤ 9223372036854775807) (hcell : w.cell? ⟨B, 0, none⟩ = some (.slice A n c)) :
   Calls Try.prog 68 #[vc, .func (.func 58) #[] #[.pointer (some ⟨B, 0, none⟩)]] w fun e w' =>
     ∃ i : Int, e = .returned (.int .i64 i) ∧ IdxPost (anyBad ca n) i ∧ Ext w w' := by
  obtain ⟨A', c', rfl⟩ := rd_slice hr
  go_enter Try.func68, Try.ntmps68
  go_wp2
  go_loopw [5, 8] (fun t5 t8 wr => ∃ k : Nat, k ≤ ca.length ∧ t8 = .int .i64 k ∧ Ext w wr ∧ Hid (∀ j x, j < k → ca[j]? = some x → ¬ (x.1 < 0 ∨ (n : Int) ≤ x.1))) (fun _ t8 _ => ca.length - (intOf t8).toNat)
  case atStart => exact ⟨0, Nat.zero_le _, rfl, Ext.refl _, fun j x hj => absurd hj (by omega)⟩
  case round =>
    obtain ⟨k, hk, rfl, hx, H⟩ := hrel
    by_cases hlt : k < ca.length
    · obtain ⟨x, hkx⟩ : ∃ x, ca[k]? = some x := ⟨_, List.getElem?_eq_getElem hlt⟩
      obtain ⟨b, off, rfl, hbl, f0, f1, f2, f3, f4, f5, f6, f7, f8⟩ := rdC_at (hr.ext hx) hkx
      have hltz : (k : Int) < (ca.length : Int) := by omega
      have HK := Lib.hid hkx
      have hcall := chk58 x.1 x.2 B wr A n c hn (pw_cell_below hx hcell)
      clear hkx
      by_cases hbad : x.1 < 0 ∨ (n : Int) ≤ x.1
      · have hb1 : (decide (x.1 < 0) || decide ((n : Int) ≤ x.1)) = true := by simpa using hbad
        rw [hb1] at hcall
        clear hb1
        have HB := Lib.hid hbad
        clear hbad
        go_wp2_with (go_at_call 58; refine hcall.mono ?_; rintro e w' ⟨rfl, hb'⟩)
        go_ret
        exact ⟨_, rfl, ⟨fun _ => anyBad_true HK.out HB.out, fun _ => by omega⟩, hx.trans hb'⟩
      · have hb1 : (decide (x.1 < 0) || decide ((n : Int) ≤ x.1)) = false := by simpa using hbad
        rw [hb1] at hcall
        clear hb1
        have HB := Lib.hid hbad
        clear hbad
        go_wp2_with (go_at_call 58; refine hcall.mono ?_; rintro e w' ⟨rfl, hb'⟩)
        go_roundw
        case rel =>
          refine ⟨k + 1, by omega, by go_num, hx.trans hb', (show Hid _ from fun j y hj hy => ?_)⟩
          by_cases e : j = k
          · subst e
            rw [HK.out] at hy
            injection hy with hy
            subst hy
            exact HB.out
          · exact H.out j y (by omega) hy
        case measure => simp [intOf]; omega
    · have hltz : ¬ (k : Int) < (ca.length : Int) := by omega
      go_wp2
      go_ret
      have hf := anyBad_false (n := n) (fun j x hj => H.out j x (by omega))
      exact ⟨_, rfl, ⟨fun h => absurd h (by omega), fun h => by rw [hf] at h; cases h⟩, hx⟩

theorem has57 (vc vs : Value) (ca : List (Int × Sec)) (B : Nat) (w : World) (A : Option Addr) (n c : Nat) (hr : Rd w 9 vc ca.length (cellsOf cachedC ca)) (hl : ca.length ≤ 1000000) (hn : n ≤ 9223372036854775807) (hcell : w.cell? ⟨B, 0, none⟩ = some (.slice A n c)) :
   Calls Try.prog 57 #[vc, .func (.func 58) #[] #[.pointer (some ⟨B, 0, none⟩)]] w fun e w' => e = .returned (.bool (anyBad ca n)) ∧ Ext w w' := by
  have hc := idx68 vc vs ca B w A n c hr hl hn hcell
  obtain ⟨A', c', rfl⟩ := rd_slice hr
  generalize anyBad ca n = q at hc ⊢
  clear hr hcell
  go_enter Try.func57, Try.ntmps57
  cases q with
  | true =>
    go_wp2_with (go_at_call 68; refine hc.mono ?_; rintro e w' ⟨i, rfl, hi, hx⟩; have hi0 : 0 ≤ i := hi.2 rfl)
    go_ret
    exact ⟨rfl, hx⟩
  | false =>
    go_wp2_with (go_at_call 68; refine hc.mono ?_; rintro e w' ⟨i, rfl, hi, hx⟩; have hi0 : i < 0 := Int.not_le.1 (fun h => by have := hi.1 h; cases this))
    go_ret
    exact ⟨by show Ending.returned (.bool (decide (0 ≤ i))) = _; rw [decide_eq_false (by omega)], hx⟩

/-- The error of a disk. -/
def chkD (st : List Sec) (ca : List (Int × Sec)) : Int := if st.length > 4096 then 2 else if anyBad ca st.length then 2 else 0

theorem check33 (vs vc : Value) (st : List Sec) (ca : List (Int × Sec)) (w : World) (hs : Rd w 8 vs st.length (cellsOf Sec.c st)) (hr : Rd w 9 vc ca.length (cellsOf cachedC ca)) (h1 : st.length ≤ 1000000) (h2 : ca.length ≤ 1000000) :
    Calls Try.prog 33 #[.agg #[vs, vc]] w fun e w' => e = .returned (.int .i64 (chkD st ca)) ∧ Ext w w' := by
  obtain ⟨A, c, rfl⟩ := rd_slice hs
  have hcall := fun W hx hc => has57 vc vc ca w.heap.size W A st.length c (hr.ext hx) h2 (by omega) hc
  obtain ⟨A', c', rfl⟩ := rd_slice hr
  have hfin : chkD st ca = if st.length > 4096 then 2 else if anyBad ca st.length then 2 else 0 := rfl
  have HF := Lib.hid hfin
  clear hfin hs hr
  by_cases h4 : st.length > 4096
  · have h4' : (4096 : Int) < (st.length : Int) := by omega
    have HF' := Lib.hid (HF.out.trans (if_pos h4))
    clear HF
    go_enter Try.func33, Try.ntmps33
    go_wp2
    go_ret
    exact ⟨by rw [HF'.out]; rfl, (Ext.refl w).alloc _⟩
  · have h4' : ¬ (4096 : Int) < (st.length : Int) := by omega
    have HF' := Lib.hid (HF.out.trans (if_neg h4))
    clear HF
    have hcc := hcall (w.alloc (.cells #[.slice A st.length c, .slice A' ca.length c'] 25)) ((Ext.refl w).alloc _) (by simp)
    clear hcall
    generalize anyBad ca st.length = q at hcc HF'
    go_enter Try.func33, Try.ntmps33
    cases q
    all_goals
      go_wp2_with (go_at_call 57; refine hcc.mono ?_; rintro e w' ⟨rfl, hx⟩)
      go_ret
      exact ⟨by rw [HF'.out]; rfl, ((Ext.refl w).alloc _).trans hx⟩
end Go.Proofs.Ytcgffpncfgmhkaa
