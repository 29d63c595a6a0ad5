import Derived.Test.YtcgffpncfgmhkaaW3
set_option linter.unusedVariables false
set_option linter.unusedSimpArgs false
set_option maxRecDepth 100000
set_option maxHeartbeats 2000000
namespace Go.Proofs.Ytcgffpncfgmhkaa
open Go Go.Proofs Go.RowKit Go.Instr
open Go.Proofs.YtcgffpncfgmhkaaW.PrintWords

def fewD (n m : Nat) : Bool := decide (n ≤ 400) && decide (m ≤ 400)
theorem few11 (A A2 : Option Addr) (n c n2 c2 : Nat) (w : World) : Calls Try.prog 11 #[.agg #[.slice A n c, .slice A2 n2 c2]] w fun e w' => e = .returned (.bool (fewD n n2)) ∧ Ext w w' := by
  by_cases h1 : n ≤ 400
  · by_cases h2 : n2 ≤ 400
    · have HF : Hid (fewD n n2 = true) := by show _ = _; simp [fewD, h1, h2]
      go_enter Try.func11, Try.ntmps11
      go_wp2_with fail
      go_ret
      rw [HF.out]
      exact ⟨by simp; omega, (Ext.refl w).alloc _⟩
    · have HF : Hid (fewD n n2 = false) := by show _ = _; simp [fewD, h1, h2]
      go_enter Try.func11, Try.ntmps11
      go_wp2_with fail
      go_ret
      rw [HF.out]
      exact ⟨by simp; omega, (Ext.refl w).alloc _⟩
  · have HF : Hid (fewD n n2 = false) := by show _ = _; simp [fewD, h1]
    go_enter Try.func11, Try.ntmps11
    go_wp2_with fail
    go_ret
    rw [HF.out]
    exact ⟨by simp [h1], (Ext.refl w).alloc _⟩

/-- The reference's Check. -/
theorem check34 (vs vc : Value) (st : List Sec) (ca : List (Int × Sec)) (w : World) (hs : Rd w 8 vs st.length (cellsOf Sec.c st)) (hr : Rd w 9 vc ca.length (cellsOf cachedC ca)) (h1 : st.length ≤ 1000000) (h2 : ca.length ≤ 1000000) :
    Calls Try.prog 34 #[.agg #[vs, vc]] w fun e w' => e = .returned (.int .i64 (chkD st ca)) ∧ Ext w w' := by
  obtain ⟨A, c, rfl⟩ := rd_slice hs
  obtain ⟨A2, c2, rfl⟩ := rd_slice hr
  by_cases h0 : st.length > 4096
  · have HF : Hid (chkD st ca = 2) := by show _ = _; unfold chkD; rw [if_pos h0]
    go_enter Try.func34, Try.ntmps34
    go_wp2_with fail
    go_ret
    rw [HF.out]
    exact ⟨rfl, (Ext.refl w).alloc _⟩
  · have HC : Hid (chkD st ca = if anyBad ca st.length then 2 else 0) := by show _ = _; unfold chkD; rw [if_neg h0]
    go_enter Try.func34, Try.ntmps34
    go_wp2_with fail
    have B1 := Blk.new w #[.slice A st.length c, .slice A2 ca.length c2] 25
    go_loopw [3] (fun u wr => ∃ k : Nat, k ≤ ca.length ∧ u = .int .i64 k ∧ Ext (w.alloc (.cells #[.slice A st.length c, .slice A2 ca.length c2] 25)) wr ∧ ∀ j x, j < k → ca[j]? = some x → ¬ (x.1 < 0 ∨ (st.length : Int) ≤ x.1)) (fun u _ => ca.length - (intOf u).toNat)
    case atStart => exact ⟨0, Nat.zero_le _, rfl, Ext.refl _, fun j x hj => absurd hj (by omega)⟩
    case round =>
      obtain ⟨k, hk, rfl, hx, hT⟩ := hrel
      have HT := Lib.hid hT
      clear hT
      obtain ⟨b1, b2, b3, b4⟩ := (B1.ext hx).f2
      by_cases hlt : k < ca.length
      · obtain ⟨x, hkx⟩ : ∃ x, ca[k]? = some x := ⟨_, List.getElem?_eq_getElem hlt⟩
        obtain ⟨q1, o1, rfl, hb1, e0, e1, e2, e3, e4, e5, e6, e7, e8⟩ := rdC_at (hr.ext (((Ext.refl w).alloc _).trans hx)) hkx
        have HX := Lib.hid hkx
        have hltz : (k : Int) < (ca.length : Int) := by omega
        clear hkx
        by_cases hneg : x.1 < 0
        · have HF : Hid (chkD st ca = 2) := by show _ = _; rw [HC.out, anyBad_true HX.out (.inl hneg)]; rfl
          go_wp2_with fail
          go_quiet (fail)
          go_wp2
          go_ret
          rw [HF.out]
          exact ⟨rfl, (((Ext.refl w).alloc _).trans hx).drewN _⟩
        · by_cases hbig : (st.length : Int) ≤ x.1
          · have HF : Hid (chkD st ca = 2) := by show _ = _; rw [HC.out, anyBad_true HX.out (.inr hbig)]; rfl
            go_wp2_with fail
            go_quiet (fail)
            go_wp2
            go_ret
            rw [HF.out]
            exact ⟨rfl, (((Ext.refl w).alloc _).trans hx).drewN _⟩
          · go_wp2_with fail
            go_quiet (fail)
            go_wp2
            go_roundw
            case rel =>
              refine ⟨k + 1, by omega, by go_num, hx.drewN _, fun j y hj hy => ?_⟩
              by_cases hjk : j < k
              · exact HT.out j y hjk hy
              · have : j = k := by omega
                subst this
                rw [HX.out] at hy
                cases hy
                rintro (h | h) <;> omega
            case measure => simp [intOf]; omega
      · have hltz : ¬ (k : Int) < (ca.length : Int) := by omega
        have HF : Hid (chkD st ca = 0) := by
          show _ = _
          rw [HC.out, anyBad_false (fun j x hj hx => HT.out j x (by omega) hx)]; rfl
        go_wp2_with fail
        go_ret
        rw [HF.out]
        exact ⟨rfl, ((Ext.refl w).alloc _).trans hx⟩

def sumLen (l : List OpD) : Nat := (l.map fun o => o.data.length).sum
def fewOpsD (ops : List OpD) : Bool := decide (ops.length ≤ 60) && decide (sumLen (ops.take 100) ≤ 400)
theorem sumLen_append (a b : List OpD) : sumLen (a ++ b) = sumLen a + sumLen b := by simp [sumLen]
theorem sumLen_snoc {ops : List OpD} {k : Nat} {o : OpD} (h : ops[k]? = some o) : sumLen (ops.take (k + 1)) = sumLen (ops.take k) + o.data.length := by
  rw [List.take_add_one, h, sumLen_append]
  simp [sumLen]
theorem sumLen_le (ops : List OpD) {j k : Nat} (h : j ≤ k) : sumLen (ops.take j) ≤ sumLen (ops.take k) := by
  have := sumLen_append ((ops.take k).take j) ((ops.take k).drop j)
  rw [List.take_append_drop, List.take_take, Nat.min_eq_left h] at this
  omega
theorem fewOps12 (vo : Value) (ops : List OpD) (w : World) (hr : RdO w vo ops) (hs : sumLen (ops.take 100) ≤ 9223372036854775807) (hol : ops.length ≤ 9223372036854775807) :
    Calls Try.prog 12 #[vo] w fun e w' => e = .returned (.bool (fewOpsD ops)) ∧ Ext w w' := by
  obtain ⟨A, c, rfl⟩ := rdO_slice hr
  go_enter Try.func12, Try.ntmps12
  go_wp2_with fail
  go_loopw [3, 4] (fun s t wr => ∃ k : Nat, k ≤ ops.length ∧ k ≤ 100 ∧ t = .int .i64 k ∧ s = .int .i64 (sumLen (ops.take k) : Nat) ∧ Ext w wr) (fun _ t _ => 100 - (intOf t).toNat)
  case atStart => exact ⟨0, Nat.zero_le _, Nat.zero_le _, rfl, rfl, Ext.refl _⟩
  case round =>
    obtain ⟨k, hk, hk1, rfl, rfl, hx⟩ := hrel
    by_cases hlt : k < ops.length
    · by_cases hlt1 : k < 100
      · obtain ⟨o, hko⟩ : ∃ o, ops[k]? = some o := ⟨_, List.getElem?_eq_getElem hlt⟩
        obtain ⟨b, off, vd, rfl, hbl, f0, f1, f2, hd⟩ := rdO_at (hr.ext hx) hko
        obtain ⟨Av, cv, rfl⟩ := rd_slice hd
        have hltz : (k : Int) < (ops.length : Int) := by omega
        have hsn := Lib.hid (sumLen_snoc hko)
        have hle := sumLen_le ops (show k + 1 ≤ 100 by omega)
        rw [sumLen_snoc hko] at hle
        have hwr : IntKind.i64.wrap ((sumLen (ops.take k) : Int) + (o.data.length : Int)) = (sumLen (ops.take k) : Int) + (o.data.length : Int) := IntWalk.i64_in _ (by omega)
        clear hko
        go_wp2_with fail
        go_roundw
        case rel =>
          refine ⟨k + 1, by omega, by omega, by go_num, ?_, hx⟩
          rw [hsn.out]
          first | rfl | (rw [hwr]; rfl) | (congr 1)
        case measure => simp [intOf]; omega
      · have hk2 : k = 100 := by omega
        subst hk2
        have hltz : (100 : Int) < (ops.length : Int) := by omega
        have h60 : ¬ (ops.length : Int) ≤ 60 := by omega
        have HF : Hid (fewOpsD ops = false) := by show _ = _; unfold fewOpsD; rw [decide_eq_false (by omega : ¬ ops.length ≤ 60)]; rfl
        go_wp2_with fail
        go_ret
        rw [HF.out]
        exact ⟨by simp <;> omega, hx⟩
    · have hltz : ¬ (k : Int) < (ops.length : Int) := by omega
      have hkk : k = ops.length := by omega
      have hTT : ops.take k = ops.take 100 := by rw [List.take_of_length_le (by omega), List.take_of_length_le (by omega)]
      rw [hTT]
      clear hTT
      by_cases h60 : ops.length ≤ 60
      · by_cases h4 : sumLen (ops.take 100) ≤ 400
        · have HF : Hid (fewOpsD ops = true) := by show _ = _; unfold fewOpsD; rw [decide_eq_true h60, decide_eq_true h4]; rfl
          go_wp2_with fail
          go_ret
          rw [HF.out]
          exact ⟨by simp <;> omega, hx⟩
        · have HF : Hid (fewOpsD ops = false) := by show _ = _; unfold fewOpsD; rw [decide_eq_false h4]; simp
          go_wp2_with fail
          go_ret
          rw [HF.out]
          exact ⟨by simp <;> omega, hx⟩
      · have HF : Hid (fewOpsD ops = false) := by show _ = _; unfold fewOpsD; rw [decide_eq_false h60]; rfl
        go_wp2_with fail
        go_ret
        rw [HF.out]
        exact ⟨by simp <;> omega, hx⟩
end Go.Proofs.Ytcgffpncfgmhkaa
