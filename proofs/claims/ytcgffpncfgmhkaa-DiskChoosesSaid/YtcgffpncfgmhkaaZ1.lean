import Derived.Test.YtcgffpncfgmhkaaX2
import Derived.Test.YtcgffpncfgmhkaaU3
set_option linter.unusedVariables false
set_option linter.unusedSimpArgs false
set_option maxRecDepth 100000
set_option maxHeartbeats 2000000
namespace Go.Proofs.Ytcgffpncfgmhkaa
open Go.Proofs Go.RowKit
open Go.Proofs.YtcgffpncfgmhkaaW.PrintWords

/-- The reference's Sync. -/
theorem sync35 (v : Value) (s : St) (w : World) (hd : DR w v s) (hn : s.1.length ≤ 1000000) (hca : s.2.length ≤ 1000000) :
    Calls Try.prog 35 #[v] w fun e w' => SyncPost w w' e v s := by
  obtain ⟨A, c, A2, c2, rfl, h1, h2⟩ := hd
  have hchk := fun W hx => check34 _ _ s.1 s.2 W (h1.ext hx) (h2.ext hx) hn hca
  by_cases hz : chkD s.1 s.2 = 0
  · rw [hz] at hchk
    have hnew := fun W hx => newest45 _ _ s.1 s.2 W (h1.ext hx) (h2.ext hx) hn hca (chkD_ok hz)
    have HZ := Lib.hid hz
    have HL := Lib.hid (newestD_len s.1 s.2)
    clear hz
    go_enter Try.func35, Try.ntmps35
    go_wp2_with (first
      | (go_at_call 34; refine (hchk _ (((Ext.refl w).alloc _).alloc _)).mono ?_; rintro e w1 ⟨rfl, hx1⟩; have B1 := ((Blk.new w _ _).alloc _).ext hx1; have C1 := (Blk.new (w.alloc (.cells #[.slice A s.1.length c, .slice A2 s.2.length c2] 25)) _ _).ext hx1; rw [World.size_alloc] at C1; obtain ⟨b1, b2, b3, b4⟩ := B1.f2)
      | (go_at_call 45; refine (hnew _ ((((Ext.refl w).alloc _).alloc _).trans hx1)).mono ?_; rintro e w2 ⟨A3, c3, rfl, ho3, hx2⟩; have C2 := C1.ext hx2; obtain ⟨y1, y2, y3, y4⟩ := C2.f2))
    obtain ⟨z1, z2, _, _⟩ := ((C2.set0 (.slice A3 s.1.length c3)).set1 (.slice none 0 0)).f2
    refine bodyPost_ret (v := .agg #[.slice A3 s.1.length c3, .slice none 0 0]) (by simp [results, Try.results35, go_sem, z1, z2]) rfl ?_
    have hz : w.heap.size + 1 < w1.heap.size := C1.lt
    have ho5 := own_setlow (own_setlow ho3 (p := ⟨w.heap.size + 1, 0, none⟩) hz (.slice A3 s.1.length c3)) (p := ⟨w.heap.size + 1, 1, none⟩) hz (.slice none 0 0)
    have hx3 := ((((Ext.refl w).alloc _).alloc _).trans hx1).trans hx2
    refine ⟨_, rfl, (hx3.set (by show w.heap.size ≤ w.heap.size + 1; omega) _).set (by show w.heap.size ≤ w.heap.size + 1; omega) _, .inr ⟨HZ.out, A3, c3, none, 0, ?_, ?_, rd_nil _ _, ?_, Fresh.nil _⟩⟩
    · rw [HL.out]; rfl
    · rw [HL.out]; exact Rd.own ho5
    · rw [HL.out]; exact (Fresh.own ho5).low (by omega)
  · generalize hres : chkD s.1 s.2 = err at *
    have HRes := Lib.hid hres
    have hne : (err != 0) = true := by simpa using hz
    have HZ := Lib.hid hz
    clear hres hz
    go_enter Try.func35, Try.ntmps35
    go_wp2_with (first
      | (go_at_call 34; refine (hchk _ (((Ext.refl w).alloc _).alloc _)).mono ?_; rintro e w1 ⟨rfl, hx1⟩; have B1 := ((Blk.new w _ _).alloc _).ext hx1; have C1 := (Blk.new (w.alloc (.cells #[.slice A s.1.length c, .slice A2 s.2.length c2] 25)) _ _).ext hx1; rw [World.size_alloc] at C1; obtain ⟨b1, b2, b3, b4⟩ := B1.f2; obtain ⟨y1, y2, y3, y4⟩ := C1.f2))
    obtain ⟨z1, z2, _, _⟩ := ((C1.set0 (.slice A s.1.length c)).set1 (.slice A2 s.2.length c2)).f2
    refine bodyPost_ret (v := .agg #[.slice A s.1.length c, .slice A2 s.2.length c2]) (by simp [results, Try.results35, go_sem, z1, z2]) rfl ?_
    have hx3 := (((Ext.refl w).alloc _).alloc _).trans hx1
    exact ⟨_, rfl, (hx3.set (by show w.heap.size ≤ w.heap.size + 1; omega) _).set (by show w.heap.size ≤ w.heap.size + 1; omega) _, .inl ⟨by rw [HRes.out]; exact HZ.out, rfl⟩⟩

/-- The reference's Decide. -/
theorem decide53 (vch : Value) (ch : List Int) (n : Nat) (w : World) (hr : Rd w 1 vch ch.length (cellsOf intC ch)) (hn : 0 < n) (hn2 : n ≤ 1000001) (hl : ch.length ≤ 1000000) (hwf : ∀ x ∈ ch, I64 x) :
    Calls Try.prog 53 #[vch, .int .i64 n] w fun e w' => DecPost w w' e vch ch (decD ch n) := by
  obtain ⟨A, c, rfl⟩ := rd_slice hr
  cases ch with
  | nil =>
    go_enter Try.func53, Try.ntmps53
    go_wp2
    go_ret2
    exact ⟨_, rfl, fun w0 _ => rd_nil _ _, Ext.refl _⟩
  | cons x l =>
    obtain ⟨hc1, hc2⟩ := hwf x (by simp)
    obtain ⟨b, off, rfl, hb, f0⟩ := rdI_at (j := 0) (x := x) hr rfl
    have hlen : (x :: l).length = l.length + 1 := rfl
    obtain ⟨i0, hi0, hz0, hz1, hz2⟩ := info_parts info3
    have hcut := cut_from (P := Try.prog) 46 3 .i64 Try.underlying46 hi0 1 hz1 (some ⟨b, off, none⟩) (l.length + 1) c 1 (by omega) (by omega)
    have hsub : ∀ w0, Rd w0 1 (.slice (some ⟨b, off, none⟩) (x :: l).length c) (x :: l).length (cellsOf intC (x :: l)) → Rd w0 1 (.slice (cutA (some ⟨b, off, none⟩) 1 1 c) l.length (c - 1)) l.length (cellsOf intC l) := by
      intro w0 h0
      have h9 := rd_len h0
      have := Rd.sub (n := l.length) (lo := 1) (m := c) (c' := c - 1) intC_len h0 (by rw [hlen]; omega) (by rw [hlen] at h9; omega) (by rw [hlen] at h9; omega)
      simpa using this
    have hcut' : ∀ W : World, (Instr.slice 46 (.slice (some ⟨b, off, none⟩) (l.length + 1) c) (some (.int .i64 1)) none none).run Try.prog W = .ok (.slice (cutA (some ⟨b, off, none⟩) 1 1 c) l.length (c - 1)) W := fun W => hcut W
    have f0' : w.cell? ⟨b, off, none⟩ = some (.int .i64 x) := f0
    have hn0 : (0 : Int) < (n : Int) := by omega
    have hnz : ¬ (n : Int) = 0 := by omega
    have hl0 : (0 : Int) < (l.length : Int) + 1 := by omega
    have hb1 := Int.tmod_lt_of_pos x (b := (n : Int)) hn0
    have hb2 : -(n : Int) < x.tmod n := by
      by_cases h : 0 ≤ x
      · have := Int.tmod_nonneg (n : Int) h; omega
      · have h3 : x = -(-x) := by omega
        rw [h3, Int.neg_tmod]
        have := Int.tmod_lt_of_pos (-x) (b := (n : Int)) hn0
        omega
    have HT := Lib.hid (tmod_pos x n)
    have w1 : IntKind.i64.wrap (x.tmod n) = x.tmod n := IntWalk.i64_in _ (by omega)
    have w2 : IntKind.i64.wrap (x.tmod n + n) = x.tmod n + n := IntWalk.i64_in _ (by omega)
    clear hcut f0
    by_cases hneg : x.tmod n < 0
    · have HV : Hid (x.tmod n + n = x % n) := by
        show _ = _
        rw [← HT.out, Int.emod_eq_of_lt (by omega) (by omega)]
      go_enter Try.func53, Try.ntmps53
      go_wp2_with fail
      go_quiet (fail)
      go_wp2
      refine bodyPost_ret (results_tmp2 rfl _ _ _) rfl ?_
      refine ⟨_, ?_, hsub, (Ext.refl w).drewN _⟩
      show Ending.returned (.tuple #[.int .i64 (x.tmod n + n), _]) = _
      rw [HV.out]
      rfl
    · have HV : Hid (x.tmod n = x % n) := by
        show _ = _
        rw [← HT.out, Int.add_emod_right, Int.emod_eq_of_lt (by omega) (by omega)]
      go_enter Try.func53, Try.ntmps53
      go_wp2_with fail
      go_quiet (fail)
      go_wp2
      refine bodyPost_ret (results_tmp2 rfl _ _ _) rfl ?_
      refine ⟨_, ?_, hsub, (Ext.refl w).drewN _⟩
      show Ending.returned (.tuple #[.int .i64 (x.tmod n), _]) = _
      rw [HV.out]
      rfl

/-- The reference's comparison of numbers. -/
theorem sameInts24 (va vb : Value) (a b : List Int) (w : World) (ha : Rd w 1 va a.length (cellsOf intC a)) (hb : Rd w 1 vb b.length (cellsOf intC b)) (hn : a.length ≤ 1000000) (hm : b.length ≤ 1000000) :
    Calls Try.prog 24 #[va, vb] w fun e w' => e = .returned (.bool (decide (a = b))) ∧ Ext w w' := by
  obtain ⟨A, c, rfl⟩ := rd_slice ha
  obtain ⟨B, d, rfl⟩ := rd_slice hb
  by_cases hl : a.length = b.length
  · have HLL := Lib.hid hl
    rw [← hl]
    clear hl
    go_enter Try.func24, Try.ntmps24
    go_wp2_with fail
    go_loopw [5] (fun t wr => ∃ k : Nat, k ≤ a.length ∧ t = .int .i64 k ∧ Ext w wr ∧ Hid (a.take k = b.take k)) (fun t _ => a.length - (intOf t).toNat)
    case atStart => exact ⟨0, Nat.zero_le _, rfl, Ext.refl _, by show _ = _; simp⟩
    case round =>
      obtain ⟨k, hk, rfl, hx, hT⟩ := hrel
      by_cases hlt : k < a.length
      · obtain ⟨x, hkx⟩ : ∃ x, a[k]? = some x := ⟨_, List.getElem?_eq_getElem hlt⟩
        obtain ⟨y, hky⟩ : ∃ y, b[k]? = some y := ⟨_, List.getElem?_eq_getElem (by rw [← HLL.out]; exact hlt)⟩
        obtain ⟨b1, o1, rfl, hb1, e0⟩ := rdI_at (ha.ext hx) hkx
        obtain ⟨b2, o2, rfl, hb2, f0⟩ := rdI_at (hb.ext hx) hky
        have HX := Lib.hid hkx
        have HY := Lib.hid hky
        have hltz : (k : Int) < (a.length : Int) := by omega
        clear hkx hky
        by_cases hse : x = y
        · subst hse
          go_wp2_with fail
          go_quiet (fail)
          go_wp2
          go_roundw
          case rel =>
            refine ⟨k + 1, by omega, by go_num, (hx.drewN _), ?_⟩
            show _ = _
            rw [List.take_add_one, List.take_add_one, HX.out, HY.out, hT.out]
          case measure => simp [intOf]; omega
        · have HF : Hid (decide (a = b) = false) := by
            show _ = _
            rw [decide_eq_false_iff_not]
            rintro rfl
            have h2 := HX.out.symm.trans HY.out
            exact hse (Option.some.inj h2)
          have hne : (x != y) = true := by simpa using hse
          clear hse
          go_wp2_with fail
          go_quiet (fail)
          go_wp2
          go_ret
          rw [HF.out]
          exact ⟨rfl, (hx.drewN _)⟩
      · have hltz : ¬ (k : Int) < (a.length : Int) := by omega
        have HF : Hid (decide (a = b) = true) := by
          show _ = _
          rw [decide_eq_true_iff]
          have h := hT.out
          rw [List.take_of_length_le (by omega), List.take_of_length_le (by have := HLL.out; omega)] at h
          exact h
        go_wp2_with fail
        go_ret
        rw [HF.out]
        exact ⟨rfl, hx⟩
  · have HF : Hid (decide (a = b) = false) := by
      show _ = _
      rw [decide_eq_false_iff_not]
      rintro rfl
      exact hl rfl
    have hne : ¬ (a.length : Int) = (b.length : Int) := by omega
    go_enter Try.func24, Try.ntmps24
    go_wp2_with fail
    go_ret
    rw [HF.out]
    exact ⟨rfl, Ext.refl _⟩
end Go.Proofs.Ytcgffpncfgmhkaa
