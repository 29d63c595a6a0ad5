import Derived.Test.YtcgffpncfgmhkaaW1
set_option linter.unusedVariables false
set_option linter.unusedSimpArgs false
set_option maxRecDepth 100000
set_option maxHeartbeats 2000000
namespace Go.Proofs.Ytcgffpncfgmhkaa
open Go Go.Proofs Go.RowKit Go.Instr
open Go.Proofs.YtcgffpncfgmhkaaW.PrintWords

theorem same19 (va vb : Value) (a b : List Sec) (w : World) (ha : Rd w 8 va a.length (cellsOf Sec.c a)) (hb : Rd w 8 vb b.length (cellsOf Sec.c b)) (hn : a.length ≤ 1000000) (hm : b.length ≤ 1000000) :
    Calls Try.prog 19 #[va, vb] w fun e w' => e = .returned (.bool (decide (a = b))) ∧ Ext w w' := by
  obtain ⟨A, c, rfl⟩ := rd_slice ha
  obtain ⟨B, d, rfl⟩ := rd_slice hb
  by_cases hl : a.length = b.length
  · have hN := fun (x y : Sec) (W : World) => neq65 x y W
    have HLL := Lib.hid hl
    rw [← hl]
    clear hl
    go_enter Try.func19, Try.ntmps19
    go_wp2_with fail
    go_loopw [5] (fun t wr => ∃ k : Nat, k ≤ a.length ∧ t = .int .i64 k ∧ Ext w wr ∧ Hid (a.take k = b.take k)) (fun t _ => a.length - (intOf t).toNat)
    case atStart => exact ⟨0, Nat.zero_le _, rfl, Ext.refl _, by show _ = _; simp⟩
    case round =>
      obtain ⟨k, hk, rfl, hx, hT⟩ := hrel
      by_cases hlt : k < a.length
      · obtain ⟨x, hkx⟩ : ∃ x, a[k]? = some x := ⟨_, List.getElem?_eq_getElem hlt⟩
        obtain ⟨y, hky⟩ : ∃ y, b[k]? = some y := ⟨_, List.getElem?_eq_getElem (by rw [← HLL.out]; exact hlt)⟩
        obtain ⟨b1, o1, rfl, hb1, e0, e1, e2, e3, e4, e5, e6, e7⟩ := rdS_at (ha.ext hx) hkx
        obtain ⟨b2, o2, rfl, hb2, f0, f1, f2, f3, f4, f5, f6, f7⟩ := rdS_at (hb.ext hx) hky
        have HX := Lib.hid hkx
        have HY := Lib.hid hky
        have hltz : (k : Int) < (a.length : Int) := by omega
        have q := hN x y
        simp only [Sec.c] at q
        clear hkx hky
        cases hse : secEq x y with
        | true =>
          have HS := Lib.hid (secEq_iff.1 hse)
          rw [hse] at q
          clear hse
          go_wp2_with fail
          go_quiet (fail)
          go_wp2
          go_roundw
          case rel =>
            refine ⟨k + 1, by omega, by go_num, (hx.drewN _), ?_⟩
            show _ = _
            rw [List.take_add_one, List.take_add_one, HX.out, HY.out, hT.out, HS.out]
          case measure => simp [intOf]; omega
        | false =>
          have HF : Hid (decide (a = b) = false) := by
            show _ = _
            rw [decide_eq_false_iff_not]
            rintro rfl
            have h2 := HX.out.symm.trans HY.out
            rw [secEq_iff.2 (Option.some.inj h2)] at hse
            cases hse
          rw [hse] at q
          clear hse
          go_wp2_with fail
          go_quiet (fail)
          go_wp2
          go_ret
          rw [HF.out]
          exact ⟨rfl, (hx.drewN _)⟩
      · have hltz : ¬ (k : Int) < (a.length : Int) := by omega
        have HF : Hid (decide (a = b) = true) := by
          show _ = _
          rw [decide_eq_true_iff]
          have h := hT.out
          rw [List.take_of_length_le (by omega), List.take_of_length_le (by have := HLL.out; omega)] at h
          exact h
        go_wp2_with fail
        go_ret
        rw [HF.out]
        exact ⟨rfl, hx⟩
  · have HF : Hid (decide (a = b) = false) := by
      show _ = _
      rw [decide_eq_false_iff_not]
      rintro rfl
      exact hl rfl
    have hlz : ¬ (a.length : Int) = (b.length : Int) := by omega
    clear hl
    go_enter Try.func19, Try.ntmps19
    go_wp2_with fail
    go_ret
    rw [HF.out]
    exact ⟨rfl, Ext.refl _⟩
end Go.Proofs.Ytcgffpncfgmhkaa
