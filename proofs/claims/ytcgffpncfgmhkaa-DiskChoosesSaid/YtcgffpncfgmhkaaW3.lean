import Derived.Test.YtcgffpncfgmhkaaW2
set_option linter.unusedVariables false
set_option linter.unusedSimpArgs false
set_option maxRecDepth 100000
set_option maxHeartbeats 2000000
namespace Go.Proofs.Ytcgffpncfgmhkaa
open Go Go.Proofs Go.RowKit Go.Instr
open Go.Proofs.YtcgffpncfgmhkaaW.PrintWords

theorem sameD18 (va vb : Value) (s t : St) (w : World) (ha : DR w va s) (hb : DR w vb t) (hn : s.1.length ≤ 1000000) (hm : t.1.length ≤ 1000000) (hn2 : s.2.length ≤ 1000000) (hm2 : t.2.length ≤ 1000000) :
    Calls Try.prog 18 #[va, vb] w fun e w' => e = .returned (.bool (decide (s = t))) ∧ Ext w w' := by
  obtain ⟨A, c, A2, c2, rfl, h1, h2⟩ := ha
  obtain ⟨B, d, B2, d2, rfl, g1, g2⟩ := hb
  have hc19 := fun W hx => same19 _ _ s.1 t.1 W (h1.ext hx) (g1.ext hx) hn hm
  by_cases hs : s.1 = t.1
  · rw [decide_eq_true hs] at hc19
    have HS := Lib.hid hs
    clear hs
    by_cases hl : s.2.length = t.2.length
    · have hN := fun (a b : Int) (x y : Sec) (W : World) => neq67 a b x y W
      have HLL := Lib.hid hl
      rw [← hl]
      clear hl
      go_enter Try.func18, Try.ntmps18
      go_wp2_with (first
        | (go_at_call 19; refine (hc19 _ (((Ext.refl w).alloc _).alloc _)).mono ?_; rintro e w1 ⟨rfl, hx1⟩; have B1 := ((Blk.new w _ _).alloc _).ext hx1; have C1 := (Blk.new (w.alloc (.cells #[.slice A s.1.length c, .slice A2 s.2.length c2] 25)) _ _).ext hx1; rw [World.size_alloc] at C1; obtain ⟨b1, b2, b3, b4⟩ := B1.f2; obtain ⟨y1, y2, y3, y4⟩ := C1.f2)
        | fail)
      have hx1' := (((Ext.refl w).alloc (.cells #[.slice A s.1.length c, .slice A2 s.2.length c2] 25)).alloc (.cells #[.slice B t.1.length d, .slice B2 s.2.length d2] 25)).trans hx1
      go_loopw [5] (fun u wr => ∃ k : Nat, k ≤ s.2.length ∧ u = .int .i64 k ∧ Ext w1 wr ∧ Hid (s.2.take k = t.2.take k)) (fun u _ => s.2.length - (intOf u).toNat)
      case atStart => exact ⟨0, Nat.zero_le _, rfl, Ext.refl _, by show _ = _; simp⟩
      case round =>
        obtain ⟨k, hk, rfl, hx, hT⟩ := hrel
        obtain ⟨b1, b2, b3, b4⟩ := (B1.ext hx).f2
        obtain ⟨y1, y2, y3, y4⟩ := (C1.ext hx).f2
        by_cases hlt : k < s.2.length
        · obtain ⟨x, hkx⟩ : ∃ x, s.2[k]? = some x := ⟨_, List.getElem?_eq_getElem hlt⟩
          obtain ⟨y, hky⟩ : ∃ y, t.2[k]? = some y := ⟨_, List.getElem?_eq_getElem (by rw [← HLL.out]; exact hlt)⟩
          obtain ⟨q1, o1, rfl, hb1, e0, e1, e2, e3, e4, e5, e6, e7, e8⟩ := rdC_at (h2.ext (hx1'.trans hx)) hkx
          obtain ⟨q2, o2, rfl, hb2, f0, f1, f2, f3, f4, f5, f6, f7, f8⟩ := rdC_at (g2.ext (hx1'.trans hx)) hky
          have HX := Lib.hid hkx
          have HY := Lib.hid hky
          have hltz : (k : Int) < (s.2.length : Int) := by omega
          have q := hN x.1 y.1 x.2 y.2
          simp only [Sec.c, cachedC] at q
          clear hkx hky
          cases hse : (x.1 == y.1 && secEq x.2 y.2) with
          | true =>
            have HE : Hid (x = y) := by
              rw [Bool.and_eq_true] at hse
              exact Prod.ext (by simpa using hse.1) (secEq_iff.1 hse.2)
            rw [hse] at q
            clear hse
            go_wp2_with fail
            go_quiet (fail)
            go_wp2
            go_roundw
            case rel =>
              refine ⟨k + 1, by omega, by go_num, hx.drewN _, ?_⟩
              show _ = _
              rw [List.take_add_one, List.take_add_one, HX.out, HY.out, hT.out, HE.out]
            case measure => simp [intOf]; omega
          | false =>
            have HF : Hid (decide (s = t) = false) := by
              show _ = _
              rw [decide_eq_false_iff_not]
              rintro rfl
              have h2 := HX.out.symm.trans HY.out
              cases (Option.some.inj h2)
              rw [secEq_iff.2 rfl] at hse
              simp at hse
            rw [hse] at q
            clear hse
            go_wp2_with fail
            go_quiet (fail)
            go_wp2
            go_ret
            rw [HF.out]
            exact ⟨rfl, (hx1'.trans hx).drewN _⟩
        · have hltz : ¬ (k : Int) < (s.2.length : Int) := by omega
          have HF : Hid (decide (s = t) = true) := by
            show _ = _
            rw [decide_eq_true_iff]
            have h := hT.out
            rw [List.take_of_length_le (by omega), List.take_of_length_le (by have := HLL.out; omega)] at h
            exact Prod.ext HS.out h
          go_wp2_with fail
          go_ret
          rw [HF.out]
          exact ⟨rfl, hx1'.trans hx⟩
    · have HF : Hid (decide (s = t) = false) := by
        show _ = _
        rw [decide_eq_false_iff_not]
        rintro rfl
        exact hl rfl
      have hlz : ¬ (s.2.length : Int) = (t.2.length : Int) := by omega
      clear hl
      go_enter Try.func18, Try.ntmps18
      go_wp2_with (first
        | (go_at_call 19; refine (hc19 _ (((Ext.refl w).alloc _).alloc _)).mono ?_; rintro e w1 ⟨rfl, hx1⟩; have B1 := ((Blk.new w _ _).alloc _).ext hx1; have C1 := (Blk.new (w.alloc (.cells #[.slice A s.1.length c, .slice A2 s.2.length c2] 25)) _ _).ext hx1; rw [World.size_alloc] at C1; obtain ⟨b1, b2, b3, b4⟩ := B1.f2; obtain ⟨y1, y2, y3, y4⟩ := C1.f2)
        | fail)
      go_ret
      rw [HF.out]
      exact ⟨rfl, (((Ext.refl w).alloc _).alloc _).trans hx1⟩
  · rw [decide_eq_false hs] at hc19
    have HF : Hid (decide (s = t) = false) := by
      show _ = _
      rw [decide_eq_false_iff_not]
      rintro rfl
      exact hs rfl
    clear hs
    go_enter Try.func18, Try.ntmps18
    go_wp2_with (first
      | (go_at_call 19; refine (hc19 _ (((Ext.refl w).alloc _).alloc _)).mono ?_; rintro e w1 ⟨rfl, hx1⟩; have B1 := ((Blk.new w _ _).alloc _).ext hx1; have C1 := (Blk.new (w.alloc (.cells #[.slice A s.1.length c, .slice A2 s.2.length c2] 25)) _ _).ext hx1; rw [World.size_alloc] at C1; obtain ⟨b1, b2, b3, b4⟩ := B1.f2; obtain ⟨y1, y2, y3, y4⟩ := C1.f2)
      | fail)
    go_ret
    rw [HF.out]
    exact ⟨rfl, (((Ext.refl w).alloc _).alloc _).trans hx1⟩
end Go.Proofs.Ytcgffpncfgmhkaa
