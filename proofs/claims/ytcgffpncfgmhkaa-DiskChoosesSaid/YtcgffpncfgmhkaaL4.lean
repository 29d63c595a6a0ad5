import Derived.Test.YtcgffpncfgmhkaaL3
import Derived.Test.YtcgffpncfgmhkaaW5
import Derived.Test.YtcgffpncfgmhkaaZ2
import Derived.Test.YtcgffpncfgmhkaaZ3
set_option linter.unusedVariables false
set_option linter.unusedSimpArgs false
set_option maxRecDepth 100000
set_option maxHeartbeats 2000000
namespace Go.Proofs.Ytcgffpncfgmhkaa
open Go Go.Proofs Go.RowKit Go.Instr
open Go.Proofs.YtcgffpncfgmhkaaW.PrintWords

/-- What a crash leaves, with the disk's own error. -/
def crashE (s : St) (ch : List Int) : St × List Int := if chkD s.1 s.2 = 0 then (((crashD s ch).1, []), (crashD s ch).2) else (s, ch)
def CrashE (w w' : World) (e : Ending) (r : St × List Int) : Prop :=
  ∃ A c B d C k, e = .returned (.tuple #[.agg #[.slice A r.1.1.length c, .slice B r.1.2.length d], .slice C r.2.length k]) ∧ DR w' (.agg #[.slice A r.1.1.length c, .slice B r.1.2.length d]) r.1 ∧ Rd w' 1 (.slice C r.2.length k) r.2.length (cellsOf intC r.2) ∧ Ext w w'
theorem crashE_len (s : St) (ch : List Int) : (crashE s ch).1.1.length = s.1.length ∧ (crashE s ch).1.2.length ≤ s.2.length ∧ (crashE s ch).2.length ≤ ch.length := by
  unfold crashE
  split
  · obtain ⟨h1, j, h2⟩ := crash_inv s.2 ((List.range s.1.length).map fun (i : Nat) => (i : Int)) (s.1, ch)
    refine ⟨h1, Nat.zero_le _, ?_⟩
    show (crashD s ch).2.length ≤ _
    unfold crashD
    rw [h2, List.length_drop]
    exact Nat.sub_le _ _
  · exact ⟨rfl, Nat.le_refl _, Nat.le_refl _⟩
theorem crash22e (vd vch : Value) (s : St) (ch : List Int) (w : World) (hd : DR w vd s) (hr : Rd w 1 vch ch.length (cellsOf intC ch)) (hn : s.1.length ≤ 4096) (hca : s.2.length ≤ 1000000) (hcl : ch.length ≤ 1000000) (hwf : ∀ x ∈ ch, I64 x) :
    Calls Try.prog 22 #[vd, vch] w fun e w' => CrashE w w' e (crashE s ch) := by
  by_cases hz : chkD s.1 s.2 = 0
  · refine (crash22 vd vch s ch w hd hr hz hn hca hcl hwf).mono ?_
    rintro e w' ⟨v, l, rfl, ⟨A, c, B, d, rfl, h1, h2, _⟩, hl, _, hx⟩
    obtain ⟨C, k, rfl⟩ := rd_slice hl
    unfold crashE
    rw [if_pos hz]
    exact ⟨A, c, B, d, C, k, rfl, ⟨A, c, B, d, rfl, h1, h2⟩, hl, hx⟩
  · refine (crash22n vd vch s ch w hd hz (by omega) hca).mono ?_
    rintro e w' ⟨rfl, hx⟩
    have hd' := hd.ext hx
    have hr' := hr.ext hx
    obtain ⟨A, c, B, d, rfl, h1, h2⟩ := hd'
    obtain ⟨C, k, rfl⟩ := rd_slice hr'
    unfold crashE
    rw [if_neg hz]
    exact ⟨A, c, B, d, C, k, rfl, ⟨A, c, B, d, rfl, h1, h2⟩, hr', hx⟩
theorem crash23e (vd vch : Value) (s : St) (ch : List Int) (w : World) (hd : DR w vd s) (hr : Rd w 1 vch ch.length (cellsOf intC ch)) (hn : s.1.length ≤ 4096) (hca : s.2.length ≤ 1000000) (hcl : ch.length ≤ 1000000) (hwf : ∀ x ∈ ch, I64 x) :
    Calls Try.prog 23 #[vd, vch] w fun e w' => CrashE w w' e (crashE s ch) := by
  by_cases hz : chkD s.1 s.2 = 0
  · refine (crash23 vd vch s ch w hd hr hz hn hca hcl hwf).mono ?_
    rintro e w' ⟨v, l, rfl, ⟨A, c, B, d, rfl, h1, h2, _⟩, hl, hx⟩
    obtain ⟨C, k, rfl⟩ := rd_slice hl
    unfold crashE
    rw [if_pos hz]
    exact ⟨A, c, B, d, C, k, rfl, ⟨A, c, B, d, rfl, h1, h2⟩, hl, hx⟩
  · refine (crash23n vd vch s ch w hd hz (by omega) hca).mono ?_
    rintro e w' ⟨rfl, hx⟩
    have hd' := hd.ext hx
    have hr' := hr.ext hx
    obtain ⟨A, c, B, d, rfl, h1, h2⟩ := hd'
    obtain ⟨C, k, rfl⟩ := rd_slice hr'
    unfold crashE
    rw [if_neg hz]
    exact ⟨A, c, B, d, C, k, rfl, ⟨A, c, B, d, rfl, h1, h2⟩, hr', hx⟩
theorem sameInts24t (l : List Int) (va vb : Value) (w : World) (ha : Rd w 1 va l.length (cellsOf intC l)) (hb : Rd w 1 vb l.length (cellsOf intC l)) (hn : l.length ≤ 1000000) :
    Calls Try.prog 24 #[va, vb] w fun e w' => e = .returned (.bool true) ∧ Ext w w' := by
  have := sameInts24 va vb l l w ha hb hn hn
  rwa [decide_eq_true rfl] at this
theorem runR_len (s : St) (ops : List OpD) (h : s.1.length ≤ 4096) : (runR s ops).2.2.1.length ≤ 4096 ∧ (runR s ops).2.2.2.length ≤ s.2.length + dataLen ops := by
  by_cases h0 : (runR s ops).2.1 = 0
  · obtain ⟨_, a, b⟩ := runR_inv ops s h0
    exact ⟨a, b⟩
  · have he : (runR s ops).2.2 = ([], []) := by
      unfold runR at h0 ⊢
      split
      · rename_i hz
        rw [if_pos hz] at h0
        split
        · rename_i h1
          rw [if_pos h1] at h0
          exact absurd h1 h0
        · rfl
      · rfl
    rw [he]
    exact ⟨Nat.zero_le _, Nat.zero_le _⟩

/-- The law's own function, DiskRuns. -/
theorem law4 (v vo vch : Value) (s : St) (ops : List OpD) (ch : List Int) (w : World) (hd : DR w v s) (hr : RdO w vo ops) (hch : Rd w 1 vch ch.length (cellsOf intC ch)) (hwf : OpsWf ops) (hcw : ∀ x ∈ ch, I64 x)
    (hol : ops.length ≤ 9223372036854775807) (hcl : ch.length ≤ 9223372036854775807) :
    Calls Try.prog 4 #[v, vo, vch] w fun e w' => e = .returned (.bool true) ∧ Ext w w' := by
  have hd0 := hd
  obtain ⟨A, c, A2, c2, rfl, h1, h2⟩ := hd
  clear h1 h2
  obtain ⟨Ao, co, rfl⟩ := rdO_slice hr
  obtain ⟨Ac, cc, rfl⟩ := rd_slice hch
  have hfew := fun W => few11 A A2 s.1.length c s.2.length c2 W
  have hx0 : Ext w (w.alloc (.cells #[.slice A s.1.length c, .slice A2 s.2.length c2] 25)) := (Ext.refl w).alloc _
  have hops := fun W hx => fewOps12w (.slice Ao ops.length co) ops W (hr.ext hx) hol
  have D25 : Blk (w.alloc (.cells #[.slice A s.1.length c, .slice A2 s.2.length c2] 25)) w.heap.size #[.slice A s.1.length c, .slice A2 s.2.length c2] 25 := Blk.new w _ _
  cases hq : fewD s.1.length s.2.length with
  | false =>
    rw [hq] at hfew
    clear hd0 hr hch hwf hcw hol hq hops
    go_enter Try.func4, Try.ntmps4
    go_wp2_with (first
      | (go_at_call 11; refine (hfew _).mono ?_; rintro e w1 ⟨rfl, hx1⟩)
      | (go_at_call 13; refine (awake13 _).mono ?_; rintro e w2 ⟨rfl, hx2⟩)
      | fail)
    go_ret
    exact ⟨rfl, (hx0.trans hx1).trans hx2⟩
  | true =>
    rw [hq] at hfew
    cases hq2 : fewW ops with
    | false =>
      rw [hq2] at hops
      clear hd0 hr hch hwf hcw hol hq hq2
      go_enter Try.func4, Try.ntmps4
      go_wp2_with (first
        | (go_at_call 11; refine (hfew _).mono ?_; rintro e w1 ⟨rfl, hx1⟩)
        | (go_at_call 12; refine (hops _ (hx0.trans hx1)).mono ?_; rintro e w3 ⟨rfl, hx3⟩)
        | (go_at_call 13; refine (awake13 _).mono ?_; rintro e w2 ⟨rfl, hx2⟩)
        | fail)
      go_ret
      exact ⟨rfl, ((hx0.trans hx1).trans hx3).trans hx2⟩
    | true =>
      rw [hq2] at hops
      by_cases hc4 : (400 : Int) < (ch.length : Int)
      · clear hd0 hr hch hwf hcw hol hq hq2
        go_enter Try.func4, Try.ntmps4
        go_wp2_with (first
          | (go_at_call 11; refine (hfew _).mono ?_; rintro e w1 ⟨rfl, hx1⟩)
          | (go_at_call 12; refine (hops _ (hx0.trans hx1)).mono ?_; rintro e w3 ⟨rfl, hx3⟩)
          | (go_at_call 13; refine (awake13 _).mono ?_; rintro e w2 ⟨rfl, hx2⟩)
          | fail)
        go_ret
        exact ⟨rfl, ((hx0.trans hx1).trans hx3).trans hx2⟩
      · obtain ⟨hb0, hb1⟩ : s.1.length ≤ 400 ∧ s.2.length ≤ 400 := by simpa [fewD] using hq
        have hb2 := fewW_len hq2
        have hb3 := dataLen_bound ops
        have hb4 : ch.length ≤ 400 := by omega
        have hw20 := fun W hx => run20 _ _ s ops W (hd0.ext hx) (hr.ext hx) hwf (by omega) (by omega) (by omega)
        have hw21 := fun W hx => run21 _ _ s ops W (hd0.ext hx) (hr.ext hx) hwf (by omega) (by omega) (by omega)
        have hr22 := fun W hx => crash22e _ _ s ch W (hd0.ext hx) (hch.ext hx) (by omega) (by omega) (by omega) hcw
        have hr23 := fun W hx => crash23e _ _ s ch W (hd0.ext hx) (hch.ext hx) (by omega) (by omega) (by omega) hcw
        obtain ⟨hl1, hl2⟩ := runR_len s ops (by omega)
        obtain ⟨hl3, hl4, hl5⟩ := crashE_len s ch
        have hl6 : (crashE s ch).1.1.length ≤ 4096 := by omega
        clear hl3
        generalize runR s ops = r1 at hw20 hw21 hl1 hl2
        generalize crashE s ch = r2 at hr22 hr23 hl4 hl5 hl6
        obtain ⟨n1, er1, t1⟩ := r1
        obtain ⟨t2, l2⟩ := r2
        have h18 := fun W va vb hva hvb => same18t t1 va vb W hva hvb (by simp at hl1; omega) (by simp at hl2; omega)
        have h18b := fun W va vb hva hvb => same18t t2 va vb W hva hvb (by simp at hl6; omega) (by simp at hl4; omega)
        have h24 := fun W va vb hva hvb => sameInts24t l2 va vb W hva hvb (by simp at hl5; omega)
        clear hq hq2 hwf hcw hol hcl hb0 hb1 hb2 hb3 hl1 hl2 hl4 hl5 hl6
        go_enter Try.func4, Try.ntmps4
        go_upto_region 3 with (first
          | (go_at_call 11; refine (hfew _).mono ?_; rintro e w1 ⟨rfl, hx1⟩)
          | (go_at_call 12; refine (hops _ (hx0.trans hx1)).mono ?_; rintro e w3 ⟨rfl, hx3⟩)
          | fail)
        have hE3 := hx1.trans hx3
        have hEw := hx0.trans hE3
        replace D25 := D25.ext hE3
        clear hx0 hx1 hx3 hE3 hfew hops
        rename World => wA
        obtain ⟨p1, p2, _, _⟩ := D25.f2
        go_upto_region 4 with (first
          | (go_at_call 20; refine (hw20 _ hEw).mono ?_; rintro e w4 ⟨v4, rfl, ⟨A3, c3, B3, d3, rfl, hd3, he3, hf3, hg3⟩, hx4⟩)
          | fail)
        have hE4 : Ext wA (w4.alloc (.cells #[.slice A3 t1.1.length c3, .slice B3 t1.2.length d3] 25)) := hx4.alloc _
        have D7 := Blk.new w4 #[.slice A3 t1.1.length c3, .slice B3 t1.2.length d3] 25
        have q7 : DR (w4.alloc (.cells #[.slice A3 t1.1.length c3, .slice B3 t1.2.length d3] 25)) (.agg #[.slice A3 t1.1.length c3, .slice B3 t1.2.length d3]) t1 := DR.ext ⟨A3, c3, B3, d3, rfl, hd3, he3⟩ ((Ext.refl w4).alloc _)
        clear hd3 he3 hf3 hg3
        generalize w4.heap.size = g7 at D7 ⊢
        generalize w4.alloc (.cells #[.slice A3 t1.1.length c3, .slice B3 t1.2.length d3] 25) = wB at *
        replace D25 := D25.ext hE4
        replace hEw := hEw.trans hE4
        clear hx4 hE4 p1 p2 hw20
        obtain ⟨p1, p2, _, _⟩ := D25.f2
        go_upto_region 5 with (first
          | (go_at_call 21; refine (hw21 _ hEw).mono ?_; rintro e w5 ⟨v5, rfl, ⟨A4, c4, B4, d4, rfl, hd4, he4⟩, hx5⟩)
          | fail)
        have hE5 : Ext wB (w5.alloc (.cells #[.slice A4 t1.1.length c4, .slice B4 t1.2.length d4] 25)) := hx5.alloc _
        have D10 := Blk.new w5 #[.slice A4 t1.1.length c4, .slice B4 t1.2.length d4] 25
        have q10 : DR (w5.alloc (.cells #[.slice A4 t1.1.length c4, .slice B4 t1.2.length d4] 25)) (.agg #[.slice A4 t1.1.length c4, .slice B4 t1.2.length d4]) t1 := DR.ext ⟨A4, c4, B4, d4, rfl, hd4, he4⟩ ((Ext.refl w5).alloc _)
        clear hd4 he4
        generalize w5.heap.size = g10 at D10 ⊢
        generalize w5.alloc (.cells #[.slice A4 t1.1.length c4, .slice B4 t1.2.length d4] 25) = wC at *
        replace D25 := D25.ext hE5
        replace D7 := D7.ext hE5
        replace q7 := q7.ext hE5
        replace hEw := hEw.trans hE5
        clear hx5 hE5 p1 p2 hw21
        obtain ⟨p1, p2, _, _⟩ := D25.f2
        go_upto_region 6 with (first
          | (go_at_call 22; refine (hr22 _ hEw).mono ?_; rintro e w6 ⟨A6, c6, B6, d6, C6, k6, rfl, hd6, hr6, hx6⟩)
          | fail)
        have hE6 : Ext wC (w6.alloc (.cells #[.slice A6 t2.1.length c6, .slice B6 t2.2.length d6] 25)) := hx6.alloc _
        have D13 := Blk.new w6 #[.slice A6 t2.1.length c6, .slice B6 t2.2.length d6] 25
        have q13 : DR (w6.alloc (.cells #[.slice A6 t2.1.length c6, .slice B6 t2.2.length d6] 25)) (.agg #[.slice A6 t2.1.length c6, .slice B6 t2.2.length d6]) t2 := hd6.ext ((Ext.refl w6).alloc _)
        replace hr6 := hr6.ext ((Ext.refl w6).alloc (.cells #[.slice A6 t2.1.length c6, .slice B6 t2.2.length d6] 25))
        clear hd6
        generalize w6.heap.size = g13 at D13 ⊢
        generalize w6.alloc (.cells #[.slice A6 t2.1.length c6, .slice B6 t2.2.length d6] 25) = wD at *
        replace D25 := D25.ext hE6
        replace D7 := D7.ext hE6
        replace q7 := q7.ext hE6
        replace D10 := D10.ext hE6
        replace q10 := q10.ext hE6
        replace hEw := hEw.trans hE6
        clear hx6 hE6 p1 p2 hr22
        obtain ⟨p1, p2, _, _⟩ := D25.f2
        go_upto_region 7 with (first
          | (go_at_call 23; refine (hr23 _ hEw).mono ?_; rintro e w7 ⟨A7, c7, B7, d7, C7, k7, rfl, hd7, hr7, hx7⟩)
          | fail)
        have hE7 : Ext wD (w7.alloc (.cells #[.slice A7 t2.1.length c7, .slice B7 t2.2.length d7] 25)) := hx7.alloc _
        have D15 := Blk.new w7 #[.slice A7 t2.1.length c7, .slice B7 t2.2.length d7] 25
        have q15 : DR (w7.alloc (.cells #[.slice A7 t2.1.length c7, .slice B7 t2.2.length d7] 25)) (.agg #[.slice A7 t2.1.length c7, .slice B7 t2.2.length d7]) t2 := hd7.ext ((Ext.refl w7).alloc _)
        replace hr7 := hr7.ext ((Ext.refl w7).alloc (.cells #[.slice A7 t2.1.length c7, .slice B7 t2.2.length d7] 25))
        clear hd7
        generalize w7.heap.size = g15 at D15 ⊢
        generalize w7.alloc (.cells #[.slice A7 t2.1.length c7, .slice B7 t2.2.length d7] 25) = wE at *
        replace D7 := D7.ext hE7
        replace q7 := q7.ext hE7
        replace D10 := D10.ext hE7
        replace q10 := q10.ext hE7
        replace D13 := D13.ext hE7
        replace q13 := q13.ext hE7
        replace hr6 := hr6.ext hE7
        replace hEw := hEw.trans hE7
        clear hx7 hE7 p1 p2 hr23 D25
        obtain ⟨p1, p2, _, _⟩ := D7.f2
        obtain ⟨p3, p4, _, _⟩ := D10.f2
        go_wp2_with (first
          | (go_at_call 18; refine (h18 _ _ _ q7 q10).mono ?_; rintro e w8 ⟨rfl, hx8⟩; obtain ⟨p5, p6, _, _⟩ := (D13.ext hx8).f2; obtain ⟨p7, p8, _, _⟩ := (D15.ext hx8).f2; clear h18)
          | (go_at_call 18; refine (h18b _ _ _ (q13.ext hx8) (q15.ext hx8)).mono ?_; rintro e w9 ⟨rfl, hx9⟩)
          | (go_at_call 24; refine (h24 _ _ _ (hr6.ext (hx8.trans hx9)) (hr7.ext (hx8.trans hx9))).mono ?_; rintro e wF ⟨rfl, hxF⟩)
          | (go_at_call 13; refine (awake13 _).mono ?_; rintro e wG ⟨rfl, hxG⟩)
          | fail)
        go_ret
        exact ⟨rfl, (((hEw.trans hx8).trans hx9).trans hxF).trans hxG⟩
end Go.Proofs.Ytcgffpncfgmhkaa
