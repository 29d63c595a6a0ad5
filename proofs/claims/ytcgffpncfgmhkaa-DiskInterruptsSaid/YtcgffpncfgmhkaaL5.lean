import Derived.Test.YtcgffpncfgmhkaaL4
import Derived.Test.YtcgffpncfgmhkaaZ4
set_option linter.unusedVariables false
set_option linter.unusedSimpArgs false
set_option maxRecDepth 100000
set_option maxHeartbeats 2000000
namespace Go.Proofs.Ytcgffpncfgmhkaa
open Go Go.Proofs Go.RowKit Go.Instr
open Go.Proofs.YtcgffpncfgmhkaaW.PrintWords

theorem interD_len (s : St) (ops : List OpD) (af : Int) (ch : List Int) (h : s.1.length ≤ 4096) : (interD s ops af ch).1.1.length ≤ 4096 ∧ (interD s ops af ch).1.2.length ≤ 0 ∧ (interD s ops af ch).2.1.length ≤ ch.length := by
  unfold interD
  split
  · simp
  · split
    · simp
    · split
      · simp
      · obtain ⟨a, _⟩ := runR_len s (ops.take af.toNat) h
        generalize runR s (ops.take af.toNat) = r at a
        obtain ⟨h1, j, h2⟩ := crash_inv r.2.2.2 ((List.range r.2.2.1.length).map fun (i : Nat) => (i : Int)) (r.2.2.1, ch)
        refine ⟨?_, Nat.le_refl _, ?_⟩
        · show (crashD r.2.2 ch).1.length ≤ _
          unfold crashD
          rw [h1]
          exact a
        · show (crashD r.2.2 ch).2.length ≤ _
          unfold crashD
          rw [h2, List.length_drop]
          exact Nat.sub_le _ _

/-- The law's own function, DiskInterrupts. -/
theorem law5 (v vo : Value) (Ac : Option Addr) (cc : Nat) (s : St) (ops : List OpD) (af : Int) (ch : List Int) (w : World) (hd : DR w v s) (hr : RdO w vo ops) (hch : Rd w 1 (.slice Ac ch.length cc) ch.length (cellsOf intC ch)) (hwf : OpsWf ops) (hcw : ∀ x ∈ ch, I64 x)
    (haf : I64 af) (hol : ops.length ≤ 9223372036854775807) (hcl : ch.length ≤ 9223372036854775807) :
    Calls Try.prog 5 #[v, vo, .agg #[.int .i64 af, .slice Ac ch.length cc]] w fun e w' => e = .returned (.bool true) ∧ Ext w w' := by
  have hd0 := hd
  obtain ⟨A, c, A2, c2, rfl, h1, h2⟩ := hd
  clear h1 h2
  obtain ⟨Ao, co, rfl⟩ := rdO_slice hr
  have hfew := fun W => few11 A A2 s.1.length c s.2.length c2 W
  have hx0 : Ext w ((w.alloc (.cells #[.slice A s.1.length c, .slice A2 s.2.length c2] 25)).alloc (.cells #[.int .i64 af, .slice Ac ch.length cc] 56)) := ((Ext.refl w).alloc _).alloc _
  have hops := fun W hx => fewOps12w (.slice Ao ops.length co) ops W (hr.ext hx) hol
  have D25 : Blk ((w.alloc (.cells #[.slice A s.1.length c, .slice A2 s.2.length c2] 25)).alloc (.cells #[.int .i64 af, .slice Ac ch.length cc] 56)) w.heap.size #[.slice A s.1.length c, .slice A2 s.2.length c2] 25 := (Blk.new w _ _).alloc _
  have D56 : Blk ((w.alloc (.cells #[.slice A s.1.length c, .slice A2 s.2.length c2] 25)).alloc (.cells #[.int .i64 af, .slice Ac ch.length cc] 56)) (w.heap.size + 1) #[.int .i64 af, .slice Ac ch.length cc] 56 := by
    have := Blk.new (w.alloc (.cells #[.slice A s.1.length c, .slice A2 s.2.length c2] 25)) #[.int .i64 af, .slice Ac ch.length cc] 56
    rwa [World.size_alloc] at this
  cases hq : fewD s.1.length s.2.length with
  | false =>
    rw [hq] at hfew
    clear hd0 hr hch hwf hcw hol hq hops haf
    go_enter Try.func5, Try.ntmps5
    go_wp2_with (first
      | (go_at_call 11; refine (hfew _).mono ?_; rintro e w1 ⟨rfl, hx1⟩)
      | (go_at_call 13; refine (awake13 _).mono ?_; rintro e w2 ⟨rfl, hx2⟩)
      | fail)
    go_ret
    exact ⟨rfl, (hx0.trans hx1).trans hx2⟩
  | true =>
    rw [hq] at hfew
    cases hq2 : fewW ops with
    | false =>
      rw [hq2] at hops
      clear hd0 hr hch hwf hcw hol hq hq2 haf
      go_enter Try.func5, Try.ntmps5
      go_wp2_with (first
        | (go_at_call 11; refine (hfew _).mono ?_; rintro e w1 ⟨rfl, hx1⟩)
        | (go_at_call 12; refine (hops _ (hx0.trans hx1)).mono ?_; rintro e w3 ⟨rfl, hx3⟩)
        | (go_at_call 13; refine (awake13 _).mono ?_; rintro e w2 ⟨rfl, hx2⟩)
        | fail)
      go_ret
      exact ⟨rfl, ((hx0.trans hx1).trans hx3).trans hx2⟩
    | true =>
      rw [hq2] at hops
      by_cases hc4 : (400 : Int) < (ch.length : Int)
      · clear hd0 hr hch hwf hcw hol hq hq2 haf
        go_enter Try.func5, Try.ntmps5
        go_wp2_with (first
          | (go_at_call 11; refine (hfew _).mono ?_; rintro e w1 ⟨rfl, hx1⟩)
          | (go_at_call 12; refine (hops _ (hx0.trans hx1)).mono ?_; rintro e w3 ⟨rfl, hx3⟩; obtain ⟨p3, p4, _, _⟩ := (D56.ext (hx1.trans hx3)).f2)
          | (go_at_call 13; refine (awake13 _).mono ?_; rintro e w2 ⟨rfl, hx2⟩)
          | fail)
        go_ret
        exact ⟨rfl, ((hx0.trans hx1).trans hx3).trans hx2⟩
      · obtain ⟨hb0, hb1⟩ : s.1.length ≤ 400 ∧ s.2.length ≤ 400 := by simpa [fewD] using hq
        have hb2 := fewW_len hq2
        have hb3 := dataLen_bound ops
        have hb4 : ch.length ≤ 400 := by omega
        have hw25 := fun W hx => inter25 _ _ _ s ops af ch W (hd0.ext hx) (hr.ext hx) (hch.ext hx) hwf (by omega) (by omega) (by omega) (by omega) hcw
        have hw26 := fun W hx => inter26 _ _ _ s ops af ch W (hd0.ext hx) (hr.ext hx) (hch.ext hx) hwf (by omega) (by omega) (by omega) (by omega) hcw
        obtain ⟨hl1, hl2, hl3⟩ := interD_len s ops af ch (by omega)
        generalize interD s ops af ch = r1 at hw25 hw26 hl1 hl2 hl3
        obtain ⟨t1, l1, er1⟩ := r1
        have h18 := fun W va vb hva hvb => same18t t1 va vb W hva hvb (by have h : t1.1.length ≤ 4096 := hl1; omega) (by have h : t1.2.length ≤ 0 := hl2; omega)
        have h24 := fun W va vb hva hvb => sameInts24t l1 va vb W hva hvb (by have h : l1.length ≤ ch.length := hl3; omega)
        clear hq hq2 hwf hcw hol hcl hb0 hb1 hb2 hb3 hl1 hl2 hl3 haf
        go_enter Try.func5, Try.ntmps5
        go_upto_region 3 with (first
          | (go_at_call 11; refine (hfew _).mono ?_; rintro e w1 ⟨rfl, hx1⟩)
          | (go_at_call 12; refine (hops _ (hx0.trans hx1)).mono ?_; rintro e w3 ⟨rfl, hx3⟩; obtain ⟨p3, p4, _, _⟩ := (D56.ext (hx1.trans hx3)).f2)
          | fail)
        have hE3 := hx1.trans hx3
        have hEw := hx0.trans hE3
        replace D25 := D25.ext hE3
        replace D56 := D56.ext hE3
        clear hx0 hx1 hx3 hE3 hfew hops
        rename World => wA
        obtain ⟨p1, p2, _, _⟩ := D25.f2
        go_upto_region 4 with (first
          | (go_at_call 25; refine (hw25 _ hEw).mono ?_; rintro e w4 ⟨v4, m4, rfl, ⟨A3, c3, B3, d3, rfl, hd3, he3, hf3, hg3⟩, hm4, hn4, hx4⟩; obtain ⟨C4, k4, rfl⟩ := rd_slice hm4)
          | fail)
        have hE4 : Ext wA (w4.alloc (.cells #[.slice A3 t1.1.length c3, .slice B3 t1.2.length d3] 25)) := hx4.alloc _
        have D7 := Blk.new w4 #[.slice A3 t1.1.length c3, .slice B3 t1.2.length d3] 25
        have q7 : DR (w4.alloc (.cells #[.slice A3 t1.1.length c3, .slice B3 t1.2.length d3] 25)) (.agg #[.slice A3 t1.1.length c3, .slice B3 t1.2.length d3]) t1 := DR.ext ⟨A3, c3, B3, d3, rfl, hd3, he3⟩ ((Ext.refl w4).alloc _)
        replace hm4 := hm4.ext ((Ext.refl w4).alloc (.cells #[.slice A3 t1.1.length c3, .slice B3 t1.2.length d3] 25))
        clear hd3 he3 hf3 hg3 hn4
        generalize w4.heap.size = g7 at D7 ⊢
        generalize w4.alloc (.cells #[.slice A3 t1.1.length c3, .slice B3 t1.2.length d3] 25) = wB at *
        replace D25 := D25.ext hE4
        replace D56 := D56.ext hE4
        replace hEw := hEw.trans hE4
        clear hx4 hE4 p1 p2 p3 p4 hw25
        obtain ⟨p1, p2, _, _⟩ := D25.f2
        obtain ⟨p3, p4, _, _⟩ := D56.f2
        go_upto_region 5 with (first
          | (go_at_call 26; refine (hw26 _ hEw).mono ?_; rintro e w5 ⟨v5, m5, rfl, ⟨A4, c4, B4, d4, rfl, hd4, he4⟩, hm5, hx5⟩; obtain ⟨C5, k5, rfl⟩ := rd_slice hm5)
          | fail)
        have hE5 : Ext wB (w5.alloc (.cells #[.slice A4 t1.1.length c4, .slice B4 t1.2.length d4] 25)) := hx5.alloc _
        have D10 := Blk.new w5 #[.slice A4 t1.1.length c4, .slice B4 t1.2.length d4] 25
        have q10 : DR (w5.alloc (.cells #[.slice A4 t1.1.length c4, .slice B4 t1.2.length d4] 25)) (.agg #[.slice A4 t1.1.length c4, .slice B4 t1.2.length d4]) t1 := DR.ext ⟨A4, c4, B4, d4, rfl, hd4, he4⟩ ((Ext.refl w5).alloc _)
        replace hm5 := hm5.ext ((Ext.refl w5).alloc (.cells #[.slice A4 t1.1.length c4, .slice B4 t1.2.length d4] 25))
        clear hd4 he4
        generalize w5.heap.size = g10 at D10 ⊢
        generalize w5.alloc (.cells #[.slice A4 t1.1.length c4, .slice B4 t1.2.length d4] 25) = wC at *
        replace D7 := D7.ext hE5
        replace q7 := q7.ext hE5
        replace hm4 := hm4.ext hE5
        replace hEw := hEw.trans hE5
        clear hx5 hE5 p1 p2 p3 p4 hw26 D25 D56
        obtain ⟨p1, p2, _, _⟩ := D7.f2
        obtain ⟨p3, p4, _, _⟩ := D10.f2
        go_wp2_with (first
          | (go_at_call 18; refine (h18 _ _ _ q7 q10).mono ?_; rintro e w8 ⟨rfl, hx8⟩)
          | (go_at_call 24; refine (h24 _ _ _ (hm4.ext hx8) (hm5.ext hx8)).mono ?_; rintro e wF ⟨rfl, hxF⟩)
          | (go_at_call 13; refine (awake13 _).mono ?_; rintro e wG ⟨rfl, hxG⟩)
          | fail)
        go_ret
        exact ⟨rfl, ((hEw.trans hx8).trans hxF).trans hxG⟩
end Go.Proofs.Ytcgffpncfgmhkaa
