import Derived.Test.YtcgffpncfgmhkaaX4
import Derived.Test.YtcgffpncfgmhkaaY1
set_option linter.unusedVariables false
set_option linter.unusedSimpArgs false
set_option maxRecDepth 100000
set_option maxHeartbeats 2000000
namespace Go.Proofs.Ytcgffpncfgmhkaa
open Go Go.Proofs Go.RowKit Go.Instr
open Go.Proofs.YtcgffpncfgmhkaaW.PrintWords

theorem writeP_len (s : St) (a : Int) (data : List Sec) : (writeP s a data).2.1.length ≤ s.1.length ∧ (writeP s a data).2.2.length ≤ s.2.length + data.length := by
  unfold writeP
  split
  · simp
  · split
    · simp [placed_len]
    · simp
theorem readR_len (s : St) (a n : Int) : (readR s a n).2.length ≤ s.1.length := by
  unfold readR
  split
  · split
    · simp [newestD_len]; omega
    · simp
  · simp
theorem same18t (t : St) (va vb : Value) (w : World) (ha : DR w va t) (hb : DR w vb t) (hn : t.1.length ≤ 1000000) (hm : t.2.length ≤ 1000000) :
    Calls Try.prog 18 #[va, vb] w fun e w' => e = .returned (.bool true) ∧ Ext w w' := by
  have := sameD18 va vb t t w ha hb hn hn hm hm
  rwa [decide_eq_true rfl] at this

/-- The law's own function, DiskWrites. -/
theorem law3 (k a es en : Int) (Ad : Option Addr) (cd : Nat) (v : Value) (s : St) (data : List Sec) (w : World) (hd : DR w v s) (hr : Rd w 8 (.slice Ad data.length cd) data.length (cellsOf Sec.c data))
    (ha : I64 a) (hes : I64 es) (hen : I64 en) (hdl : data.length ≤ 9223372036854775807) :
    Calls Try.prog 3 #[v, .agg #[.int .i64 k, .int .i64 a, .slice Ad data.length cd], .agg #[.int .i64 es, .int .i64 en]] w fun e w' => e = .returned (.bool true) ∧ Ext w w' := by
  have hd0 := hd
  obtain ⟨A, c, A2, c2, rfl, h1, h2⟩ := hd
  clear h1 h2
  have hfew := fun W => few11 A A2 s.1.length c s.2.length c2 W
  have hx0 : Ext w (((w.alloc (.cells #[.slice A s.1.length c, .slice A2 s.2.length c2] 25)).alloc (.cells #[.int .i64 k, .int .i64 a, .slice Ad data.length cd] 27)).alloc (.cells #[.int .i64 es, .int .i64 en] 29)) := (((Ext.refl w).alloc _).alloc _).alloc _
  cases hq : fewD s.1.length s.2.length with
  | false =>
    rw [hq] at hfew
    clear hd0 hr ha hes hen hdl hq
    go_enter Try.func3, Try.ntmps3
    go_wp2_with (first
      | (go_at_call 11; refine (hfew _).mono ?_; rintro e w1 ⟨rfl, hx1⟩)
      | (go_at_call 13; refine (awake13 _).mono ?_; rintro e w2 ⟨rfl, hx2⟩)
      | fail)
    go_ret
    exact ⟨rfl, (hx0.trans hx1).trans hx2⟩
  | true =>
    rw [hq] at hfew
    have D25 : Blk (((w.alloc (.cells #[.slice A s.1.length c, .slice A2 s.2.length c2] 25)).alloc (.cells #[.int .i64 k, .int .i64 a, .slice Ad data.length cd] 27)).alloc (.cells #[.int .i64 es, .int .i64 en] 29)) w.heap.size #[.slice A s.1.length c, .slice A2 s.2.length c2] 25 := ((Blk.new w _ _).alloc _).alloc _
    have D27 : Blk (((w.alloc (.cells #[.slice A s.1.length c, .slice A2 s.2.length c2] 25)).alloc (.cells #[.int .i64 k, .int .i64 a, .slice Ad data.length cd] 27)).alloc (.cells #[.int .i64 es, .int .i64 en] 29)) (w.heap.size + 1) #[.int .i64 k, .int .i64 a, .slice Ad data.length cd] 27 := by
      have := (Blk.new (w.alloc (.cells #[.slice A s.1.length c, .slice A2 s.2.length c2] 25)) #[.int .i64 k, .int .i64 a, .slice Ad data.length cd] 27).alloc (.cells #[.int .i64 es, .int .i64 en] 29)
      rwa [World.size_alloc] at this
    have D29 : Blk (((w.alloc (.cells #[.slice A s.1.length c, .slice A2 s.2.length c2] 25)).alloc (.cells #[.int .i64 k, .int .i64 a, .slice Ad data.length cd] 27)).alloc (.cells #[.int .i64 es, .int .i64 en] 29)) (w.heap.size + 1 + 1) #[.int .i64 es, .int .i64 en] 29 := by
      have := Blk.new ((w.alloc (.cells #[.slice A s.1.length c, .slice A2 s.2.length c2] 25)).alloc (.cells #[.int .i64 k, .int .i64 a, .slice Ad data.length cd] 27)) #[.int .i64 es, .int .i64 en] 29
      rwa [World.size_alloc, World.size_alloc] at this
    have hops := fun W g hB hR => fewOps12 (.slice (some ⟨g, 0, none⟩) 1 1) [⟨k, a, data⟩] W (rdO_one (o := ⟨k, a, data⟩) (vd := .slice Ad data.length cd) hB hR) (by simpa [sumLen] using hdl) (by simp)
    cases hq2 : fewOpsD [⟨k, a, data⟩] with
    | false =>
      rw [hq2] at hops
      clear hd0 ha hes hen hdl hq hq2
      have hr1 := hr.ext hx0
      go_enter Try.func3, Try.ntmps3
      go_wp2_with (first
        | (go_at_call 11; refine (hfew _).mono ?_; rintro e w1 ⟨rfl, hx1⟩; obtain ⟨o1, o2, o3, o4, o5, o6⟩ := (D27.ext hx1).f3)
        | (go_at_call 12; refine (hops _ _ (Blk.new _ _ _) (hr1.ext (hx1.alloc _))).mono ?_; rintro e w3 ⟨rfl, hx3⟩)
        | (go_at_call 13; refine (awake13 _).mono ?_; rintro e w2 ⟨rfl, hx2⟩)
        | fail)
      go_ret
      exact ⟨rfl, (((hx0.trans hx1).alloc _).trans hx3).trans hx2⟩
    | true =>
      rw [hq2] at hops
      have hb : s.1.length ≤ 400 ∧ s.2.length ≤ 400 := by simpa [fewD] using hq
      have hb2 : data.length ≤ 400 := by simpa [fewOpsD, sumLen] using hq2
      obtain ⟨hb0, hb1⟩ := hb
      have hw14 := fun W hx => write14 _ _ s a data W (hd0.ext hx) (hr.ext hx) ha (by omega) (by omega) (by omega)
      have hw15 := fun W hx => write15 _ _ s a data W (hd0.ext hx) (hr.ext hx) ha (by omega) (by omega) (by omega)
      have hr16 := fun W hx => read16 _ s es en W (hd0.ext hx) (by omega) (by omega) hes hen
      have hr17 := fun W hx => read17 _ s es en W (hd0.ext hx) (by omega) (by omega) hes hen
      have hl1 := writeP_len s a data
      have hl2 := readR_len s es en
      rw [← writeR_eq] at hl1
      simp only [← writeR_eq] at hw15
      generalize writeR s a data = r1 at hw14 hw15 hl1
      generalize readR s es en = r2 at hr16 hr17 hl2
      obtain ⟨er1, t1⟩ := r1
      obtain ⟨er2, l2⟩ := r2
      have h18 := fun W va vb hva hvb => same18t t1 va vb W hva hvb (by have h := hl1.1; simp at h; omega) (by have h := hl1.2; simp at h; omega)
      have h19 := fun W va vb hva hvb => same19t l2 l2.length va vb W rfl hva hvb (by simp at hl2; omega)
      clear hq hq2 ha hes hen hdl hb0 hb1 hb2 hl1 hl2
      have hr1 := hr.ext hx0
      go_enter Try.func3, Try.ntmps3
      go_upto_region 3 with (first
        | (go_at_call 11; refine (hfew _).mono ?_; rintro e w1 ⟨rfl, hx1⟩; obtain ⟨o1, o2, o3, o4, o5, o6⟩ := (D27.ext hx1).f3)
        | (go_at_call 12; refine (hops _ _ (Blk.new _ _ _) (hr1.ext (hx1.alloc _))).mono ?_; rintro e w3 ⟨rfl, hx3⟩)
        | fail)
      have hE3 := (hx1.alloc (.cells #[.int .i64 k, .int .i64 a, .slice Ad data.length cd] 27)).trans hx3
      have hEw := hx0.trans hE3
      replace D25 := D25.ext hE3
      replace D29 := D29.ext hE3
      replace D27 := D27.ext hE3
      clear hx0 hx1 hx3 hE3 hr1 o1 o2 o3 o4 o5 o6 hfew hops
      rename World => wA
      obtain ⟨p1, p2, _, _⟩ := D25.f2
      obtain ⟨p3, p4, p5, _, _, _⟩ := D27.f3
      go_upto_region 4 with (first
        | (go_at_call 14; refine (hw14 _ hEw).mono ?_; rintro e w4 ⟨v4, rfl, ⟨A3, c3, B3, d3, rfl, hd3, he3, hf3, hg3⟩, hx4⟩)
        | fail)
      have hE4 : Ext wA (w4.alloc (.cells #[.slice A3 t1.1.length c3, .slice B3 t1.2.length d3] 25)) := hx4.alloc _
      have D7 := Blk.new w4 #[.slice A3 t1.1.length c3, .slice B3 t1.2.length d3] 25
      have q7 : DR (w4.alloc (.cells #[.slice A3 t1.1.length c3, .slice B3 t1.2.length d3] 25)) (.agg #[.slice A3 t1.1.length c3, .slice B3 t1.2.length d3]) t1 := DR.ext ⟨A3, c3, B3, d3, rfl, hd3, he3⟩ ((Ext.refl w4).alloc _)
      clear hd3 he3 hf3 hg3
      generalize w4.heap.size = g7 at D7 ⊢
      generalize w4.alloc (.cells #[.slice A3 t1.1.length c3, .slice B3 t1.2.length d3] 25) = wB at *
      replace D25 := D25.ext hE4
      replace D27 := D27.ext hE4
      replace D29 := D29.ext hE4
      replace hEw := hEw.trans hE4
      clear hx4 hE4 p1 p2 p3 p4 p5 hw14
      obtain ⟨p1, p2, _, _⟩ := D25.f2
      obtain ⟨p3, p4, p5, _, _, _⟩ := D27.f3
      go_upto_region 5 with (first
        | (go_at_call 15; refine (hw15 _ hEw).mono ?_; rintro e w5 ⟨v5, rfl, ⟨A4, c4, B4, d4, rfl, hd4, he4, hf4, hg4⟩, hx5⟩)
        | fail)
      have hE5 : Ext wB (w5.alloc (.cells #[.slice A4 t1.1.length c4, .slice B4 t1.2.length d4] 25)) := hx5.alloc _
      have D9 := Blk.new w5 #[.slice A4 t1.1.length c4, .slice B4 t1.2.length d4] 25
      have q9 : DR (w5.alloc (.cells #[.slice A4 t1.1.length c4, .slice B4 t1.2.length d4] 25)) (.agg #[.slice A4 t1.1.length c4, .slice B4 t1.2.length d4]) t1 := DR.ext ⟨A4, c4, B4, d4, rfl, hd4, he4⟩ ((Ext.refl w5).alloc _)
      clear hd4 he4 hf4 hg4
      generalize w5.heap.size = g9 at D9 ⊢
      generalize w5.alloc (.cells #[.slice A4 t1.1.length c4, .slice B4 t1.2.length d4] 25) = wC at *
      replace D25 := D25.ext hE5
      replace D29 := D29.ext hE5
      replace D7 := D7.ext hE5
      replace q7 := q7.ext hE5
      replace hEw := hEw.trans hE5
      clear hx5 hE5 p1 p2 p3 p4 p5 hw15 D27
      obtain ⟨p1, p2, _, _⟩ := D25.f2
      obtain ⟨p3, p4, _, _⟩ := D29.f2
      go_upto_region 6 with (first
        | (go_at_call 16; refine (hr16 _ hEw).mono ?_; rintro e w6 ⟨v6, rfl, hr6, hf6, hx6⟩; obtain ⟨A6, c6, rfl⟩ := rd_slice hr6)
        | fail)
      replace D25 := D25.ext hx6
      replace D29 := D29.ext hx6
      replace D7 := D7.ext hx6
      replace q7 := q7.ext hx6
      replace D9 := D9.ext hx6
      replace q9 := q9.ext hx6
      replace hEw := hEw.trans hx6
      clear hx6 p1 p2 p3 p4 hr16 hf6
      obtain ⟨p1, p2, _, _⟩ := D25.f2
      obtain ⟨p3, p4, _, _⟩ := D29.f2
      go_upto_region 7 with (first
        | (go_at_call 17; refine (hr17 _ hEw).mono ?_; rintro e w7 ⟨v7, rfl, hr7, hf7, hx7⟩; obtain ⟨A7, c7, rfl⟩ := rd_slice hr7)
        | fail)
      replace D7 := D7.ext hx7
      replace q7 := q7.ext hx7
      replace D9 := D9.ext hx7
      replace q9 := q9.ext hx7
      replace hr6 := hr6.ext hx7
      replace hEw := hEw.trans hx7
      clear hx7 p1 p2 p3 p4 hr17 hf7 D25 D29
      obtain ⟨p1, p2, _, _⟩ := D7.f2
      obtain ⟨p3, p4, _, _⟩ := D9.f2
      go_wp2_with (first
        | (go_at_call 18; refine (h18 _ _ _ q7 q9).mono ?_; rintro e w8 ⟨rfl, hx8⟩)
        | (go_at_call 19; refine (h19 _ _ _ (hr6.ext hx8) (hr7.ext hx8)).mono ?_; rintro e w9 ⟨rfl, hx9⟩)
        | (go_at_call 13; refine (awake13 _).mono ?_; rintro e wD ⟨rfl, hxD⟩)
        | fail)
      go_ret
      exact ⟨rfl, ((hEw.trans hx8).trans hx9).trans hxD⟩
end Go.Proofs.Ytcgffpncfgmhkaa
