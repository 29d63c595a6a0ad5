import Derived.Test.YtcgffpncfgmhkaaV2
set_option linter.unusedVariables false
set_option linter.unusedSimpArgs false
set_option maxRecDepth 100000
set_option maxHeartbeats 2000000
namespace Go.Proofs.Ytcgffpncfgmhkaa
open Go Go.Proofs Go.RowKit Go.Instr
open Go.Proofs.YtcgffpncfgmhkaaW.PrintWords

theorem dataLen_append (a b : List OpD) : dataLen (a ++ b) = dataLen a + dataLen b := by simp [dataLen]
theorem runD_inv (l : List OpD) (i : Nat) (s : St) (h : anyBad s.2 s.1.length = false) (h4 : s.1.length ≤ 4096) : (runD l i s).2.2.1.length = s.1.length ∧ anyBad (runD l i s).2.2.2 s.1.length = false ∧ (runD l i s).2.2.2.length ≤ s.2.length + dataLen l := by
  induction l generalizing i s with
  | nil => exact ⟨rfl, h, by simp [runD]⟩
  | cons o r ih =>
    unfold runD
    by_cases h0 : (stepD s o).1 = 0
    · rw [if_pos h0]
      have hs : (stepD s o).2.1.length = s.1.length ∧ anyBad (stepD s o).2.2 s.1.length = false ∧ (stepD s o).2.2.length ≤ s.2.length + min o.data.length 4096 := by
        unfold stepD
        by_cases hk : o.kind = 0
        · rw [if_pos hk]
          by_cases hi : insD s.1.length o.at_ o.data.length
          · rw [if_pos hi]
            have h5 : (o.data.length : Int) ≤ (s.1.length : Int) := by simp [insD] at hi; omega
            exact ⟨rfl, placed_ok hi h, by simp [placed_len]; omega⟩
          · rw [if_neg hi]
            exact ⟨rfl, h, by simp⟩
        · rw [if_neg hk]
          split
          · exact ⟨newestD_len _ _, rfl, by simp⟩
          · exact ⟨rfl, h, by simp⟩
      obtain ⟨h1, h2, h3⟩ := hs
      obtain ⟨g1, g2, g3⟩ := ih (i + 1) (stepD s o).2 (by rw [h1]; exact h2) (by omega)
      rw [h1] at g1 g2
      refine ⟨g1, g2, Nat.le_trans g3 ?_⟩
      simp only [dataLen, List.map_cons, List.sum_cons] at *
      omega
    · rw [if_neg h0]
      exact ⟨rfl, h, by simp⟩
theorem chkD_of {s : St} (h : anyBad s.2 s.1.length = false) (hn : s.1.length ≤ 4096) : chkD s.1 s.2 = 0 := by
  unfold chkD
  rw [if_neg (by omega), h]
  rfl
theorem runR_inv (l : List OpD) (s : St) (h : (runR s l).2.1 = 0) : chkD (runR s l).2.2.1 (runR s l).2.2.2 = 0 ∧ (runR s l).2.2.1.length ≤ 4096 ∧ (runR s l).2.2.2.length ≤ s.2.length + dataLen l := by
  unfold runR at *
  by_cases hz : chkD s.1 s.2 = 0
  · rw [if_pos hz] at *
    by_cases he : (runD l 0 s).2.1 = 0
    · rw [if_pos he] at *
      obtain ⟨h1, h2, h3⟩ := runD_inv l 0 s (chkD_ok hz) (chkD_len hz)
      have := chkD_len hz
      exact ⟨chkD_of (by rw [h1]; exact h2) (by omega), by omega, h3⟩
    · rw [if_neg he] at h
      exact absurd h he
  · rw [if_neg hz] at h
    exact absurd h hz
theorem info27 : (Try.prog.info? 27).map (fun i => (i.zero, i.size, i.bytes)) = some (some (.agg #[.int .i64 0, .int .i64 0, .slice none 0 0]), 3, 40) := by kernel_rfl
theorem rdO_take {w : World} {A : Option Addr} {n c k : Nat} {ops : List OpD} (h : RdO w (.slice A n c) ops) (hk : k ≤ ops.length) : RdO w (.slice A k c) (ops.take k) := by
  obtain ⟨A', c', hv, hc, hr⟩ := h
  injection hv with h1 h2 h3
  subst h1; subst h3
  have hl : (ops.take k).length = k := by rw [List.length_take]; omega
  refine ⟨A, c, by rw [hl], by omega, fun hp => ?_⟩
  obtain ⟨b, off, hA, hb, H⟩ := hr (by omega)
  refine ⟨b, off, hA, hb, fun j o hj => H j o ?_⟩
  rw [List.getElem?_take] at hj
  split at hj
  · exact hj
  · cases hj

/-- What an interruption comes to. -/
def interD (s : St) (ops : List OpD) (after : Int) (ch : List Int) : St × List Int × Int :=
  if chkD s.1 s.2 ≠ 0 then (([], []), [], chkD s.1 s.2) else if after < 0 ∨ (ops.length : Int) < after then (([], []), [], 2)
  else if (runR s (ops.take after.toNat)).2.1 ≠ 0 then (([], []), [], (runR s (ops.take after.toNat)).2.1)
  else (((crashD (runR s (ops.take after.toNat)).2.2 ch).1, []), (crashD (runR s (ops.take after.toNat)).2.2 ch).2, 0)
def InterPost (w w' : World) (e : Ending) (r : St × List Int × Int) : Prop :=
  ∃ v l, e = .returned (.tuple #[v, l, .int .i64 r.2.2]) ∧ DRF w.heap.size w' v r.1 ∧ Rd w' 1 l r.2.1.length (cellsOf intC r.2.1) ∧ Fresh w.heap.size l ∧ Ext w w'
/-- What stands behind the call of Run. -/
structure Mid (w W : World) (D : Nat) (v3 v4 : Value) (s : St) : Prop where
  x : Ext w W
  d : Blk W D #[v3, v4] 25
  c : Blk W (w.heap.size + 1) #[.slice none 0 0, .slice none 0 0] 25
  r : DR W (.agg #[v3, v4]) s
  lt : w.heap.size + 1 < D
theorem region6b {w w1 w2 : World} {A3 A4 : Option Addr} {c3 c4 : Nat} {rs : St} (hx1 : Ext w w1) (hx2 : Ext (w1.alloc (.cells #[.slice none 0 0, .slice none 0 0] 25)).drew w2)
    (C2 : Blk w2 (w.heap.size + 1) #[.slice none 0 0, .slice none 0 0] 25) (D2 : Blk w2 w1.heap.size #[.slice none 0 0, .slice none 0 0] 25)
    (h3 : Rd w2 8 (.slice A3 rs.1.length c3) rs.1.length (cellsOf Sec.c rs.1)) (h4 : Rd w2 9 (.slice A4 rs.2.length c4) rs.2.length (cellsOf cachedC rs.2))
    (f3 : Fresh (w1.alloc (.cells #[.slice none 0 0, .slice none 0 0] 25)).drew.heap.size (.slice A3 rs.1.length c3)) (f4 : Fresh (w1.alloc (.cells #[.slice none 0 0, .slice none 0 0] 25)).drew.heap.size (.slice A4 rs.2.length c4)) (hc : w.heap.size + 1 < w1.heap.size) :
    Mid w ((w2.setCell ⟨w1.heap.size, 0, none⟩ (.slice A3 rs.1.length c3)).setCell ⟨w1.heap.size, 1, none⟩ (.slice A4 rs.2.length c4)) w1.heap.size (.slice A3 rs.1.length c3) (.slice A4 rs.2.length c4) rs := by
  have hl : w1.heap.size < (w1.alloc (.cells #[.slice none 0 0, .slice none 0 0] 25)).drew.heap.size := by show _ < (w1.alloc _).heap.size; rw [World.size_alloc]; omega
  have hx : Ext w w2 := ((hx1.alloc _).drew).trans hx2
  refine ⟨(hx.set (by show _ ≤ w1.heap.size; omega) _).set (by show _ ≤ w1.heap.size; omega) _, (D2.set0 _).set1 _, (C2.far (by show w.heap.size + 1 ≠ w1.heap.size; omega) _).far (by show w.heap.size + 1 ≠ w1.heap.size; omega) _, ⟨A3, c3, A4, c4, rfl, (h3.set f3 hl _).set f3 hl _, (h4.set f4 hl _).set f4 hl _⟩, hc⟩
theorem region6a {w w1 w2 : World} {A3 A4 : Option Addr} {c3 c4 : Nat} {rs : St} (hx1 : Ext w w1) (hx2 : Ext w1.drew w2)
    (C2 : Blk w2 (w.heap.size + 1) #[.slice none 0 0, .slice none 0 0] 25)
    (h3 : Rd w2 8 (.slice A3 rs.1.length c3) rs.1.length (cellsOf Sec.c rs.1)) (h4 : Rd w2 9 (.slice A4 rs.2.length c4) rs.2.length (cellsOf cachedC rs.2)) (hc : w.heap.size + 1 < w1.heap.size) :
    Mid w (w2.alloc (.cells #[.slice A3 rs.1.length c3, .slice A4 rs.2.length c4] 25)) w2.heap.size (.slice A3 rs.1.length c3) (.slice A4 rs.2.length c4) rs := by
  have hx : Ext w w2 := hx1.drew.trans hx2
  have h := (Ext.refl w2).alloc (.cells #[.slice A3 rs.1.length c3, .slice A4 rs.2.length c4] 25)
  have h2 := hx2.size
  refine ⟨hx.alloc _, Blk.new _ _ _, C2.alloc _, ⟨A3, c3, A4, c4, rfl, h3.ext h, h4.ext h⟩, Nat.lt_of_lt_of_le hc h2⟩
theorem inter25 (v vo vch : Value) (s : St) (ops : List OpD) (after : Int) (ch : List Int) (w : World) (hd : DR w v s) (hr : RdO w vo ops) (hch : Rd w 1 vch ch.length (cellsOf intC ch)) (hwf : OpsWf ops) (hn : s.1.length ≤ 1000000) (hol : ops.length ≤ 1000000) (hca : s.2.length + dataLen ops ≤ 1000000) (hcl : ch.length ≤ 1000000) (hcw : ∀ x ∈ ch, I64 x) :
    Calls Try.prog 25 #[v, vo, .int .i64 after, vch] w fun e w' => InterPost w w' e (interD s ops after ch) := by
  obtain ⟨A, c, A2, c2, rfl, h1, h2⟩ := hd
  obtain ⟨Ao, co, rfl⟩ := rdO_slice hr
  have hchk := fun W hx => check33 _ _ s.1 s.2 W (h1.ext hx) (h2.ext hx) hn (by omega)
  by_cases hz : chkD s.1 s.2 = 0
  · rw [hz] at hchk
    by_cases ha0 : after < 0
    · have HF : Hid (interD s ops after ch = (([], []), [], 2)) := by show _ = _; unfold interD; rw [if_neg (by simpa using hz), if_pos (.inl ha0)]
      clear hz
      go_enter Try.func25, Try.ntmps25
      go_wp2_with (first
        | (go_at_call 33; refine (hchk _ (((Ext.refl w).alloc _).alloc _)).mono ?_; rintro e w1 ⟨rfl, hx1⟩; have B1 := ((Blk.new w _ _).alloc _).ext hx1; have C1 := (Blk.new (w.alloc (.cells #[.slice A s.1.length c, .slice A2 s.2.length c2] 25)) _ _).ext hx1; rw [World.size_alloc] at C1; obtain ⟨b1, b2, b3, b4⟩ := B1.f2; obtain ⟨y1, y2, y3, y4⟩ := C1.f2)
        | fail)
      refine bodyPost_ret (v := .tuple #[.agg #[.slice none 0 0, .slice none 0 0], .slice none 0 0, .int .i64 2]) (by simp [results, Try.results25, go_sem, y1, y2, y3, y4]) rfl ?_
      rw [HF.out]
      exact ⟨_, _, rfl, DRF.nil _ _, rd_nil _ _, Fresh.nil _, (((((Ext.refl w).alloc _).alloc _).trans hx1).set (by show w.heap.size ≤ w.heap.size + 1; omega) _).set (by show w.heap.size ≤ w.heap.size + 1; omega) _⟩
    · by_cases ha1 : (ops.length : Int) < after
      · have HF : Hid (interD s ops after ch = (([], []), [], 2)) := by show _ = _; unfold interD; rw [if_neg (by simpa using hz), if_pos (.inr ha1)]
        clear hz
        go_enter Try.func25, Try.ntmps25
        go_wp2_with (first
          | (go_at_call 33; refine (hchk _ (((Ext.refl w).alloc _).alloc _)).mono ?_; rintro e w1 ⟨rfl, hx1⟩; have B1 := ((Blk.new w _ _).alloc _).ext hx1; have C1 := (Blk.new (w.alloc (.cells #[.slice A s.1.length c, .slice A2 s.2.length c2] 25)) _ _).ext hx1; rw [World.size_alloc] at C1; obtain ⟨b1, b2, b3, b4⟩ := B1.f2; obtain ⟨y1, y2, y3, y4⟩ := C1.f2)
          | fail)
        refine bodyPost_ret (v := .tuple #[.agg #[.slice none 0 0, .slice none 0 0], .slice none 0 0, .int .i64 2]) (by simp [results, Try.results25, go_sem, y1, y2, y3, y4]) rfl ?_
        rw [HF.out]
        exact ⟨_, _, rfl, DRF.nil _ _, rd_nil _ _, Fresh.nil _, (((((Ext.refl w).alloc _).alloc _).trans hx1).set (by show w.heap.size ≤ w.heap.size + 1; omega) _).set (by show w.heap.size ≤ w.heap.size + 1; omega) _⟩
      · obtain ⟨k, rfl⟩ : ∃ k : Nat, after = k := ⟨after.toNat, by omega⟩
        have hkl : k ≤ ops.length := by omega
        have hwk : OpsWf (ops.take k) := fun j o hj => by
          rw [List.getElem?_take] at hj
          split at hj
          · exact hwf j o hj
          · cases hj
        have hdk : dataLen (ops.take k) ≤ dataLen ops := by
          have := dataLen_append (ops.take k) (ops.drop k)
          rw [List.take_append_drop] at this
          omega
        have hrun := fun W hx => run20 (.agg #[.slice A s.1.length c, .slice A2 s.2.length c2]) (.slice Ao k co) s (ops.take k) W (DR.ext ⟨A, c, A2, c2, rfl, h1, h2⟩ hx) ((rdO_take hr hkl).ext hx) hwk hn (by rw [List.length_take]; omega) (by omega)
        have HI := runR_inv (ops.take k) s
        obtain ⟨i0, hi0, hz0, hz1, hz2⟩ := info_parts info27
        have hco : ops.length ≤ co := by obtain ⟨A', c', hv, hc, _⟩ := hr; injection hv with q1 q2 q3; omega
        have hcut := cut_to (P := Try.prog) 32 27 .i64 Try.underlying32 hi0 Ao ops.length co k (by omega) (by omega) hco
        have HFF : Hid (interD s ops k ch = if (runR s (ops.take k)).2.1 ≠ 0 then (([], []), [], (runR s (ops.take k)).2.1)
  else (((crashD (runR s (ops.take k)).2.2 ch).1, []), (crashD (runR s (ops.take k)).2.2 ch).2, 0)) := by show _ = _; unfold interD; rw [if_neg (by simpa using hz), if_neg (by omega)]; rfl
        clear hz
        generalize runR s (ops.take k) = rr at hrun HFF HI
        obtain ⟨ri, re, rs⟩ := rr
        by_cases he : re = 0
        · subst he
          obtain ⟨hI1, hI2, hI3⟩ := HI rfl
          simp only at hI1 hI2 hI3
          have hcr := fun V W hV hW => crash22 V vch rs ch W hV (hch.ext hW) hI1 hI2 (by omega) hcl hcw
          clear HI hI1
          go_enter Try.func25, Try.ntmps25
          go_wp2_with (first
            | (go_at_call 33; refine (hchk _ (((Ext.refl w).alloc _).alloc _)).mono ?_; rintro e w1 ⟨rfl, hx1⟩; have B1 := ((Blk.new w _ _).alloc _).ext hx1; have C1 := (Blk.new (w.alloc (.cells #[.slice A s.1.length c, .slice A2 s.2.length c2] 25)) _ _).ext hx1; rw [World.size_alloc] at C1; obtain ⟨b1, b2, b3, b4⟩ := B1.f2; obtain ⟨y1, y2, y3, y4⟩ := C1.f2)
            | fail)
          have hx1' := (((Ext.refl w).alloc (.cells #[.slice A s.1.length c, .slice A2 s.2.length c2] 25)).alloc (.cells #[.slice none 0 0, .slice none 0 0] 25)).trans hx1
          have hb1 := B1.lt
          have hc1 := C1.lt
          have hneA : ¬ w.heap.size = w1.heap.size := by omega
          have hneB : ¬ w1.heap.size = w.heap.size := by omega
          have hneC : ¬ w.heap.size + 1 = w1.heap.size := by omega
          have hneD : ¬ w1.heap.size = w.heap.size + 1 := by omega
          go_region_held3 (fun w' => w'.cell? ⟨w.heap.size, 0, none⟩ = some (.slice A s.1.length c) ∧ w'.cell? ⟨w.heap.size, 1, none⟩ = some (.slice A2 s.2.length c2)) (first | go_keep) (first
            | (go_at_call 20; refine (hrun _ (hx1'.alloc _).drew).mono ?_; rintro e w2 ⟨v, rfl, ⟨A3, c3, A4, c4, rfl, hd3, hd4, hf3, hf4⟩, hx2⟩; obtain ⟨e1, e2, e3, e4⟩ := (show Blk _ _ _ _ from (B1.alloc _).drew.ext hx2).f2; have C2 : Blk w2 (w.heap.size + 1) #[.slice none 0 0, .slice none 0 0] 25 := ((C1.alloc _).drew.ext hx2); have D2 : Blk w2 w1.heap.size #[.slice none 0 0, .slice none 0 0] 25 := (Blk.new w1 _ _).drew.ext hx2; obtain ⟨d1, d2, d3, d4⟩ := D2.f2;
               have hq := region6b hx1' hx2 C2 D2 hd3 hd4 hf3 hf4 hc1)
            | (go_at_call 20; refine (hrun _ hx1'.drew).mono ?_; rintro e w2 ⟨v, rfl, ⟨A3, c3, A4, c4, rfl, hd3, hd4, hf3, hf4⟩, hx2⟩; obtain ⟨e1, e2, e3, e4⟩ := (show Blk _ _ _ _ from B1.drew.ext hx2).f2; have C2 : Blk w2 (w.heap.size + 1) #[.slice none 0 0, .slice none 0 0] 25 := (C1.drew.ext hx2); have hq := region6a hx1' hx2 C2 hd3 hd4 hc1))
          all_goals
            obtain ⟨qx, qd, qc, qr, ql⟩ := hq
            obtain ⟨m1, m2, m3, m4⟩ := qd.f2
            go_wp2_with (first
              | (go_at_call 22; refine (hcr _ _ qr qx).mono ?_; rintro e w3 ⟨v5, l5, rfl, ⟨A5, c5, A6, c6, rfl, hd5, hd6, hf5, hf6⟩, hl5, hlf5, hx5⟩; have C5 := qc.ext hx5; obtain ⟨n1, n2, n3, n4⟩ := (C5.alloc (.cells #[.slice A5 (crashD rs ch).1.length c5, .slice A6 0 c6] 25)).f2)
              | fail)
            have hw5 := qx.trans hx5
            have hs5 := C5.lt
            refine bodyPost_ret (v := .tuple #[.agg #[.slice A5 (crashD rs ch).1.length c5, .slice A6 0 c6], l5, .int .i64 0]) (by simp [results, Try.results25, go_sem, n1, n2, n3, n4]) rfl ?_
            rw [HFF.out]
            rw [if_neg (by simp)]
            have hE := (Ext.refl w3).alloc (.cells #[.slice A5 (crashD rs ch).1.length c5, .slice A6 0 c6] 25)
            have hsq := Nat.lt_of_lt_of_le ql (Nat.le_of_lt qd.lt)
            refine ⟨_, _, rfl, ⟨A5, c5, A6, c6, rfl, (Rd.set (hd5.ext hE) hf5 hsq _).set hf5 hsq _, (Rd.set (hd6.ext hE) hf6 hsq _).set hf6 hsq _, hf5.low (by omega), hf6.low (by omega)⟩, (Rd.set (hl5.ext hE) hlf5 hsq _).set hlf5 hsq _, hlf5.low (by omega), ?_⟩
            exact ((hw5.alloc _).set (by show w.heap.size ≤ w.heap.size + 1; omega) _).set (by show w.heap.size ≤ w.heap.size + 1; omega) _
        · have hne : (re != 0) = true := by simpa using he
          have HE := Lib.hid he
          clear he HI
          go_enter Try.func25, Try.ntmps25
          go_wp2_with (first
            | (go_at_call 33; refine (hchk _ (((Ext.refl w).alloc _).alloc _)).mono ?_; rintro e w1 ⟨rfl, hx1⟩; have B1 := ((Blk.new w _ _).alloc _).ext hx1; have C1 := (Blk.new (w.alloc (.cells #[.slice A s.1.length c, .slice A2 s.2.length c2] 25)) _ _).ext hx1; rw [World.size_alloc] at C1; obtain ⟨b1, b2, b3, b4⟩ := B1.f2; obtain ⟨y1, y2, y3, y4⟩ := C1.f2)
            | fail)
          have hx1' := (((Ext.refl w).alloc (.cells #[.slice A s.1.length c, .slice A2 s.2.length c2] 25)).alloc (.cells #[.slice none 0 0, .slice none 0 0] 25)).trans hx1
          have hb1 := B1.lt
          have hc1 := C1.lt
          have hneA : ¬ w.heap.size = w1.heap.size := by omega
          have hneB : ¬ w1.heap.size = w.heap.size := by omega
          have hneC : ¬ w.heap.size + 1 = w1.heap.size := by omega
          have hneD : ¬ w1.heap.size = w.heap.size + 1 := by omega
          go_region_held3 (fun w' => w'.cell? ⟨w.heap.size, 0, none⟩ = some (.slice A s.1.length c) ∧ w'.cell? ⟨w.heap.size, 1, none⟩ = some (.slice A2 s.2.length c2)) (first | go_keep) (first
            | (go_at_call 20; refine (hrun _ (hx1'.alloc _).drew).mono ?_; rintro e w2 ⟨v, rfl, ⟨A3, c3, A4, c4, rfl, hd3, hd4, hf3, hf4⟩, hx2⟩; obtain ⟨e1, e2, e3, e4⟩ := (show Blk _ _ _ _ from (B1.alloc _).drew.ext hx2).f2; have C2 : Blk w2 (w.heap.size + 1) #[.slice none 0 0, .slice none 0 0] 25 := ((C1.alloc _).drew.ext hx2); have D2 : Blk w2 w1.heap.size #[.slice none 0 0, .slice none 0 0] 25 := (Blk.new w1 _ _).drew.ext hx2; obtain ⟨d1, d2, d3, d4⟩ := D2.f2;
               have hq := region6b hx1' hx2 C2 D2 hd3 hd4 hf3 hf4 hc1)
            | (go_at_call 20; refine (hrun _ hx1'.drew).mono ?_; rintro e w2 ⟨v, rfl, ⟨A3, c3, A4, c4, rfl, hd3, hd4, hf3, hf4⟩, hx2⟩; obtain ⟨e1, e2, e3, e4⟩ := (show Blk _ _ _ _ from B1.drew.ext hx2).f2; have C2 : Blk w2 (w.heap.size + 1) #[.slice none 0 0, .slice none 0 0] 25 := (C1.drew.ext hx2); have hq := region6a hx1' hx2 C2 hd3 hd4 hc1))
          all_goals
            obtain ⟨qx, qd, qc, qr, ql⟩ := hq
            obtain ⟨m1, m2, m3, m4⟩ := qd.f2
            obtain ⟨n1, n2, n3, n4⟩ := qc.f2
            obtain ⟨n5, n6, n7, n8⟩ := C2.f2
            obtain ⟨n9, n10, n11, n12⟩ := (((C2.set0 (.slice none 0 0)).set1 (.slice none 0 0)).alloc (.cells #[.slice A3 rs.1.length c3, .slice A4 rs.2.length c4] 25)).f2
            go_wp2_with fail
            refine bodyPost_ret (v := .tuple #[.agg #[.slice none 0 0, .slice none 0 0], .slice none 0 0, .int .i64 re]) (by simp [results, Try.results25, go_sem, n1, n2, n3, n4, n9, n10, n11, n12]) rfl ?_
            rw [HFF.out]
            rw [if_pos HE.out]
            refine ⟨_, _, rfl, DRF.nil _ _, rd_nil _ _, Fresh.nil _, ?_⟩
            first
              | exact (qx.set (by show w.heap.size ≤ w.heap.size + 1; omega) _).set (by show w.heap.size ≤ w.heap.size + 1; omega) _
              | exact ((((hx1'.drew.trans hx2).set (p := ⟨w.heap.size + 1, 0, none⟩) (by show w.heap.size ≤ w.heap.size + 1; omega) _).set (p := ⟨w.heap.size + 1, 1, none⟩) (by show w.heap.size ≤ w.heap.size + 1; omega) _).alloc _)
  · have HF : Hid (interD s ops after ch = (([], []), [], chkD s.1 s.2)) := by show _ = _; unfold interD; rw [if_pos hz]
    generalize hres : chkD s.1 s.2 = err at *
    have hne : (err != 0) = true := by simpa using hz
    clear hres hz
    go_enter Try.func25, Try.ntmps25
    go_wp2_with (first
        | (go_at_call 33; refine (hchk _ (((Ext.refl w).alloc _).alloc _)).mono ?_; rintro e w1 ⟨rfl, hx1⟩; have B1 := ((Blk.new w _ _).alloc _).ext hx1; have C1 := (Blk.new (w.alloc (.cells #[.slice A s.1.length c, .slice A2 s.2.length c2] 25)) _ _).ext hx1; rw [World.size_alloc] at C1; obtain ⟨b1, b2, b3, b4⟩ := B1.f2; obtain ⟨y1, y2, y3, y4⟩ := C1.f2)
        | fail)
    refine bodyPost_ret (v := .tuple #[.agg #[.slice none 0 0, .slice none 0 0], .slice none 0 0, .int .i64 err]) (by simp [results, Try.results25, go_sem, y1, y2, y3, y4]) rfl ?_
    rw [HF.out]
    exact ⟨_, _, rfl, DRF.nil _ _, rd_nil _ _, Fresh.nil _, (((((Ext.refl w).alloc _).alloc _).trans hx1).set (by show w.heap.size ≤ w.heap.size + 1; omega) _).set (by show w.heap.size ≤ w.heap.size + 1; omega) _⟩
end Go.Proofs.Ytcgffpncfgmhkaa
