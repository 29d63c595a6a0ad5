import Derived.Test.YtcgffpncfgmhkaaT9
import Derived.Test.YtcgffpncfgmhkaaT3
set_option linter.unusedVariables false
set_option linter.unusedSimpArgs false
set_option maxRecDepth 100000
set_option maxHeartbeats 2000000
namespace Go.Proofs.Ytcgffpncfgmhkaa
open Go.Proofs Go.RowKit
open Go.Proofs.YtcgffpncfgmhkaaW.PrintWords

/-- A disk that reads. -/
def DR (w : World) (v : Value) (s : St) : Prop := ∃ A c A2 c2, v = .agg #[.slice A s.1.length c, .slice A2 s.2.length c2] ∧ Rd w 8 (.slice A s.1.length c) s.1.length (cellsOf Sec.c s.1) ∧ Rd w 9 (.slice A2 s.2.length c2) s.2.length (cellsOf cachedC s.2)
theorem DR.ext {w w1 : World} {v : Value} {s : St} (h : DR w v s) (hx : Ext w w1) : DR w1 v s := by
  obtain ⟨A, c, A2, c2, hv, h1, h2⟩ := h
  exact ⟨A, c, A2, c2, hv, h1.ext hx, h2.ext hx⟩
theorem rd_nil (w : World) (k : Nat) : Rd w k (.slice none 0 0) 0 [] := ⟨by simp, none, 0, rfl, Nat.le_refl _, fun h => absurd h (by omega)⟩
theorem DR.nil (w : World) : DR w (.agg #[.slice none 0 0, .slice none 0 0]) ([], []) := ⟨none, 0, none, 0, rfl, rd_nil _ _, rd_nil _ _⟩

theorem chkD_len {s : St} (h : chkD s.1 s.2 = 0) : s.1.length ≤ 4096 := by
  unfold chkD at h
  split at h
  · cases h
  · omega
theorem chkD_ok {st : List Sec} {ca : List (Int × Sec)} (h : chkD st ca = 0) : anyBad ca st.length = false := by
  unfold chkD at h
  split at h
  · cases h
  · cases hq : anyBad ca st.length with
    | true => rw [hq] at h; cases h
    | false => rfl
/-- A slice in new memory. -/
def Fresh (base : Nat) (v : Value) : Prop := ∀ b, v.ownBlock = some b → base ≤ b
theorem Fresh.own {w : World} {base e k n : Nat} {v : Value} {cs : List Value} (h : w.ownsRow base e k v n cs) : Fresh base v := fun b hb => own_base h b hb
theorem Fresh.low {b b' : Nat} {v : Value} (h : Fresh b v) (hb : b' ≤ b) : Fresh b' v := fun k hk => Nat.le_trans hb (h k hk)
theorem Fresh.nil (b : Nat) : Fresh b (.slice none 0 0) := fun k hk => by simp [Value.ownBlock] at hk
theorem Rd.set {w : World} {base k n : Nat} {v : Value} {cs : List Value} (h : Rd w k v n cs) (hf : Fresh base v) {p : Addr} (hp : p.block < base) (u : Value) : Rd (w.setCell p u) k v n cs := by
  obtain ⟨hl, A, c, rfl, hc, hr⟩ := h
  refine ⟨hl, A, c, rfl, hc, fun hn => ?_⟩
  obtain ⟨b, off, rfl, hb, hcell⟩ := hr hn
  have hne : b ≠ p.block := by have := hf b rfl; omega
  refine ⟨b, off, rfl, by simpa [World.setCell] using hb, fun j x hj => ?_⟩
  exact (World.cell?_of_block (Below.heap_setCell w p u b hne)).trans (hcell j x hj)
theorem Rd.setold {w w1 : World} {k n : Nat} {v : Value} {cs : List Value} (h : Rd w k v n cs) (hx : Ext w w1) {p : Addr} (hp : w.heap.size ≤ p.block) (u : Value) : Rd (w1.setCell p u) k v n cs := h.ext (hx.set hp u)
/-- A disk in new memory that reads. -/
def DRF (base : Nat) (w : World) (v : Value) (s : St) : Prop := ∃ A c A2 c2, v = .agg #[.slice A s.1.length c, .slice A2 s.2.length c2] ∧ Rd w 8 (.slice A s.1.length c) s.1.length (cellsOf Sec.c s.1) ∧ Rd w 9 (.slice A2 s.2.length c2) s.2.length (cellsOf cachedC s.2) ∧
  Fresh base (.slice A s.1.length c) ∧ Fresh base (.slice A2 s.2.length c2)
theorem DRF.dr {base : Nat} {w : World} {v : Value} {s : St} (h : DRF base w v s) : DR w v s := by
  obtain ⟨A, c, A2, c2, hv, h1, h2, _⟩ := h
  exact ⟨A, c, A2, c2, hv, h1, h2⟩
theorem DRF.nil (base : Nat) (w : World) : DRF base w (.agg #[.slice none 0 0, .slice none 0 0]) ([], []) := ⟨none, 0, none, 0, rfl, rd_nil _ _, rd_nil _ _, Fresh.nil _, Fresh.nil _⟩
theorem DRF.set {base : Nat} {w : World} {v : Value} {s : St} (h : DRF base w v s) {p : Addr} (hp : p.block < base) (u : Value) : DRF base (w.setCell p u) v s := by
  obtain ⟨A, c, A2, c2, hv, h1, h2, f1, f2⟩ := h
  exact ⟨A, c, A2, c2, hv, h1.set f1 hp u, h2.set f2 hp u, f1, f2⟩
theorem DRF.ext {base : Nat} {w w1 : World} {v : Value} {s : St} (h : DRF base w v s) (hx : Ext w w1) : DRF base w1 v s := by
  obtain ⟨A, c, A2, c2, hv, h1, h2, f1, f2⟩ := h
  exact ⟨A, c, A2, c2, hv, h1.ext hx, h2.ext hx, f1, f2⟩
theorem DRF.low {base base' : Nat} {w : World} {v : Value} {s : St} (h : DRF base w v s) (hb : base' ≤ base) : DRF base' w v s := by
  obtain ⟨A, c, A2, c2, hv, h1, h2, f1, f2⟩ := h
  exact ⟨A, c, A2, c2, hv, h1, h2, f1.low hb, f2.low hb⟩

/-- What Run comes to: the index, the error, the disk. -/
def runR (s : St) (ops : List OpD) : Nat × Int × St :=
  if chkD s.1 s.2 = 0 then (if (runD ops 0 s).2.1 = 0 then runD ops 0 s else ((runD ops 0 s).1, (runD ops 0 s).2.1, ([], []))) else (0, chkD s.1 s.2, ([], []))
def RunRPost (w w' : World) (e : Ending) (r : Nat × Int × St) : Prop := ∃ v, e = .returned (.tuple #[v, .int .i64 (r.1 : Int), .int .i64 r.2.1]) ∧ DRF w.heap.size w' v r.2.2 ∧ Ext w w'

theorem run20 (v vo : Value) (s : St) (ops : List OpD) (w : World) (hd : DR w v s) (hr : RdO w vo ops) (hwf : OpsWf ops) (hn : s.1.length ≤ 1000000) (hol : ops.length ≤ 1000000) (hca : s.2.length + dataLen ops ≤ 1000000) :
    Calls Try.prog 20 #[v, vo] w fun e w' => RunRPost w w' e (runR s ops) := by
  obtain ⟨A, c, A2, c2, rfl, h1, h2⟩ := hd
  obtain ⟨Ao, co, rfl⟩ := rdO_slice hr
  have hchk := fun W hx => check33 _ _ s.1 s.2 W (h1.ext hx) (h2.ext hx) hn (by omega)
  by_cases hz : chkD s.1 s.2 = 0
  · rw [hz] at hchk
    have hcp := fun W hx => copied46 _ _ s.1.length s.2.length _ _ W (h1.ext hx) (h2.ext hx) (cellsOf_one Sec.c_one _) (cellsOf_one cachedC_one _) hn (by omega)
    generalize hres : runD ops 0 s = res at *
    obtain ⟨idx, err, s'⟩ := res
    have HRes := Lib.hid hres
    have HZ := Lib.hid hz
    clear hres hz
    by_cases he : err = 0
    · subst he
      have HF : Hid (runR s ops = (idx, 0, s')) := by show _ = _; unfold runR; rw [HZ.out, HRes.out]; rfl
      go_enter Try.func20, Try.ntmps20
      go_wp2_with (first
        | (go_at_call 33; refine (hchk _ (((Ext.refl w).alloc _).alloc _)).mono ?_; rintro e w1 ⟨rfl, hx1⟩; have B1 := ((Blk.new w _ _).alloc _).ext hx1; have C1 := (Blk.new (w.alloc (.cells #[.slice A s.1.length c, .slice A2 s.2.length c2] 25)) _ _).ext hx1; obtain ⟨b1, b2, b3, b4⟩ := B1.f2)
        | (go_at_call 46; refine (hcp _ ((((Ext.refl w).alloc _).alloc _).trans hx1)).mono ?_; rintro e w2 ⟨A3, c3, A4, c4, rfl, ho3, ho4, hx2⟩)
        | (go_at_call 47; refine stop_ ?_))
      refine Stop_.go ?_
      refine (erun47 w1 _ w2.heap.size A3 c3 A4 c4 s.1 s.2 _ ops ⟨⟨Blk.new w2 _ _, own_ext ho4 ((Ext.refl w2).alloc _), hx2.alloc _, hx2.size⟩, own_ext ho3 ((Ext.refl w2).alloc _), chkD_ok HZ.out⟩ (hr.ext ((((Ext.refl w).alloc _).alloc _).trans hx1)) hwf (chkD_len HZ.out) hol hca).mono ?_
      rintro e w3 ⟨rfl, A5, c5, A6, c6, hE⟩
      rw [HRes.out] at hE ⊢
      obtain ⟨x1, x2, x3, x4⟩ := hE.x.blk.f2
      have hx3 := ((((Ext.refl w).alloc _).alloc _).trans hx1).trans hE.x.ext
      have C3 := C1.ext hE.x.ext
      rw [World.size_alloc] at C3
      obtain ⟨y1, y2, y3, y4⟩ := C3.f2
      go_wp2
      have hz := hx3.size
      refine bodyPost_ret (v := .tuple #[.agg #[.slice A5 s'.1.length c5, .slice A6 s'.2.length c6], .int .i64 idx, .int .i64 0]) (by simp [results, Try.results20, go_sem, y1, y2, y3, y4]) rfl ?_
      rw [HF.out]
      have hX : w.heap.size + 1 < w1.heap.size := by have := hx1.size; simp at this; omega
      have ho5 := own_setlow (own_setlow hE.own (p := ⟨w.heap.size + 1, 0, none⟩) hX (.slice A5 s'.1.length c5)) (p := ⟨w.heap.size + 1, 1, none⟩) hX (.slice A6 s'.2.length c6)
      have ho6 := own_setlow (own_setlow hE.x.own (p := ⟨w.heap.size + 1, 0, none⟩) hX (.slice A5 s'.1.length c5)) (p := ⟨w.heap.size + 1, 1, none⟩) hX (.slice A6 s'.2.length c6)
      refine ⟨_, rfl, ⟨A5, c5, A6, c6, rfl, Rd.own ho5, Rd.own ho6, (Fresh.own ho5).low (by omega), (Fresh.own ho6).low (by omega)⟩, ?_⟩
      · exact (hx3.set (by show w.heap.size ≤ w.heap.size + 1; omega) _).set (by show w.heap.size ≤ w.heap.size + 1; omega) _
    · have HF : Hid (runR s ops = (idx, err, ([], []))) := by show _ = _; unfold runR; rw [HZ.out, HRes.out]; simp [he]
      have hne : (err != 0) = true := by simpa using he
      clear he
      go_enter Try.func20, Try.ntmps20
      go_wp2_with (first
        | (go_at_call 33; refine (hchk _ (((Ext.refl w).alloc _).alloc _)).mono ?_; rintro e w1 ⟨rfl, hx1⟩; have B1 := ((Blk.new w _ _).alloc _).ext hx1; have C1 := (Blk.new (w.alloc (.cells #[.slice A s.1.length c, .slice A2 s.2.length c2] 25)) _ _).ext hx1; obtain ⟨b1, b2, b3, b4⟩ := B1.f2)
        | (go_at_call 46; refine (hcp _ ((((Ext.refl w).alloc _).alloc _).trans hx1)).mono ?_; rintro e w2 ⟨A3, c3, A4, c4, rfl, ho3, ho4, hx2⟩)
        | (go_at_call 47; refine stop_ ?_))
      refine Stop_.go ?_
      refine (erun47 w1 _ w2.heap.size A3 c3 A4 c4 s.1 s.2 _ ops ⟨⟨Blk.new w2 _ _, own_ext ho4 ((Ext.refl w2).alloc _), hx2.alloc _, hx2.size⟩, own_ext ho3 ((Ext.refl w2).alloc _), chkD_ok HZ.out⟩ (hr.ext ((((Ext.refl w).alloc _).alloc _).trans hx1)) hwf (chkD_len HZ.out) hol hca).mono ?_
      rintro e w3 ⟨rfl, A5, c5, A6, c6, hE⟩
      rw [HRes.out] at hE ⊢
      obtain ⟨x1, x2, x3, x4⟩ := hE.x.blk.f2
      have hx3 := ((((Ext.refl w).alloc _).alloc _).trans hx1).trans hE.x.ext
      have C3 := C1.ext hE.x.ext
      rw [World.size_alloc] at C3
      obtain ⟨y1, y2, y3, y4⟩ := C3.f2
      go_wp2
      refine bodyPost_ret (v := .tuple #[.agg #[.slice none 0 0, .slice none 0 0], .int .i64 idx, .int .i64 err]) (by simp [results, Try.results20, go_sem, y1, y2, y3, y4]) rfl ?_
      rw [HF.out]
      refine ⟨_, rfl, DRF.nil _ _, ?_⟩
      exact (hx3.set (by show w.heap.size ≤ w.heap.size + 1; omega) _).set (by show w.heap.size ≤ w.heap.size + 1; omega) _
  · generalize hres : chkD s.1 s.2 = err at *
    have HRes := Lib.hid hres
    have HF : Hid (runR s ops = (0, err, ([], []))) := by show _ = _; unfold runR; rw [hres, if_neg hz]
    have hne : (err != 0) = true := by simpa using hz
    clear hres hz
    go_enter Try.func20, Try.ntmps20
    go_wp2_with (first
        | (go_at_call 33; refine (hchk _ (((Ext.refl w).alloc _).alloc _)).mono ?_; rintro e w1 ⟨rfl, hx1⟩; have B1 := ((Blk.new w _ _).alloc _).ext hx1; have C1 := (Blk.new (w.alloc (.cells #[.slice A s.1.length c, .slice A2 s.2.length c2] 25)) _ _).ext hx1; obtain ⟨b1, b2, b3, b4⟩ := B1.f2; rw [World.size_alloc] at C1; obtain ⟨y1, y2, y3, y4⟩ := C1.f2))
    refine bodyPost_ret (v := .tuple #[.agg #[.slice none 0 0, .slice none 0 0], .int .i64 0, .int .i64 err]) (by simp [results, Try.results20, go_sem, y1, y2, y3, y4]) rfl ?_
    rw [HF.out]
    refine ⟨_, rfl, DRF.nil _ _, ?_⟩
    exact (((((Ext.refl w).alloc _).alloc _).trans hx1).set (by show w.heap.size ≤ w.heap.size + 1; omega) _).set (by show w.heap.size ≤ w.heap.size + 1; omega) _
end Go.Proofs.Ytcgffpncfgmhkaa
