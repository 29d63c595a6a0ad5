import Derived.Test.YtcgffpncfgmhkaaU1
import Derived.Laws.MakeOwn
set_option linter.unusedVariables false
set_option linter.unusedSimpArgs false
set_option maxRecDepth 100000
set_option maxHeartbeats 2000000
namespace Go.Proofs.Ytcgffpncfgmhkaa
open Go.Proofs Go.RowKit
open Go.Proofs.YtcgffpncfgmhkaaW.PrintWords

/-- One operation in memory. -/
theorem rdO_one {w : World} {g : Nat} {o : OpD} {vd : Value} (h : Blk w g #[.int .i64 o.kind, .int .i64 o.at_, vd] 27) (hd : Rd w 8 vd o.data.length (cellsOf Sec.c o.data)) : RdO w (.slice (some ⟨g, 0, none⟩) 1 1) [o] := by
  refine ⟨some ⟨g, 0, none⟩, 1, rfl, Nat.le_refl _, fun _ => ⟨g, 0, rfl, h.lt, fun j o' hj => ?_⟩⟩
  cases j with
  | zero =>
    simp at hj
    subst hj
    obtain ⟨f0, f1, f2, _⟩ := h.f3
    exact ⟨vd, f0, f1, f2, hd⟩
  | succ j => simp at hj

def writeR (s : St) (at_ : Int) (data : List Sec) : Int × St := ((runR s [⟨0, at_, data⟩]).2.1, (runR s [⟨0, at_, data⟩]).2.2)
def WPost (w w' : World) (e : Ending) (r : Int × St) : Prop := ∃ v, e = .returned (.tuple #[v, .int .i64 r.1]) ∧ DRF w.heap.size w' v r.2 ∧ Ext w w'

theorem write14 (v vd : Value) (s : St) (at_ : Int) (data : List Sec) (w : World) (hd : DR w v s) (hr : Rd w 8 vd data.length (cellsOf Sec.c data)) (hwf : I64 at_) (hn : s.1.length ≤ 1000000) (hdw : data.length ≤ 9223372036854775807) (hca : s.2.length ≤ 900000) :
    Calls Try.prog 14 #[v, .int .i64 at_, vd] w fun e w' => WPost w w' e (writeR s at_ data) := by
  have hrun := fun W vo hx hro => run20 v vo s [⟨0, at_, data⟩] W (hd.ext hx) hro (fun j o hj => by cases j with | zero => (simp at hj; subst hj; exact ⟨⟨by show (-9223372036854775808 : Int) ≤ 0; omega, by show (0 : Int) ≤ 9223372036854775807; omega⟩, hwf, by show data.length ≤ 9223372036854775807; omega⟩) | succ j => simp at hj) hn (by simp) (by simp [dataLen]; omega)
  obtain ⟨A, c, A2, c2, rfl, h1, h2⟩ := hd
  obtain ⟨Ad, cd, rfl⟩ := rd_slice hr
  have hres : ∀ r, runR s [⟨0, at_, data⟩] = r → Hid (runR s [⟨0, at_, data⟩] = r) := fun _ h => h
  generalize hq : runR s [⟨0, at_, data⟩] = r at hrun
  have HQ := hres _ hq
  clear hres hq
  obtain ⟨idx, err, s'⟩ := r
  go_enter Try.func14, Try.ntmps14
  go_wp2_with ((go_at_call 20; refine stop_ ?_))
  refine Stop_.go ?_
  refine (hrun _ _ ((((Ext.refl w).alloc _).alloc _).alloc _) (rdO_one (by simpa using Blk.new ((w.alloc _).alloc _) _ _) (hr.ext ((((Ext.refl w).alloc _).alloc _).alloc _)))).mono ?_
  rintro e w1 ⟨v1, rfl, ⟨A3, c3, A4, c4, rfl, h3, h4, f3, f4⟩, hx⟩
  have C1 := ((Blk.new (w.alloc (.cells #[.slice A s.1.length c, .slice A2 s.2.length c2] 25)) _ _).alloc _).ext hx
  rw [World.size_alloc] at C1
  have hlt := C1.lt
  obtain ⟨y1, y2, y3, y4⟩ := C1.f2
  go_wp2
  obtain ⟨z1, z2, _, _⟩ := (((C1.set0 (.slice A3 s'.1.length c3)).set1 (.slice A4 s'.2.length c4)).alloc (.cells #[.slice A3 s'.1.length c3, .slice A4 s'.2.length c4] 25)).f2
  refine bodyPost_ret (v := .tuple #[.agg #[.slice A3 s'.1.length c3, .slice A4 s'.2.length c4], .int .i64 err]) (by simp [results, Try.results14, go_sem, z1, z2]) rfl ?_
  have hw : writeR s at_ data = (err, s') := by unfold writeR; rw [HQ.out]
  rw [hw]
  have hz : w.heap.size + 1 < (((w.alloc (.cells #[.slice A s.1.length c, .slice A2 s.2.length c2] 25)).alloc (.cells #[.slice none 0 0, .slice none 0 0] 25)).alloc (.cells #[.int .i64 0, .int .i64 at_, .slice Ad data.length cd] 27)).heap.size := by simp
  have hx3 := ((((Ext.refl w).alloc _).alloc _).alloc _).trans hx
  refine ⟨_, rfl, ?_, ?_⟩
  · refine (DRF.ext (DRF.set (DRF.set (⟨A3, c3, A4, c4, rfl, h3, h4, f3, f4⟩ : DRF _ w1 _ s') ?_ _) ?_ _) ((Ext.refl _).alloc _)).low (by simp; omega)
    · exact hz
    · exact hz
  · exact ((hx3.set (by show w.heap.size ≤ w.heap.size + 1; omega) _).set (by show w.heap.size ≤ w.heap.size + 1; omega) _).alloc _

def SyncPost (w w' : World) (e : Ending) (v : Value) (s : St) : Prop := ∃ v', e = .returned v' ∧ Ext w w' ∧ ((chkD s.1 s.2 ≠ 0 ∧ v' = v) ∨ (chkD s.1 s.2 = 0 ∧ DRF w.heap.size w' v' (newestD s.1 s.2, [])))
theorem sync28 (v : Value) (s : St) (w : World) (hd : DR w v s) (hn : s.1.length ≤ 1000000) (hca : s.2.length ≤ 1000000) :
    Calls Try.prog 28 #[v] w fun e w' => SyncPost w w' e v s := by
  obtain ⟨A, c, A2, c2, rfl, h1, h2⟩ := hd
  have hchk := fun W hx => check33 _ _ s.1 s.2 W (h1.ext hx) (h2.ext hx) hn hca
  by_cases hz : chkD s.1 s.2 = 0
  · rw [hz] at hchk
    have hnew := fun W hx => newest44 _ _ s.1 s.2 W (h1.ext hx) (h2.ext hx) hn hca (chkD_ok hz)
    have HZ := Lib.hid hz
    have HL := Lib.hid (newestD_len s.1 s.2)
    clear hz
    go_enter Try.func28, Try.ntmps28
    go_wp2_with (first
      | (go_at_call 33; refine (hchk _ (((Ext.refl w).alloc _).alloc _)).mono ?_; rintro e w1 ⟨rfl, hx1⟩; have B1 := ((Blk.new w _ _).alloc _).ext hx1; have C1 := (Blk.new (w.alloc (.cells #[.slice A s.1.length c, .slice A2 s.2.length c2] 25)) _ _).ext hx1; rw [World.size_alloc] at C1; obtain ⟨b1, b2, b3, b4⟩ := B1.f2)
      | (go_at_call 44; refine (hnew _ ((((Ext.refl w).alloc _).alloc _).trans hx1)).mono ?_; rintro e w2 ⟨A3, c3, rfl, ho3, hx2⟩; have C2 := C1.ext hx2; obtain ⟨y1, y2, y3, y4⟩ := C2.f2))
    obtain ⟨z1, z2, _, _⟩ := ((C2.set0 (.slice A3 s.1.length c3)).set1 (.slice none 0 0)).f2
    refine bodyPost_ret (v := .agg #[.slice A3 s.1.length c3, .slice none 0 0]) (by simp [results, Try.results28, go_sem, z1, z2]) rfl ?_
    have hz : w.heap.size + 1 < w1.heap.size := C1.lt
    have ho5 := own_setlow (own_setlow ho3 (p := ⟨w.heap.size + 1, 0, none⟩) hz (.slice A3 s.1.length c3)) (p := ⟨w.heap.size + 1, 1, none⟩) hz (.slice none 0 0)
    have hx3 := ((((Ext.refl w).alloc _).alloc _).trans hx1).trans hx2
    refine ⟨_, rfl, (hx3.set (by show w.heap.size ≤ w.heap.size + 1; omega) _).set (by show w.heap.size ≤ w.heap.size + 1; omega) _, .inr ⟨HZ.out, A3, c3, none, 0, ?_, ?_, rd_nil _ _, ?_, Fresh.nil _⟩⟩
    · rw [HL.out]; rfl
    · rw [HL.out]; exact Rd.own ho5
    · rw [HL.out]; exact (Fresh.own ho5).low (by omega)
  · generalize hres : chkD s.1 s.2 = err at *
    have HRes := Lib.hid hres
    have hne : (err != 0) = true := by simpa using hz
    have HZ := Lib.hid hz
    clear hres hz
    go_enter Try.func28, Try.ntmps28
    go_wp2_with (first
      | (go_at_call 33; refine (hchk _ (((Ext.refl w).alloc _).alloc _)).mono ?_; rintro e w1 ⟨rfl, hx1⟩; have B1 := ((Blk.new w _ _).alloc _).ext hx1; have C1 := (Blk.new (w.alloc (.cells #[.slice A s.1.length c, .slice A2 s.2.length c2] 25)) _ _).ext hx1; rw [World.size_alloc] at C1; obtain ⟨b1, b2, b3, b4⟩ := B1.f2; obtain ⟨y1, y2, y3, y4⟩ := C1.f2))
    obtain ⟨z1, z2, _, _⟩ := ((C1.set0 (.slice A s.1.length c)).set1 (.slice A2 s.2.length c2)).f2
    refine bodyPost_ret (v := .agg #[.slice A s.1.length c, .slice A2 s.2.length c2]) (by simp [results, Try.results28, go_sem, z1, z2]) rfl ?_
    have hx3 := (((Ext.refl w).alloc _).alloc _).trans hx1
    exact ⟨_, rfl, (hx3.set (by show w.heap.size ≤ w.heap.size + 1; omega) _).set (by show w.heap.size ≤ w.heap.size + 1; omega) _, .inl ⟨by rw [HRes.out]; exact HZ.out, rfl⟩⟩

/-- Where a slice of a slice begins. -/
def cutA (A : Option Addr) (k lo m : Nat) : Option Addr := if m = lo then A else A.map (·.add (lo * k))
theorem cut3 {P : Program} (t e : TypeId) (kl kh km : IntKind) {i : TypeInfo} (ht : P.underlying t = some (.slice e)) (hi : P.info? e = some i) (size : Nat) (hsz : i.size = size) (A : Option Addr) (n c : Nat) (lo hi' : Int) (h0 : 0 ≤ lo) (h1 : lo ≤ hi') (h2 : hi' ≤ n) (hc : n ≤ c) :
    ∀ W : World, (Instr.slice t (.slice A n c) (some (.int kl lo)) (some (.int kh hi')) (some (.int km hi'))).run P W = .ok (.slice (cutA A size lo.toNat hi'.toNat) (hi'.toNat - lo.toNat) (hi'.toNat - lo.toNat)) W := by
  intro W
  have hel : P.elem t = e := by simp [Program.elem, ht]
  have hu : P.underlying t = some (.slice (P.elem t)) := by rw [hel]; exact ht
  rw [run_slice_lhm W t A n c hu kl kh km lo hi' hi' h0 h1 (by omega) (by omega), hel]
  simp [sizeOf, typeInfo, hi, hsz, sliced, Result.andThen, cutA]
theorem cutA_block {A : Option Addr} {k lo m n c n' c' : Nat} (b : Nat) (h : (Value.slice (cutA A k lo m) n c).ownBlock = some b) : (Value.slice A n' c').ownBlock = some b := by
  unfold cutA at h
  split at h
  · rw [ownBlock_len A n' n]; cases A <;> exact h
  · cases A with
    | none => simp [Value.ownBlock] at h
    | some ad =>
      simp only [Option.map_some, Value.ownBlock] at h ⊢
      rw [← h]
      unfold Addr.add
      split <;> rfl
theorem cellsOf_sub {α : Type} {enc : α → List Value} {k : Nat} (hk : ∀ x, (enc x).length = k) (l : List α) (lo n : Nat) (h : lo + n ≤ l.length) : cellsOf enc ((l.drop lo).take n) = ((cellsOf enc l).drop (lo * k)).take (n * k) := by
  have hd : ∀ (l : List α) (lo : Nat), cellsOf enc (l.drop lo) = (cellsOf enc l).drop (lo * k) := by
    intro l lo
    induction lo generalizing l with
    | zero => simp
    | succ lo ih =>
      cases l with
      | nil => simp [cellsOf]
      | cons x l =>
        rw [List.drop_succ_cons, ih]
        simp only [cellsOf, List.flatMap_cons]
        rw [Nat.add_mul, Nat.one_mul, List.drop_append, hk, List.drop_of_length_le (l := enc x) (by rw [hk]; omega), List.nil_append, show lo * k + k - k = lo * k by omega]
  have ht : ∀ (n : Nat) (l : List α), cellsOf enc (l.take n) = (cellsOf enc l).take (n * k) := by
    intro n
    induction n with
    | zero => intro l; simp [cellsOf]
    | succ n ih =>
      intro l
      cases l with
      | nil => simp [cellsOf]
      | cons x l =>
        rw [List.take_succ_cons]
        have := ih l
        simp only [cellsOf, List.flatMap_cons] at this ⊢
        rw [this, Nat.add_mul, Nat.one_mul, List.take_append, hk, List.take_of_length_le (l := enc x) (by rw [hk]; omega), show n * k + k - k = n * k by omega]
  rw [ht, hd]
theorem Rd.sub {α : Type} {enc : α → List Value} {k : Nat} (hk : ∀ x, (enc x).length = k) {w : World} {A : Option Addr} {c lo n m c' : Nat} {l : List α} (h : Rd w k (.slice A l.length c) l.length (cellsOf enc l)) (hl : lo + n ≤ l.length) (hm : 0 < n → m ≠ lo) (hc : n ≤ c') :
    Rd w k (.slice (cutA A k lo m) n c') n (cellsOf enc ((l.drop lo).take n)) := by
  refine ⟨by rw [cellsOf_length hk, List.length_take, List.length_drop]; congr 1; omega, _, _, rfl, hc, fun hn => ?_⟩
  obtain ⟨hlen, A', c2, hv, _, hr⟩ := h
  injection hv with h1 h2 h3
  subst h1
  obtain ⟨b, off, rfl, hb, H⟩ := hr (by omega)
  unfold cutA
  rw [if_neg (hm hn), cellsOf_sub hk l lo n hl]
  refine ⟨b, off + lo * k, ?_, hb, fun j u hj => ?_⟩
  · simp only [Option.map_some, Option.some.injEq]
    unfold Addr.add
    split
    · rename_i h0; rw [h0]; rfl
    · rfl
  · rw [List.getElem?_take] at hj
    split at hj
    · rw [List.getElem?_drop] at hj
      rw [Nat.add_assoc]
      exact H _ _ hj
    · cases hj

/-- The contents of an extent, or the error. -/
def readR (s : St) (a n : Int) : Int × List Sec :=
  if chkD s.1 s.2 = 0 then (if insD s.1.length a n then (0, ((newestD s.1 s.2).drop a.toNat).take n.toNat) else (2, [])) else (chkD s.1 s.2, [])
def ReadPost (w w' : World) (e : Ending) (r : Int × List Sec) : Prop := ∃ v, e = .returned (.tuple #[v, .int .i64 r.1]) ∧ Rd w' 8 v r.2.length (cellsOf Sec.c r.2) ∧ Fresh w.heap.size v ∧ Ext w w'
theorem read16 (v : Value) (s : St) (a n : Int) (w : World) (hd : DR w v s) (hn : s.1.length ≤ 1000000) (hca : s.2.length ≤ 1000000) (ha : I64 a) (hnn : I64 n) :
    Calls Try.prog 16 #[v, .agg #[.int .i64 a, .int .i64 n]] w fun e w' => ReadPost w w' e (readR s a n) := by
  obtain ⟨A, c, A2, c2, rfl, h1, h2⟩ := hd
  obtain ⟨ha1, ha2⟩ := ha
  obtain ⟨hn1, hn2⟩ := hnn
  have hchk := fun W hx => check33 _ _ s.1 s.2 W (h1.ext hx) (h2.ext hx) hn hca
  have hins := fun W => inside43 A s.1.length c (.slice A2 s.2.length c2) a n W hn ha1 ha2 hn1 hn2
  by_cases hz : chkD s.1 s.2 = 0
  · rw [hz] at hchk
    have hnew := fun W hx => newest44 _ _ s.1 s.2 W (h1.ext hx) (h2.ext hx) hn hca (chkD_ok hz)
    cases hq : insD s.1.length a n with
    | false =>
      have HF : Hid (readR s a n = (2, [])) := by show _ = _; unfold readR; rw [hz, hq]; rfl
      rw [hq] at hins
      clear hz hq
      go_enter Try.func16, Try.ntmps16
      go_wp2_with (first
        | (go_at_call 33; refine (hchk _ (((Ext.refl w).alloc _).alloc _)).mono ?_; rintro e w1 ⟨rfl, hx1⟩; have B1 := ((Blk.new w _ _).alloc _).ext hx1; have C1 := (Blk.new (w.alloc (.cells #[.slice A s.1.length c, .slice A2 s.2.length c2] 25)) _ _).ext hx1; rw [World.size_alloc] at C1; obtain ⟨b1, b2, b3, b4⟩ := B1.f2; obtain ⟨y1, y2, y3, y4⟩ := C1.f2)
        | (go_at_call 43; refine (hins _).mono ?_; rintro e w2 ⟨rfl, hx2⟩))
      go_ret2
      rw [HF.out]
      exact ⟨_, rfl, rd_nil _ _, Fresh.nil _, ((((Ext.refl w).alloc _).alloc _).trans hx1).trans hx2⟩
    | true =>
      rw [hq] at hins
      go_enter Try.func16, Try.ntmps16
      go_wp2_with (first
        | (go_at_call 33; refine (hchk _ (((Ext.refl w).alloc _).alloc _)).mono ?_; rintro e w1 ⟨rfl, hx1⟩; have B1 := ((Blk.new w _ _).alloc _).ext hx1; have C1 := (Blk.new (w.alloc (.cells #[.slice A s.1.length c, .slice A2 s.2.length c2] 25)) _ _).ext hx1; rw [World.size_alloc] at C1; obtain ⟨b1, b2, b3, b4⟩ := B1.f2; obtain ⟨y1, y2, y3, y4⟩ := C1.f2)
        | (go_at_call 43; refine (hins _).mono ?_; rintro e w2 ⟨rfl, hx2⟩; have B2 := B1.ext hx2; have C2 := C1.ext hx2; obtain ⟨d1, d2, d3, d4⟩ := B2.f2; obtain ⟨x1, x2, x3, x4⟩ := C2.f2))
      have hb : 0 ≤ a ∧ 0 ≤ n ∧ a + n ≤ (s.1.length : Int) := by simp [insD] at hq; omega
      have HF : Hid (readR s a n = (0, ((newestD s.1 s.2).drop a.toNat).take n.toNat)) := by show _ = _; unfold readR; rw [hz, hq]; rfl
      obtain ⟨g1, g2, g3⟩ := hb
      obtain ⟨i0, hi0, hz0, hz1, hz2⟩ := info_parts info65
      have hwr : IntKind.i64.wrap (a + n) = a + n := IntWalk.i64_in _ (by omega)
      have hcut := fun A' c' hc => cut3 (P := Try.prog) 22 65 .i64 .i64 .i64 Try.underlying22 hi0 8 hz1 A' s.1.length c' a (a + n) g1 (by omega) g3 hc
      have HL := Lib.hid (newestD_len s.1 s.2)
      clear hz hq
      go_region_held3 (fun w' => w'.cell? ⟨w.heap.size, 0, none⟩ = some (.slice A s.1.length c) ∧ w'.cell? ⟨w.heap.size, 1, none⟩ = some (.slice A2 s.2.length c2) ∧ w'.cell? ⟨w.heap.size + 1, 0, none⟩ = some (.int .i64 a) ∧ w'.cell? ⟨w.heap.size + 1, 1, none⟩ = some (.int .i64 n))
        (first | go_keep)
        (first | (go_at_call 44; refine (hnew _ (((((Ext.refl w).alloc _).alloc _).trans hx1).trans hx2).drew).mono ?_; rintro e w3 ⟨A3, c3, rfl, ho3, hx3⟩; obtain ⟨p1, p2, p3, p4⟩ := (B2.drew.ext hx3).f2; obtain ⟨q1, q2, q3, q4⟩ := (C2.drew.ext hx3).f2; have hct := hcut A3 c3 (own_le ho3)))
      go_wp2
      have hxx := (((((Ext.refl w).alloc _).alloc _).trans hx1).trans hx2).drew.trans hx3
      have hsz := ((((Ext.refl w).alloc (.cells #[.slice A s.1.length c, .slice A2 s.2.length c2] 25)).alloc (.cells #[.int .i64 a, .int .i64 n] 29)).trans hx1).trans hx2
      have hR := Rd.own ho3
      rw [← HL.out] at hR
      have hsub := Rd.sub (n := n.toNat) (lo := a.toNat) (m := (a + n).toNat) (c' := n.toNat) Sec.c_len hR (by rw [HL.out]; omega) (by omega) (by omega)
      refine bodyPost_ret (results_tmp2 rfl _ _ _) rfl ?_
      rw [HF.out]
      have hn' : (a + n).toNat - a.toNat = n.toNat := by omega
      have hlen : (((newestD s.1 s.2).drop a.toNat).take n.toNat).length = n.toNat := by rw [List.length_take, List.length_drop, HL.out]; omega
      refine ⟨.slice (cutA A3 8 a.toNat (a + n).toNat) n.toNat n.toNat, ?_, ?_, ?_, hxx⟩
      · show Ending.returned (.tuple #[.slice _ ((a + n).toNat - a.toNat) ((a + n).toNat - a.toNat), .int .i64 0]) = _
        rw [hn']
      · rw [hlen]; exact hsub
      · intro b hb
        have h9 := own_base ho3 b (cutA_block b hb)
        have h8 := hsz.size
        exact Nat.le_trans h8 h9
  · generalize hres : chkD s.1 s.2 = err at *
    have HF : Hid (readR s a n = (err, [])) := by show _ = _; unfold readR; rw [hres, if_neg hz]
    have hne : (err != 0) = true := by simpa using hz
    clear hres hz
    go_enter Try.func16, Try.ntmps16
    go_wp2_with (first
      | (go_at_call 33; refine (hchk _ (((Ext.refl w).alloc _).alloc _)).mono ?_; rintro e w1 ⟨rfl, hx1⟩))
    go_ret2
    rw [HF.out]
    exact ⟨_, rfl, rd_nil _ _, Fresh.nil _, (((Ext.refl w).alloc _).alloc _).trans hx1⟩
end Go.Proofs.Ytcgffpncfgmhkaa
