import Derived.Test.YtcgffpncfgmhkaaP
set_option linter.unusedVariables false
set_option linter.unusedSimpArgs false
set_option maxRecDepth 100000
set_option maxHeartbeats 2000000
namespace Go.Proofs.Ytcgffpncfgmhkaa
open Go Go.Proofs Go.RowKit Go.Instr
open Go.ChangeMaps (setBlock)
open Go.Proofs.YtcgffpncfgmhkaaW.PrintWords

theorem Ext.setBlock {w W : World} (h : Ext w W) {M : Nat} (hM : w.heap.size ≤ M) (o : Obj) : Ext w (setBlock W M o) :=
  ⟨h.os, h.tape, h.output, by simpa [Go.ChangeMaps.setBlock] using h.size, fun i hi => by
    simp only [Go.ChangeMaps.setBlock]
    rw [Array.getElem?_setIfInBounds_ne (by omega)]
    exact h.block i hi⟩
theorem Blk.setBlock {w : World} {g t M : Nat} {cs : Array Value} (h : Blk w g cs t) (hne : g ≠ M) (o : Obj) : Blk (setBlock w M o) g cs t := by
  unfold Blk at *
  simp only [Go.ChangeMaps.setBlock]
  rw [Array.getElem?_setIfInBounds_ne (Ne.symm hne)]
  exact h

theorem Blk.f9 {w : World} {g t : Nat} {a0 a1 a2 a3 a4 a5 a6 a7 a8 : Value} (h : Blk w g #[a0, a1, a2, a3, a4, a5, a6, a7, a8] t) : w.cell? ⟨g, 0, none⟩ = some a0 ∧ w.cell? ⟨g, 1, none⟩ = some a1 ∧ w.cell? ⟨g, 2, none⟩ = some a2 ∧ w.cell? ⟨g, 3, none⟩ = some a3 ∧
    w.cell? ⟨g, 4, none⟩ = some a4 ∧ w.cell? ⟨g, 5, none⟩ = some a5 ∧ w.cell? ⟨g, 6, none⟩ = some a6 ∧ w.cell? ⟨g, 7, none⟩ = some a7 ∧ w.cell? ⟨g, 8, none⟩ = some a8 :=
  ⟨blk_cell h 0, blk_cell h 1, blk_cell h 2, blk_cell h 3, blk_cell h 4, blk_cell h 5, blk_cell h 6, blk_cell h 7, blk_cell h 8⟩
/-- What a crash does to one sector. -/
def crashStep (ca : List (Int × Sec)) (s : List Sec × List Int) (i : Int) : List Sec × List Int :=
  if vers ca i = [] then s else
    (if 0 < (decD s.2 ((vers ca i).length + 1)).1 then s.1.set i.toNat ((vers ca i).getD ((decD s.2 ((vers ca i).length + 1)).1 - 1).toNat default) else s.1, (decD s.2 ((vers ca i).length + 1)).2)
theorem crashStep_len (ca : List (Int × Sec)) (s : List Sec × List Int) (i : Int) : (crashStep ca s i).1.length = s.1.length := by
  unfold crashStep
  split
  · rfl
  · split <;> simp
theorem MV.ext {base : Nat} {w w' : World} {M : Nat} {l : List ME} {ca : List (Int × Sec)} (h : MV base w M l ca) (hx : Ext w w') : MV base w' M l ca :=
  ⟨blk_below h.blk hx, fun x hx' => own_ext (h.own x hx') hx, h.nodup, h.apart, h.base, h.keys, h.all⟩
theorem MV.keyIn {base : Nat} {w : World} {M : Nat} {l : List ME} {ca : List (Int × Sec)} (h : MV base w M l ca) {x : ME} (hx : x ∈ l) : ∃ y ∈ ca, y.1 = x.key := by
  obtain ⟨h1, h2⟩ := h.keys x hx
  rw [h1] at h2
  unfold vers at h2
  obtain ⟨y, hy⟩ := List.exists_mem_of_ne_nil _ h2
  obtain ⟨z, hz, _⟩ := List.mem_map.1 hy
  rw [List.mem_filter] at hz
  exact ⟨z, hz.1, by simpa using hz.2⟩
theorem decD_range (ch : List Int) (n : Nat) (hn : 0 < n) : 0 ≤ (decD ch n).1 ∧ (decD ch n).1 < n := by
  cases ch with
  | nil => exact ⟨Int.le_refl _, by show (0 : Int) < n; omega⟩
  | cons x l => exact ⟨Int.emod_nonneg _ (by omega), Int.emod_lt_of_pos _ (by omega)⟩
theorem decD_drop (ch : List Int) (n : Nat) : ∃ j, (decD ch n).2 = ch.drop j := by
  cases ch with
  | nil => exact ⟨0, rfl⟩
  | cons x l => exact ⟨1, rfl⟩
theorem crash_inv (ca : List (Int × Sec)) (ks : List Int) (s : List Sec × List Int) : (ks.foldl (crashStep ca) s).1.length = s.1.length ∧ ∃ j, (ks.foldl (crashStep ca) s).2 = s.2.drop j := by
  induction ks generalizing s with
  | nil => exact ⟨rfl, 0, by simp⟩
  | cons k r ih =>
    obtain ⟨h1, j, h2⟩ := ih (crashStep ca s k)
    refine ⟨by rw [List.foldl_cons, h1, crashStep_len], ?_⟩
    rw [List.foldl_cons, h2]
    unfold crashStep
    split
    · exact ⟨j, rfl⟩
    · obtain ⟨i, hi⟩ := decD_drop s.2 ((vers ca k).length + 1)
      exact ⟨i + j, by show List.drop j (decD s.2 _).2 = _; rw [hi, List.drop_drop]⟩
theorem fold_take {α β : Type} (f : β → α → β) (z : β) (l : List α) (k : Nat) (x : α) (h : l[k]? = some x) : (l.take (k + 1)).foldl f z = f ((l.take k).foldl f z) x := by
  rw [List.take_add_one, h]
  simp [List.foldl_append]
theorem updM_len (l : List ME) (y : ME) : (updM l y).length ≤ l.length + 1 := by
  induction l with
  | nil => simp [updM]
  | cons a r ih => unfold updM; split <;> simp <;> omega
theorem wpAnyF_taked {P : Program} {ops : Array Oper} {Q : Exit → Act → World → Prop} {md : Region.Mode} {S : World → Prop} {f : Nat} {i : Nat} {oi : Oper} {v : Value} {fuel : Nat} {listed : Array Bool} {a : Act} {w : World} (d : Nat) (hi : ops[i]? = some oi) (hdst : oi.dst = some d)
    (hs : Region.noSelect ops = true) (hf : Region.free md ops listed i = true) (hr : (Region.ready md ops listed).contains i = true) (hd : beforeF md ops f i = true)
    (hQ : ∀ c a w, Q (.panic c) (a.put (some d) v) w → Q (.panic c) a w) (hy : YieldsIf P ops S oi v a) (hS : S w)
    (h : wpAnyF P md ops Q S f fuel (listed.setIfInBounds i true) (a.put (some d) v) w) : wpAnyF P md ops Q S f (fuel + 1) listed a w := by
  rw [← hdst] at hQ h
  exact wpAnyF_take hi hs hf hr hd hQ hy hS h
/-- What a crash leaves. -/
def crashD (s : St) (ch : List Int) : List Sec × List Int := ((List.range s.1.length).map fun (i : Nat) => (i : Int)).foldl (crashStep s.2) (s.1, ch)
theorem fold_skip (ca : List (Int × Sec)) (l : List Int) (z : List Sec × List Int) : (l.filter fun i => !(vers ca i).isEmpty).foldl (crashStep ca) z = l.foldl (crashStep ca) z := by
  induction l generalizing z with
  | nil => rfl
  | cons a r ih =>
    rw [List.filter_cons]
    by_cases h : vers ca a = []
    · simp only [h, List.isEmpty_nil, Bool.not_true, Bool.false_eq_true, if_false, List.foldl_cons]
      rw [ih]
      unfold crashStep
      rw [if_pos h]
    · have hb : (!(vers ca a).isEmpty) = true := by cases hv : vers ca a; exact absurd hv h; rfl
      rw [if_pos hb, List.foldl_cons, List.foldl_cons, ih]
theorem vers_ne {ca : List (Int × Sec)} {i : Int} : vers ca i ≠ [] ↔ ∃ y ∈ ca, y.1 = i := by
  unfold vers
  constructor
  · intro h
    obtain ⟨y, hy⟩ := List.exists_mem_of_ne_nil _ h
    obtain ⟨z, hz, _⟩ := List.mem_map.1 hy
    rw [List.mem_filter] at hz
    exact ⟨z, hz.1, by simpa using hz.2⟩
  · rintro ⟨y, hy, hk⟩ h
    rw [List.map_eq_nil_iff, List.filter_eq_nil_iff] at h
    exact h y hy (by simpa using hk)
theorem crash_keys {s : St} {ch : List Int} {l : List ME} (hn : l.Pairwise fun x y => x.key ≠ y.key) (hk : ∀ x ∈ l, ∃ y ∈ s.2, y.1 = x.key) (ha : ∀ y ∈ s.2, ∃ x ∈ l, x.key = y.1) (hok : ∀ y ∈ s.2, 0 ≤ y.1 ∧ y.1 < (s.1.length : Int)) :
    ((l.map (·.key)).mergeSort fun x y => decide (x ≤ y)).foldl (crashStep s.2) (s.1, ch) = crashD s ch := by
  unfold crashD
  rw [← fold_skip s.2 ((List.range _).map _)]
  congr 1
  refine List.Perm.eq_of_pairwise (le := fun a b => decide (a ≤ b) = true) ?_ ?_ ?_ ?_
  · intro a b _ _ h1 h2
    have h1 := of_decide_eq_true h1
    have h2 := of_decide_eq_true h2
    omega
  · exact List.pairwise_mergeSort (fun a b c h1 h2 => by simp at *; omega) (fun a b => by simp; omega) _
  · refine List.Pairwise.filter _ ?_
    rw [List.pairwise_map]
    exact List.pairwise_lt_range.imp (fun h => decide_eq_true (by omega))
  · refine (List.mergeSort_perm _ _).trans ?_
    refine (List.perm_ext_iff_of_nodup ?_ ?_).2 ?_
    · exact List.pairwise_map.2 hn
    · refine List.Pairwise.filter _ ?_
      rw [List.pairwise_map]
      exact List.pairwise_lt_range.imp (fun h => by omega)
    · intro i
      have hvb : (!(vers s.2 i).isEmpty) = true ↔ vers s.2 i ≠ [] := by cases vers s.2 i <;> simp
      rw [List.mem_filter, hvb, vers_ne]
      constructor
      · intro h
        obtain ⟨x, hx, rfl⟩ := List.mem_map.1 h
        obtain ⟨y, hy, hyk⟩ := hk x hx
        refine ⟨?_, y, hy, hyk⟩
        obtain ⟨h0, h1⟩ := hok y hy
        rw [hyk] at h0 h1
        exact List.mem_map.2 ⟨x.key.toNat, List.mem_range.2 (by omega), by omega⟩
      · rintro ⟨_, y, hy, rfl⟩
        obtain ⟨x, hx, hxk⟩ := ha y hy
        exact List.mem_map.2 ⟨x, hx, hxk⟩
theorem zero22 (w : World) : (zeroValue 22).run Try.prog w = .ok (.slice none 0 0) w := by kernel_rfl

def CrashK (w w' : World) (e : Ending) (r : List Sec × List Int) : Prop :=
  ∃ v l, e = .returned (.tuple #[v, l]) ∧ DRF w.heap.size w' v (r.1, []) ∧ Rd w' 1 l r.2.length (cellsOf intC r.2) ∧ Fresh w.heap.size l ∧ Ext w w'
theorem crash22 (vd vch : Value) (s : St) (ch : List Int) (w : World) (hd : DR w vd s) (hr : Rd w 1 vch ch.length (cellsOf intC ch)) (hz : chkD s.1 s.2 = 0) (hn : s.1.length ≤ 4096) (hca : s.2.length ≤ 1000000) (hcl : ch.length ≤ 1000000) (hwf : ∀ x ∈ ch, I64 x) :
    Calls Try.prog 22 #[vd, vch] w fun e w' => CrashK w w' e (crashD s ch) := by
  obtain ⟨A, c, A2, c2, rfl, h1, h2⟩ := hd
  obtain ⟨Ac, cc, rfl⟩ := rd_slice hr
  have hchk := fun W hx => check33 _ _ s.1 s.2 W (h1.ext hx) (h2.ext hx) (by omega) hca
  rw [hz] at hchk
  have hmm := @run_makeMap Try.prog
  have HOK := Lib.hid (anyBad_ok (chkD_ok hz))
  clear hz
  go_enter Try.func22, Try.ntmps22
  go_wp2_with (first
    | (go_at_call 33; refine (hchk _ (((Ext.refl w).alloc _).alloc _)).mono ?_; rintro e w1 ⟨rfl, hx1⟩; have B1 := ((Blk.new w _ _).alloc _).ext hx1; have C1 := (Blk.new (w.alloc (.cells #[.slice A s.1.length c, .slice A2 s.2.length c2] 25)) _ _).ext hx1; rw [World.size_alloc] at C1; obtain ⟨b1, b2, b3, b4⟩ := B1.f2; obtain ⟨y1, y2, y3, y4⟩ := C1.f2; have hlt1 := B1.lt; have hlt2 := C1.lt)
    | fail)
  have hxw := ((((Ext.refl w).alloc (.cells #[.slice A s.1.length c, .slice A2 s.2.length c2] 25)).alloc (.cells #[.slice none 0 0, .slice none 0 0] 25)).trans hx1)
  have hMV0 : MV w1.heap.size (w1.alloc (.map #[] 0)) w1.heap.size [] (s.2.take 0) := ⟨heap_alloc_new w1 (.map #[] 0), fun x hx => (by cases hx), .nil, .nil, Nat.le_refl _, fun x hx => (by cases hx), fun x hx => (by simp at hx)⟩
  have hE1 : Ext w1 (w1.alloc (.map #[] 0)) := (Ext.refl w1).alloc _
  clear hchk hmm
  go_loopw [23] (fun t wr => ∃ k : Nat, k ≤ s.2.length ∧ t = .int .i64 k ∧ Ext w1 wr ∧ ∃ l, l.length ≤ k ∧ MV w1.heap.size wr w1.heap.size l (s.2.take k)) (fun t _ => s.2.length - (intOf t).toNat)
  case atStart => exact ⟨0, Nat.zero_le _, rfl, hE1, [], Nat.le_refl _, hMV0⟩
  case round =>
    obtain ⟨k, hk, rfl, hx, l, hll, hMV⟩ := hrel
    by_cases hlt : k < s.2.length
    · obtain ⟨x, hkx⟩ : ∃ x, s.2[k]? = some x := ⟨_, List.getElem?_eq_getElem hlt⟩
      obtain ⟨b, off, rfl, hbl, f0, f1, f2, f3, f4, f5, f6, f7, f8⟩ := rdC_at (h2.ext (hxw.trans hx)) hkx
      have hltz : (k : Int) < (s.2.length : Int) := by omega
      have hS' : Hid (s.2.take (k + 1) = s.2.take k ++ [x]) := by show _ = _; rw [List.take_add_one, hkx]; rfl
      obtain ⟨i0, hi0, hz0, hz1, hz2⟩ := info_parts info65
      clear hkx
      obtain ⟨A3, c3, hlk, hown⟩ := hMV.lookv x.1
      have hvl : (vers (s.2.take k) x.1).length ≤ 1000000 := by
        unfold vers; rw [List.length_map]
        have := List.length_filter_le (fun y : Int × Sec => decide (y.1 = x.1)) (s.2.take k)
        rw [List.length_take] at this; omega
      go_wp2_with fail
      obtain ⟨BXc, hBX⟩ : ∃ cs, cs = #[Value.int .i64 x.1, .int .u8 x.2.b0, .int .u8 x.2.b1, .int .u8 x.2.b2, .int .u8 x.2.b3, .int .u8 x.2.b4, .int .u8 x.2.b5, .int .u8 x.2.b6, .int .u8 x.2.b7] := ⟨_, rfl⟩
      have hBlk : Blk (wr.alloc (.cells #[.int .i64 x.1, .int .u8 x.2.b0, .int .u8 x.2.b1, .int .u8 x.2.b2, .int .u8 x.2.b3, .int .u8 x.2.b4, .int .u8 x.2.b5, .int .u8 x.2.b6, .int .u8 x.2.b7] 67)) wr.heap.size #[.int .i64 x.1, .int .u8 x.2.b0, .int .u8 x.2.b1, .int .u8 x.2.b2, .int .u8 x.2.b3, .int .u8 x.2.b4, .int .u8 x.2.b5, .int .u8 x.2.b6, .int .u8 x.2.b7] 67 := Blk.new wr _ _
      have hMb : (wr.alloc (.cells #[.int .i64 x.1, .int .u8 x.2.b0, .int .u8 x.2.b1, .int .u8 x.2.b2, .int .u8 x.2.b3, .int .u8 x.2.b4, .int .u8 x.2.b5, .int .u8 x.2.b6, .int .u8 x.2.b7] 67)).heap[w1.heap.size]? = some (.map (ents l 0).toArray l.length) := blk_alloc hMV.blk _
      refine wp_region_F (fun w' => w'.heap[w1.heap.size]? = some (.map (ents l 0).toArray l.length) ∧ Blk w' wr.heap.size #[.int .i64 x.1, .int .u8 x.2.b0, .int .u8 x.2.b1, .int .u8 x.2.b2, .int .u8 x.2.b3, .int .u8 x.2.b4, .int .u8 x.2.b5, .int .u8 x.2.b6, .int .u8 x.2.b7] 67) 11 (by kernel_rfl) ⟨hMb, hBlk⟩ (fun hS => ?_)
      refine wpAnyF_take (i := 0) (v := ?v0) rfl (by kernel_rfl) (by kernel_rfl) (by kernel_rfl) (by kernel_rfl) (fun _ _ _ h => h) (Or.inl ⟨by rfl, ?y0⟩) hS ?r0
      case' y0 => intro w' hSw; obtain ⟨s1, s2⟩ := hSw; obtain ⟨t0, t1, t2, t3, t4, t5, t6, t7, t8⟩ := s2.f9; go_simp; first | done | with_reducible rfl
      case' r0 => simp only [Act.put, List.setIfInBounds_toArray, List.set_cons_zero, List.set_cons_succ]
      refine wpAnyF_take (i := 1) (v := ?v1) rfl (by kernel_rfl) (by kernel_rfl) (by kernel_rfl) (by kernel_rfl) (fun _ _ _ h => h) (Or.inl ⟨by rfl, ?y1⟩) hS ?r1
      case' y1 => intro w' hSw; obtain ⟨s1, s2⟩ := hSw; obtain ⟨t0, t1, t2, t3, t4, t5, t6, t7, t8⟩ := s2.f9; go_simp; first | done | with_reducible rfl
      case' r1 => simp only [Act.put, List.setIfInBounds_toArray, List.set_cons_zero, List.set_cons_succ]
      refine wpAnyF_take (i := 2) (v := ?v2) rfl (by kernel_rfl) (by kernel_rfl) (by kernel_rfl) (by kernel_rfl) (fun _ _ _ h => h) (Or.inl ⟨by rfl, ?y2⟩) hS ?r2
      case' y2 => intro w' hSw; obtain ⟨s1, s2⟩ := hSw; obtain ⟨t0, t1, t2, t3, t4, t5, t6, t7, t8⟩ := s2.f9; go_simp; first | done | with_reducible rfl
      case' r2 => simp only [Act.put, List.setIfInBounds_toArray, List.set_cons_zero, List.set_cons_succ]
      refine wpAnyF_take (i := 3) (v := ?v3) rfl (by kernel_rfl) (by kernel_rfl) (by kernel_rfl) (by kernel_rfl) (fun _ _ _ h => h) (Or.inl ⟨by rfl, ?y3⟩) hS ?r3
      case' y3 => intro w' hSw; obtain ⟨s1, s2⟩ := hSw; obtain ⟨t0, t1, t2, t3, t4, t5, t6, t7, t8⟩ := s2.f9; go_simp; first | done | with_reducible rfl
      case' r3 => simp only [Act.put, List.setIfInBounds_toArray, List.set_cons_zero, List.set_cons_succ]
      refine wpAnyF_take (i := 4) (v := ?v4) rfl (by kernel_rfl) (by kernel_rfl) (by kernel_rfl) (by kernel_rfl) (fun _ _ _ h => h) (Or.inl ⟨by rfl, ?y4⟩) hS ?r4
      case' y4 => intro w' hSw; obtain ⟨s1, s2⟩ := hSw; obtain ⟨t0, t1, t2, t3, t4, t5, t6, t7, t8⟩ := s2.f9; go_simp; first | done | with_reducible rfl
      case' r4 => simp only [Act.put, List.setIfInBounds_toArray, List.set_cons_zero, List.set_cons_succ]
      refine wpAnyF_take (i := 5) (v := ?v5) rfl (by kernel_rfl) (by kernel_rfl) (by kernel_rfl) (by kernel_rfl) (fun _ _ _ h => h) (Or.inl ⟨by rfl, ?y5⟩) hS ?r5
      case' y5 => intro w' hSw; obtain ⟨s1, s2⟩ := hSw; obtain ⟨t0, t1, t2, t3, t4, t5, t6, t7, t8⟩ := s2.f9; go_simp; first | done | with_reducible rfl
      case' r5 => simp only [Act.put, List.setIfInBounds_toArray, List.set_cons_zero, List.set_cons_succ]
      refine wpAnyF_take (i := 6) (v := ?v6) rfl (by kernel_rfl) (by kernel_rfl) (by kernel_rfl) (by kernel_rfl) (fun _ _ _ h => h) (Or.inl ⟨by rfl, ?y6⟩) hS ?r6
      case' y6 => intro w' hSw; obtain ⟨s1, s2⟩ := hSw; obtain ⟨t0, t1, t2, t3, t4, t5, t6, t7, t8⟩ := s2.f9; have q := run_look Try.underlying94 Try.underlying3 zero22 l x.1 s1; rw [hlk] at q; go_simp; first | done | with_reducible rfl
      case' r6 => simp only [Act.put, List.setIfInBounds_toArray, List.set_cons_zero, List.set_cons_succ]
      refine wpAnyF_take (i := 7) (v := ?v7) rfl (by kernel_rfl) (by kernel_rfl) (by kernel_rfl) (by kernel_rfl) (fun _ _ _ h => h) (Or.inl ⟨by rfl, ?y7⟩) hS ?r7
      case' y7 => intro w' hSw; obtain ⟨s1, s2⟩ := hSw; obtain ⟨t0, t1, t2, t3, t4, t5, t6, t7, t8⟩ := s2.f9; go_simp; first | done | with_reducible rfl
      case' r7 => simp only [Act.put, List.setIfInBounds_toArray, List.set_cons_zero, List.set_cons_succ]
      refine wpAnyF_take (i := 8) (v := ?v8) rfl (by kernel_rfl) (by kernel_rfl) (by kernel_rfl) (by kernel_rfl) (fun _ _ _ h => h) (Or.inl ⟨by rfl, ?y8⟩) hS ?r8
      case' y8 => intro w' hSw; obtain ⟨s1, s2⟩ := hSw; obtain ⟨t0, t1, t2, t3, t4, t5, t6, t7, t8⟩ := s2.f9; go_simp; first | done | with_reducible rfl
      case' r8 => simp only [Act.put, List.setIfInBounds_toArray, List.set_cons_zero, List.set_cons_succ]
      refine wpAnyF_one (i := 9) (by kernel_rfl) rfl ?_
      go_wp2_with fail
      have hS2 : (((wr.alloc (.cells #[.int .i64 x.1, .int .u8 x.2.b0, .int .u8 x.2.b1, .int .u8 x.2.b2, .int .u8 x.2.b3, .int .u8 x.2.b4, .int .u8 x.2.b5, .int .u8 x.2.b6, .int .u8 x.2.b7] 67)).alloc (.cells x.2.c.toArray 65)).drew).heap[w1.heap.size]? = some (.map (ents l 0).toArray l.length) ∧ Blk (((wr.alloc (.cells #[.int .i64 x.1, .int .u8 x.2.b0, .int .u8 x.2.b1, .int .u8 x.2.b2, .int .u8 x.2.b3, .int .u8 x.2.b4, .int .u8 x.2.b5, .int .u8 x.2.b6, .int .u8 x.2.b7] 67)).alloc (.cells x.2.c.toArray 65)).drew) wr.heap.size #[.int .i64 x.1, .int .u8 x.2.b0, .int .u8 x.2.b1, .int .u8 x.2.b2, .int .u8 x.2.b3, .int .u8 x.2.b4, .int .u8 x.2.b5, .int .u8 x.2.b6, .int .u8 x.2.b7] 67 := ⟨blk_alloc hS.1 _, hS.2.alloc _⟩
      refine Stop_.go ⟨fun _ => hS2, ?_⟩
      refine wpAnyF_one (i := 10) (by kernel_rfl) rfl ?_
      refine wpList_append_lies _ rfl _ _ 22 rfl w1.heap.size 65 i0 _ 8 8 Try.underlying22 hi0 hz0 hz1 hz2 rfl (by omega) (.slice A3 (vers (s.2.take k) x.1).length c3) (vers (s.2.take k) x.1).length (cellsOf Sec.c (vers (s.2.take k) x.1)) rfl (own_ext hown (((Ext.refl wr).alloc _).alloc _).drew)
        ⟨wr.heap.size + 1, 0, none⟩ 1 1 x.2.c rfl rfl (World.news_of_block (cs := x.2.c.toArray) (t := 65) (fr := (0, 0)) (heap_alloc2_new wr _ _)) (Sec.c_one _) (by omega) (by unfold maxLen; omega) (by omega) (by have := hx.size; simp; omega) (wr.heap.size + 2) (by simp) ?_
      intro gg cap w3 hown3 hgrow3 hat3 hlt3
      go_wp2_with fail
      obtain ⟨hM3, hMV3⟩ := hMV.step (((Ext.refl wr).alloc _).alloc _).drew hown3 rfl (by rw [hlk]; exact hgrow3) (by rw [hlk]; rcases hat3 with h | h; exact .inl h; exact .inr (by simp; omega)) ⟨x.1, some ⟨gg, 0, none⟩, cap, vers (s.2.take k) x.1 ++ [x.2]⟩ rfl
      have hB3 := hS2.2.grown hgrow3 (own_ne (own_ext hown (((Ext.refl wr).alloc _).alloc _).drew) hS2.2 (by omega : (65 : Nat) ≠ 67))
      refine Stop_.go ⟨fun _ => ⟨hM3, hB3⟩, ?_⟩
      refine wpAnyF_one (i := 11) (by kernel_rfl) rfl ?_
      have q := run_upd Try.underlying94 Try.underlying3 l ⟨x.1, some ⟨gg, 0, none⟩, cap, vers (s.2.take k) x.1 ++ [x.2]⟩ hM3
      have hvv : (⟨x.1, some ⟨gg, 0, none⟩, cap, vers (s.2.take k) x.1 ++ [x.2]⟩ : ME).val = .slice (some ⟨gg, 0, none⟩) ((vers (s.2.take k) x.1).length + 1) cap := by simp [ME.val]
      rw [hvv] at q
      go_wp2_with fail
      refine Stop_.go ⟨by kernel_rfl, ?_⟩
      go_wp2_with fail
      go_roundw
      case rel =>
        refine ⟨k + 1, by omega, by go_num, ?_, updM l ⟨x.1, some ⟨gg, 0, none⟩, cap, vers (s.2.take k) x.1 ++ [x.2]⟩, Nat.le_trans (updM_len _ _) (by omega), ?_⟩
        · refine Ext.setBlock ?_ (Nat.le_refl _) _
          exact Ext.grown (W := (((wr.alloc (.cells #[.int .i64 x.1, .int .u8 x.2.b0, .int .u8 x.2.b1, .int .u8 x.2.b2, .int .u8 x.2.b3, .int .u8 x.2.b4, .int .u8 x.2.b5, .int .u8 x.2.b6, .int .u8 x.2.b7] 67)).alloc (.cells x.2.c.toArray 65)).drew)) (((hx.alloc _).alloc _).drew) hgrow3 (fun q hq => own_base hown q hq)
        · rw [hS'.out]; exact hMV3
      case measure => simp [intOf]; omega
    · have hltz : ¬ (k : Int) < (s.2.length : Int) := by omega
      have hk' : k = s.2.length := by omega
      rw [hk', List.take_length] at hMV
      obtain ⟨bb1, bb2, bb3, bb4⟩ := (B1.ext hx).f2
      rename World => wr0
      have hwr := hxw.trans hx
      have hcl48 := fun W hW => clone48 _ s.1.length _ W (h1.ext (hwr.trans hW)) (cellsOf_one Sec.c_one _) (by omega)
      have hkb : ∀ x ∈ l, I64 x.key := fun x hx => by
        obtain ⟨y, hy, hk⟩ := hMV.keyIn hx
        have := HOK.out y hy
        rw [hk] at this
        exact ⟨by omega, by omega⟩
      obtain ⟨ks, hks⟩ : ∃ ks, ks = (l.map (·.key)).mergeSort fun x y => decide (x ≤ y) := ⟨_, rfl⟩
      have hkl : (l.map (·.key)).length = ks.length := by rw [hks, List.length_mergeSort]
      have hs49 : ∀ W B, Ext wr0 W → Blk W B #[.map (some w1.heap.size)] 94 → Calls Try.prog 49 #[.func (.func 66) #[] #[.pointer (some ⟨B, 0, none⟩)]] W fun e w' => ∃ A6 c6, e = .returned (.slice A6 ks.length c6) ∧ w'.ownsRow W.heap.size 3 1 (.slice A6 ks.length c6) ks.length (cellsOf intC ks) ∧ Ext W w' := fun W B hW hB => by
        refine (sorted49 w1.heap.size B l s.2 w1.heap.size W (hMV.ext hW) (by omega) hkb hB).mono ?_
        rintro e w4 ⟨v, rfl, ho6, hx6⟩
        rw [← hks, hkl] at ho6
        obtain ⟨A6, c6, rfl⟩ := rd_slice (Rd.own ho6)
        exact ⟨A6, c6, rfl, ho6, hx6⟩
      have hkm : ∀ i ∈ ks, ∃ x ∈ l, x.key = i := fun i hi => by
        rw [hks, List.mem_mergeSort] at hi
        exact List.mem_map.1 hi
      have hCD : Hid (ks.foldl (crashStep s.2) (s.1, ch) = crashD s ch) := by show _ = _; rw [hks]; exact crash_keys hMV.nodup (fun x hx => hMV.keyIn hx) hMV.all HOK.out
      replace hks := Lib.hid hks
      have hksl : ks.length ≤ 1000000 := by rw [← hkl, List.length_map]; omega
      clear hkl
      go_wp2_with (first
        | (go_at_call 48; refine (hcl48 _ (Ext.refl _)).mono ?_; rintro e w2 ⟨A5, c5, rfl, ho5, hx5⟩)
        | (go_at_call 50; refine (keys50 _ _).mono ?_; rintro e w3 ⟨rfl, rfl⟩)
        | (go_at_call 49; have hB49 := Blk.new (w2.alloc (.cells #[.slice A5 s.1.length c5, .slice none 0 0] 25)) #[.map (some w1.heap.size)] 94; rw [World.size_alloc] at hB49; refine (hs49 _ _ ((hx5.alloc _).alloc _) hB49).mono ?_; rintro e w4 ⟨A6, c6, rfl, ho6, hx6⟩))
      have hB9 := ((Blk.new w2 #[.slice A5 s.1.length c5, .slice none 0 0] 25).alloc (.cells #[.map (some w1.heap.size)] 94)).ext hx6
      have ho5b := own_ext ho5 (((Ext.refl w2).alloc (.cells #[.slice A5 s.1.length c5, .slice none 0 0] 25)).alloc (.cells #[.map (some w1.heap.size)] 94) |>.trans hx6)
      have hx9 : Ext wr0 w4 := ((hx5.alloc (.cells #[.slice A5 s.1.length c5, .slice none 0 0] 25)).alloc (.cells #[.map (some w1.heap.size)] 94)).trans hx6
      clear hcl48 B1 bb1 bb2 bb3 bb4 b1 b2 b3 b4 y1 y2 y3 y4
      go_loopw [48, 10] (fun t lv W => ∃ k : Nat, k ≤ ks.length ∧ t = .int .i64 k ∧ Ext wr0 W ∧ Blk W w2.heap.size #[.slice A5 s.1.length c5, .slice none 0 0] 25 ∧ W.ownsRow ((w2.alloc (.cells #[.slice A5 s.1.length c5, .slice none 0 0] 25)).alloc (.cells #[.map (some w1.heap.size)] 94)).heap.size 3 1 (.slice A6 ks.length c6) ks.length (cellsOf intC ks) ∧
        W.ownsRow wr0.heap.size 65 8 (.slice A5 s.1.length c5) s.1.length (cellsOf Sec.c ((ks.take k).foldl (crashStep s.2) (s.1, ch)).1) ∧ ∃ B cb, lv = .slice B ((ks.take k).foldl (crashStep s.2) (s.1, ch)).2.length cb ∧ Rd w 1 (.slice B ((ks.take k).foldl (crashStep s.2) (s.1, ch)).2.length cb) ((ks.take k).foldl (crashStep s.2) (s.1, ch)).2.length (cellsOf intC ((ks.take k).foldl (crashStep s.2) (s.1, ch)).2)) (fun t _ _ => ks.length - (intOf t).toNat)
      case atStart => exact ⟨0, Nat.zero_le _, rfl, hx9, hB9, ho6, ho5b, Ac, cc, rfl, hr⟩
      case round =>
        obtain ⟨k, hk, rfl, hxk, hBo, hok, hos, B, cb, rfl, hlv⟩ := hrel
        obtain ⟨hz1l, jj, hz2d⟩ := crash_inv s.2 (ks.take k) (s.1, ch)
        have HF := fun i h => fold_take (crashStep s.2) (s.1, ch) ks k i h
        generalize hzz : (ks.take k).foldl (crashStep s.2) (s.1, ch) = z at hlv hos hz1l hz2d HF
        have hwz : ∀ x ∈ z.2, I64 x := fun x hx => hwf x (List.mem_of_mem_drop (by rw [hz2d] at hx; exact hx))
        have hzl : z.2.length ≤ ch.length := by rw [hz2d, List.length_drop]; exact Nat.sub_le _ _
        by_cases hlt : k < ks.length
        · obtain ⟨i, hki⟩ : ∃ x, ks[k]? = some x := ⟨_, List.getElem?_eq_getElem hlt⟩
          obtain ⟨b, off, rfl, hbl, f0⟩ := rdI_at (Rd.own hok) hki
          have hltz : (k : Int) < (ks.length : Int) := by omega
          replace HF := Lib.hid (HF i hki)
          obtain ⟨y, hy, hyk⟩ := hkm i (List.mem_of_getElem? hki)
          obtain ⟨hy1, hy2⟩ := hMV.keys y hy
          rw [hyk] at hy1
          obtain ⟨yc, hyc, hyc2⟩ := hMV.keyIn hy
          rw [hyk] at hyc2
          obtain ⟨hi0, hin⟩ := HOK.out yc hyc
          rw [hyc2] at hi0 hin
          have hv1 : 0 < (vers s.2 i).length := by rcases hv : vers s.2 i with _ | ⟨a, r⟩; exact absurd (hy1.trans hv) hy2; simp
          have hvl : (vers s.2 i).length ≤ 1000000 := by
            unfold vers; rw [List.length_map]
            have := List.length_filter_le (fun y : Int × Sec => decide (y.1 = i)) s.2
            omega
          obtain ⟨A7, c7, hlk, hown7⟩ := (hMV.ext hxk).lookv i
          have hMVk := (hMV.ext hxk).blk
          have hst : crashStep s.2 z i = (if 0 < (decD z.2 ((vers s.2 i).length + 1)).1 then z.1.set i.toNat ((vers s.2 i).getD ((decD z.2 ((vers s.2 i).length + 1)).1 - 1).toNat default) else z.1, (decD z.2 ((vers s.2 i).length + 1)).2) := by
            unfold crashStep; rw [if_neg (fun h => by rw [h] at hv1; simp at hv1)]
          rw [hst] at HF
          clear hst
          have hrg := decD_range z.2 ((vers s.2 i).length + 1) (by omega)
          have hdec : ∀ V, Ext wr V → Calls Try.prog 51 #[.slice B z.2.length cb, .int .i64 (((vers s.2 i).length : Int) + 1)] V fun e V' => DecPost V V' e (.slice B z.2.length cb) z.2 (decD z.2 ((vers s.2 i).length + 1)) := fun V hV => decide51 (.slice B z.2.length cb) z.2 ((vers s.2 i).length + 1) V (hlv.ext ((hwr.trans hxk).trans hV)) (by omega) (by omega) (by omega) hwz
          have HL1 := Lib.hid hz1l
          clear hz1l hz2d hzl hwz hy1 hy2
          generalize decD z.2 ((vers s.2 i).length + 1) = dd at HF hrg hdec
          obtain ⟨dn, dl⟩ := dd
          obtain ⟨hd0, hdn⟩ := hrg
          simp only at hd0 hdn
          have hiN : i.toNat < s.1.length := by omega
          obtain ⟨g5, cap5, hv5, hbase5, hglt5⟩ := hos.form (by omega)
          injection hv5 with hA5 _ hc5
          subst hA5; subst hc5
          obtain ⟨o1, o2, o3, o4⟩ := hBo.f2
          have hltw := hBo.lt
          have q56 := run_look Try.underlying94 Try.underlying3 zero22 l i hMVk
          rw [hlk] at q56
          have hw1 : IntKind.i64.wrap (((vers s.2 i).length : Int) + 1) = ((vers s.2 i).length : Int) + 1 := IntWalk.i64_in _ (by omega)
          by_cases hdp : 0 < dn
          · obtain ⟨j, rfl⟩ : ∃ j : Nat, dn = (j : Int) + 1 := ⟨(dn - 1).toNat, by omega⟩
            have hjl : j < (vers s.2 i).length := by omega
            obtain ⟨vx, hvx⟩ : ∃ x, (vers s.2 i)[j]? = some x := ⟨_, List.getElem?_eq_getElem hjl⟩
            have hgetD : Hid ((vers s.2 i).getD ((j : Int) + 1 - 1).toNat default = vx) := by show _ = _; rw [show ((j : Int) + 1 - 1).toNat = j from by omega, List.getD_eq_getElem?_getD, hvx]; rfl
            obtain ⟨b7, off7, rfl, hbl7, _⟩ := rdS_at (Rd.own hown7) hvx
            go_wp2_with (first
              | (go_at_call 51; refine (hdec _ (Ext.refl _)).mono ?_; rintro e w5 ⟨lv', rfl, hlv', hx5'⟩; obtain ⟨o5, o6, o7, o8⟩ := (hBo.ext hx5').f2)
              | fail)
            obtain ⟨B', cb', rfl⟩ := rd_slice (hlv' w hlv)
            have hjz : (j : Int) < ((vers s.2 i).length : Int) := by omega
            have hw2 : IntKind.i64.wrap ((j : Int) + 1 - 1) = (j : Int) := by rw [IntWalk.i64_in _ (by omega)]; omega
            have hw3 : IntKind.i64.wrap (j : Int) = (j : Int) := IntWalk.i64_in _ (by omega)
            refine wp_region_F (fun w' => Ext w5 w') 11 (by kernel_rfl) ((Ext.refl w5).drew) (fun hS => ?_)
            refine wpAnyF_taked (i := 0) (v := ?vb0) 64 rfl rfl (by kernel_rfl) (by kernel_rfl) (by kernel_rfl) (by kernel_rfl) (fun _ _ _ h => h) (Or.inl ⟨by rfl, ?yb0⟩) hS ?rb0
            case' yb0 => intro w' hSw; obtain ⟨s1, s2, s3, s4⟩ := (hBo.ext (hx5'.trans hSw)).f2; go_simp; first | done | with_reducible rfl
            case' rb0 => simp only [Act.put, List.setIfInBounds_toArray, List.set_cons_zero, List.set_cons_succ]
            refine wpAnyF_taked (i := 1) (v := ?vb1) 65 rfl rfl (by kernel_rfl) (by kernel_rfl) (by kernel_rfl) (by kernel_rfl) (fun _ _ _ h => h) (Or.inl ⟨by rfl, ?yb1⟩) hS ?rb1
            case' yb1 => intro w' hSw; obtain ⟨s1, s2, s3, s4⟩ := (hBo.ext (hx5'.trans hSw)).f2; go_simp; first | done | with_reducible rfl
            case' rb1 => simp only [Act.put, List.setIfInBounds_toArray, List.set_cons_zero, List.set_cons_succ]
            refine wpAnyF_taked (i := 2) (v := ?vb2) 66 rfl rfl (by kernel_rfl) (by kernel_rfl) (by kernel_rfl) (by kernel_rfl) (fun _ _ _ h => h) (Or.inl ⟨by rfl, ?yb2⟩) hS ?rb2
            case' yb2 => intro w' hSw; obtain ⟨s1, s2, s3, s4⟩ := (hBo.ext (hx5'.trans hSw)).f2; go_simp; first | done | with_reducible rfl
            case' rb2 => simp only [Act.put, List.setIfInBounds_toArray, List.set_cons_zero, List.set_cons_succ]
            refine wpAnyF_taked (i := 3) (v := ?vb3) 67 rfl rfl (by kernel_rfl) (by kernel_rfl) (by kernel_rfl) (by kernel_rfl) (fun _ _ _ h => h) (Or.inl ⟨by rfl, ?yb3⟩) hS ?rb3
            case' yb3 => intro w' hSw; obtain ⟨s1, s2, s3, s4⟩ := (hBo.ext (hx5'.trans hSw)).f2; go_simp; first | done | with_reducible rfl
            case' rb3 => simp only [Act.put, List.setIfInBounds_toArray, List.set_cons_zero, List.set_cons_succ]
            refine wpAnyF_taked (i := 4) (v := ?vb4) 68 rfl rfl (by kernel_rfl) (by kernel_rfl) (by kernel_rfl) (by kernel_rfl) (fun _ _ _ h => h) (Or.inl ⟨by rfl, ?yb4⟩) hS ?rb4
            case' yb4 => intro w' hSw; obtain ⟨s1, s2, s3, s4⟩ := (hBo.ext (hx5'.trans hSw)).f2; go_simp; first | done | with_reducible rfl
            case' rb4 => simp only [Act.put, List.setIfInBounds_toArray, List.set_cons_zero, List.set_cons_succ]
            refine wpAnyF_taked (i := 5) (v := ?vb5) 69 rfl rfl (by kernel_rfl) (by kernel_rfl) (by kernel_rfl) (by kernel_rfl) (fun _ _ _ h => h) (Or.inl ⟨by rfl, ?yb5⟩) hS ?rb5
            case' yb5 => intro w' hSw; obtain ⟨s1, s2, s3, s4⟩ := (hBo.ext (hx5'.trans hSw)).f2; have q := run_look Try.underlying94 Try.underlying3 zero22 l i (hMV.ext ((hxk.trans hx5').trans hSw)).blk; rw [hlk] at q; go_simp; first | done | with_reducible rfl
            case' rb5 => simp only [Act.put, List.setIfInBounds_toArray, List.set_cons_zero, List.set_cons_succ]
            refine wpAnyF_taked (i := 6) (v := ?vb6) 70 rfl rfl (by kernel_rfl) (by kernel_rfl) (by kernel_rfl) (by kernel_rfl) (fun _ _ _ h => h) (Or.inl ⟨by rfl, ?yb6⟩) hS ?rb6
            case' yb6 => intro w' hSw; obtain ⟨s1, s2, s3, s4⟩ := (hBo.ext (hx5'.trans hSw)).f2; go_simp; first | done | with_reducible rfl
            case' rb6 => simp only [Act.put, List.setIfInBounds_toArray, List.set_cons_zero, List.set_cons_succ]
            refine wpAnyF_taked (i := 7) (v := ?vb7) 71 rfl rfl (by kernel_rfl) (by kernel_rfl) (by kernel_rfl) (by kernel_rfl) (fun _ _ _ h => h) (Or.inl ⟨by rfl, ?yb7⟩) hS ?rb7
            case' yb7 => intro w' hSw; obtain ⟨s1, s2, s3, s4⟩ := (hBo.ext (hx5'.trans hSw)).f2; go_simp; first | done | with_reducible rfl
            case' rb7 => simp only [Act.put, List.setIfInBounds_toArray, List.set_cons_zero, List.set_cons_succ]
            refine wpAnyF_taked (i := 8) (v := ?vb8) 72 rfl rfl (by kernel_rfl) (by kernel_rfl) (by kernel_rfl) (by kernel_rfl) (fun _ _ _ h => h) (Or.inl ⟨by rfl, ?yb8⟩) hS ?rb8
            case' yb8 => intro w' hSw; obtain ⟨s1, s2, s3, s4⟩ := (hBo.ext (hx5'.trans hSw)).f2; go_simp; first | done | with_reducible rfl
            case' rb8 => simp only [Act.put, List.setIfInBounds_toArray, List.set_cons_zero, List.set_cons_succ]
            refine wpAnyF_taked (i := 9) (v := ?vb9) 73 rfl rfl (by kernel_rfl) (by kernel_rfl) (by kernel_rfl) (by kernel_rfl) (fun _ _ _ h => h) (Or.inl ⟨by rfl, ?yb9⟩) hS ?rb9
            case' yb9 => intro w' hSw; obtain ⟨s1, s2, s3, s4⟩ := (hBo.ext (hx5'.trans hSw)).f2; obtain ⟨b8, off8, hh8, hb8, e0, e1, e2, e3, e4, e5, e6, e7⟩ := rdS_at (Rd.own (own_ext hown7 (hx5'.trans hSw))) hvx; cases hh8; go_simp; first | done | with_reducible rfl
            case' rb9 => simp only [Act.put, List.setIfInBounds_toArray, List.set_cons_zero, List.set_cons_succ]
            refine wpAnyF_taked (i := 10) (v := ?vb10) 74 rfl rfl (by kernel_rfl) (by kernel_rfl) (by kernel_rfl) (by kernel_rfl) (fun _ _ _ h => h) (Or.inl ⟨by rfl, ?yb10⟩) hS ?rb10
            case' yb10 => intro w' hSw; obtain ⟨s1, s2, s3, s4⟩ := (hBo.ext (hx5'.trans hSw)).f2; go_simp; first | done | with_reducible rfl
            case' rb10 => simp only [Act.put, List.setIfInBounds_toArray, List.set_cons_zero, List.set_cons_succ]
            refine wpAnyF_one (i := 11) (by kernel_rfl) rfl ?_
            go_wp2_with ((with_reducible refine gate_store (t := 65) (p := 74) rfl ?_); refine stop_ ?_)
            refine Stop_.go ?_
            refine wpList_store_own (e := 65) (base := wr0.heap.size) (n := s.1.length) (cap := c5) (i := i.toNat) Sec.c_len Sec.c_one z.1 vx rfl rfl 65 (.tmp 74) (.tmp 73) rfl size65 rfl ?qo _ rfl rfl ?qw HL1.out hiN ?_
            case qo => simp
            case qw => exact own_ext hos (hx5'.trans hS)
            intro w6 ho6' hg6
            go_wp2_with fail
            refine Stop_.go ⟨fun h => absurd rfl h, ?_⟩
            refine ⟨by kernel_rfl, ?_⟩
            go_wp2_with fail
            go_roundw
            case rel =>
              refine ⟨k + 1, by omega, by go_num, ?_⟩
              rw [HF.out]
              simp only [if_pos (show 0 < (j : Int) + 1 from by omega), hgetD.out]
              exact ⟨((hxk.trans hx5').trans hS).grown hg6 (fun q hq => by cases hq; exact hbase5), (hBo.ext (hx5'.trans hS)).grown hg6 (own_ne (own_ext hos (hx5'.trans hS)) (hBo.ext (hx5'.trans hS)) (by omega : (65 : Nat) ≠ 25)), own_other (own_ext hok (hx5'.trans hS)) hg6 (own_type_ne (own_ext hok (hx5'.trans hS)) (own_ext hos (hx5'.trans hS)) (by omega : (3 : Nat) ≠ 65)), ho6', _, _, rfl, hlv' w hlv⟩
            case measure => simp [intOf]; omega
          · go_wp2_with (first
              | (go_at_call 51; refine (hdec _ (Ext.refl _)).mono ?_; rintro e w5 ⟨lv', rfl, hlv', hx5'⟩; obtain ⟨o5, o6, o7, o8⟩ := (hBo.ext hx5').f2)
              | fail)
            go_roundw
            case rel =>
              obtain ⟨B', cb', rfl⟩ := rd_slice (hlv' w hlv)
              refine ⟨k + 1, by omega, by go_num, ?_⟩
              rw [HF.out]
              simp only [if_neg (show ¬ 0 < dn from by omega)]
              exact ⟨hxk.trans hx5', hBo.ext hx5', own_ext hok hx5', own_ext hos hx5', _, _, rfl, hlv' w hlv⟩
            case measure => simp [intOf]; omega
        · have hltz : ¬ (k : Int) < (ks.length : Int) := by omega
          have hkk : k = ks.length := by omega
          have HL1 := Lib.hid hz1l
          clear hz1l hz2d
          have C9 := C1.ext (hx.trans hxk)
          have hsz1 := hx.size
          have hsz2 := hx5.size
          have hneA : ¬ w2.heap.size = w.heap.size + 1 := by omega
          have hneB : ¬ w.heap.size + 1 = w2.heap.size := by omega
          obtain ⟨o1, o2, o3, o4⟩ := hBo.f2
          obtain ⟨y1, y2, y3, y4⟩ := C9.f2
          go_wp2_with fail
          go_region_held3 (fun w' => w'.cell? ⟨w2.heap.size, 0, none⟩ = some (.slice A5 s.1.length c5) ∧ w'.cell? ⟨w2.heap.size, 1, none⟩ = some (.slice none 0 0)) (first | go_keep) (first | (go_at_call 52; refine (clone52 _ _ _ _ (hlv.ext (hwr.trans hxk).drew) (cellsOf_one intC_one _) (by omega)).mono ?_; rintro e w5 ⟨A8, c8, rfl, ho8, hx8⟩; obtain ⟨e1, e2, e3, e4⟩ := (show Blk _ _ _ _ from hBo.drew.ext hx8).f2; obtain ⟨j1, j2, j3, j4⟩ := (show Blk _ _ _ _ from C9.drew.ext hx8).f2))
          go_wp2
          refine bodyPost_ret (v := .tuple #[.agg #[.slice A5 s.1.length c5, .slice none 0 0], .slice A8 z.2.length c8]) (by simp [results, Try.results22, go_sem, j1, j2, j3, j4]) rfl ?_
          have hzz' : z = crashD s ch := by rw [← hzz, hkk, List.take_length]; exact hCD.out
          rw [← hzz']
          have hfin : Ext w w5 := (hwr.trans hxk).drew.trans hx8
          have hw0 : w.heap.size + 1 < wr0.heap.size := by omega
          have hsw : wr0.heap.size ≤ wr.drew.heap.size := hxk.size
          have ho9 := own_ext hos ((Ext.refl wr).drew.trans hx8)
          have hp9 := own_setlow (own_setlow ho9 (p := ⟨w.heap.size + 1, 0, none⟩) hw0 (.slice A5 s.1.length c5)) (p := ⟨w.heap.size + 1, 1, none⟩) hw0 (.slice none 0 0)
          have hp8 := own_setlow (own_setlow ho8 (p := ⟨w.heap.size + 1, 0, none⟩) (Nat.lt_of_lt_of_le hw0 hsw) (.slice A5 s.1.length c5)) (p := ⟨w.heap.size + 1, 1, none⟩) (Nat.lt_of_lt_of_le hw0 hsw) (.slice none 0 0)
          refine ⟨.agg #[.slice A5 s.1.length c5, .slice none 0 0], .slice A8 z.2.length c8, rfl, ⟨A5, c5, none, 0, by rw [HL1.out]; rfl, by rw [HL1.out]; exact Rd.own hp9, rd_nil _ _, by rw [HL1.out]; exact (Fresh.own hp9).low (by omega), Fresh.nil _⟩, Rd.own hp8, (Fresh.own hp8).low (by omega), ?_⟩
          exact (hfin.set (by show w.heap.size ≤ w.heap.size + 1; omega) _).set (by show w.heap.size ≤ w.heap.size + 1; omega) _
end Go.Proofs.Ytcgffpncfgmhkaa
