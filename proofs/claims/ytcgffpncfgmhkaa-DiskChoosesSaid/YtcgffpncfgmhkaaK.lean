import Derived.Test.YtcgffpncfgmhkaaWWords
import Derived.WalkLawsBesides
import Derived.WalkSpells
import Derived.Outline
import Derived.Lib.Hide
import Derived.Deep.LoopGhost
import Derived.Lib.Walk
import Derived.Lib.SliceRun
import Derived.Deep.DeepFit
import Derived.Test.YtcgffpncfgmhkaaProg
set_option linter.unusedVariables false
namespace Go.Proofs.Ytcgffpncfgmhkaa
open Go.Proofs Go.RowKit
open Go.Proofs.YtcgffpncfgmhkaaW.PrintWords

/-- A sector: eight bytes. -/
structure Sec where
  b0 : Int
  b1 : Int
  b2 : Int
  b3 : Int
  b4 : Int
  b5 : Int
  b6 : Int
  b7 : Int
deriving DecidableEq

instance : Inhabited Sec := ⟨⟨0, 0, 0, 0, 0, 0, 0, 0⟩⟩

/-- Its cells. -/
def Sec.c (s : Sec) : List Value := [.int .u8 s.b0, .int .u8 s.b1, .int .u8 s.b2, .int .u8 s.b3, .int .u8 s.b4, .int .u8 s.b5, .int .u8 s.b6, .int .u8 s.b7]
/-- The cells of a cached sector. -/
def cachedC (x : Int × Sec) : List Value := .int .i64 x.1 :: x.2.c

/-- The cells of a row of flat elements. -/
def cellsOf {α : Type} (enc : α → List Value) (l : List α) : List Value := l.flatMap enc

theorem cellsOf_length {α : Type} {enc : α → List Value} {k : Nat} (hk : ∀ x, (enc x).length = k) (l : List α) : (cellsOf enc l).length = l.length * k := by
  induction l with
  | nil => simp [cellsOf]
  | cons x l ih =>
    simp only [cellsOf, List.flatMap_cons, List.length_append, List.length_cons] at ih ⊢
    rw [ih, hk, Nat.add_mul, Nat.one_mul, Nat.add_comm]

theorem cellsOf_at {α : Type} {enc : α → List Value} {k : Nat} (hk : ∀ x, (enc x).length = k) (l : List α) (j : Nat) (x : α) (hj : l[j]? = some x) (i : Nat) (u : Value) (hi : (enc x)[i]? = some u) :
    (cellsOf enc l)[j * k + i]? = some u := by
  induction l generalizing j with
  | nil => simp at hj
  | cons y l ih =>
    have hlt : i < k := by have := (List.getElem?_eq_some_iff.1 hi).1; rw [hk] at this; exact this
    simp only [cellsOf, List.flatMap_cons] at ih ⊢
    cases j with
    | zero =>
      simp only [List.getElem?_cons_zero, Option.some.injEq] at hj
      subst hj
      rw [Nat.zero_mul, Nat.zero_add, List.getElem?_append_left (by rw [hk]; exact hlt)]
      exact hi
    | succ j =>
      simp only [List.getElem?_cons_succ] at hj
      rw [Nat.add_mul, Nat.one_mul, List.getElem?_append_right (by rw [hk]; omega), hk, show j * k + k + i - k = j * k + i by omega]
      exact ih j hj

theorem cellsOf_append {α : Type} (enc : α → List Value) (l m : List α) : cellsOf enc (l ++ m) = cellsOf enc l ++ cellsOf enc m := by simp [cellsOf]

theorem pos_of_idx {cs : List Value} {n k j : Nat} {u : Value} (hl : cs.length = n * k) (hj : cs[j]? = some u) : 0 < n := by
  rcases Nat.eq_zero_or_pos n with h | h
  · subst h
    have := (List.getElem?_eq_some_iff.1 hj).1
    omega
  · exact h

/-- A slice value that reads as the cells cs, n elements of k cells. -/
def Rd (w : World) (k : Nat) (v : Value) (n : Nat) (cs : List Value) : Prop :=
  cs.length = n * k ∧ ∃ A c, v = .slice A n c ∧ n ≤ c ∧ (0 < n → ∃ b off, A = some ⟨b, off, none⟩ ∧ b < w.heap.size ∧ ∀ j u, cs[j]? = some u → w.cell? ⟨b, off + j, none⟩ = some u)

theorem Rd.below {w w1 : World} {k n : Nat} {v : Value} {cs : List Value} (h : Rd w k v n cs) (hb : Below w.heap.size w w1) : Rd w1 k v n cs := by
  obtain ⟨hl, A, c, rfl, hc, hr⟩ := h
  refine ⟨hl, A, c, rfl, hc, fun hn => ?_⟩
  obtain ⟨b, off, rfl, hlt, hcell⟩ := hr hn
  exact ⟨b, off, rfl, Nat.lt_of_lt_of_le hlt hb.size, fun j u hu => (hb.cell (p := ⟨b, off + j, none⟩) hlt).trans (hcell j u hu)⟩

theorem Rd.belowB {w w1 : World} {k n B : Nat} {v : Value} {cs : List Value} (h : Rd w k v n cs) (hb : Below B w w1) (hB : w.heap.size ≤ B) : Rd w1 k v n cs :=
  h.below ⟨hb.os, hb.tape, hb.output, hb.size, fun i hi => hb.block i (by omega)⟩

/-- An owned row reads. -/
theorem Rd.own {w : World} {base e k n : Nat} {v : Value} {cs : List Value} (h : w.ownsRow base e k v n cs) : Rd w k v n cs := by
  refine ⟨h.1, ?_⟩
  rcases h.2 with ⟨rfl, rfl⟩ | ⟨g, cap, cur, rfl, hb, hh, h1, h2, h3, h4⟩
  · exact ⟨none, 0, rfl, Nat.le_refl _, fun hp => absurd hp (by omega)⟩
  · refine ⟨_, cap, rfl, h1, fun _ => ⟨g, 0, rfl, (Array.getElem?_eq_some_iff.1 hh).1, fun j u hu => ?_⟩⟩
    have := h.cells (g := g) rfl j u hu
    rwa [add_plain, ← Nat.zero_add j] at this

/-- The world has only grown: all that lay in w lies unturned. -/
def Ext (w w' : World) : Prop := Below w.heap.size w w'
theorem Ext.b {w w' : World} (h : Ext w w') : Below w.heap.size w w' := h
theorem Ext.refl (w : World) : Ext w w := Below.refl _ _
theorem Ext.trans {w w1 w2 : World} (h : Ext w w1) (k : Ext w1 w2) : Ext w w2 := below_then h h.b.size k
theorem Ext.alloc {w W : World} (h : Ext w W) (o : Obj) : Ext w (W.alloc o) := below_alloc h o
theorem Ext.drew {w W : World} (h : Ext w W) : Ext w W.drew := below_drew h
theorem Ext.drewN {w W : World} (h : Ext w W) (n : Nat) : Ext w (W.drewN n) := pw_below_drewN h n
theorem Ext.set {w W : World} (h : Ext w W) {p : Addr} (hp : w.heap.size ≤ p.block) (u : Value) : Ext w (W.setCell p u) := Below.setCell h hp u
theorem Ext.size {w w' : World} (h : Ext w w') : w.heap.size ≤ w'.heap.size := Below.size h
theorem Ext.grown {w W w' : World} (h : Ext w W) {row : Option Nat} (hg : W.grownBy w' row) (hr : ∀ k, row = some k → w.heap.size ≤ k) : Ext w w' := Below.grown h hg h.size hr
theorem Ext.cells {W w1 : World} (hb : Ext W w1) : (∀ b o, b < W.heap.size → w1.cell? ⟨b, o, none⟩ = W.cell? ⟨b, o, none⟩) ∧ (∀ b o, b < W.heap.size → w1.frozen? ⟨b, o, none⟩ = W.frozen? ⟨b, o, none⟩) ∧ W.heap.size ≤ w1.heap.size :=
  ⟨fun b o h => Below.cell hb (p := ⟨b, o, none⟩) h, fun b o h => Below.frozen hb (p := ⟨b, o, none⟩) h, Below.size hb⟩
theorem Rd.ext {w w1 : World} {k n : Nat} {v : Value} {cs : List Value} (h : Rd w k v n cs) (hb : Ext w w1) : Rd w1 k v n cs := h.below hb
/-- A block lies so. -/
def Blk (w : World) (g : Nat) (cs : Array Value) (t : Nat) : Prop := w.heap[g]? = some (.cells cs t (0, 0))
theorem Blk.new (w : World) (cs : Array Value) (t : Nat) : Blk (w.alloc (.cells cs t)) w.heap.size cs t := heap_alloc_new w _
theorem Blk.alloc {w : World} {g t : Nat} {cs : Array Value} (h : Blk w g cs t) (o : Obj) : Blk (w.alloc o) g cs t := blk_alloc h o
theorem Blk.drew {w : World} {g t : Nat} {cs : Array Value} (h : Blk w g cs t) : Blk w.drew g cs t := h
theorem Blk.drewN {w : World} {g t : Nat} {cs : Array Value} (h : Blk w g cs t) (n : Nat) : Blk (w.drewN n) g cs t := h
theorem Blk.ext {w w1 : World} {g t : Nat} {cs : Array Value} (h : Blk w g cs t) (hb : Ext w w1) : Blk w1 g cs t := blk_below h hb
theorem Blk.lt {w : World} {g t : Nat} {cs : Array Value} (h : Blk w g cs t) : g < w.heap.size := blk_lt h
theorem Blk.f1 {w : World} {g t : Nat} {a : Value} (h : Blk w g #[a] t) : w.cell? ⟨g, 0, none⟩ = some a ∧ w.frozen? ⟨g, 0, none⟩ = false := ⟨blk_cell h 0, blk_frozen h 0⟩
theorem Blk.f2 {w : World} {g t : Nat} {a b : Value} (h : Blk w g #[a, b] t) : w.cell? ⟨g, 0, none⟩ = some a ∧ w.cell? ⟨g, 1, none⟩ = some b ∧ w.frozen? ⟨g, 0, none⟩ = false ∧ w.frozen? ⟨g, 1, none⟩ = false :=
  ⟨blk_cell h 0, blk_cell h 1, blk_frozen h 0, blk_frozen h 1⟩
theorem Blk.f3 {w : World} {g t : Nat} {a b c : Value} (h : Blk w g #[a, b, c] t) : w.cell? ⟨g, 0, none⟩ = some a ∧ w.cell? ⟨g, 1, none⟩ = some b ∧ w.cell? ⟨g, 2, none⟩ = some c ∧ w.frozen? ⟨g, 0, none⟩ = false ∧ w.frozen? ⟨g, 1, none⟩ = false ∧ w.frozen? ⟨g, 2, none⟩ = false :=
  ⟨blk_cell h 0, blk_cell h 1, blk_cell h 2, blk_frozen h 0, blk_frozen h 1, blk_frozen h 2⟩
/-- An owned row over what has only grown. -/
theorem own_ext {w w1 : World} {base e k n : Nat} {v : Value} {cs : List Value} (h : w.ownsRow base e k v n cs) (hb : Ext w w1) : w1.ownsRow base e k v n cs := pw_own_below h hb
theorem own_low {w : World} {base base' e k n : Nat} {v : Value} {cs : List Value} (h : w.ownsRow base e k v n cs) (hb : base' ≤ base) : w.ownsRow base' e k v n cs := own_weaken h hb

theorem Sec.c_len (x : Sec) : x.c.length = 8 := rfl
theorem cachedC_len (x : Int × Sec) : (cachedC x).length = 9 := rfl
theorem rd_at {α : Type} {enc : α → List Value} {k : Nat} (hk : ∀ x, (enc x).length = k) {w : World} {A : Option Addr} {m c j : Nat} {l : List α} {x : α} (h : Rd w k (.slice A m c) l.length (cellsOf enc l)) (hj : l[j]? = some x) :
    ∃ b off, A = some ⟨b, off, none⟩ ∧ b < w.heap.size ∧ ∀ i u, (enc x)[i]? = some u → w.cell? ⟨b, off + j * k + i, none⟩ = some u := by
  obtain ⟨_, A', c', hv, _, hr⟩ := h
  injection hv with h1 h2 h3
  subst h1
  have hp : 0 < l.length := by have := (List.getElem?_eq_some_iff.1 hj).1; omega
  obtain ⟨b, off, hA, hb, hc⟩ := hr hp
  refine ⟨b, off, hA, hb, fun i u hi => ?_⟩
  rw [Nat.add_assoc]
  exact hc _ _ (cellsOf_at hk l j x hj i u hi)
def intC (x : Int) : List Value := [.int .i64 x]
theorem intC_len (x : Int) : (intC x).length = 1 := rfl
theorem rdS_at {w : World} {A : Option Addr} {m c j : Nat} {l : List Sec} {x : Sec} (h : Rd w 8 (.slice A m c) l.length (cellsOf Sec.c l)) (hj : l[j]? = some x) :
    ∃ b off, A = some ⟨b, off, none⟩ ∧ b < w.heap.size ∧ w.cell? ⟨b, off + j * 8, none⟩ = some (.int .u8 x.b0) ∧ w.cell? ⟨b, off + j * 8 + 1, none⟩ = some (.int .u8 x.b1) ∧ w.cell? ⟨b, off + j * 8 + 2, none⟩ = some (.int .u8 x.b2) ∧ w.cell? ⟨b, off + j * 8 + 3, none⟩ = some (.int .u8 x.b3) ∧ w.cell? ⟨b, off + j * 8 + 4, none⟩ = some (.int .u8 x.b4) ∧ w.cell? ⟨b, off + j * 8 + 5, none⟩ = some (.int .u8 x.b5) ∧ w.cell? ⟨b, off + j * 8 + 6, none⟩ = some (.int .u8 x.b6) ∧ w.cell? ⟨b, off + j * 8 + 7, none⟩ = some (.int .u8 x.b7) := by
  obtain ⟨b, off, hA, hb, H⟩ := rd_at Sec.c_len h hj
  exact ⟨b, off, hA, hb, H 0 _ rfl, H 1 _ rfl, H 2 _ rfl, H 3 _ rfl, H 4 _ rfl, H 5 _ rfl, H 6 _ rfl, H 7 _ rfl⟩
theorem rdC_at {w : World} {A : Option Addr} {m c j : Nat} {l : List (Int × Sec)} {x : (Int × Sec)} (h : Rd w 9 (.slice A m c) l.length (cellsOf cachedC l)) (hj : l[j]? = some x) :
    ∃ b off, A = some ⟨b, off, none⟩ ∧ b < w.heap.size ∧ w.cell? ⟨b, off + j * 9, none⟩ = some (.int .i64 x.1) ∧ w.cell? ⟨b, off + j * 9 + 1, none⟩ = some (.int .u8 x.2.b0) ∧ w.cell? ⟨b, off + j * 9 + 2, none⟩ = some (.int .u8 x.2.b1) ∧ w.cell? ⟨b, off + j * 9 + 3, none⟩ = some (.int .u8 x.2.b2) ∧ w.cell? ⟨b, off + j * 9 + 4, none⟩ = some (.int .u8 x.2.b3) ∧ w.cell? ⟨b, off + j * 9 + 5, none⟩ = some (.int .u8 x.2.b4) ∧ w.cell? ⟨b, off + j * 9 + 6, none⟩ = some (.int .u8 x.2.b5) ∧ w.cell? ⟨b, off + j * 9 + 7, none⟩ = some (.int .u8 x.2.b6) ∧ w.cell? ⟨b, off + j * 9 + 8, none⟩ = some (.int .u8 x.2.b7) := by
  obtain ⟨b, off, hA, hb, H⟩ := rd_at cachedC_len h hj
  exact ⟨b, off, hA, hb, H 0 _ rfl, H 1 _ rfl, H 2 _ rfl, H 3 _ rfl, H 4 _ rfl, H 5 _ rfl, H 6 _ rfl, H 7 _ rfl, H 8 _ rfl⟩
theorem rdI_at {w : World} {A : Option Addr} {m c j : Nat} {l : List Int} {x : Int} (h : Rd w 1 (.slice A m c) l.length (cellsOf intC l)) (hj : l[j]? = some x) :
    ∃ b off, A = some ⟨b, off, none⟩ ∧ b < w.heap.size ∧ w.cell? ⟨b, off + j, none⟩ = some (.int .i64 x) := by
  obtain ⟨b, off, hA, hb, H⟩ := rd_at intC_len h hj
  exact ⟨b, off, hA, hb, by have h := H 0 _ rfl; simpa using h⟩
theorem rd_len {w : World} {k n m c : Nat} {A : Option Addr} {cs : List Value} (h : Rd w k (.slice A m c) n cs) : m = n ∧ n ≤ c := by
  obtain ⟨_, A', c', hv, hc, _⟩ := h
  injection hv with h1 h2 h3
  exact ⟨h2, by omega⟩
theorem rd_slice {w : World} {k n : Nat} {v : Value} {cs : List Value} (h : Rd w k v n cs) : ∃ A c, v = .slice A n c := by
  obtain ⟨_, A', c', hv, hc, _⟩ := h
  exact ⟨A', c', hv⟩

theorem own_segs {W : World} {base e k n g cap i : Nat} {cs seg : List Value} (h : W.ownsRow base e k (.slice (some ⟨g, 0, none⟩) n cap) n cs) (hi : i < n) (hl : seg.length = k) :
    (W.setCells g (i * k) seg).ownsRow base e k (.slice (some ⟨g, 0, none⟩) n cap) n (cs.take (i * k) ++ seg ++ cs.drop (i * k + k)) ∧ W.grownBy (W.setCells g (i * k) seg) (some g) := by
  obtain ⟨hcl, h2⟩ := h
  rcases h2 with ⟨hv, _⟩ | ⟨g', cap', cur, hv, hb, hh, hnc, hcm, hcs, htake⟩
  · cases hv
  injection hv with ha _ hc
  injection ha with ha
  injection ha with hg
  subst hg; subst hc
  have h2 : i * k + k ≤ n * k := by rw [← Nat.succ_mul]; exact Nat.mul_le_mul_right _ hi
  have h3 : n * k ≤ cap * k := Nat.mul_le_mul_right _ hnc
  obtain ⟨cur', h4, h5, h6⟩ := setCells_row seg (i * k) W cur hh (by omega)
  obtain ⟨s1, s2, s3, s4⟩ := setCells_same g seg (i * k) W
  refine ⟨⟨?_, .inr ⟨g, cap, cur', rfl, hb, h4, hnc, hcm, by rw [h5, hcs], ?_⟩⟩, ⟨s1, s2, s3, by rw [s4]; exact Nat.le_refl _, fun q _ hq => setCells_far _ _ q (fun he => hq (by rw [he]))⟩⟩
  · simp only [List.length_append, List.length_take, List.length_drop, hcl, hl]; omega
  · rw [h6, ← htake, hl]
    have hcur : cur.toList.length = cap * k := by rw [Array.length_toList, hcs]
    rw [List.take_append, List.take_append]
    simp only [List.length_append, List.length_take, hcur, hl]
    rw [Nat.min_eq_left (by omega : i * k ≤ cap * k), List.take_take, Nat.min_eq_right (by omega : i * k ≤ n * k)]
    rw [List.take_of_length_le (by rw [hl]; omega : seg.length ≤ n * k - i * k)]
    rw [List.take_take, Nat.min_eq_left (by omega : i * k ≤ n * k)]
    rw [List.drop_take]

theorem cellsOf_set {α : Type} {enc : α → List Value} {k : Nat} (hk : ∀ x, (enc x).length = k) (l : List α) (i : Nat) (hi : i < l.length) (x : α) :
    cellsOf enc (l.set i x) = (cellsOf enc l).take (i * k) ++ enc x ++ (cellsOf enc l).drop (i * k + k) := by
  induction l generalizing i with
  | nil => simp at hi
  | cons y l ih =>
    simp only [cellsOf, List.flatMap_cons] at ih ⊢
    cases i with
    | zero =>
      simp only [List.set_cons_zero, List.flatMap_cons, Nat.zero_mul, List.take_zero, List.nil_append, Nat.zero_add]
      rw [List.drop_append, hk, Nat.sub_self, List.drop_zero, List.drop_of_length_le (by rw [hk]; omega), List.nil_append]
    | succ i =>
      simp only [List.length_cons] at hi
      simp only [List.set_cons_succ, List.flatMap_cons]
      rw [ih i (by omega), Nat.add_mul, Nat.one_mul, List.take_append, List.drop_append, hk]
      rw [List.take_of_length_le (l := enc y) (by rw [hk]; omega), List.drop_of_length_le (l := enc y) (by rw [hk]; omega)]
      rw [show i * k + k - k = i * k by omega, show i * k + k + k - k = i * k + k by omega]
      simp

section
variable {P : Program} {ops : Array Oper} {rest : List Oper} {o : Oper} {a : Act} {Q : Exit → Act → World → Prop} {α : Type}
/-- out[i] = x, out a row of one's own. -/
theorem wpList_store_own {W : World} {base e k n g cap i off : Nat} {enc : α → List Value} (hk : ∀ x, (enc x).length = k) (h1 : ∀ x, ∀ u ∈ enc x, u.oneCell' = true) (l : List α) (x : α)
    (hN : o.dst = none) (hgd : o.guard = none) (t : TypeId) (p q : Operand) (ho : o.op = .store t p q) (ht : (P.info? t).map (·.size) = some k)
    (haddr : a.eval p = .pointer (some ⟨g, off, none⟩)) (hoff : off = i * k) (u : Value) (hq : a.eval q = u) (hu : u.cells.toList = enc x)
    (hown : W.ownsRow base e k (.slice (some ⟨g, 0, none⟩) n cap) n (cellsOf enc l)) (hln : l.length = n) (hi : i < n)
    (h : ∀ w1, w1.ownsRow base e k (.slice (some ⟨g, 0, none⟩) n cap) n (cellsOf enc (l.set i x)) → W.grownBy w1 (some g) → wpList P ops Q rest a w1) : wpList P ops Q (o :: rest) a W := by
  subst hoff
  obtain ⟨hrow, hg⟩ := own_segs (seg := enc x) hown hi (hk x)
  rw [← cellsOf_set hk l i (by omega) x] at hrow
  refine wpList_plain hgd fun K hK => ?_
  have hrun : (Instr.storeAt t (.pointer (some ⟨g, i * k, none⟩)) u).run P W = .ok () (W.setCells g (i * k) (enc x)) := by
    rcases hown.2 with ⟨hv, _⟩ | ⟨g', cap', cur, hv, hb, hh, hnc, hcm, hcs, _⟩
    · cases hv
    injection hv with ha _ hc
    injection ha with ha
    injection ha with hg'
    subst hg'; subst hc
    have h2 : i * k + k ≤ n * k := by rw [← Nat.succ_mul]; exact Nat.mul_le_mul_right _ hi
    have h3 : n * k ≤ cap * k := Nat.mul_le_mul_right _ hnc
    exact run_store_run t u (enc x) hh hu (by rw [ht, hk]) (by rw [hk]; omega) (h1 x)
  unfold Oper.wp execOp
  simp only [ho, haddr, hq, Sem.run_bind, Sem.run_pure, Result.andThen_ok, hrun]
  show K (a.put o.dst undef) _
  rw [hN]
  exact hK a _ (h _ hrow hg)
end
theorem Sec.c_one (x : Sec) : ∀ u ∈ x.c, u.oneCell' = true := by intro u hu; simp [Sec.c] at hu; rcases hu with rfl | rfl | rfl | rfl | rfl | rfl | rfl | rfl <;> rfl
theorem cachedC_one (x : Int × Sec) : ∀ u ∈ cachedC x, u.oneCell' = true := by
  intro u hu
  rcases List.mem_cons.1 hu with rfl | hu
  · rfl
  · exact Sec.c_one _ u hu
theorem intC_one (x : Int) : ∀ u ∈ intC x, u.oneCell' = true := by intro u hu; simp [intC] at hu; subst hu; rfl
theorem cellsOf_one {α : Type} {enc : α → List Value} (h1 : ∀ x, ∀ u ∈ enc x, u.oneCell' = true) (l : List α) : ∀ u ∈ cellsOf enc l, u.oneCell' = true := by
  intro u hu
  obtain ⟨x, _, hx⟩ := List.mem_flatMap.1 hu
  exact h1 x u hx
theorem own_setlow {w : World} {base e k n : Nat} {v : Value} {cs : List Value} (h : w.ownsRow base e k v n cs) {p : Addr} (hp : p.block < base) (u : Value) : (w.setCell p u).ownsRow base e k v n cs :=
  own_setCell h (fun he => by have := own_base h p.block he.symm; omega) u
/-- The walk stands here. -/
def Stop_ (p : Prop) : Prop := p
theorem stop_ {p : Prop} (h : Stop_ p) : p := h
theorem Stop_.go {p : Prop} (h : p) : Stop_ p := h
end Go.Proofs.Ytcgffpncfgmhkaa
