import Derived.Test.YtcgffpncfgmhkaaY0
import Derived.Deep.Cut
import Derived.Test.YtcgffpncfgmhkaaQ
set_option linter.unusedVariables false
set_option linter.unusedSimpArgs false
set_option maxRecDepth 100000
set_option maxHeartbeats 4000000
namespace Go.Proofs.Ytcgffpncfgmhkaa
open Go Go.Proofs Go.RowKit Go.Instr
open Go.Proofs.YtcgffpncfgmhkaaW.PrintWords

theorem Blk.new' {w : World} {cs : Array Value} {t g : Nat} (h : g = w.heap.size) : Blk (w.alloc (.cells cs t)) g cs t := by subst h; exact Blk.new w cs t
theorem size_drew' (w : World) : w.drew.heap.size = w.heap.size := rfl
theorem rd_blk {W : World} {g t n k : Nat} {cs : Array Value} {l : List Value} (h : Blk W g cs t) (hl : cs.size = n * k) (he : cs.toList = l) : Rd W k (.slice (some ⟨g, 0, none⟩) n n) n l := by
  subst he
  refine ⟨by simpa using hl, _, n, rfl, Nat.le_refl _, fun _ => ⟨g, 0, rfl, h.lt, fun j u hj => ?_⟩⟩
  rw [Nat.zero_add]
  have hj' : cs[j]? = some u := by simpa using hj
  exact (blk_cell h j).trans hj'
theorem rdO_two {W : World} {g n1 n2 : Nat} {k1 a1 k2 a2 : Int} {d1 d2 : List Sec} {v1 v2 : Value} (h : Blk W g #[.int .i64 k1, .int .i64 a1, v1, .int .i64 k2, .int .i64 a2, v2] 27) (e1 : n1 = d1.length) (e2 : n2 = d2.length) (h1 : Rd W 8 v1 n1 (cellsOf Sec.c d1)) (h2 : Rd W 8 v2 n2 (cellsOf Sec.c d2)) :
    RdO W (.slice (some ⟨g, 0, none⟩) 2 2) [⟨k1, a1, d1⟩, ⟨k2, a2, d2⟩] := by
  subst e1; subst e2
  refine ⟨_, 2, rfl, Nat.le_refl _, fun _ => ⟨g, 0, rfl, h.lt, fun j o hj => ?_⟩⟩
  rcases j with _ | _ | j
  · cases hj
    exact ⟨v1, blk_cell h 0, blk_cell h 1, blk_cell h 2, h1⟩
  · cases hj
    exact ⟨v2, blk_cell h 3, blk_cell h 4, blk_cell h 5, h2⟩
  · simp at hj
theorem rdO_three {W : World} {g n1 n2 n3 : Nat} {k1 a1 k2 a2 k3 a3 : Int} {d1 d2 d3 : List Sec} {v1 v2 v3 : Value} (h : Blk W g #[.int .i64 k1, .int .i64 a1, v1, .int .i64 k2, .int .i64 a2, v2, .int .i64 k3, .int .i64 a3, v3] 27) (e1 : n1 = d1.length) (e2 : n2 = d2.length) (e3 : n3 = d3.length) (h1 : Rd W 8 v1 n1 (cellsOf Sec.c d1)) (h2 : Rd W 8 v2 n2 (cellsOf Sec.c d2)) (h3 : Rd W 8 v3 n3 (cellsOf Sec.c d3)) :
    RdO W (.slice (some ⟨g, 0, none⟩) 3 3) [⟨k1, a1, d1⟩, ⟨k2, a2, d2⟩, ⟨k3, a3, d3⟩] := by
  subst e1; subst e2; subst e3
  refine ⟨_, 3, rfl, Nat.le_refl _, fun _ => ⟨g, 0, rfl, h.lt, fun j o hj => ?_⟩⟩
  rcases j with _ | _ | _ | j
  · cases hj
    exact ⟨v1, blk_cell h 0, blk_cell h 1, blk_cell h 2, h1⟩
  · cases hj
    exact ⟨v2, blk_cell h 3, blk_cell h 4, blk_cell h 5, h2⟩
  · cases hj
    exact ⟨v3, blk_cell h 6, blk_cell h 7, blk_cell h 8, h3⟩
  · simp at hj
/-- The four sectors of the examples. -/
structure Aw (W : World) (p : Nat) : Prop where
  s1 : Blk W p #[.int .u8 1, .int .u8 0, .int .u8 0, .int .u8 0, .int .u8 0, .int .u8 0, .int .u8 0, .int .u8 0] 65
  s2 : Blk W (p + 1) #[.int .u8 2, .int .u8 0, .int .u8 0, .int .u8 0, .int .u8 0, .int .u8 0, .int .u8 0, .int .u8 0] 65
  s3 : Blk W (p + 1 + 1) #[.int .u8 3, .int .u8 0, .int .u8 0, .int .u8 0, .int .u8 0, .int .u8 0, .int .u8 0, .int .u8 0] 65
  s4 : Blk W (p + 1 + 1 + 1) #[.int .u8 0, .int .u8 0, .int .u8 0, .int .u8 0, .int .u8 0, .int .u8 0, .int .u8 0, .int .u8 0] 65
theorem Aw.ext {W V : World} {p : Nat} (h : Aw W p) (hx : Ext W V) : Aw V p := ⟨h.s1.ext hx, h.s2.ext hx, h.s3.ext hx, h.s4.ext hx⟩
def Phi3 (B : Nat) (A5 : Option Addr) (c5 : Nat) (A6 : Option Addr) (c6 : Nat) : Nat → Value → World → Prop := fun i v w => match i with
  | 0 => v = .agg #[.slice A5 3 c5, .slice A6 0 c6]
  | 1 => v = .agg #[.int .u8 1, .int .u8 0, .int .u8 0, .int .u8 0, .int .u8 0, .int .u8 0, .int .u8 0, .int .u8 0]
  | 2 => v = .agg #[.int .u8 2, .int .u8 0, .int .u8 0, .int .u8 0, .int .u8 0, .int .u8 0, .int .u8 0, .int .u8 0]
  | 3 => ∃ g, v = .slice (some ⟨g, 0, none⟩) 2 2 ∧ Blk w g #[.int .u8 1, .int .u8 0, .int .u8 0, .int .u8 0, .int .u8 0, .int .u8 0, .int .u8 0, .int .u8 0, .int .u8 2, .int .u8 0, .int .u8 0, .int .u8 0, .int .u8 0, .int .u8 0, .int .u8 0, .int .u8 0] 65
  | 4 => ∃ g, v = .agg #[.int .i64 0, .int .i64 0, .slice (some ⟨g, 0, none⟩) 2 2] ∧ Blk w g #[.int .u8 1, .int .u8 0, .int .u8 0, .int .u8 0, .int .u8 0, .int .u8 0, .int .u8 0, .int .u8 0, .int .u8 2, .int .u8 0, .int .u8 0, .int .u8 0, .int .u8 0, .int .u8 0, .int .u8 0, .int .u8 0] 65
  | 5 => v = .agg #[.int .u8 3, .int .u8 0, .int .u8 0, .int .u8 0, .int .u8 0, .int .u8 0, .int .u8 0, .int .u8 0]
  | 6 => ∃ g, v = .slice (some ⟨g, 0, none⟩) 1 1 ∧ Blk w g #[.int .u8 3, .int .u8 0, .int .u8 0, .int .u8 0, .int .u8 0, .int .u8 0, .int .u8 0, .int .u8 0] 65
  | 7 => ∃ g, v = .agg #[.int .i64 0, .int .i64 1, .slice (some ⟨g, 0, none⟩) 1 1] ∧ Blk w g #[.int .u8 3, .int .u8 0, .int .u8 0, .int .u8 0, .int .u8 0, .int .u8 0, .int .u8 0, .int .u8 0] 65
  | 8 => ∃ g, v = .slice (some ⟨g, 0, none⟩) 2 2 ∧ RdO w (.slice (some ⟨g, 0, none⟩) 2 2) [⟨0, 0, [sec 1, sec 2]⟩, ⟨0, 1, [sec 3]⟩]
  | 9 => ∃ A7 c7 A8 c8, v = .tuple #[.agg #[.slice A7 3 c7, .slice A8 3 c8], .int .i64 2, .int .i64 0] ∧ DR w (.agg #[.slice A7 3 c7, .slice A8 3 c8]) sE
  | 10 => ∃ A7 c7 A8 c8, v = .tuple #[.agg #[.slice A7 3 c7, .slice A8 3 c8], .int .i64 2, .int .i64 0] ∧ DR w (.agg #[.slice A7 3 c7, .slice A8 3 c8]) sE
  | 11 => ∃ A7 c7 A8 c8, v = .agg #[.slice A7 3 c7, .slice A8 3 c8] ∧ DR w (.agg #[.slice A7 3 c7, .slice A8 3 c8]) sE
  | 12 => v = .int .i64 2
  | 13 => v = .int .i64 0
  | 14 => ∃ g, v = .pointer (some ⟨g, 0, none⟩) ∧ Blk w g #[.slice none 0 0, .slice none 0 0] 25 ∧ B ≤ g
  | _ => True
theorem Phi3.mono (B : Nat) (A5 : Option Addr) (c5 : Nat) (A6 : Option Addr) (c6 : Nat) (i : Nat) (v : Value) (w w' : World) (hx : Ext w w') (h : Phi3 B A5 c5 A6 c6 i v w) : Phi3 B A5 c5 A6 c6 i v w' := by
  rcases i with _ | _ | _ | _ | _ | _ | _ | _ | _ | _ | _ | _ | _ | _ | _ | i
  all_goals first
    | exact h
    | (obtain ⟨g, rfl, h⟩ := h; exact ⟨g, rfl, h.ext hx⟩)
    | (obtain ⟨A7, c7, A8, c8, rfl, h⟩ := h; exact ⟨A7, c7, A8, c8, rfl, h.ext hx⟩)
    | (obtain ⟨g, rfl, h, hg⟩ := h; exact ⟨g, rfl, h.ext hx, hg⟩)
theorem Rd.setne {w : World} {k n : Nat} {v : Value} {cs : List Value} (h : Rd w k v n cs) {g t : Nat} {bs : Array Value} (hb : Blk w g bs t) (hk : 0 < k) (hd : ∀ u ∈ cs, ∀ u' ∈ bs.toList, u ≠ u') (o : Nat) (u : Value) : Rd (w.setCell ⟨g, o, none⟩ u) k v n cs := by
  obtain ⟨hl, A, c, rfl, hc, hr⟩ := h
  refine ⟨hl, A, c, rfl, hc, fun hn => ?_⟩
  obtain ⟨b, off, rfl, hlt, hcell⟩ := hr hn
  have hne : b ≠ g := by
    rintro rfl
    have h0 : 0 < cs.length := by rw [hl]; exact Nat.mul_pos hn hk
    have h1 := hcell 0 cs[0] (List.getElem?_eq_getElem h0)
    rw [blk_cell hb] at h1
    exact hd _ (List.getElem_mem h0) _ (Array.mem_toList_iff.2 (Array.mem_of_getElem? h1)) rfl
  refine ⟨b, off, rfl, by simpa [World.setCell] using hlt, fun j x hj => ?_⟩
  exact (World.cell?_of_block (Below.heap_setCell w ⟨g, o, none⟩ u b hne)).trans (hcell j x hj)
theorem sec_int {l : List Sec} {u : Value} (h : u ∈ cellsOf Sec.c l) : ∃ k z, u = .int k z := by
  obtain ⟨x, _, hx⟩ := List.mem_flatMap.1 h
  simp [Sec.c] at hx
  rcases hx with rfl | rfl | rfl | rfl | rfl | rfl | rfl | rfl <;> exact ⟨_, _, rfl⟩
theorem cac_int {l : List (Int × Sec)} {u : Value} (h : u ∈ cellsOf cachedC l) : ∃ k z, u = .int k z := by
  obtain ⟨x, _, hx⟩ := List.mem_flatMap.1 h
  simp [cachedC, Sec.c] at hx
  rcases hx with rfl | rfl | rfl | rfl | rfl | rfl | rfl | rfl | rfl <;> exact ⟨_, _, rfl⟩
theorem DR.setne {w : World} {v : Value} {s : St} (h : DR w v s) {g t : Nat} {A B : Option Addr} {n m c d : Nat} (hb : Blk w g #[.slice A n c, .slice B m d] t) (o : Nat) (u : Value) : DR (w.setCell ⟨g, o, none⟩ u) v s := by
  obtain ⟨A1, c1, A2, c2, hv, h1, h2⟩ := h
  refine ⟨A1, c1, A2, c2, hv, h1.setne hb (by omega) ?_ o u, h2.setne hb (by omega) ?_ o u⟩
  · intro x hx y hy he
    obtain ⟨k, z, rfl⟩ := sec_int hx
    simp at hy
    rcases hy with rfl | rfl <;> cases he
  · intro x hx y hy he
    obtain ⟨k, z, rfl⟩ := cac_int hx
    simp at hy
    rcases hy with rfl | rfl <;> cases he
theorem same19t (l : List Sec) (n : Nat) (va vb : Value) (w : World) (hn : n = l.length) (ha : Rd w 8 va n (cellsOf Sec.c l)) (hb : Rd w 8 vb n (cellsOf Sec.c l)) (hl : l.length ≤ 1000000) :
    Calls Try.prog 19 #[va, vb] w fun e w' => e = .returned (.bool true) ∧ Ext w w' := by
  subst hn
  have := same19 va vb l l w ha hb hl hl
  rwa [decide_eq_true rfl] at this
theorem arr_eq {a b : Array Bool} (h : a.size = b.size) (hh : ∀ i, i < b.size → a.getD i false = b.getD i false) : a = b := by
  apply Array.ext h
  intro i h1 h2
  have := hh i h2
  simpa [Array.getD_eq_getD_getElem?, h1, h2] using this
abbrev ks3 : List (Nat × Nat) := [(30, 1), (31, 1), (32, 1), (33, 1), (34, 1), (35, 1), (36, 1), (37, 1), (38, 1), (39, 1), (29, 1), (40, 1), (41, 2), (42, 2), (7, 1), (0, 0), (0, 0), (0, 0)]
instance (x : Int) : Decidable (I64 x) := inferInstanceAs (Decidable (_ ∧ _))
def Phi7 (A7 : Option Addr) (c7 : Nat) (A8 : Option Addr) (c8 : Nat) : Nat → Value → World → Prop := fun i v w => match i with
  | 0 => v = .agg #[.slice A7 3 c7, .slice A8 3 c8]
  | 1 => ∃ g, v = .slice (some ⟨g, 0, none⟩) 2 2 ∧ Blk w g #[.int .i64 1, .int .i64 1] 3
  | 2 => ∃ A c, v = .slice A 3 c ∧ Rd w 8 (.slice A 3 c) 3 (cellsOf Sec.c [sec 1, sec 2, Sec.z])
  | 3 => v = .agg #[.int .u8 1, .int .u8 0, .int .u8 0, .int .u8 0, .int .u8 0, .int .u8 0, .int .u8 0, .int .u8 0]
  | 4 => v = .agg #[.int .u8 2, .int .u8 0, .int .u8 0, .int .u8 0, .int .u8 0, .int .u8 0, .int .u8 0, .int .u8 0]
  | 5 => v = .agg #[.int .u8 0, .int .u8 0, .int .u8 0, .int .u8 0, .int .u8 0, .int .u8 0, .int .u8 0, .int .u8 0]
  | 6 => ∃ g, v = .slice (some ⟨g, 0, none⟩) 3 3 ∧ Blk w g #[.int .u8 1, .int .u8 0, .int .u8 0, .int .u8 0, .int .u8 0, .int .u8 0, .int .u8 0, .int .u8 0, .int .u8 2, .int .u8 0, .int .u8 0, .int .u8 0, .int .u8 0, .int .u8 0, .int .u8 0, .int .u8 0, .int .u8 0, .int .u8 0, .int .u8 0, .int .u8 0, .int .u8 0, .int .u8 0, .int .u8 0, .int .u8 0] 65
  | 7 => v = .bool true
  | 8 => v = .bool false
  | 9 => v = .bool false
  | 10 => v = .agg #[.slice A7 3 c7, .slice A8 3 c8]
  | 11 => ∃ g, v = .slice (some ⟨g, 0, none⟩) 2 2 ∧ Blk w g #[.int .i64 4, .int .i64 5] 3
  | 12 => ∃ A c, v = .slice A 3 c ∧ Rd w 8 (.slice A 3 c) 3 (cellsOf Sec.c [Sec.z, sec 3, Sec.z])
  | 13 => v = .agg #[.int .u8 0, .int .u8 0, .int .u8 0, .int .u8 0, .int .u8 0, .int .u8 0, .int .u8 0, .int .u8 0]
  | 14 => v = .agg #[.int .u8 3, .int .u8 0, .int .u8 0, .int .u8 0, .int .u8 0, .int .u8 0, .int .u8 0, .int .u8 0]
  | 15 => v = .agg #[.int .u8 0, .int .u8 0, .int .u8 0, .int .u8 0, .int .u8 0, .int .u8 0, .int .u8 0, .int .u8 0]
  | 16 => ∃ g, v = .slice (some ⟨g, 0, none⟩) 3 3 ∧ Blk w g #[.int .u8 0, .int .u8 0, .int .u8 0, .int .u8 0, .int .u8 0, .int .u8 0, .int .u8 0, .int .u8 0, .int .u8 3, .int .u8 0, .int .u8 0, .int .u8 0, .int .u8 0, .int .u8 0, .int .u8 0, .int .u8 0, .int .u8 0, .int .u8 0, .int .u8 0, .int .u8 0, .int .u8 0, .int .u8 0, .int .u8 0, .int .u8 0] 65
  | 17 => v = .bool true
  | 18 => v = .bool false
  | 19 => v = .bool false
  | 20 => v = .bool false
  | 21 => v = .agg #[.slice A7 3 c7, .slice A8 3 c8]
  | 22 => ∃ A c, v = .slice A 3 c ∧ Rd w 8 (.slice A 3 c) 3 (cellsOf Sec.c [Sec.z, Sec.z, Sec.z])
  | 23 => v = .agg #[.int .u8 0, .int .u8 0, .int .u8 0, .int .u8 0, .int .u8 0, .int .u8 0, .int .u8 0, .int .u8 0]
  | 24 => v = .agg #[.int .u8 0, .int .u8 0, .int .u8 0, .int .u8 0, .int .u8 0, .int .u8 0, .int .u8 0, .int .u8 0]
  | 25 => v = .agg #[.int .u8 0, .int .u8 0, .int .u8 0, .int .u8 0, .int .u8 0, .int .u8 0, .int .u8 0, .int .u8 0]
  | 26 => ∃ g, v = .slice (some ⟨g, 0, none⟩) 3 3 ∧ Blk w g #[.int .u8 0, .int .u8 0, .int .u8 0, .int .u8 0, .int .u8 0, .int .u8 0, .int .u8 0, .int .u8 0, .int .u8 0, .int .u8 0, .int .u8 0, .int .u8 0, .int .u8 0, .int .u8 0, .int .u8 0, .int .u8 0, .int .u8 0, .int .u8 0, .int .u8 0, .int .u8 0, .int .u8 0, .int .u8 0, .int .u8 0, .int .u8 0] 65
  | 27 => v = .bool true
  | 28 => v = .bool false
  | 29 => v = .bool false
  | _ => True
theorem Phi7.mono (A7 : Option Addr) (c7 : Nat) (A8 : Option Addr) (c8 : Nat) (i : Nat) (v : Value) (w w' : World) (hx : Ext w w') (h : Phi7 A7 c7 A8 c8 i v w) : Phi7 A7 c7 A8 c8 i v w' := by
  rcases i with _ | _ | _ | _ | _ | _ | _ | _ | _ | _ | _ | _ | _ | _ | _ | _ | _ | _ | _ | _ | _ | _ | _ | _ | _ | _ | _ | _ | _ | _ | i
  all_goals first
    | exact h
    | (obtain ⟨g, rfl, h⟩ := h; exact ⟨g, rfl, h.ext hx⟩)
    | (obtain ⟨A, c, rfl, h⟩ := h; exact ⟨A, c, rfl, h.ext hx⟩)
abbrev ks7 : List (Nat × Nat) := [(72, 1), (73, 1), (74, 1), (75, 1), (76, 1), (77, 1), (78, 1), (79, 1), (80, 1), (81, 1), (82, 1), (83, 1), (84, 1), (85, 1), (86, 1), (87, 1), (88, 1), (89, 1), (90, 1), (91, 1), (92, 1), (93, 1), (94, 1), (95, 1), (96, 1), (97, 1), (98, 1), (99, 1), (100, 1), (101, 1)]
def Phi9 : Nat → Value → World → Prop := fun i v w => match i with
  | 0 => v = .agg #[.int .u8 1, .int .u8 0, .int .u8 0, .int .u8 0, .int .u8 0, .int .u8 0, .int .u8 0, .int .u8 0]
  | 1 => ∃ g, v = .slice (some ⟨g, 0, none⟩) 1 1 ∧ Blk w g #[.int .u8 1, .int .u8 0, .int .u8 0, .int .u8 0, .int .u8 0, .int .u8 0, .int .u8 0, .int .u8 0] 65
  | 2 => ∃ g, v = .agg #[.int .i64 0, .int .i64 0, .slice (some ⟨g, 0, none⟩) 1 1] ∧ Blk w g #[.int .u8 1, .int .u8 0, .int .u8 0, .int .u8 0, .int .u8 0, .int .u8 0, .int .u8 0, .int .u8 0] 65
  | 3 => v = .agg #[.int .i64 1, .int .i64 0, .slice none 0 0]
  | 4 => v = .agg #[.int .u8 2, .int .u8 0, .int .u8 0, .int .u8 0, .int .u8 0, .int .u8 0, .int .u8 0, .int .u8 0]
  | 5 => ∃ g, v = .slice (some ⟨g, 0, none⟩) 1 1 ∧ Blk w g #[.int .u8 2, .int .u8 0, .int .u8 0, .int .u8 0, .int .u8 0, .int .u8 0, .int .u8 0, .int .u8 0] 65
  | 6 => ∃ g, v = .agg #[.int .i64 0, .int .i64 0, .slice (some ⟨g, 0, none⟩) 1 1] ∧ Blk w g #[.int .u8 2, .int .u8 0, .int .u8 0, .int .u8 0, .int .u8 0, .int .u8 0, .int .u8 0, .int .u8 0] 65
  | 7 => ∃ g, v = .slice (some ⟨g, 0, none⟩) 3 3 ∧ RdO w (.slice (some ⟨g, 0, none⟩) 3 3) [⟨0, 0, [sec 1]⟩, ⟨1, 0, []⟩, ⟨0, 0, [sec 2]⟩]
  | 8 => ∃ g, v = .slice (some ⟨g, 0, none⟩) 3 3 ∧ RdO w (.slice (some ⟨g, 0, none⟩) 3 3) [⟨0, 0, [sec 1]⟩, ⟨1, 0, []⟩, ⟨0, 0, [sec 2]⟩]
  | _ => True
theorem Phi9.mono (i : Nat) (v : Value) (w w' : World) (hx : Ext w w') (h : Phi9 i v w) : Phi9 i v w' := by
  rcases i with _ | _ | _ | _ | _ | _ | _ | _ | _ | i
  all_goals first
    | exact h
    | (obtain ⟨g, rfl, h⟩ := h; exact ⟨g, rfl, h.ext hx⟩)
abbrev ks9 : List (Nat × Nat) := [(102, 1), (103, 1), (104, 1), (105, 1), (106, 1), (107, 1), (108, 1), (109, 1), (12, 1)]
theorem awake13 (w : World) : Calls Try.prog 13 #[] w fun e w' => e = .returned (.bool true) ∧ Ext w w' := by
  have hnew : newD 3 = (([Sec.z, Sec.z, Sec.z], []), 0) := rfl
  have h31 := fun W => new31 3 W
  rw [hnew] at h31
  clear hnew
  go_enter Try.func13, Try.ntmps13
  go_wp2_with (first
    | (go_at_call 39; refine (sector39 _ _).mono ?_; rintro e w1 ⟨rfl, hx1⟩)
    | (go_at_call 31; refine (h31 _).mono ?_; rintro e w2 ⟨v5, rfl, ⟨A5, c5, A6, c6, rfl, hd5, hd6, hf5, hf6⟩, hx5⟩)
    | fail)
  have aw : Aw (w2.alloc (.cells #[.slice A5 3 c5, .slice A6 0 c6] 25)) w1.heap.size := ⟨by (repeat (first | (with_reducible exact Blk.new' (by simp only [size_drew', World.size_alloc])) | (with_reducible refine Blk.alloc ?_ _) | (with_reducible refine Blk.drew ?_) | (with_reducible refine Blk.ext ?_ (by assumption)))), by (repeat (first | (with_reducible exact Blk.new' (by simp only [size_drew', World.size_alloc])) | (with_reducible refine Blk.alloc ?_ _) | (with_reducible refine Blk.drew ?_) | (with_reducible refine Blk.ext ?_ (by assumption)))), by (repeat (first | (with_reducible exact Blk.new' (by simp only [size_drew', World.size_alloc])) | (with_reducible refine Blk.alloc ?_ _) | (with_reducible refine Blk.drew ?_) | (with_reducible refine Blk.ext ?_ (by assumption)))), by (repeat (first | (with_reducible exact Blk.new' (by simp only [size_drew', World.size_alloc])) | (with_reducible refine Blk.alloc ?_ _) | (with_reducible refine Blk.drew ?_) | (with_reducible refine Blk.ext ?_ (by assumption))))⟩
  have hE0 : Ext w (w2.alloc (.cells #[.slice A5 3 c5, .slice A6 0 c6] 25)) := by (repeat (first | (with_reducible exact Ext.refl _) | assumption | (with_reducible refine Ext.alloc ?_ _) | (with_reducible refine Ext.drew ?_) | (with_reducible refine Ext.trans ?_ (by assumption))))
  have D5 := Blk.new w2 #[.slice A5 3 c5, .slice A6 0 c6] 25
  have hDR : DR (w2.alloc (.cells #[.slice A5 3 c5, .slice A6 0 c6] 25)) (.agg #[.slice A5 3 c5, .slice A6 0 c6]) ([Sec.z, Sec.z, Sec.z], []) := ⟨A5, c5, A6, c6, rfl, hd5.ext ((Ext.refl w2).alloc _), hd6.ext ((Ext.refl w2).alloc _)⟩
  generalize w1.heap.size = p at aw ⊢
  have hq0 := D5.lt
  generalize w2.heap.size = q at D5 hq0 ⊢
  generalize w2.alloc (.cells #[.slice A5 3 c5, .slice A6 0 c6] 25) = W0 at *
  clear hx5 hd5 hd6 hf5 hf6 h31
  have hwf1 : OpsWf [⟨0, 0, [sec 1, sec 2]⟩, ⟨0, 1, [sec 3]⟩] := by
    intro j o hj
    rcases j with _ | _ | j
    · cases hj; exact ⟨⟨by decide, by decide⟩, ⟨by decide, by decide⟩, by decide⟩
    · cases hj; exact ⟨⟨by decide, by decide⟩, ⟨by decide, by decide⟩, by decide⟩
    · simp at hj
  have h20 := fun W vo hx hro => run20 (.agg #[.slice A5 3 c5, .slice A6 0 c6]) vo ([Sec.z, Sec.z, Sec.z], []) _ W (hDR.ext hx) hro hwf1 (by decide) (by decide) (by decide)
  rw [e1] at h20
  go_cut [7, 8, 9] from 29 to 42 (fun t7 t8 t9 wx => t8 = .int .i64 2 ∧ t9 = .int .i64 0 ∧ Ext W0 wx ∧ ∃ g7 A7 c7 A8 c8, t7 = .pointer (some ⟨g7, 0, none⟩) ∧ Blk wx g7 #[.slice A7 3 c7, .slice A8 3 c8] 25 ∧ DR wx (.agg #[.slice A7 3 c7, .slice A8 3 c8]) sE)
  case first =>
    refine wp_region_head ks3 17 (Phi3 W0.heap.size A5 c5 A6 c6) (by kernel_rfl) (by kernel_rfl) (by rfl) (fun i v w w' _ _ hx h => Phi3.mono _ A5 c5 A6 c6 i v w w' hx h) ?step ?fin
    case step =>
      intro i a wc hi hh hx hL hd
      have hxx : Ext W0 wc := (Ext.refl W0).drew.trans hx
      have hi18 : i < 18 := hi
      have hcs : i = 0 ∨ i = 1 ∨ i = 2 ∨ i = 3 ∨ i = 4 ∨ i = 5 ∨ i = 6 ∨ i = 7 ∨ i = 8 ∨ i = 9 ∨ i = 10 ∨ i = 11 ∨ i = 12 ∨ i = 13 ∨ i = 14 ∨ i = 15 ∨ i = 16 ∨ i = 17 := by omega
      clear hi hi18
      rcases hcs with rfl | rfl | rfl | rfl | rfl | rfl | rfl | rfl | rfl | rfl | rfl | rfl | rfl | rfl | rfl | rfl | rfl | rfl
      · refine wpOp_of_list (i := 0) rfl ?_
        have h5 := (hL.oth 5 (by decide)).trans rfl
        obtain ⟨x1, x2, x3, x4⟩ := (D5.ext hxx).f2
        go_wp2_with fail
        exact ⟨Ext.refl _, _, rfl, rfl⟩
      · refine wpOp_of_list (i := 1) rfl ?_
        have h1 := (hL.oth 1 (by decide)).trans rfl
        obtain ⟨fa0, fa1, fa2, fa3, fa4, fa5, fa6, fa7⟩ := (aw.s1.ext hxx).f8
        go_wp2_with fail
        exact ⟨Ext.refl _, _, rfl, rfl⟩
      · refine wpOp_of_list (i := 2) rfl ?_
        have h2 := (hL.oth 2 (by decide)).trans rfl
        obtain ⟨fb0, fb1, fb2, fb3, fb4, fb5, fb6, fb7⟩ := (aw.s2.ext hxx).f8
        go_wp2_with fail
        exact ⟨Ext.refl _, _, rfl, rfl⟩
      · refine wpOp_of_list (i := 3) rfl ?_
        obtain ⟨v31, h31, p31⟩ : ∃ v, a.tmps[31]? = some v ∧ Phi3 W0.heap.size A5 c5 A6 c6 1 v wc := hd _ rfl ⟨1, .data⟩ (Array.mem_of_getElem? (i := 0) rfl) rfl
        obtain rfl := p31
        obtain ⟨v32, h32, p32⟩ : ∃ v, a.tmps[32]? = some v ∧ Phi3 W0.heap.size A5 c5 A6 c6 2 v wc := hd _ rfl ⟨2, .data⟩ (Array.mem_of_getElem? (i := 1) rfl) rfl
        obtain rfl := p32
        go_wp2_with fail
        exact ⟨(Ext.refl wc).alloc _, _, rfl, wc.heap.size, rfl, Blk.new _ _ _⟩
      · refine wpOp_of_list (i := 4) rfl ?_
        obtain ⟨v33, h33, p33⟩ : ∃ v, a.tmps[33]? = some v ∧ Phi3 W0.heap.size A5 c5 A6 c6 3 v wc := hd _ rfl ⟨3, .data⟩ (Array.mem_of_getElem? (i := 0) rfl) rfl
        obtain ⟨g, rfl, p33⟩ := p33
        go_wp2_with (first
          | (go_at_call 40; refine (op40 _ _ _ _ _).mono ?_; rintro e w4 ⟨rfl, hx4⟩)
          | fail)
        exact ⟨hx4, _, rfl, g, rfl, p33.ext hx4⟩
      · refine wpOp_of_list (i := 5) rfl ?_
        have h3 := (hL.oth 3 (by decide)).trans rfl
        obtain ⟨fc0, fc1, fc2, fc3, fc4, fc5, fc6, fc7⟩ := (aw.s3.ext hxx).f8
        go_wp2_with fail
        exact ⟨Ext.refl _, _, rfl, rfl⟩
      · refine wpOp_of_list (i := 6) rfl ?_
        obtain ⟨v35, h35, p35⟩ : ∃ v, a.tmps[35]? = some v ∧ Phi3 W0.heap.size A5 c5 A6 c6 5 v wc := hd _ rfl ⟨5, .data⟩ (Array.mem_of_getElem? (i := 0) rfl) rfl
        obtain rfl := p35
        go_wp2_with fail
        exact ⟨(Ext.refl wc).alloc _, _, rfl, wc.heap.size, rfl, Blk.new _ _ _⟩
      · refine wpOp_of_list (i := 7) rfl ?_
        obtain ⟨v36, h36, p36⟩ : ∃ v, a.tmps[36]? = some v ∧ Phi3 W0.heap.size A5 c5 A6 c6 6 v wc := hd _ rfl ⟨6, .data⟩ (Array.mem_of_getElem? (i := 0) rfl) rfl
        obtain ⟨g, rfl, p36⟩ := p36
        go_wp2_with (first
          | (go_at_call 40; refine (op40 _ _ _ _ _).mono ?_; rintro e w4 ⟨rfl, hx4⟩)
          | fail)
        exact ⟨hx4, _, rfl, g, rfl, p36.ext hx4⟩
      · refine wpOp_of_list (i := 8) rfl ?_
        obtain ⟨v34, h34, p34⟩ : ∃ v, a.tmps[34]? = some v ∧ Phi3 W0.heap.size A5 c5 A6 c6 4 v wc := hd _ rfl ⟨4, .data⟩ (Array.mem_of_getElem? (i := 0) rfl) rfl
        obtain ⟨g, rfl, p34⟩ := p34
        obtain ⟨v37, h37, p37⟩ : ∃ v, a.tmps[37]? = some v ∧ Phi3 W0.heap.size A5 c5 A6 c6 7 v wc := hd _ rfl ⟨7, .data⟩ (Array.mem_of_getElem? (i := 1) rfl) rfl
        obtain ⟨g', rfl, p37⟩ := p37
        go_wp2_with fail
        exact ⟨(Ext.refl wc).alloc _, _, rfl, wc.heap.size, rfl, rdO_two (Blk.new _ _ _) rfl rfl (rd_blk (n := 2) (p34.ext ((Ext.refl wc).alloc _)) rfl rfl) (rd_blk (n := 1) (p37.ext ((Ext.refl wc).alloc _)) rfl rfl)⟩
      · refine wpOp_of_list (i := 9) rfl ?_
        obtain ⟨v30, h30, p30⟩ : ∃ v, a.tmps[30]? = some v ∧ Phi3 W0.heap.size A5 c5 A6 c6 0 v wc := hd _ rfl ⟨0, .data⟩ (Array.mem_of_getElem? (i := 0) rfl) rfl
        obtain rfl := p30
        obtain ⟨v38, h38, p38⟩ : ∃ v, a.tmps[38]? = some v ∧ Phi3 W0.heap.size A5 c5 A6 c6 8 v wc := hd _ rfl ⟨8, .data⟩ (Array.mem_of_getElem? (i := 1) rfl) rfl
        obtain ⟨g, rfl, p38⟩ := p38
        go_wp2_with (first
          | (go_at_call 20; refine (h20 _ _ hxx p38).mono ?_; rintro e w5 ⟨v7, rfl, ⟨A7, c7, A8, c8, rfl, hd7, hd8, hf7, hf8⟩, hx7⟩)
          | fail)
        exact ⟨hx7, _, rfl, A7, c7, A8, c8, rfl, ⟨A7, c7, A8, c8, rfl, hd7, hd8⟩⟩
      · refine wpOp_of_list (i := 10) rfl ?_
        obtain ⟨v39, h39, p39⟩ : ∃ v, a.tmps[39]? = some v ∧ Phi3 W0.heap.size A5 c5 A6 c6 9 v wc := hd _ rfl ⟨9, .data⟩ (Array.mem_of_getElem? (i := 0) rfl) rfl
        obtain ⟨A7, c7, A8, c8, rfl, p39⟩ := p39
        go_wp2_with fail
        exact ⟨Ext.refl _, _, rfl, A7, c7, A8, c8, rfl, p39⟩
      · refine wpOp_of_list (i := 11) rfl ?_
        obtain ⟨v29, h29, p29⟩ : ∃ v, a.tmps[29]? = some v ∧ Phi3 W0.heap.size A5 c5 A6 c6 10 v wc := hd _ rfl ⟨10, .data⟩ (Array.mem_of_getElem? (i := 0) rfl) rfl
        obtain ⟨A7, c7, A8, c8, rfl, p39⟩ := p29
        go_wp2_with fail
        exact ⟨Ext.refl _, _, rfl, A7, c7, A8, c8, rfl, p39⟩
      · refine wpOp_of_list (i := 12) rfl ?_
        obtain ⟨v29, h29, p29⟩ : ∃ v, a.tmps[29]? = some v ∧ Phi3 W0.heap.size A5 c5 A6 c6 10 v wc := hd _ rfl ⟨10, .data⟩ (Array.mem_of_getElem? (i := 0) rfl) rfl
        obtain ⟨A7, c7, A8, c8, rfl, p39⟩ := p29
        go_wp2_with fail
        exact ⟨Ext.refl _, _, rfl, rfl⟩
      · refine wpOp_of_list (i := 13) rfl ?_
        obtain ⟨v29, h29, p29⟩ : ∃ v, a.tmps[29]? = some v ∧ Phi3 W0.heap.size A5 c5 A6 c6 10 v wc := hd _ rfl ⟨10, .data⟩ (Array.mem_of_getElem? (i := 0) rfl) rfl
        obtain ⟨A7, c7, A8, c8, rfl, p39⟩ := p29
        go_wp2_with fail
        exact ⟨Ext.refl _, _, rfl, rfl⟩
      · refine wpOp_of_list (i := 14) rfl ?_
        go_wp2_with fail
        exact ⟨(Ext.refl wc).alloc _, _, rfl, wc.heap.size, rfl, Blk.new _ _ _, hxx.size⟩
      · cases hh
      · cases hh
      · cases hh
    case fin =>
      intro listed a wc hsz hco htl hx hL hv
      obtain ⟨b12, hb12⟩ : ∃ b, listed.getD 12 false = b := ⟨_, rfl⟩
      obtain ⟨b13, hb13⟩ : ∃ b, listed.getD 13 false = b := ⟨_, rfl⟩
      have hl : listed = #[true, true, true, true, true, true, true, true, true, true, true, true, b12, b13, true, false, false, false] := by
        refine arr_eq hsz fun i hi => ?_
        have hi18 : i < 18 := hi
        have hcs : i = 0 ∨ i = 1 ∨ i = 2 ∨ i = 3 ∨ i = 4 ∨ i = 5 ∨ i = 6 ∨ i = 7 ∨ i = 8 ∨ i = 9 ∨ i = 10 ∨ i = 11 ∨ i = 12 ∨ i = 13 ∨ i = 14 ∨ i = 15 ∨ i = 16 ∨ i = 17 := by omega
        rcases hcs with rfl | rfl | rfl | rfl | rfl | rfl | rfl | rfl | rfl | rfl | rfl | rfl | rfl | rfl | rfl | rfl | rfl | rfl
        · exact hco 0 rfl
        · exact hco 1 rfl
        · exact hco 2 rfl
        · exact hco 3 rfl
        · exact hco 4 rfl
        · exact hco 5 rfl
        · exact hco 6 rfl
        · exact hco 7 rfl
        · exact hco 8 rfl
        · exact hco 9 rfl
        · exact hco 10 rfl
        · exact hco 11 rfl
        · exact hb12
        · exact hb13
        · exact hco 14 rfl
        · exact htl 15 (by decide) rfl
        · exact htl 16 (by decide) rfl
        · exact htl 17 (by decide) rfl
      obtain ⟨v30, h30, p30⟩ : ∃ v, a.tmps[30]? = some v ∧ Phi3 W0.heap.size A5 c5 A6 c6 0 v wc := hv 0 (by decide) rfl (hco 0 rfl)
      obtain ⟨v31, h31, p31⟩ : ∃ v, a.tmps[31]? = some v ∧ Phi3 W0.heap.size A5 c5 A6 c6 1 v wc := hv 1 (by decide) rfl (hco 1 rfl)
      obtain ⟨v32, h32, p32⟩ : ∃ v, a.tmps[32]? = some v ∧ Phi3 W0.heap.size A5 c5 A6 c6 2 v wc := hv 2 (by decide) rfl (hco 2 rfl)
      obtain ⟨v33, h33, p33⟩ : ∃ v, a.tmps[33]? = some v ∧ Phi3 W0.heap.size A5 c5 A6 c6 3 v wc := hv 3 (by decide) rfl (hco 3 rfl)
      obtain ⟨v34, h34, p34⟩ : ∃ v, a.tmps[34]? = some v ∧ Phi3 W0.heap.size A5 c5 A6 c6 4 v wc := hv 4 (by decide) rfl (hco 4 rfl)
      obtain ⟨v35, h35, p35⟩ : ∃ v, a.tmps[35]? = some v ∧ Phi3 W0.heap.size A5 c5 A6 c6 5 v wc := hv 5 (by decide) rfl (hco 5 rfl)
      obtain ⟨v36, h36, p36⟩ : ∃ v, a.tmps[36]? = some v ∧ Phi3 W0.heap.size A5 c5 A6 c6 6 v wc := hv 6 (by decide) rfl (hco 6 rfl)
      obtain ⟨v37, h37, p37⟩ : ∃ v, a.tmps[37]? = some v ∧ Phi3 W0.heap.size A5 c5 A6 c6 7 v wc := hv 7 (by decide) rfl (hco 7 rfl)
      obtain ⟨v38, h38, p38⟩ : ∃ v, a.tmps[38]? = some v ∧ Phi3 W0.heap.size A5 c5 A6 c6 8 v wc := hv 8 (by decide) rfl (hco 8 rfl)
      obtain ⟨v39, h39, p39⟩ : ∃ v, a.tmps[39]? = some v ∧ Phi3 W0.heap.size A5 c5 A6 c6 9 v wc := hv 9 (by decide) rfl (hco 9 rfl)
      obtain ⟨v29, h29, p29⟩ : ∃ v, a.tmps[29]? = some v ∧ Phi3 W0.heap.size A5 c5 A6 c6 10 v wc := hv 10 (by decide) rfl (hco 10 rfl)
      obtain ⟨v40, h40, p40⟩ : ∃ v, a.tmps[40]? = some v ∧ Phi3 W0.heap.size A5 c5 A6 c6 11 v wc := hv 11 (by decide) rfl (hco 11 rfl)
      obtain ⟨v41, h41⟩ : ∃ v, a.tmps[41]? = some v := ⟨_, Array.getElem?_eq_getElem (by rw [hL.sz]; show 41 < 166; decide)⟩
      have p41 : b12 = true → v41 = .int .i64 2 := fun hb => by
        obtain ⟨v, h, p⟩ : ∃ v, a.tmps[41]? = some v ∧ Phi3 W0.heap.size A5 c5 A6 c6 12 v wc := hv 12 (by decide) rfl (hb12.trans hb)
        rw [h41] at h
        cases h
        exact p
      obtain ⟨v42, h42⟩ : ∃ v, a.tmps[42]? = some v := ⟨_, Array.getElem?_eq_getElem (by rw [hL.sz]; show 42 < 166; decide)⟩
      have p42 : b13 = true → v42 = .int .i64 0 := fun hb => by
        obtain ⟨v, h, p⟩ : ∃ v, a.tmps[42]? = some v ∧ Phi3 W0.heap.size A5 c5 A6 c6 13 v wc := hv 13 (by decide) rfl (hb13.trans hb)
        rw [h42] at h
        cases h
        exact p
      obtain ⟨v7, h7, p7⟩ : ∃ v, a.tmps[7]? = some v ∧ Phi3 W0.heap.size A5 c5 A6 c6 14 v wc := hv 14 (by decide) rfl (hco 14 rfl)
      have ha := hL.eq (dl := [30, 31, 32, 33, 34, 35, 36, 37, 38, 39, 29, 40, 41, 42, 7]) (xs := [v30, v31, v32, v33, v34, v35, v36, v37, v38, v39, v29, v40, v41, v42, v7]) (show ∀ i, i < 18 → hdOf ks3 i = true → ddOf ks3 i ∈ [30, 31, 32, 33, 34, 35, 36, 37, 38, 39, 29, 40, 41, 42, 7] from by decide) (by decide) (show ∀ d ∈ [30, 31, 32, 33, 34, 35, 36, 37, 38, 39, 29, 40, 41, 42, 7], d < 166 from by decide) rfl (fun i d hd => by
        rcases i with _ | _ | _ | _ | _ | _ | _ | _ | _ | _ | _ | _ | _ | _ | _ | i
        · cases hd; exact h30
        · cases hd; exact h31
        · cases hd; exact h32
        · cases hd; exact h33
        · cases hd; exact h34
        · cases hd; exact h35
        · cases hd; exact h36
        · cases hd; exact h37
        · cases hd; exact h38
        · cases hd; exact h39
        · cases hd; exact h29
        · cases hd; exact h40
        · cases hd; exact h41
        · cases hd; exact h42
        · cases hd; exact h7
        · simp at hd)
      clear hv hL hco htl hsz hb12 hb13 h30 h31 h32 h33 h34 h35 h36 h37 h38 h39 h29 h40 h41 h42 h7
      obtain rfl := p30
      obtain rfl := p31
      obtain rfl := p32
      obtain ⟨g33, rfl, p33⟩ := p33
      obtain ⟨g34, rfl, p34⟩ := p34
      obtain rfl := p35
      obtain ⟨g36, rfl, p36⟩ := p36
      obtain ⟨g37, rfl, p37⟩ := p37
      obtain ⟨g38, rfl, p38⟩ := p38
      obtain ⟨A39, c39, B39, d39, rfl, p39⟩ := p39
      obtain ⟨A29, c29, B29, d29, rfl, p29⟩ := p29
      obtain ⟨A7, c7, A8, c8, rfl, p40⟩ := p40
      obtain ⟨g7, rfl, p7, hg7⟩ := p7
      subst ha
      subst hl
      simp only [putAll, Act.put, List.setIfInBounds_toArray, List.set_cons_zero, List.set_cons_succ]
      obtain ⟨m1, m2, m3, m4⟩ := p7.f2
      have hW : W0.heap.size ≤ wc.heap.size := hx.size
      cases b12
      · cases b13
        · show wpAnyF _ _ _ _ _ _ 5 _ _ _
          refine wpAnyF_taked (i := 12) (v := ?vz1_) 41 rfl rfl (by kernel_rfl) (by kernel_rfl) (by kernel_rfl) (by kernel_rfl) (fun _ _ _ h => h) (Or.inl ⟨by rfl, ?yz1_⟩) (by show Ext _ _; (repeat (first | (with_reducible exact Ext.refl _) | assumption | (with_reducible refine Ext.alloc ?_ _) | (with_reducible refine Ext.drew ?_) | (with_reducible refine Ext.trans ?_ (by assumption))))) ?rz1_
          case' yz1_ => intro w' hSw; go_simp; first | done | with_reducible rfl
          case' rz1_ => simp only [Act.put, List.setIfInBounds_toArray, List.set_cons_zero, List.set_cons_succ]
          refine wpAnyF_taked (i := 13) (v := ?vz2_) 42 rfl rfl (by kernel_rfl) (by kernel_rfl) (by kernel_rfl) (by kernel_rfl) (fun _ _ _ h => h) (Or.inl ⟨by rfl, ?yz2_⟩) (by show Ext _ _; (repeat (first | (with_reducible exact Ext.refl _) | assumption | (with_reducible refine Ext.alloc ?_ _) | (with_reducible refine Ext.drew ?_) | (with_reducible refine Ext.trans ?_ (by assumption))))) ?rz2_
          case' yz2_ => intro w' hSw; go_simp; first | done | with_reducible rfl
          case' rz2_ => simp only [Act.put, List.setIfInBounds_toArray, List.set_cons_zero, List.set_cons_succ]
          have hSS := Lib.hid ((hx.set (p := ⟨g7, 0, none⟩) hg7 (.slice A7 3 c7)).set (p := ⟨g7, 1, none⟩) hg7 (.slice A8 3 c8))
          refine wpAnyF_one (i := 15) (by kernel_rfl) rfl ?_
          go_wp2_with fail
          first | refine Stop_.go ⟨hSS.out, ?_⟩ | refine Stop_.go ⟨fun _ => hSS.out, ?_⟩
          refine wpAnyF_one (i := 16) (by kernel_rfl) rfl ?_
          go_wp2_with fail
          first | refine Stop_.go ⟨hSS.out, ?_⟩ | refine Stop_.go ⟨fun _ => hSS.out, ?_⟩
          refine wpAnyF_one (i := 17) (by kernel_rfl) rfl ?_
          go_wp2_with fail
          first | refine Stop_.go ⟨fun h => absurd rfl h, ?_⟩ | refine Stop_.go ?_
          refine ⟨by kernel_rfl, ?_⟩
          go_wp2_with fail
          go_meet
          exact ⟨rfl, rfl, (Ext.refl W0).drew.trans hSS.out, g7, A7, c7, A8, c8, rfl, (p7.set0 _).set1 _, (p40.setne p7 0 _).setne (p7.set0 _) 1 _⟩
        · show wpAnyF _ _ _ _ _ _ 4 _ _ _
          refine wpAnyF_taked (i := 12) (v := ?vz3_) 41 rfl rfl (by kernel_rfl) (by kernel_rfl) (by kernel_rfl) (by kernel_rfl) (fun _ _ _ h => h) (Or.inl ⟨by rfl, ?yz3_⟩) (by show Ext _ _; (repeat (first | (with_reducible exact Ext.refl _) | assumption | (with_reducible refine Ext.alloc ?_ _) | (with_reducible refine Ext.drew ?_) | (with_reducible refine Ext.trans ?_ (by assumption))))) ?rz3_
          case' yz3_ => intro w' hSw; go_simp; first | done | with_reducible rfl
          case' rz3_ => simp only [Act.put, List.setIfInBounds_toArray, List.set_cons_zero, List.set_cons_succ]
          obtain rfl := p42 rfl
          have hSS := Lib.hid ((hx.set (p := ⟨g7, 0, none⟩) hg7 (.slice A7 3 c7)).set (p := ⟨g7, 1, none⟩) hg7 (.slice A8 3 c8))
          refine wpAnyF_one (i := 15) (by kernel_rfl) rfl ?_
          go_wp2_with fail
          first | refine Stop_.go ⟨hSS.out, ?_⟩ | refine Stop_.go ⟨fun _ => hSS.out, ?_⟩
          refine wpAnyF_one (i := 16) (by kernel_rfl) rfl ?_
          go_wp2_with fail
          first | refine Stop_.go ⟨hSS.out, ?_⟩ | refine Stop_.go ⟨fun _ => hSS.out, ?_⟩
          refine wpAnyF_one (i := 17) (by kernel_rfl) rfl ?_
          go_wp2_with fail
          first | refine Stop_.go ⟨fun h => absurd rfl h, ?_⟩ | refine Stop_.go ?_
          refine ⟨by kernel_rfl, ?_⟩
          go_wp2_with fail
          go_meet
          exact ⟨rfl, rfl, (Ext.refl W0).drew.trans hSS.out, g7, A7, c7, A8, c8, rfl, (p7.set0 _).set1 _, (p40.setne p7 0 _).setne (p7.set0 _) 1 _⟩
      · cases b13
        · show wpAnyF _ _ _ _ _ _ 4 _ _ _
          obtain rfl := p41 rfl
          refine wpAnyF_taked (i := 13) (v := ?vz4_) 42 rfl rfl (by kernel_rfl) (by kernel_rfl) (by kernel_rfl) (by kernel_rfl) (fun _ _ _ h => h) (Or.inl ⟨by rfl, ?yz4_⟩) (by show Ext _ _; (repeat (first | (with_reducible exact Ext.refl _) | assumption | (with_reducible refine Ext.alloc ?_ _) | (with_reducible refine Ext.drew ?_) | (with_reducible refine Ext.trans ?_ (by assumption))))) ?rz4_
          case' yz4_ => intro w' hSw; go_simp; first | done | with_reducible rfl
          case' rz4_ => simp only [Act.put, List.setIfInBounds_toArray, List.set_cons_zero, List.set_cons_succ]
          have hSS := Lib.hid ((hx.set (p := ⟨g7, 0, none⟩) hg7 (.slice A7 3 c7)).set (p := ⟨g7, 1, none⟩) hg7 (.slice A8 3 c8))
          refine wpAnyF_one (i := 15) (by kernel_rfl) rfl ?_
          go_wp2_with fail
          first | refine Stop_.go ⟨hSS.out, ?_⟩ | refine Stop_.go ⟨fun _ => hSS.out, ?_⟩
          refine wpAnyF_one (i := 16) (by kernel_rfl) rfl ?_
          go_wp2_with fail
          first | refine Stop_.go ⟨hSS.out, ?_⟩ | refine Stop_.go ⟨fun _ => hSS.out, ?_⟩
          refine wpAnyF_one (i := 17) (by kernel_rfl) rfl ?_
          go_wp2_with fail
          first | refine Stop_.go ⟨fun h => absurd rfl h, ?_⟩ | refine Stop_.go ?_
          refine ⟨by kernel_rfl, ?_⟩
          go_wp2_with fail
          go_meet
          exact ⟨rfl, rfl, (Ext.refl W0).drew.trans hSS.out, g7, A7, c7, A8, c8, rfl, (p7.set0 _).set1 _, (p40.setne p7 0 _).setne (p7.set0 _) 1 _⟩
        · show wpAnyF _ _ _ _ _ _ 3 _ _ _
          obtain rfl := p41 rfl
          obtain rfl := p42 rfl
          have hSS := Lib.hid ((hx.set (p := ⟨g7, 0, none⟩) hg7 (.slice A7 3 c7)).set (p := ⟨g7, 1, none⟩) hg7 (.slice A8 3 c8))
          refine wpAnyF_one (i := 15) (by kernel_rfl) rfl ?_
          go_wp2_with fail
          first | refine Stop_.go ⟨hSS.out, ?_⟩ | refine Stop_.go ⟨fun _ => hSS.out, ?_⟩
          refine wpAnyF_one (i := 16) (by kernel_rfl) rfl ?_
          go_wp2_with fail
          first | refine Stop_.go ⟨hSS.out, ?_⟩ | refine Stop_.go ⟨fun _ => hSS.out, ?_⟩
          refine wpAnyF_one (i := 17) (by kernel_rfl) rfl ?_
          go_wp2_with fail
          first | refine Stop_.go ⟨fun h => absurd rfl h, ?_⟩ | refine Stop_.go ?_
          refine ⟨by kernel_rfl, ?_⟩
          go_wp2_with fail
          go_meet
          exact ⟨rfl, rfl, (Ext.refl W0).drew.trans hSS.out, g7, A7, c7, A8, c8, rfl, (p7.set0 _).set1 _, (p40.setne p7 0 _).setne (p7.set0 _) 1 _⟩
  case rest =>
    obtain ⟨rfl, rfl, hx0, g7, A7, c7, A8, c8, rfl, D7, hR7⟩ := hcut
    replace aw := aw.ext hx0
    replace D5 := D5.ext hx0
    replace hDR := hDR.ext hx0
    replace hE0 := hE0.trans hx0
    clear h20 hwf1 hx0
    have hrd := fun W hx => read16 (.agg #[.slice A7 3 c7, .slice A8 3 c8]) sE 0 3 W (hR7.ext hx) (by decide) (by decide) ⟨by decide, by decide⟩ ⟨by decide, by decide⟩
    rw [e2] at hrd
    obtain ⟨m1, m2, m3, m4⟩ := D7.f2
    obtain ⟨fa0, fa1, fa2, fa3, fa4, fa5, fa6, fa7⟩ := (aw.s1).f8
    obtain ⟨fb0, fb1, fb2, fb3, fb4, fb5, fb6, fb7⟩ := (aw.s2).f8
    obtain ⟨fc0, fc1, fc2, fc3, fc4, fc5, fc6, fc7⟩ := (aw.s3).f8
    obtain ⟨fd0, fd1, fd2, fd3, fd4, fd5, fd6, fd7⟩ := (aw.s4).f8
    go_upto_region 7 with (first
      | (go_at_call 16; refine (hrd _ (Ext.refl _)).mono ?_; rintro e w6 ⟨v10, rfl, hr10, hf10, hx6⟩; obtain ⟨A10, c10, rfl⟩ := rd_slice hr10; replace aw := aw.ext hx6; obtain ⟨fa0, fa1, fa2, fa3, fa4, fa5, fa6, fa7⟩ := (aw.s1).f8; obtain ⟨fb0, fb1, fb2, fb3, fb4, fb5, fb6, fb7⟩ := (aw.s2).f8; obtain ⟨fc0, fc1, fc2, fc3, fc4, fc5, fc6, fc7⟩ := (aw.s3).f8; obtain ⟨fd0, fd1, fd2, fd3, fd4, fd5, fd6, fd7⟩ := (aw.s4).f8; obtain ⟨m1, m2, m3, m4⟩ := (D7.ext hx6).f2)
      | (go_at_call 19; refine (same19t [sec 1, sec 3, Sec.z] 3 _ _ _ rfl (hr10.ext (by (repeat (first | (with_reducible exact Ext.refl _) | assumption | (with_reducible refine Ext.alloc ?_ _) | (with_reducible refine Ext.drew ?_) | (with_reducible refine Ext.trans ?_ (by assumption)))))) (rd_blk (n := 3) (t := 65) (cs := #[.int .u8 1, .int .u8 0, .int .u8 0, .int .u8 0, .int .u8 0, .int .u8 0, .int .u8 0, .int .u8 0, .int .u8 3, .int .u8 0, .int .u8 0, .int .u8 0, .int .u8 0, .int .u8 0, .int .u8 0, .int .u8 0, .int .u8 0, .int .u8 0, .int .u8 0, .int .u8 0, .int .u8 0, .int .u8 0, .int .u8 0, .int .u8 0]) (by (repeat (first | (with_reducible exact Blk.new' (by simp only [size_drew', World.size_alloc])) | (with_reducible refine Blk.alloc ?_ _) | (with_reducible refine Blk.drew ?_) | (with_reducible refine Blk.ext ?_ (by assumption))))) (by rfl) (by rfl)) (by decide)).mono ?_; rintro e w7 ⟨rfl, hx7⟩)
      | fail)
    replace aw : Aw w7 p := aw.ext (by (repeat (first | (with_reducible exact Ext.refl _) | assumption | (with_reducible refine Ext.alloc ?_ _) | (with_reducible refine Ext.drew ?_) | (with_reducible refine Ext.trans ?_ (by assumption)))))
    have hE7 : Ext wc w7 := by (repeat (first | (with_reducible exact Ext.refl _) | assumption | (with_reducible refine Ext.alloc ?_ _) | (with_reducible refine Ext.drew ?_) | (with_reducible refine Ext.trans ?_ (by assumption))))
    have hE7' : Ext w w7 := hE0.trans hE7
    replace hDR := hDR.ext hE7
    replace D5 := D5.ext hE7
    have D7w := D7.ext hE7
    have hR7w := hR7.ext hE7
    go_cut [101] from 72 to 101 (fun t wx => t = .bool false ∧ Ext w7 wx)
    case first =>
      refine wp_region_head ks7 29 (Phi7 A7 c7 A8 c8) (by kernel_rfl) (by kernel_rfl) (by rfl) (fun i v w w' _ _ hx h => Phi7.mono _ _ _ _ i v w w' hx h) ?step ?fin
      case step =>
        intro i a wc hi hh hx hL hd
        have hxx : Ext w7 wc := (Ext.refl w7).drew.trans hx
        have hi30 : i < 30 := hi
        have hcs : i = 0 ∨ i = 1 ∨ i = 2 ∨ i = 3 ∨ i = 4 ∨ i = 5 ∨ i = 6 ∨ i = 7 ∨ i = 8 ∨ i = 9 ∨ i = 10 ∨ i = 11 ∨ i = 12 ∨ i = 13 ∨ i = 14 ∨ i = 15 ∨ i = 16 ∨ i = 17 ∨ i = 18 ∨ i = 19 ∨ i = 20 ∨ i = 21 ∨ i = 22 ∨ i = 23 ∨ i = 24 ∨ i = 25 ∨ i = 26 ∨ i = 27 ∨ i = 28 ∨ i = 29 := by omega
        clear hi hi30
        rcases hcs with rfl | rfl | rfl | rfl | rfl | rfl | rfl | rfl | rfl | rfl | rfl | rfl | rfl | rfl | rfl | rfl | rfl | rfl | rfl | rfl | rfl | rfl | rfl | rfl | rfl | rfl | rfl | rfl | rfl | rfl
        · refine wpOp_of_list (i := 0) rfl ?_
          have h7 := (hL.oth 7 (by decide)).trans rfl
          obtain ⟨x1, x2, x3, x4⟩ := (D7w.ext hxx).f2
          go_wp2_with fail
          exact ⟨Ext.refl _, _, rfl, rfl⟩
        · refine wpOp_of_list (i := 1) rfl ?_
          go_wp2_with fail
          exact ⟨(Ext.refl wc).alloc _, _, rfl, wc.heap.size, rfl, Blk.new _ _ _⟩
        · refine wpOp_of_list (i := 2) rfl ?_
          obtain ⟨v72, h72, p72⟩ : ∃ v, a.tmps[72]? = some v ∧ Phi7 A7 c7 A8 c8 0 v wc := hd _ rfl ⟨0, .data⟩ (Array.mem_of_getElem? (i := 0) rfl) rfl
          obtain rfl := p72
          obtain ⟨v73, h73, p73⟩ : ∃ v, a.tmps[73]? = some v ∧ Phi7 A7 c7 A8 c8 1 v wc := hd _ rfl ⟨1, .data⟩ (Array.mem_of_getElem? (i := 1) rfl) rfl
          obtain ⟨g73, rfl, q73⟩ := p73
          have hcl := crashed41 (.agg #[.slice A7 3 c7, .slice A8 3 c8]) _ sE [1, 1] wc (hR7w.ext hxx) (rd_blk (n := 2) q73 rfl rfl) (by decide) (by decide) (by decide) (by decide) (by decide)
          rw [e3] at hcl
          go_wp2_with (first
            | (go_at_call 41; refine hcl.mono ?_; rintro e w4 ⟨A4, c4, rfl, hr4, hx4⟩)
            | fail)
          exact ⟨hx4, _, rfl, A4, c4, rfl, hr4⟩
        · refine wpOp_of_list (i := 3) rfl ?_
          have h1 := (hL.oth 1 (by decide)).trans rfl
          obtain ⟨fa0, fa1, fa2, fa3, fa4, fa5, fa6, fa7⟩ := (aw.s1.ext hxx).f8
          go_wp2_with fail
          exact ⟨Ext.refl _, _, rfl, rfl⟩
        · refine wpOp_of_list (i := 4) rfl ?_
          have h2 := (hL.oth 2 (by decide)).trans rfl
          obtain ⟨fb0, fb1, fb2, fb3, fb4, fb5, fb6, fb7⟩ := (aw.s2.ext hxx).f8
          go_wp2_with fail
          exact ⟨Ext.refl _, _, rfl, rfl⟩
        · refine wpOp_of_list (i := 5) rfl ?_
          have h4 := (hL.oth 4 (by decide)).trans rfl
          obtain ⟨fd0, fd1, fd2, fd3, fd4, fd5, fd6, fd7⟩ := (aw.s4.ext hxx).f8
          go_wp2_with fail
          exact ⟨Ext.refl _, _, rfl, rfl⟩
        · refine wpOp_of_list (i := 6) rfl ?_
          obtain ⟨v75, h75, p75⟩ : ∃ v, a.tmps[75]? = some v ∧ Phi7 A7 c7 A8 c8 3 v wc := hd _ rfl ⟨3, .data⟩ (Array.mem_of_getElem? (i := 0) rfl) rfl
          obtain rfl := p75
          obtain ⟨v76, h76, p76⟩ : ∃ v, a.tmps[76]? = some v ∧ Phi7 A7 c7 A8 c8 4 v wc := hd _ rfl ⟨4, .data⟩ (Array.mem_of_getElem? (i := 1) rfl) rfl
          obtain rfl := p76
          obtain ⟨v77, h77, p77⟩ : ∃ v, a.tmps[77]? = some v ∧ Phi7 A7 c7 A8 c8 5 v wc := hd _ rfl ⟨5, .data⟩ (Array.mem_of_getElem? (i := 2) rfl) rfl
          obtain rfl := p77
          go_wp2_with fail
          exact ⟨(Ext.refl wc).alloc _, _, rfl, wc.heap.size, rfl, Blk.new _ _ _⟩
        · refine wpOp_of_list (i := 7) rfl ?_
          obtain ⟨v74, h74, p74⟩ : ∃ v, a.tmps[74]? = some v ∧ Phi7 A7 c7 A8 c8 2 v wc := hd _ rfl ⟨2, .data⟩ (Array.mem_of_getElem? (i := 0) rfl) rfl
          obtain ⟨A74, c74, rfl, q74⟩ := p74
          obtain ⟨v78, h78, p78⟩ : ∃ v, a.tmps[78]? = some v ∧ Phi7 A7 c7 A8 c8 6 v wc := hd _ rfl ⟨6, .data⟩ (Array.mem_of_getElem? (i := 1) rfl) rfl
          obtain ⟨g78, rfl, q78⟩ := p78
          go_wp2_with (first
            | (go_at_call 19; refine (same19t [sec 1, sec 2, Sec.z] 3 _ _ _ rfl q74 (rd_blk (n := 3) q78 rfl rfl) (by decide)).mono ?_; rintro e w4 ⟨rfl, hx4⟩)
            | fail)
          exact ⟨hx4, _, rfl, rfl⟩
        · refine wpOp_of_list (i := 8) rfl ?_
          obtain ⟨v79, h79, p79⟩ : ∃ v, a.tmps[79]? = some v ∧ Phi7 A7 c7 A8 c8 7 v wc := hd _ rfl ⟨7, .data⟩ (Array.mem_of_getElem? (i := 0) rfl) rfl
          obtain rfl := p79
          go_wp2_with fail
          exact ⟨Ext.refl _, _, rfl, rfl⟩
        · refine wpOp_of_list (i := 9) rfl ?_
          obtain ⟨v80, h80, p80⟩ : ∃ v, a.tmps[80]? = some v ∧ Phi7 A7 c7 A8 c8 8 v wc := hd _ rfl ⟨8, .data⟩ (Array.mem_of_getElem? (i := 0) rfl) rfl
          obtain rfl := p80
          go_wp2_with fail
          exact ⟨Ext.refl _, _, rfl, rfl⟩
        · refine wpOp_of_list (i := 10) rfl ?_
          obtain ⟨v81, h81, p81⟩ : ∃ v, a.tmps[81]? = some v ∧ Phi7 A7 c7 A8 c8 9 v wc := hd _ rfl ⟨9, .guard⟩ (Array.mem_of_getElem? (i := 0) rfl) rfl
          obtain rfl := p81
          have h7 := (hL.oth 7 (by decide)).trans rfl
          obtain ⟨x1, x2, x3, x4⟩ := (D7w.ext hxx).f2
          go_wp2_with fail
          exact ⟨Ext.refl _, _, rfl, rfl⟩
        · refine wpOp_of_list (i := 11) rfl ?_
          obtain ⟨v81, h81, p81⟩ : ∃ v, a.tmps[81]? = some v ∧ Phi7 A7 c7 A8 c8 9 v wc := hd _ rfl ⟨9, .guard⟩ (Array.mem_of_getElem? (i := 0) rfl) rfl
          obtain rfl := p81
          go_wp2_with fail
          exact ⟨(Ext.refl wc).alloc _, _, rfl, wc.heap.size, rfl, Blk.new _ _ _⟩
        · refine wpOp_of_list (i := 12) rfl ?_
          obtain ⟨v82, h82, p82⟩ : ∃ v, a.tmps[82]? = some v ∧ Phi7 A7 c7 A8 c8 10 v wc := hd _ rfl ⟨10, .data⟩ (Array.mem_of_getElem? (i := 0) rfl) rfl
          obtain rfl := p82
          obtain ⟨v83, h83, p83⟩ : ∃ v, a.tmps[83]? = some v ∧ Phi7 A7 c7 A8 c8 11 v wc := hd _ rfl ⟨11, .data⟩ (Array.mem_of_getElem? (i := 1) rfl) rfl
          obtain ⟨g83, rfl, q83⟩ := p83
          obtain ⟨v81, h81, p81⟩ : ∃ v, a.tmps[81]? = some v ∧ Phi7 A7 c7 A8 c8 9 v wc := hd _ rfl ⟨9, .chain⟩ (Array.mem_of_getElem? (i := 2) rfl) rfl
          obtain rfl := p81
          have hcl := crashed41 (.agg #[.slice A7 3 c7, .slice A8 3 c8]) _ sE [4, 5] wc (hR7w.ext hxx) (rd_blk (n := 2) q83 rfl rfl) (by decide) (by decide) (by decide) (by decide) (by decide)
          rw [e4] at hcl
          go_wp2_with (first
            | (go_at_call 41; refine hcl.mono ?_; rintro e w4 ⟨A4, c4, rfl, hr4, hx4⟩)
            | fail)
          exact ⟨hx4, _, rfl, A4, c4, rfl, hr4⟩
        · refine wpOp_of_list (i := 13) rfl ?_
          obtain ⟨v81, h81, p81⟩ : ∃ v, a.tmps[81]? = some v ∧ Phi7 A7 c7 A8 c8 9 v wc := hd _ rfl ⟨9, .guard⟩ (Array.mem_of_getElem? (i := 0) rfl) rfl
          obtain rfl := p81
          have h4 := (hL.oth 4 (by decide)).trans rfl
          obtain ⟨fd0, fd1, fd2, fd3, fd4, fd5, fd6, fd7⟩ := (aw.s4.ext hxx).f8
          go_wp2_with fail
          exact ⟨Ext.refl _, _, rfl, rfl⟩
        · refine wpOp_of_list (i := 14) rfl ?_
          obtain ⟨v81, h81, p81⟩ : ∃ v, a.tmps[81]? = some v ∧ Phi7 A7 c7 A8 c8 9 v wc := hd _ rfl ⟨9, .guard⟩ (Array.mem_of_getElem? (i := 0) rfl) rfl
          obtain rfl := p81
          have h3 := (hL.oth 3 (by decide)).trans rfl
          obtain ⟨fc0, fc1, fc2, fc3, fc4, fc5, fc6, fc7⟩ := (aw.s3.ext hxx).f8
          go_wp2_with fail
          exact ⟨Ext.refl _, _, rfl, rfl⟩
        · refine wpOp_of_list (i := 15) rfl ?_
          obtain ⟨v81, h81, p81⟩ : ∃ v, a.tmps[81]? = some v ∧ Phi7 A7 c7 A8 c8 9 v wc := hd _ rfl ⟨9, .guard⟩ (Array.mem_of_getElem? (i := 0) rfl) rfl
          obtain rfl := p81
          have h4 := (hL.oth 4 (by decide)).trans rfl
          obtain ⟨fd0, fd1, fd2, fd3, fd4, fd5, fd6, fd7⟩ := (aw.s4.ext hxx).f8
          go_wp2_with fail
          exact ⟨Ext.refl _, _, rfl, rfl⟩
        · refine wpOp_of_list (i := 16) rfl ?_
          obtain ⟨v85, h85, p85⟩ : ∃ v, a.tmps[85]? = some v ∧ Phi7 A7 c7 A8 c8 13 v wc := hd _ rfl ⟨13, .data⟩ (Array.mem_of_getElem? (i := 0) rfl) rfl
          obtain rfl := p85
          obtain ⟨v86, h86, p86⟩ : ∃ v, a.tmps[86]? = some v ∧ Phi7 A7 c7 A8 c8 14 v wc := hd _ rfl ⟨14, .data⟩ (Array.mem_of_getElem? (i := 1) rfl) rfl
          obtain rfl := p86
          obtain ⟨v87, h87, p87⟩ : ∃ v, a.tmps[87]? = some v ∧ Phi7 A7 c7 A8 c8 15 v wc := hd _ rfl ⟨15, .data⟩ (Array.mem_of_getElem? (i := 2) rfl) rfl
          obtain rfl := p87
          obtain ⟨v81, h81, p81⟩ : ∃ v, a.tmps[81]? = some v ∧ Phi7 A7 c7 A8 c8 9 v wc := hd _ rfl ⟨9, .guard⟩ (Array.mem_of_getElem? (i := 3) rfl) rfl
          obtain rfl := p81
          go_wp2_with fail
          exact ⟨(Ext.refl wc).alloc _, _, rfl, wc.heap.size, rfl, Blk.new _ _ _⟩
        · refine wpOp_of_list (i := 17) rfl ?_
          obtain ⟨v84, h84, p84⟩ : ∃ v, a.tmps[84]? = some v ∧ Phi7 A7 c7 A8 c8 12 v wc := hd _ rfl ⟨12, .data⟩ (Array.mem_of_getElem? (i := 0) rfl) rfl
          obtain ⟨A84, c84, rfl, q84⟩ := p84
          obtain ⟨v88, h88, p88⟩ : ∃ v, a.tmps[88]? = some v ∧ Phi7 A7 c7 A8 c8 16 v wc := hd _ rfl ⟨16, .data⟩ (Array.mem_of_getElem? (i := 1) rfl) rfl
          obtain ⟨g88, rfl, q88⟩ := p88
          obtain ⟨v81, h81, p81⟩ : ∃ v, a.tmps[81]? = some v ∧ Phi7 A7 c7 A8 c8 9 v wc := hd _ rfl ⟨9, .guard⟩ (Array.mem_of_getElem? (i := 3) rfl) rfl
          obtain rfl := p81
          go_wp2_with (first
            | (go_at_call 19; refine (same19t [Sec.z, sec 3, Sec.z] 3 _ _ _ rfl q84 (rd_blk (n := 3) q88 rfl rfl) (by decide)).mono ?_; rintro e w4 ⟨rfl, hx4⟩)
            | fail)
          exact ⟨hx4, _, rfl, rfl⟩
        · refine wpOp_of_list (i := 18) rfl ?_
          obtain ⟨v89, h89, p89⟩ : ∃ v, a.tmps[89]? = some v ∧ Phi7 A7 c7 A8 c8 17 v wc := hd _ rfl ⟨17, .data⟩ (Array.mem_of_getElem? (i := 0) rfl) rfl
          obtain rfl := p89
          obtain ⟨v81, h81, p81⟩ : ∃ v, a.tmps[81]? = some v ∧ Phi7 A7 c7 A8 c8 9 v wc := hd _ rfl ⟨9, .guard⟩ (Array.mem_of_getElem? (i := 1) rfl) rfl
          obtain rfl := p81
          go_wp2_with fail
          exact ⟨Ext.refl _, _, rfl, rfl⟩
        · refine wpOp_of_list (i := 19) rfl ?_
          obtain ⟨v81, h81, p81⟩ : ∃ v, a.tmps[81]? = some v ∧ Phi7 A7 c7 A8 c8 9 v wc := hd _ rfl ⟨9, .data⟩ (Array.mem_of_getElem? (i := 0) rfl) rfl
          obtain rfl := p81
          obtain ⟨v90, h90, p90⟩ : ∃ v, a.tmps[90]? = some v ∧ Phi7 A7 c7 A8 c8 18 v wc := hd _ rfl ⟨18, .data⟩ (Array.mem_of_getElem? (i := 1) rfl) rfl
          obtain rfl := p90
          go_wp2_with fail
          exact ⟨Ext.refl _, _, rfl, rfl⟩
        · refine wpOp_of_list (i := 20) rfl ?_
          obtain ⟨v91, h91, p91⟩ : ∃ v, a.tmps[91]? = some v ∧ Phi7 A7 c7 A8 c8 19 v wc := hd _ rfl ⟨19, .data⟩ (Array.mem_of_getElem? (i := 0) rfl) rfl
          obtain rfl := p91
          go_wp2_with fail
          exact ⟨Ext.refl _, _, rfl, rfl⟩
        · refine wpOp_of_list (i := 21) rfl ?_
          obtain ⟨v92, h92, p92⟩ : ∃ v, a.tmps[92]? = some v ∧ Phi7 A7 c7 A8 c8 20 v wc := hd _ rfl ⟨20, .guard⟩ (Array.mem_of_getElem? (i := 0) rfl) rfl
          obtain rfl := p92
          have h7 := (hL.oth 7 (by decide)).trans rfl
          obtain ⟨x1, x2, x3, x4⟩ := (D7w.ext hxx).f2
          go_wp2_with fail
          exact ⟨Ext.refl _, _, rfl, rfl⟩
        · refine wpOp_of_list (i := 22) rfl ?_
          obtain ⟨v93, h93, p93⟩ : ∃ v, a.tmps[93]? = some v ∧ Phi7 A7 c7 A8 c8 21 v wc := hd _ rfl ⟨21, .data⟩ (Array.mem_of_getElem? (i := 0) rfl) rfl
          obtain rfl := p93
          obtain ⟨v92, h92, p92⟩ : ∃ v, a.tmps[92]? = some v ∧ Phi7 A7 c7 A8 c8 20 v wc := hd _ rfl ⟨20, .chain⟩ (Array.mem_of_getElem? (i := 1) rfl) rfl
          obtain rfl := p92
          have hcl := crashed41 (.agg #[.slice A7 3 c7, .slice A8 3 c8]) _ sE [] wc (hR7w.ext hxx) (rd_nil _ _) (by decide) (by decide) (by decide) (by decide) (by decide)
          rw [e5] at hcl
          go_wp2_with (first
            | (go_at_call 41; refine hcl.mono ?_; rintro e w4 ⟨A4, c4, rfl, hr4, hx4⟩)
            | fail)
          exact ⟨hx4, _, rfl, A4, c4, rfl, hr4⟩
        · refine wpOp_of_list (i := 23) rfl ?_
          obtain ⟨v92, h92, p92⟩ : ∃ v, a.tmps[92]? = some v ∧ Phi7 A7 c7 A8 c8 20 v wc := hd _ rfl ⟨20, .guard⟩ (Array.mem_of_getElem? (i := 0) rfl) rfl
          obtain rfl := p92
          have h4 := (hL.oth 4 (by decide)).trans rfl
          obtain ⟨fd0, fd1, fd2, fd3, fd4, fd5, fd6, fd7⟩ := (aw.s4.ext hxx).f8
          go_wp2_with fail
          exact ⟨Ext.refl _, _, rfl, rfl⟩
        · refine wpOp_of_list (i := 24) rfl ?_
          obtain ⟨v92, h92, p92⟩ : ∃ v, a.tmps[92]? = some v ∧ Phi7 A7 c7 A8 c8 20 v wc := hd _ rfl ⟨20, .guard⟩ (Array.mem_of_getElem? (i := 0) rfl) rfl
          obtain rfl := p92
          have h4 := (hL.oth 4 (by decide)).trans rfl
          obtain ⟨fd0, fd1, fd2, fd3, fd4, fd5, fd6, fd7⟩ := (aw.s4.ext hxx).f8
          go_wp2_with fail
          exact ⟨Ext.refl _, _, rfl, rfl⟩
        · refine wpOp_of_list (i := 25) rfl ?_
          obtain ⟨v92, h92, p92⟩ : ∃ v, a.tmps[92]? = some v ∧ Phi7 A7 c7 A8 c8 20 v wc := hd _ rfl ⟨20, .guard⟩ (Array.mem_of_getElem? (i := 0) rfl) rfl
          obtain rfl := p92
          have h4 := (hL.oth 4 (by decide)).trans rfl
          obtain ⟨fd0, fd1, fd2, fd3, fd4, fd5, fd6, fd7⟩ := (aw.s4.ext hxx).f8
          go_wp2_with fail
          exact ⟨Ext.refl _, _, rfl, rfl⟩
        · refine wpOp_of_list (i := 26) rfl ?_
          obtain ⟨v95, h95, p95⟩ : ∃ v, a.tmps[95]? = some v ∧ Phi7 A7 c7 A8 c8 23 v wc := hd _ rfl ⟨23, .data⟩ (Array.mem_of_getElem? (i := 0) rfl) rfl
          obtain rfl := p95
          obtain ⟨v96, h96, p96⟩ : ∃ v, a.tmps[96]? = some v ∧ Phi7 A7 c7 A8 c8 24 v wc := hd _ rfl ⟨24, .data⟩ (Array.mem_of_getElem? (i := 1) rfl) rfl
          obtain rfl := p96
          obtain ⟨v97, h97, p97⟩ : ∃ v, a.tmps[97]? = some v ∧ Phi7 A7 c7 A8 c8 25 v wc := hd _ rfl ⟨25, .data⟩ (Array.mem_of_getElem? (i := 2) rfl) rfl
          obtain rfl := p97
          obtain ⟨v92, h92, p92⟩ : ∃ v, a.tmps[92]? = some v ∧ Phi7 A7 c7 A8 c8 20 v wc := hd _ rfl ⟨20, .guard⟩ (Array.mem_of_getElem? (i := 3) rfl) rfl
          obtain rfl := p92
          go_wp2_with fail
          exact ⟨(Ext.refl wc).alloc _, _, rfl, wc.heap.size, rfl, Blk.new _ _ _⟩
        · refine wpOp_of_list (i := 27) rfl ?_
          obtain ⟨v94, h94, p94⟩ : ∃ v, a.tmps[94]? = some v ∧ Phi7 A7 c7 A8 c8 22 v wc := hd _ rfl ⟨22, .data⟩ (Array.mem_of_getElem? (i := 0) rfl) rfl
          obtain ⟨A94, c94, rfl, q94⟩ := p94
          obtain ⟨v98, h98, p98⟩ : ∃ v, a.tmps[98]? = some v ∧ Phi7 A7 c7 A8 c8 26 v wc := hd _ rfl ⟨26, .data⟩ (Array.mem_of_getElem? (i := 1) rfl) rfl
          obtain ⟨g98, rfl, q98⟩ := p98
          obtain ⟨v92, h92, p92⟩ : ∃ v, a.tmps[92]? = some v ∧ Phi7 A7 c7 A8 c8 20 v wc := hd _ rfl ⟨20, .guard⟩ (Array.mem_of_getElem? (i := 3) rfl) rfl
          obtain rfl := p92
          go_wp2_with (first
            | (go_at_call 19; refine (same19t [Sec.z, Sec.z, Sec.z] 3 _ _ _ rfl q94 (rd_blk (n := 3) q98 rfl rfl) (by decide)).mono ?_; rintro e w4 ⟨rfl, hx4⟩)
            | fail)
          exact ⟨hx4, _, rfl, rfl⟩
        · refine wpOp_of_list (i := 28) rfl ?_
          obtain ⟨v99, h99, p99⟩ : ∃ v, a.tmps[99]? = some v ∧ Phi7 A7 c7 A8 c8 27 v wc := hd _ rfl ⟨27, .data⟩ (Array.mem_of_getElem? (i := 0) rfl) rfl
          obtain rfl := p99
          obtain ⟨v92, h92, p92⟩ : ∃ v, a.tmps[92]? = some v ∧ Phi7 A7 c7 A8 c8 20 v wc := hd _ rfl ⟨20, .guard⟩ (Array.mem_of_getElem? (i := 1) rfl) rfl
          obtain rfl := p92
          go_wp2_with fail
          exact ⟨Ext.refl _, _, rfl, rfl⟩
        · refine wpOp_of_list (i := 29) rfl ?_
          obtain ⟨v92, h92, p92⟩ : ∃ v, a.tmps[92]? = some v ∧ Phi7 A7 c7 A8 c8 20 v wc := hd _ rfl ⟨20, .data⟩ (Array.mem_of_getElem? (i := 0) rfl) rfl
          obtain rfl := p92
          obtain ⟨v100, h100, p100⟩ : ∃ v, a.tmps[100]? = some v ∧ Phi7 A7 c7 A8 c8 28 v wc := hd _ rfl ⟨28, .data⟩ (Array.mem_of_getElem? (i := 1) rfl) rfl
          obtain rfl := p100
          go_wp2_with fail
          exact ⟨Ext.refl _, _, rfl, rfl⟩
      case fin =>
        intro listed a wc hsz hco htl hx hL hv
        have hl : listed = #[true, true, true, true, true, true, true, true, true, true, true, true, true, true, true, true, true, true, true, true, true, true, true, true, true, true, true, true, true, true] := by
          refine arr_eq hsz fun i hi => ?_
          have hi30 : i < 30 := hi
          have hcs : i = 0 ∨ i = 1 ∨ i = 2 ∨ i = 3 ∨ i = 4 ∨ i = 5 ∨ i = 6 ∨ i = 7 ∨ i = 8 ∨ i = 9 ∨ i = 10 ∨ i = 11 ∨ i = 12 ∨ i = 13 ∨ i = 14 ∨ i = 15 ∨ i = 16 ∨ i = 17 ∨ i = 18 ∨ i = 19 ∨ i = 20 ∨ i = 21 ∨ i = 22 ∨ i = 23 ∨ i = 24 ∨ i = 25 ∨ i = 26 ∨ i = 27 ∨ i = 28 ∨ i = 29 := by omega
          rcases hcs with rfl | rfl | rfl | rfl | rfl | rfl | rfl | rfl | rfl | rfl | rfl | rfl | rfl | rfl | rfl | rfl | rfl | rfl | rfl | rfl | rfl | rfl | rfl | rfl | rfl | rfl | rfl | rfl | rfl | rfl
          · exact hco 0 rfl
          · exact hco 1 rfl
          · exact hco 2 rfl
          · exact hco 3 rfl
          · exact hco 4 rfl
          · exact hco 5 rfl
          · exact hco 6 rfl
          · exact hco 7 rfl
          · exact hco 8 rfl
          · exact hco 9 rfl
          · exact hco 10 rfl
          · exact hco 11 rfl
          · exact hco 12 rfl
          · exact hco 13 rfl
          · exact hco 14 rfl
          · exact hco 15 rfl
          · exact hco 16 rfl
          · exact hco 17 rfl
          · exact hco 18 rfl
          · exact hco 19 rfl
          · exact hco 20 rfl
          · exact hco 21 rfl
          · exact hco 22 rfl
          · exact hco 23 rfl
          · exact hco 24 rfl
          · exact hco 25 rfl
          · exact hco 26 rfl
          · exact hco 27 rfl
          · exact hco 28 rfl
          · exact hco 29 rfl
        obtain ⟨v72, h72, p72⟩ : ∃ v, a.tmps[72]? = some v ∧ Phi7 A7 c7 A8 c8 0 v wc := hv 0 (by decide) rfl (hco 0 rfl)
        obtain ⟨v73, h73, p73⟩ : ∃ v, a.tmps[73]? = some v ∧ Phi7 A7 c7 A8 c8 1 v wc := hv 1 (by decide) rfl (hco 1 rfl)
        obtain ⟨v74, h74, p74⟩ : ∃ v, a.tmps[74]? = some v ∧ Phi7 A7 c7 A8 c8 2 v wc := hv 2 (by decide) rfl (hco 2 rfl)
        obtain ⟨v75, h75, p75⟩ : ∃ v, a.tmps[75]? = some v ∧ Phi7 A7 c7 A8 c8 3 v wc := hv 3 (by decide) rfl (hco 3 rfl)
        obtain ⟨v76, h76, p76⟩ : ∃ v, a.tmps[76]? = some v ∧ Phi7 A7 c7 A8 c8 4 v wc := hv 4 (by decide) rfl (hco 4 rfl)
        obtain ⟨v77, h77, p77⟩ : ∃ v, a.tmps[77]? = some v ∧ Phi7 A7 c7 A8 c8 5 v wc := hv 5 (by decide) rfl (hco 5 rfl)
        obtain ⟨v78, h78, p78⟩ : ∃ v, a.tmps[78]? = some v ∧ Phi7 A7 c7 A8 c8 6 v wc := hv 6 (by decide) rfl (hco 6 rfl)
        obtain ⟨v79, h79, p79⟩ : ∃ v, a.tmps[79]? = some v ∧ Phi7 A7 c7 A8 c8 7 v wc := hv 7 (by decide) rfl (hco 7 rfl)
        obtain ⟨v80, h80, p80⟩ : ∃ v, a.tmps[80]? = some v ∧ Phi7 A7 c7 A8 c8 8 v wc := hv 8 (by decide) rfl (hco 8 rfl)
        obtain ⟨v81, h81, p81⟩ : ∃ v, a.tmps[81]? = some v ∧ Phi7 A7 c7 A8 c8 9 v wc := hv 9 (by decide) rfl (hco 9 rfl)
        obtain ⟨v82, h82, p82⟩ : ∃ v, a.tmps[82]? = some v ∧ Phi7 A7 c7 A8 c8 10 v wc := hv 10 (by decide) rfl (hco 10 rfl)
        obtain ⟨v83, h83, p83⟩ : ∃ v, a.tmps[83]? = some v ∧ Phi7 A7 c7 A8 c8 11 v wc := hv 11 (by decide) rfl (hco 11 rfl)
        obtain ⟨v84, h84, p84⟩ : ∃ v, a.tmps[84]? = some v ∧ Phi7 A7 c7 A8 c8 12 v wc := hv 12 (by decide) rfl (hco 12 rfl)
        obtain ⟨v85, h85, p85⟩ : ∃ v, a.tmps[85]? = some v ∧ Phi7 A7 c7 A8 c8 13 v wc := hv 13 (by decide) rfl (hco 13 rfl)
        obtain ⟨v86, h86, p86⟩ : ∃ v, a.tmps[86]? = some v ∧ Phi7 A7 c7 A8 c8 14 v wc := hv 14 (by decide) rfl (hco 14 rfl)
        obtain ⟨v87, h87, p87⟩ : ∃ v, a.tmps[87]? = some v ∧ Phi7 A7 c7 A8 c8 15 v wc := hv 15 (by decide) rfl (hco 15 rfl)
        obtain ⟨v88, h88, p88⟩ : ∃ v, a.tmps[88]? = some v ∧ Phi7 A7 c7 A8 c8 16 v wc := hv 16 (by decide) rfl (hco 16 rfl)
        obtain ⟨v89, h89, p89⟩ : ∃ v, a.tmps[89]? = some v ∧ Phi7 A7 c7 A8 c8 17 v wc := hv 17 (by decide) rfl (hco 17 rfl)
        obtain ⟨v90, h90, p90⟩ : ∃ v, a.tmps[90]? = some v ∧ Phi7 A7 c7 A8 c8 18 v wc := hv 18 (by decide) rfl (hco 18 rfl)
        obtain ⟨v91, h91, p91⟩ : ∃ v, a.tmps[91]? = some v ∧ Phi7 A7 c7 A8 c8 19 v wc := hv 19 (by decide) rfl (hco 19 rfl)
        obtain ⟨v92, h92, p92⟩ : ∃ v, a.tmps[92]? = some v ∧ Phi7 A7 c7 A8 c8 20 v wc := hv 20 (by decide) rfl (hco 20 rfl)
        obtain ⟨v93, h93, p93⟩ : ∃ v, a.tmps[93]? = some v ∧ Phi7 A7 c7 A8 c8 21 v wc := hv 21 (by decide) rfl (hco 21 rfl)
        obtain ⟨v94, h94, p94⟩ : ∃ v, a.tmps[94]? = some v ∧ Phi7 A7 c7 A8 c8 22 v wc := hv 22 (by decide) rfl (hco 22 rfl)
        obtain ⟨v95, h95, p95⟩ : ∃ v, a.tmps[95]? = some v ∧ Phi7 A7 c7 A8 c8 23 v wc := hv 23 (by decide) rfl (hco 23 rfl)
        obtain ⟨v96, h96, p96⟩ : ∃ v, a.tmps[96]? = some v ∧ Phi7 A7 c7 A8 c8 24 v wc := hv 24 (by decide) rfl (hco 24 rfl)
        obtain ⟨v97, h97, p97⟩ : ∃ v, a.tmps[97]? = some v ∧ Phi7 A7 c7 A8 c8 25 v wc := hv 25 (by decide) rfl (hco 25 rfl)
        obtain ⟨v98, h98, p98⟩ : ∃ v, a.tmps[98]? = some v ∧ Phi7 A7 c7 A8 c8 26 v wc := hv 26 (by decide) rfl (hco 26 rfl)
        obtain ⟨v99, h99, p99⟩ : ∃ v, a.tmps[99]? = some v ∧ Phi7 A7 c7 A8 c8 27 v wc := hv 27 (by decide) rfl (hco 27 rfl)
        obtain ⟨v100, h100, p100⟩ : ∃ v, a.tmps[100]? = some v ∧ Phi7 A7 c7 A8 c8 28 v wc := hv 28 (by decide) rfl (hco 28 rfl)
        obtain ⟨v101, h101, p101⟩ : ∃ v, a.tmps[101]? = some v ∧ Phi7 A7 c7 A8 c8 29 v wc := hv 29 (by decide) rfl (hco 29 rfl)
        have ha := hL.eq (dl := [72, 73, 74, 75, 76, 77, 78, 79, 80, 81, 82, 83, 84, 85, 86, 87, 88, 89, 90, 91, 92, 93, 94, 95, 96, 97, 98, 99, 100, 101]) (xs := [v72, v73, v74, v75, v76, v77, v78, v79, v80, v81, v82, v83, v84, v85, v86, v87, v88, v89, v90, v91, v92, v93, v94, v95, v96, v97, v98, v99, v100, v101]) (show ∀ i, i < 30 → hdOf ks7 i = true → ddOf ks7 i ∈ [72, 73, 74, 75, 76, 77, 78, 79, 80, 81, 82, 83, 84, 85, 86, 87, 88, 89, 90, 91, 92, 93, 94, 95, 96, 97, 98, 99, 100, 101] from by decide) (by decide) (show ∀ d ∈ [72, 73, 74, 75, 76, 77, 78, 79, 80, 81, 82, 83, 84, 85, 86, 87, 88, 89, 90, 91, 92, 93, 94, 95, 96, 97, 98, 99, 100, 101], d < 166 from by decide) rfl (fun i d hd => by
          rcases i with _ | _ | _ | _ | _ | _ | _ | _ | _ | _ | _ | _ | _ | _ | _ | _ | _ | _ | _ | _ | _ | _ | _ | _ | _ | _ | _ | _ | _ | _ | i
          · cases hd; exact h72
          · cases hd; exact h73
          · cases hd; exact h74
          · cases hd; exact h75
          · cases hd; exact h76
          · cases hd; exact h77
          · cases hd; exact h78
          · cases hd; exact h79
          · cases hd; exact h80
          · cases hd; exact h81
          · cases hd; exact h82
          · cases hd; exact h83
          · cases hd; exact h84
          · cases hd; exact h85
          · cases hd; exact h86
          · cases hd; exact h87
          · cases hd; exact h88
          · cases hd; exact h89
          · cases hd; exact h90
          · cases hd; exact h91
          · cases hd; exact h92
          · cases hd; exact h93
          · cases hd; exact h94
          · cases hd; exact h95
          · cases hd; exact h96
          · cases hd; exact h97
          · cases hd; exact h98
          · cases hd; exact h99
          · cases hd; exact h100
          · cases hd; exact h101
          · simp at hd)
        clear hv hL hco htl hsz h72 h73 h74 h75 h76 h77 h78 h79 h80 h81 h82 h83 h84 h85 h86 h87 h88 h89 h90 h91 h92 h93 h94 h95 h96 h97 h98 h99 h100 h101
        obtain rfl := p101
        clear p72 p73 p74 p75 p76 p77 p78 p79 p80 p81 p82 p83 p84 p85 p86 p87 p88 p89 p90 p91 p92 p93 p94 p95 p96 p97 p98 p99 p100
        subst ha
        subst hl
        simp only [putAll, Act.put, List.setIfInBounds_toArray, List.set_cons_zero, List.set_cons_succ]
        show wpAnyF _ _ _ _ _ _ 0 _ _ _
        refine ⟨by kernel_rfl, ?_⟩
        go_wp2_with fail
        go_meet
        exact ⟨rfl, (Ext.refl w7).drew.trans hx⟩
    case rest =>
      obtain ⟨rfl, hx9⟩ := hcut
      replace aw := aw.ext hx9
      replace D5 := D5.ext hx9
      replace hDR := hDR.ext hx9
      replace hE7' := hE7'.trans hx9
      clear hE7 hE0 hR7 hR7w D7 D7w hrd hx9 hr10 hf10
      go_wp2_with fail
      rename World => w9
      go_cut [12] from 102 to 109 (fun t wx => ∃ g, t = .slice (some ⟨g, 0, none⟩) 3 3 ∧ RdO wx (.slice (some ⟨g, 0, none⟩) 3 3) [⟨0, 0, [sec 1]⟩, ⟨1, 0, []⟩, ⟨0, 0, [sec 2]⟩] ∧ Ext w9 wx)
      case first =>
        refine wp_region_head ks9 8 Phi9 (by kernel_rfl) (by kernel_rfl) (by rfl) (fun i v w w' _ _ hx h => Phi9.mono i v w w' hx h) ?step ?fin
        case step =>
          intro i a wc hi hh hx hL hd
          have hxx : Ext w9 wc := (Ext.refl w9).drew.trans hx
          have hi9 : i < 9 := hi
          have hcs : i = 0 ∨ i = 1 ∨ i = 2 ∨ i = 3 ∨ i = 4 ∨ i = 5 ∨ i = 6 ∨ i = 7 ∨ i = 8 := by omega
          clear hi hi9
          rcases hcs with rfl | rfl | rfl | rfl | rfl | rfl | rfl | rfl | rfl
          · refine wpOp_of_list (i := 0) rfl ?_
            have h1 := (hL.oth 1 (by decide)).trans rfl
            obtain ⟨fa0, fa1, fa2, fa3, fa4, fa5, fa6, fa7⟩ := (aw.s1.ext hxx).f8
            go_wp2_with fail
            exact ⟨Ext.refl _, _, rfl, rfl⟩
          · refine wpOp_of_list (i := 1) rfl ?_
            obtain ⟨v102, h102, p102⟩ : ∃ v, a.tmps[102]? = some v ∧ Phi9 0 v wc := hd _ rfl ⟨0, .data⟩ (Array.mem_of_getElem? (i := 0) rfl) rfl
            obtain rfl := p102
            go_wp2_with fail
            exact ⟨(Ext.refl wc).alloc _, _, rfl, wc.heap.size, rfl, Blk.new _ _ _⟩
          · refine wpOp_of_list (i := 2) rfl ?_
            obtain ⟨v103, h103, p103⟩ : ∃ v, a.tmps[103]? = some v ∧ Phi9 1 v wc := hd _ rfl ⟨1, .data⟩ (Array.mem_of_getElem? (i := 0) rfl) rfl
            obtain ⟨g103, rfl, q103⟩ := p103
            go_wp2_with (first
              | (go_at_call 40; refine (op40 _ _ _ _ _).mono ?_; rintro e w4 ⟨rfl, hx4⟩)
              | fail)
            exact ⟨hx4, _, rfl, _, rfl, q103.ext hx4⟩
          · refine wpOp_of_list (i := 3) rfl ?_
            obtain ⟨v104, h104, p104⟩ : ∃ v, a.tmps[104]? = some v ∧ Phi9 2 v wc := hd _ rfl ⟨2, .chain⟩ (Array.mem_of_getElem? (i := 0) rfl) rfl
            obtain ⟨g104, rfl, q104⟩ := p104
            go_wp2_with (first
              | (go_at_call 29; refine (op29 _).mono ?_; rintro e w4 ⟨rfl, hx4⟩)
              | fail)
            exact ⟨hx4, _, rfl, rfl⟩
          · refine wpOp_of_list (i := 4) rfl ?_
            have h2 := (hL.oth 2 (by decide)).trans rfl
            obtain ⟨fb0, fb1, fb2, fb3, fb4, fb5, fb6, fb7⟩ := (aw.s2.ext hxx).f8
            go_wp2_with fail
            exact ⟨Ext.refl _, _, rfl, rfl⟩
          · refine wpOp_of_list (i := 5) rfl ?_
            obtain ⟨v106, h106, p106⟩ : ∃ v, a.tmps[106]? = some v ∧ Phi9 4 v wc := hd _ rfl ⟨4, .data⟩ (Array.mem_of_getElem? (i := 0) rfl) rfl
            obtain rfl := p106
            go_wp2_with fail
            exact ⟨(Ext.refl wc).alloc _, _, rfl, wc.heap.size, rfl, Blk.new _ _ _⟩
          · refine wpOp_of_list (i := 6) rfl ?_
            obtain ⟨v107, h107, p107⟩ : ∃ v, a.tmps[107]? = some v ∧ Phi9 5 v wc := hd _ rfl ⟨5, .data⟩ (Array.mem_of_getElem? (i := 0) rfl) rfl
            obtain ⟨g107, rfl, q107⟩ := p107
            obtain ⟨v105, h105, p105⟩ : ∃ v, a.tmps[105]? = some v ∧ Phi9 3 v wc := hd _ rfl ⟨3, .chain⟩ (Array.mem_of_getElem? (i := 1) rfl) rfl
            obtain rfl := p105
            go_wp2_with (first
              | (go_at_call 40; refine (op40 _ _ _ _ _).mono ?_; rintro e w4 ⟨rfl, hx4⟩)
              | fail)
            exact ⟨hx4, _, rfl, _, rfl, q107.ext hx4⟩
          · refine wpOp_of_list (i := 7) rfl ?_
            obtain ⟨v104, h104, p104⟩ : ∃ v, a.tmps[104]? = some v ∧ Phi9 2 v wc := hd _ rfl ⟨2, .data⟩ (Array.mem_of_getElem? (i := 0) rfl) rfl
            obtain ⟨g104, rfl, q104⟩ := p104
            obtain ⟨v105, h105, p105⟩ : ∃ v, a.tmps[105]? = some v ∧ Phi9 3 v wc := hd _ rfl ⟨3, .data⟩ (Array.mem_of_getElem? (i := 1) rfl) rfl
            obtain rfl := p105
            obtain ⟨v108, h108, p108⟩ : ∃ v, a.tmps[108]? = some v ∧ Phi9 6 v wc := hd _ rfl ⟨6, .data⟩ (Array.mem_of_getElem? (i := 2) rfl) rfl
            obtain ⟨g108, rfl, q108⟩ := p108
            go_wp2_with fail
            exact ⟨(Ext.refl wc).alloc _, _, rfl, wc.heap.size, rfl, rdO_three (n1 := 1) (n2 := 0) (n3 := 1) (Blk.new _ _ _) rfl rfl rfl (rd_blk (n := 1) (q104.ext ((Ext.refl wc).alloc _)) rfl rfl) (rd_nil _ _) (rd_blk (n := 1) (q108.ext ((Ext.refl wc).alloc _)) rfl rfl)⟩
          · refine wpOp_of_list (i := 8) rfl ?_
            obtain ⟨v109, h109, p109⟩ : ∃ v, a.tmps[109]? = some v ∧ Phi9 7 v wc := hd _ rfl ⟨7, .data⟩ (Array.mem_of_getElem? (i := 0) rfl) rfl
            obtain ⟨g109, rfl, q109⟩ := p109
            go_wp2_with fail
            exact ⟨Ext.refl _, _, rfl, _, rfl, q109⟩
        case fin =>
          intro listed a wc hsz hco htl hx hL hv
          have hl : listed = #[true, true, true, true, true, true, true, true, true] := by
            refine arr_eq hsz fun i hi => ?_
            have hi9 : i < 9 := hi
            have hcs : i = 0 ∨ i = 1 ∨ i = 2 ∨ i = 3 ∨ i = 4 ∨ i = 5 ∨ i = 6 ∨ i = 7 ∨ i = 8 := by omega
            rcases hcs with rfl | rfl | rfl | rfl | rfl | rfl | rfl | rfl | rfl
            · exact hco 0 rfl
            · exact hco 1 rfl
            · exact hco 2 rfl
            · exact hco 3 rfl
            · exact hco 4 rfl
            · exact hco 5 rfl
            · exact hco 6 rfl
            · exact hco 7 rfl
            · exact hco 8 rfl
          obtain ⟨v102, h102, p102⟩ : ∃ v, a.tmps[102]? = some v ∧ Phi9 0 v wc := hv 0 (by decide) rfl (hco 0 rfl)
          obtain ⟨v103, h103, p103⟩ : ∃ v, a.tmps[103]? = some v ∧ Phi9 1 v wc := hv 1 (by decide) rfl (hco 1 rfl)
          obtain ⟨v104, h104, p104⟩ : ∃ v, a.tmps[104]? = some v ∧ Phi9 2 v wc := hv 2 (by decide) rfl (hco 2 rfl)
          obtain ⟨v105, h105, p105⟩ : ∃ v, a.tmps[105]? = some v ∧ Phi9 3 v wc := hv 3 (by decide) rfl (hco 3 rfl)
          obtain ⟨v106, h106, p106⟩ : ∃ v, a.tmps[106]? = some v ∧ Phi9 4 v wc := hv 4 (by decide) rfl (hco 4 rfl)
          obtain ⟨v107, h107, p107⟩ : ∃ v, a.tmps[107]? = some v ∧ Phi9 5 v wc := hv 5 (by decide) rfl (hco 5 rfl)
          obtain ⟨v108, h108, p108⟩ : ∃ v, a.tmps[108]? = some v ∧ Phi9 6 v wc := hv 6 (by decide) rfl (hco 6 rfl)
          obtain ⟨v109, h109, p109⟩ : ∃ v, a.tmps[109]? = some v ∧ Phi9 7 v wc := hv 7 (by decide) rfl (hco 7 rfl)
          obtain ⟨v12, h12, p12⟩ : ∃ v, a.tmps[12]? = some v ∧ Phi9 8 v wc := hv 8 (by decide) rfl (hco 8 rfl)
          have ha := hL.eq (dl := [102, 103, 104, 105, 106, 107, 108, 109, 12]) (xs := [v102, v103, v104, v105, v106, v107, v108, v109, v12]) (show ∀ i, i < 9 → hdOf ks9 i = true → ddOf ks9 i ∈ [102, 103, 104, 105, 106, 107, 108, 109, 12] from by decide) (by decide) (show ∀ d ∈ [102, 103, 104, 105, 106, 107, 108, 109, 12], d < 166 from by decide) rfl (fun i d hd => by
            rcases i with _ | _ | _ | _ | _ | _ | _ | _ | _ | i
            · cases hd; exact h102
            · cases hd; exact h103
            · cases hd; exact h104
            · cases hd; exact h105
            · cases hd; exact h106
            · cases hd; exact h107
            · cases hd; exact h108
            · cases hd; exact h109
            · cases hd; exact h12
            · simp at hd)
          clear hv hL hco htl hsz h102 h103 h104 h105 h106 h107 h108 h109 h12
          obtain ⟨g12, rfl, q12⟩ := p12
          clear p102 p103 p104 p105 p106 p107 p108 p109
          subst ha
          subst hl
          simp only [putAll, Act.put, List.setIfInBounds_toArray, List.set_cons_zero, List.set_cons_succ]
          show wpAnyF _ _ _ _ _ _ 0 _ _ _
          refine ⟨by kernel_rfl, ?_⟩
          go_wp2_with fail
          go_meet
          exact ⟨g12, rfl, q12, (Ext.refl w9).drew.trans hx⟩
      case rest =>
        obtain ⟨g12, rfl, hO, hxA⟩ := hcut
        replace aw := aw.ext hxA
        replace D5 := D5.ext hxA
        replace hDR := hDR.ext hxA
        replace hE7' := hE7'.trans hxA
        rename World => wB
        have hwf3 : OpsWf [⟨0, 0, [sec 1]⟩, ⟨1, 0, []⟩, ⟨0, 0, [sec 2]⟩] := by
          intro j o hj
          rcases j with _ | _ | _ | j
          · cases hj; exact ⟨⟨by decide, by decide⟩, ⟨by decide, by decide⟩, by decide⟩
          · cases hj; exact ⟨⟨by decide, by decide⟩, ⟨by decide, by decide⟩, by decide⟩
          · cases hj; exact ⟨⟨by decide, by decide⟩, ⟨by decide, by decide⟩, by decide⟩
          · simp at hj
        have hI := fun W vc n hx hc => inter25 (.agg #[.slice A5 3 c5, .slice A6 0 c6]) _ vc ([Sec.z, Sec.z, Sec.z], []) [⟨0, 0, [sec 1]⟩, ⟨1, 0, []⟩, ⟨0, 0, [sec 2]⟩] n [1] W (hDR.ext hx) (hO.ext hx) hc hwf3 (by decide) (by decide) (by decide) (by decide) (by decide)
        have hI3 := fun W vc hx hc => hI W vc 3 hx hc
        have hI2 := fun W vc hx hc => hI W vc 2 hx hc
        rw [e6] at hI3
        rw [e7] at hI2
        obtain ⟨x1, x2, x3, x4⟩ := D5.f2
        go_upto_region 11 with (first
          | (go_at_call 25; refine (hI3 _ _ ((Ext.refl wB).alloc _) (rd_blk (n := 1) (Blk.new _ _ _) rfl rfl)).mono ?_; rintro e wC ⟨v13, l13, rfl, ⟨A13, c13, B13, d13, rfl, hd13, he13, hf13, hg13⟩, hl13, hlf13, hxC⟩; obtain ⟨AL, cL, rfl⟩ := rd_slice hl13)
          | fail)
        have hEC : Ext wB (wC.alloc (.cells #[.slice A13 3 c13, .slice B13 0 d13] 25)) := (((Ext.refl wB).alloc (.cells #[.int .i64 1] 3)).trans hxC).alloc _
        have D13 := Blk.new wC #[.slice A13 3 c13, .slice B13 0 d13] 25
        have r13 : Rd (wC.alloc (.cells #[.slice A13 3 c13, .slice B13 0 d13] 25)) 8 (.slice A13 3 c13) 3 (cellsOf Sec.c [sec 2, Sec.z, Sec.z]) := hd13.ext ((Ext.refl wC).alloc _)
        generalize wC.heap.size = g13 at D13 ⊢
        generalize wC.alloc (.cells #[.slice A13 3 c13, .slice B13 0 d13] 25) = wD at *
        obtain ⟨x1, x2, x3, x4⟩ := (D5.ext hEC).f2
        go_upto_region 12 with (first
          | (go_at_call 25; refine (hI2 _ _ (hEC.alloc _) (rd_blk (n := 1) (Blk.new _ _ _) rfl rfl)).mono ?_; rintro e wE ⟨v16, l16, rfl, ⟨A16, c16, B16, d16, rfl, hd16, he16, hf16, hg16⟩, hl16, hlf16, hxE⟩; obtain ⟨AM, cM, rfl⟩ := rd_slice hl16)
          | fail)
        have hED : Ext wD (wE.alloc (.cells #[.slice A16 3 c16, .slice B16 0 d16] 25)) := (((Ext.refl wD).alloc (.cells #[.int .i64 1] 3)).trans hxE).alloc _
        have D16 := Blk.new wE #[.slice A16 3 c16, .slice B16 0 d16] 25
        have r16 : Rd (wE.alloc (.cells #[.slice A16 3 c16, .slice B16 0 d16] 25)) 8 (.slice A16 3 c16) 3 (cellsOf Sec.c [sec 1, Sec.z, Sec.z]) := hd16.ext ((Ext.refl wE).alloc _)
        generalize wE.heap.size = g16 at D16 ⊢
        generalize wE.alloc (.cells #[.slice A16 3 c16, .slice B16 0 d16] 25) = wF at *
        have hBF := hEC.trans hED
        obtain ⟨x1, x2, x3, x4⟩ := (D5.ext hBF).f2
        replace aw := aw.ext hBF
        replace D13 := D13.ext hED
        replace r13 := r13.ext hED
        obtain ⟨fa0, fa1, fa2, fa3, fa4, fa5, fa6, fa7⟩ := (aw.s1).f8
        obtain ⟨fb0, fb1, fb2, fb3, fb4, fb5, fb6, fb7⟩ := (aw.s2).f8
        obtain ⟨fc0, fc1, fc2, fc3, fc4, fc5, fc6, fc7⟩ := (aw.s3).f8
        obtain ⟨fd0, fd1, fd2, fd3, fd4, fd5, fd6, fd7⟩ := (aw.s4).f8
        have hW := fun W vd hx hr => write14 (.agg #[.slice A5 3 c5, .slice A6 0 c6]) vd ([Sec.z, Sec.z, Sec.z], []) 3 [sec 1] W (hDR.ext hx) hr (by decide) (by decide) (by decide) (by decide)
        rw [e8] at hW
        go_upto_region 13 with (first
          | (go_at_call 14; refine (hW _ _ (hBF.alloc _) (rd_blk (n := 1) (Blk.new _ _ _) rfl rfl)).mono ?_; rintro e wG ⟨v19, rfl, ⟨A19, c19, B19, d19, rfl, hd19, he19, hf19, hg19⟩, hxG⟩)
          | fail)
        have hEG : Ext wF (wG.alloc (.cells #[.slice A19 0 c19, .slice B19 0 d19] 25)) := (((Ext.refl wF).alloc (.cells #[.int .u8 1, .int .u8 0, .int .u8 0, .int .u8 0, .int .u8 0, .int .u8 0, .int .u8 0, .int .u8 0] 65)).trans hxG).alloc _
        generalize wG.heap.size = g19 at ⊢
        generalize wG.alloc (.cells #[.slice A19 0 c19, .slice B19 0 d19] 25) = wH at *
        replace aw := aw.ext hEG
        replace D13 := D13.ext hEG
        replace D16 := D16.ext hEG
        replace r13 := r13.ext hEG
        replace r16 := r16.ext hEG
        obtain ⟨n1, n2, n3, n4⟩ := D13.f2
        obtain ⟨o1, o2, o3, o4⟩ := D16.f2
        obtain ⟨fa0, fa1, fa2, fa3, fa4, fa5, fa6, fa7⟩ := (aw.s1).f8
        obtain ⟨fb0, fb1, fb2, fb3, fb4, fb5, fb6, fb7⟩ := (aw.s2).f8
        obtain ⟨fc0, fc1, fc2, fc3, fc4, fc5, fc6, fc7⟩ := (aw.s3).f8
        obtain ⟨fd0, fd1, fd2, fd3, fd4, fd5, fd6, fd7⟩ := (aw.s4).f8
        have hEnd : Ext w wH := (hE7'.trans hBF).trans hEG
        go_wp2_with (first
          | (go_at_call 19; refine (same19t [sec 2, Sec.z, Sec.z] 3 _ _ _ rfl (r13.ext ((Ext.refl wH).alloc _)) (rd_blk (n := 3) (t := 65) (cs := #[.int .u8 2, .int .u8 0, .int .u8 0, .int .u8 0, .int .u8 0, .int .u8 0, .int .u8 0, .int .u8 0, .int .u8 0, .int .u8 0, .int .u8 0, .int .u8 0, .int .u8 0, .int .u8 0, .int .u8 0, .int .u8 0, .int .u8 0, .int .u8 0, .int .u8 0, .int .u8 0, .int .u8 0, .int .u8 0, .int .u8 0, .int .u8 0]) (Blk.new _ _ _) (by rfl) (by rfl)) (by decide)).mono ?_; rintro e wI ⟨rfl, hxI⟩; replace aw := aw.ext (((Ext.refl wH).alloc _).trans hxI); replace D16 := D16.ext (((Ext.refl wH).alloc _).trans hxI); replace r16 := r16.ext (((Ext.refl wH).alloc _).trans hxI); clear r13; obtain ⟨fa0, fa1, fa2, fa3, fa4, fa5, fa6, fa7⟩ := (aw.s1).f8; obtain ⟨fb0, fb1, fb2, fb3, fb4, fb5, fb6, fb7⟩ := (aw.s2).f8; obtain ⟨fc0, fc1, fc2, fc3, fc4, fc5, fc6, fc7⟩ := (aw.s3).f8; obtain ⟨fd0, fd1, fd2, fd3, fd4, fd5, fd6, fd7⟩ := (aw.s4).f8;  obtain ⟨o1, o2, o3, o4⟩ := D16.f2)
          | (go_at_call 19; refine (same19t [sec 1, Sec.z, Sec.z] 3 _ _ _ rfl (r16.ext ((Ext.refl wI).alloc _)) (rd_blk (n := 3) (t := 65) (cs := #[.int .u8 1, .int .u8 0, .int .u8 0, .int .u8 0, .int .u8 0, .int .u8 0, .int .u8 0, .int .u8 0, .int .u8 0, .int .u8 0, .int .u8 0, .int .u8 0, .int .u8 0, .int .u8 0, .int .u8 0, .int .u8 0, .int .u8 0, .int .u8 0, .int .u8 0, .int .u8 0, .int .u8 0, .int .u8 0, .int .u8 0, .int .u8 0]) (Blk.new _ _ _) (by rfl) (by rfl)) (by decide)).mono ?_; rintro e wJ ⟨rfl, hxJ⟩)
          | fail)
        go_ret
        exact ⟨rfl, ((hEnd.trans (((Ext.refl wH).alloc _).trans hxI)).alloc _).trans hxJ⟩
end Go.Proofs.Ytcgffpncfgmhkaa
