import Derived.Test.YtcgffpncfgmhkaaV2
set_option linter.unusedVariables false
set_option linter.unusedSimpArgs false
set_option maxRecDepth 100000
set_option maxHeartbeats 2000000
namespace Go.Proofs.Ytcgffpncfgmhkaa
open Go Go.Proofs Go.RowKit Go.Instr
open Go.ChangeMaps (setBlock)
open Go.Proofs.YtcgffpncfgmhkaaW.PrintWords

/-- A set of numbers as a map to true. -/
def entsB : List Int → Nat → List MapEntry
  | [], _ => []
  | x :: l, i => ⟨.int .i64 x, .bool true, i⟩ :: entsB l (i + 1)
def idxB : List Int → Int → Nat → Option (Nat × Value)
  | [], _, _ => none
  | x :: l, k, i => if k = x then some (i, .bool true) else idxB l k (i + 1)
theorem findNow_entsB (l : List Int) (k : Int) (n i : Nat) : findNow (.int .i64) (.int .i64 k) (entsB l n) i = some (idxB l k i) := by
  induction l generalizing n i with
  | nil => rfl
  | cons x l ih =>
    simp only [entsB, findNow, sameNow, if_true, idxB]
    by_cases h : k = x
    · subst h; simp
    · have : (k == x) = false := by simpa using h
      simp [this, h, ih]
theorem idxB_mem (l : List Int) (k : Int) (i : Nat) : (match idxB l k i with | some (_, v) => v | none => .bool false) = Value.bool (decide (k ∈ l)) := by
  induction l generalizing i with
  | nil => simp [idxB]
  | cons x l ih =>
    simp only [idxB]
    by_cases h : k = x
    · simp [h]
    · simp [h, ih (i + 1)]
theorem run_findKey_entsB {P : Program} {kt : TypeId} (hk : P.underlying kt = some (.int .i64)) (l : List Int) (k : Int) (w : World) : (findKey kt (.int .i64 k) (entsB l 0)).run P w = .ok (idxB l k 0) w := by
  unfold findKey
  simp [run_underlying hk, findNow_entsB]
theorem run_lookB {P : Program} {t kt e : TypeId} (ht : P.underlying t = some (.map kt e)) (hk : P.underlying kt = some (.int .i64)) (hz : ∀ w, (zeroValue e).run P w = .ok (.bool false) w) (l : List Int) (k : Int) {M c : Nat} {w : World}
    (hM : w.heap[M]? = some (.map (entsB l 0).toArray c)) : (Instr.lookup t (.map (some M)) (.int .i64 k) false).run P w = .ok (.bool (decide (k ∈ l))) w := by
  have h := idxB_mem l k 0
  simp only [Instr.lookup, Sem.run_bind, run_underlying ht, Result.andThen_ok, MapKept.run_getObj_map hM, run_checkKey_int hk, List.toList_toArray, run_findKey_entsB hk, Sem.run_pure]
  cases hi : idxB l k 0 with
  | none => rw [hi] at h; simp only [Value.bool.injEq] at h; simp [hz, ← h]
  | some p => obtain ⟨i, v⟩ := p; rw [hi] at h; simp only at h; simp [h]
theorem idxB_none {l : List Int} {k : Int} (h : k ∉ l) (i : Nat) : idxB l k i = none := by
  induction l generalizing i with
  | nil => rfl
  | cons x l ih =>
    simp only [List.mem_cons, not_or] at h
    simp only [idxB, if_neg h.1]
    exact ih h.2 _
theorem entsB_len (l : List Int) (i : Nat) : (entsB l i).length = l.length := by
  induction l generalizing i with
  | nil => rfl
  | cons x l ih => simp [entsB, ih]
theorem entsB_append (l m : List Int) (i : Nat) : entsB (l ++ m) i = entsB l i ++ entsB m (i + l.length) := by
  induction l generalizing i with
  | nil => simp [entsB]
  | cons x l ih => simp only [List.cons_append, entsB, ih, List.length_cons]; rw [show i + 1 + l.length = i + (l.length + 1) by omega]
theorem run_updB {P : Program} {t kt e : TypeId} (ht : P.underlying t = some (.map kt e)) (hk : P.underlying kt = some (.int .i64)) (l : List Int) (k : Int) (hn : k ∉ l) {M : Nat} {w : World}
    (hM : w.heap[M]? = some (.map (entsB l 0).toArray l.length)) : (Instr.mapUpdate t (.map (some M)) (.int .i64 k) (.bool true)).run P w = .ok () (setBlock w M (.map (entsB (l ++ [k]) 0).toArray (l ++ [k]).length)) := by
  simp only [Instr.mapUpdate, Sem.run_bind, run_underlying ht, Result.andThen_ok, MapKept.run_getObj_map hM, run_checkKey_int hk, List.toList_toArray, run_findKey_entsB hk, idxB_none hn]
  simp [MapKept.run_setObj_map _ hM, setBlock, entsB_append, entsB]

/-- make([]int, n). -/
theorem cells_zeros1 (n : Nat) : cellsOf intC (List.replicate n 0) = List.replicate n (.int .i64 0) := by
  induction n with
  | zero => rfl
  | succ n ih =>
    simp only [List.replicate_succ]
    show intC 0 ++ cellsOf intC (List.replicate n 0) = _
    rw [ih]; rfl
theorem made_zeros1 (n : Nat) : (madeCells #[.int .i64 0] (n * 1)).toList = cellsOf intC (List.replicate n 0) := by
  rw [cells_zeros1]
  apply List.ext_getElem?
  intro j
  by_cases hj : j < n * 1
  · have hj' : j < n := by omega
    simp only [madeCells, Array.toList_map, Array.toList_range, List.getElem?_map, List.getElem?_range hj, Option.map_some, List.getElem?_replicate, if_pos hj']
    have h1 : j % 1 = 0 := Nat.mod_one j
    exact congrArg some (by show (#[Value.int .i64 0])[j % 1]! = _; rw [h1]; rfl)
  · have hj' : ¬ j < n := by omega
    simp [madeCells, hj, hj']
theorem make46 (n : Nat) (hn : n ≤ 1000000) (W : World) : (Instr.makeSlice 46 (.int .i64 (n : Int)) (.int .i64 (n : Int))).run Try.prog W = .ok (.slice (some ⟨W.heap.size, 0, none⟩) n n) (W.alloc (.cells (madeCells #[.int .i64 0] (n * 1)) 3)) := by
  obtain ⟨i0, hi0, hz0, hz1, hz2⟩ := info_parts info3
  have := run_make (P := Try.prog) W 46 3 i0 _ Try.underlying46 hi0 hz0 .i64 .i64 n n (by omega) (Int.le_refl _) (by rw [hz2]; omega) (by omega)
  rw [this, hz1]
  simp only [Int.toNat_natCast]
  rfl
theorem made_own1 (W : World) (n base : Nat) (hn : n ≤ 1000000) (hb : base ≤ W.heap.size) : (W.alloc (.cells (madeCells #[.int .i64 0] (n * 1)) 3)).ownsRow base 3 1 (.slice (some ⟨W.heap.size, 0, none⟩) n n) n (cellsOf intC (List.replicate n 0)) := by
  rw [← made_zeros1]
  exact World.ownsRow_lit W _ n hb (by unfold maxLen; omega) (size_madeCells _ _)
end Go.Proofs.Ytcgffpncfgmhkaa
