import Derived.Test.YtcgffpncfgmhkaaV
import Derived.Laws.OwnMore
set_option linter.unusedVariables false
set_option linter.unusedSimpArgs false
set_option maxRecDepth 100000
set_option maxHeartbeats 2000000
namespace Go.Proofs.Ytcgffpncfgmhkaa
open Go Go.Proofs Go.RowKit Go.Instr
open Go.Proofs.YtcgffpncfgmhkaaW.PrintWords

def Sec.z : Sec := ⟨0, 0, 0, 0, 0, 0, 0, 0⟩
theorem cells_zeros (n : Nat) : cellsOf Sec.c (List.replicate n Sec.z) = List.replicate (n * 8) (.int .u8 0) := by
  induction n with
  | zero => rfl
  | succ n ih =>
    rw [List.replicate_succ]
    show Sec.z.c ++ cellsOf Sec.c (List.replicate n Sec.z) = _
    rw [ih, Nat.succ_mul, Nat.add_comm (n * 8) 8, ← List.replicate_append_replicate]
    rfl
theorem made_zeros (n : Nat) : (madeCells #[.int .u8 0, .int .u8 0, .int .u8 0, .int .u8 0, .int .u8 0, .int .u8 0, .int .u8 0, .int .u8 0] (n * 8)).toList = cellsOf Sec.c (List.replicate n Sec.z) := by
  rw [cells_zeros]
  apply List.ext_getElem?
  intro j
  by_cases hj : j < n * 8
  · have h8 : ∀ i, i < 8 → (#[Value.int .u8 0, .int .u8 0, .int .u8 0, .int .u8 0, .int .u8 0, .int .u8 0, .int .u8 0, .int .u8 0])[i]! = .int .u8 0 := by
      intro i hi
      have : i = 0 ∨ i = 1 ∨ i = 2 ∨ i = 3 ∨ i = 4 ∨ i = 5 ∨ i = 6 ∨ i = 7 := by omega
      rcases this with rfl | rfl | rfl | rfl | rfl | rfl | rfl | rfl <;> rfl
    simp only [madeCells, Array.toList_map, Array.toList_range, List.getElem?_map, List.getElem?_range hj, Option.map_some, List.getElem?_replicate, if_pos hj]
    exact congrArg some (h8 (j % 8) (Nat.mod_lt _ (by omega)))
  · simp [madeCells, hj]
theorem make22 (n : Nat) (hn : n ≤ 1000000) (W : World) : (Instr.makeSlice 22 (.int .i64 (n : Int)) (.int .i64 (n : Int))).run Try.prog W = .ok (.slice (some ⟨W.heap.size, 0, none⟩) n n) (W.alloc (.cells (madeCells #[.int .u8 0, .int .u8 0, .int .u8 0, .int .u8 0, .int .u8 0, .int .u8 0, .int .u8 0, .int .u8 0] (n * 8)) 65)) := by
  obtain ⟨i0, hi0, hz0, hz1, hz2⟩ := info_parts info65
  have := run_make (P := Try.prog) W 22 65 i0 _ Try.underlying22 hi0 hz0 .i64 .i64 n n (by omega) (Int.le_refl _) (by rw [hz2]; omega) (by omega)
  rw [this, hz1]
  simp only [Int.toNat_natCast]
  rfl
theorem made_own (W : World) (n base : Nat) (hn : n ≤ 1000000) (hb : base ≤ W.heap.size) : (W.alloc (.cells (madeCells #[.int .u8 0, .int .u8 0, .int .u8 0, .int .u8 0, .int .u8 0, .int .u8 0, .int .u8 0, .int .u8 0] (n * 8)) 65)).ownsRow base 65 8 (.slice (some ⟨W.heap.size, 0, none⟩) n n) n (cellsOf Sec.c (List.replicate n Sec.z)) := by
  rw [← made_zeros]
  exact World.ownsRow_lit W _ n hb (by unfold maxLen; omega) (size_madeCells _ _)

def newD (n : Int) : St × Int := if n < 0 ∨ 4096 < n then (([], []), 2) else ((List.replicate n.toNat Sec.z, []), 0)
def NewPost (w w' : World) (e : Ending) (r : St × Int) : Prop := ∃ v, e = .returned (.tuple #[v, .int .i64 r.2]) ∧ DRF w.heap.size w' v r.1 ∧ Ext w w'
theorem new31 (n : Int) (w : World) : Calls Try.prog 31 #[.int .i64 n] w fun e w' => NewPost w w' e (newD n) := by
  by_cases h0 : n < 0
  · have HF : Hid (newD n = (([], []), 2)) := by show _ = _; unfold newD; rw [if_pos (.inl h0)]
    go_enter Try.func31, Try.ntmps31
    go_wp2_with fail
    obtain ⟨q1, q2, q3, q4⟩ := (Blk.new w #[.slice none 0 0, .slice none 0 0] 25).f2
    refine bodyPost_ret (v := .tuple #[.agg #[.slice none 0 0, .slice none 0 0], .int .i64 2]) (by simp [results, Try.results31, go_sem, q1, q2, q3, q4]) rfl ?_
    rw [HF.out]
    exact ⟨_, rfl, DRF.nil _ _, (Ext.refl w).alloc _⟩
  · by_cases h1 : 4096 < n
    · have HF : Hid (newD n = (([], []), 2)) := by show _ = _; unfold newD; rw [if_pos (.inr h1)]
      go_enter Try.func31, Try.ntmps31
      go_wp2_with fail
      obtain ⟨q1, q2, q3, q4⟩ := (Blk.new w #[.slice none 0 0, .slice none 0 0] 25).f2
      refine bodyPost_ret (v := .tuple #[.agg #[.slice none 0 0, .slice none 0 0], .int .i64 2]) (by simp [results, Try.results31, go_sem, q1, q2, q3, q4]) rfl ?_
      rw [HF.out]
      exact ⟨_, rfl, DRF.nil _ _, (Ext.refl w).alloc _⟩
    · obtain ⟨m, rfl⟩ : ∃ m : Nat, n = m := ⟨n.toNat, by omega⟩
      have HF : Hid (newD (m : Int) = ((List.replicate m Sec.z, []), 0)) := by show _ = _; unfold newD; rw [if_neg (by omega)]; rfl
      have hmk := make22 m (by omega)
      go_enter Try.func31, Try.ntmps31
      go_wp2_with fail
      have B1 := (Blk.new w #[.slice (some ⟨w.heap.size + 1, 0, none⟩) m m, .slice none 0 0] 25).alloc (.cells (madeCells #[.int .u8 0, .int .u8 0, .int .u8 0, .int .u8 0, .int .u8 0, .int .u8 0, .int .u8 0, .int .u8 0] (m * 8)) 65)
      obtain ⟨q1, q2, q3, q4⟩ := B1.f2
      have ho := made_own (w.alloc (.cells #[.slice (some ⟨w.heap.size + 1, 0, none⟩) m m, .slice none 0 0] 25)) m (w.heap.size + 1) (by omega) (by simp)
      rw [World.size_alloc] at ho
      refine bodyPost_ret (v := .tuple #[.agg #[.slice (some ⟨w.heap.size + 1, 0, none⟩) m m, .slice none 0 0], .int .i64 0]) (by simp [results, Try.results31, go_sem, q1, q2, q3, q4]) rfl ?_
      rw [HF.out]
      have hlr : (List.replicate m Sec.z).length = m := List.length_replicate
      refine ⟨_, rfl, ⟨some ⟨w.heap.size + 1, 0, none⟩, m, none, 0, by rw [hlr]; rfl, by rw [hlr]; exact Rd.own ho, rd_nil _ _, by rw [hlr]; exact (Fresh.own ho).low (by omega), Fresh.nil _⟩, ((Ext.refl w).alloc _).alloc _⟩
end Go.Proofs.Ytcgffpncfgmhkaa
