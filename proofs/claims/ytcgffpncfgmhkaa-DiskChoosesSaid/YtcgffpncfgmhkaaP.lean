import Derived.Test.YtcgffpncfgmhkaaN
import Derived.Test.YtcgffpncfgmhkaaSh
set_option linter.unusedVariables false
set_option linter.unusedSimpArgs false
set_option maxRecDepth 100000
set_option maxHeartbeats 2000000
namespace Go.Proofs.Ytcgffpncfgmhkaa
open Go Go.Proofs Go.RowKit Go.Instr Go.Shelf Go.Maps
open Go.ChangeMaps (setBlock)
open Go.Proofs.YtcgffpncfgmhkaaW.PrintWords

theorem keys50 (M : Nat) (w : World) : Calls Try.prog 50 #[.map (some M)] w fun e w' => e = .returned (.func (.func 66) #[] #[.pointer (some ⟨w.heap.size, 0, none⟩)]) ∧ w' = w.alloc (.cells #[.map (some M)] 94) :=
  (callsIn_wide (n := 5)).1 (AnyZI.keys_in keysA Fence.wide 5 trivial rfl (some M) w)

/-- The relation that asks nothing of an element. -/
def anyElem (H : Type) : Value → Option (DataW H × List MemPlace) := fun _ => some (.nil, [])
theorem ents_born (l : List ME) (n : Nat) : (ents l n).map (·.born) = List.range' n l.length := by
  induction l generalizing n with
  | nil => rfl
  | cons x l ih => simp [ents, ih, List.range'_succ]
theorem ents_key (l : List ME) (n : Nat) : (ents l n).map (·.key) = l.map fun x => Value.int .i64 x.key := by
  induction l generalizing n with
  | nil => rfl
  | cons x l ih => simp [ents, ih]
theorem ents_mem {l : List ME} {n : Nat} {e : MapEntry} (h : e ∈ ents l n) : ∃ x ∈ l, e.key = .int .i64 x.key := by
  induction l generalizing n with
  | nil => cases h
  | cons x l ih =>
    rcases List.mem_cons.1 h with rfl | h
    · exact ⟨x, by simp, rfl⟩
    · obtain ⟨y, hy, hk⟩ := ih h
      exact ⟨y, by simp [hy], hk⟩
theorem key_of {k : Int} (h : I64 k) : keyOf Try.prog 3 (.int .i64 k) = some (Lit.int .i64 k) := keyOf_int_mk Try.underlying3 (WalkArith.wf_i64 ⟨h.1, h.2⟩)
theorem rd_ent {e : MapEntry} {k : Int} (hk : e.key = .int .i64 k) (h : I64 k) : WideElems.rd Try.prog 3 (anyElem Unit) e = some (Lit.int .i64 k, .nil) := by
  unfold WideElems.rd
  rw [hk, key_of h]
  rfl
theorem rg_ents (l : List ME) (n : Nat) (hk : ∀ x ∈ l, I64 x.key) : (ents l n).map (WideElems.rg Try.prog 3 (anyElem Unit)) = l.map fun x => (Lit.int .i64 x.key, (.nil : DataW Unit)) := by
  induction l generalizing n with
  | nil => rfl
  | cons x l ih =>
    simp only [ents, List.map_cons]
    rw [ih (n + 1) (fun y hy => hk y (by simp [hy]))]
    congr 1
    unfold WideElems.rg
    rw [rd_ent rfl (hk x (by simp))]
    rfl
theorem MV.owns {base : Nat} {w : World} {M : Nat} {l : List ME} {ca : List (Int × Sec)} (h : MV base w M l ca) (hl : l.length ≤ 1000000) (hk : ∀ x ∈ l, I64 x.key) :
    ∃ D : DataW Unit, w.ownsMap Try.prog 3 (anyElem Unit) M l.length D ∧ (intKeys D).Perm (l.map (·.key)) ∧ Maps.size D = l.length := by
  have hnd : (l.map fun x => Value.int .i64 x.key).Nodup := by
    refine List.pairwise_map.2 (h.nodup.imp fun {a b} hab e => hab ?_)
    injection e
  refine ⟨.map (((ents l 0).toArray.toList.map (WideElems.rg Try.prog 3 (anyElem Unit))).foldr DataW.insert []), ⟨_, _, h.blk, ⟨?_, ?_, ?_⟩, ?_, rfl⟩, ?_, ?_⟩
  · simp only [List.size_toArray, ents_len]; unfold maxLen; omega
  · refine ⟨?_, ?_, ?_⟩
    · intro e he
      have : e.born ∈ (ents l 0).map (·.born) := List.mem_map.2 ⟨e, by simpa using he, rfl⟩
      rw [ents_born, List.mem_range'_1] at this
      omega
    · simp only [List.toList_toArray, ents_born]
      exact List.nodup_range'
    · simp only [List.toList_toArray, ents_key]
      exact hnd
  · intro e he
    obtain ⟨x, hx, hke⟩ := ents_mem (by simpa using he : e ∈ ents l 0)
    exact ⟨_, rd_ent hke (hk x hx)⟩
  · simp only [List.size_toArray, ents_len]; omega
  · simp only [List.toList_toArray, rg_ents l 0 hk]
    have hp := WideShapes.sorted_perm (l.map fun x => (Lit.int .i64 x.key, (.nil : DataW Unit)))
    have := hp.map (fun p => Go.intOf p.1)
    rw [List.map_map] at this
    exact this
  · show (((ents l 0).toArray.toList.map _).foldr DataW.insert []).length = _
    rw [length_sorted, List.length_map]
    simp [ents_len]

theorem sorted49 (M B : Nat) (l : List ME) (ca : List (Int × Sec)) (base : Nat) (w : World) (h : MV base w M l ca) (hl : l.length ≤ 1000000) (hk : ∀ x ∈ l, I64 x.key) (hB : Blk w B #[.map (some M)] 94) :
    Calls Try.prog 49 #[.func (.func 66) #[] #[.pointer (some ⟨B, 0, none⟩)]] w fun e w' => ∃ v, e = .returned v ∧ w'.ownsRow w.heap.size 3 1 v (l.map (·.key)).length (cellsOf intC ((l.map (·.key)).mergeSort fun x y => decide (x ≤ y))) ∧ Ext w w' := by
  obtain ⟨D, hD, hp, hs⟩ := h.owns hl hk
  refine (callsIn_wide (n := 5)).1 ?_
  have hseq : SeqGives Fence.wide 2 Try.prog 66 #[.pointer (some ⟨B, 0, none⟩)] encZ (fun ss => ss.Perm (intKeys D)) (Maps.size D) w :=
    AnyZI.keys_gives (ρ := keysA_ren) { keysA with } Fence.wide _ trivial rfl (by omega) B M l.length D _ hB.lt hB.f1.1 hD
  have cS := AnyZI.sorted_in sortedA Fence.wide 5 trivial trivial trivial trivial rfl (by omega) (sortsA _) (enters_of Try.func65 (by kernel_rfl) rfl) 66 #[.pointer (some ⟨B, 0, none⟩)] trivial (enters_of Try.func66 (by kernel_rfl) rfl) _ _ (by rw [hs]; unfold maxLen; omega) (by rw [hs]; omega) _ hseq
  refine CallsIn.mono cS ?_
  rintro e w' ⟨v, ss, rfl, hS, hrow, hnil, hb⟩
  have hpp := hS.trans hp
  refine ⟨v, rfl, ?_, hb⟩
  have hl2 : ss.length = (l.map (·.key)).length := hpp.length_eq
  have hms : ss.mergeSort leI = (l.map (·.key)).mergeSort leI := mergeSort_of_perm_i hpp
  have hce : cellsOf intC ((l.map (·.key)).mergeSort leI) = (ss.mergeSort leI).map encZ := by
    rw [← hms]
    unfold cellsOf
    induction ss.mergeSort leI with
    | nil => rfl
    | cons a r ih => rw [List.flatMap_cons, ih]; rfl
  rw [← hl2]
  show w'.ownsRow _ _ _ _ _ (cellsOf intC ((l.map (·.key)).mergeSort leI))
  rw [hce]
  exact hrow
end Go.Proofs.Ytcgffpncfgmhkaa
