import Derived.Test.YtcgffpncfgmhkaaV3
import Derived.Deep.Slices
set_option linter.unusedVariables false
set_option linter.unusedSimpArgs false
set_option maxRecDepth 100000
set_option maxHeartbeats 2000000
namespace Go.Proofs.Ytcgffpncfgmhkaa
open Go Go.Proofs Go.RowKit

theorem crash_zero (ca : List (Int × Sec)) (l : List Int) (st : List Sec) (ch : List Int) (h : ∀ x ∈ ch, x = 0) : (l.foldl (crashStep ca) (st, ch)).1 = st := by
  induction l generalizing ch with
  | nil => rfl
  | cons i l ih =>
    simp only [List.foldl_cons]
    have hs : ∃ ch', crashStep ca (st, ch) i = (st, ch') ∧ ∀ x ∈ ch', x = 0 := by
      unfold crashStep
      by_cases hv : vers ca i = []
      · rw [if_pos hv]; exact ⟨ch, rfl, h⟩
      · rw [if_neg hv]
        cases ch with
        | nil => exact ⟨[], by simp [decD], by simp⟩
        | cons c r =>
          have hc : c = 0 := h c (by simp)
          subst hc
          exact ⟨r, by simp [decD], fun x hx => h x (by simp [hx])⟩
    obtain ⟨ch', e, h'⟩ := hs
    rw [e]; exact ih ch' h'
theorem crash_eat (ca : List (Int × Sec)) (l : List Int) (st : List Sec) (rest : List Int) : l.foldl (crashStep ca) (st, List.replicate (l.filter fun i => !(vers ca i).isEmpty).length 0 ++ rest) = (st, rest) := by
  induction l with
  | nil => rfl
  | cons i l ih =>
    simp only [List.foldl_cons]
    by_cases hv : vers ca i = []
    · rw [List.filter_cons_of_neg (by simp [hv])]
      rw [show ∀ X, crashStep ca (st, X) i = (st, X) from fun X => if_pos hv]
      exact ih
    · rw [List.filter_cons_of_pos (by simpa using hv)]
      simp only [List.length_cons, List.replicate_succ, List.cons_append]
      rw [show ∀ X, crashStep ca (st, 0 :: X) i = (st, X) from fun X => by unfold crashStep; rw [if_neg hv]; simp [decD]]
      exact ih
theorem vers_app (a b : List (Int × Sec)) (i : Int) : vers (a ++ b) i = vers a i ++ vers b i := by
  unfold vers
  rw [List.filter_append, List.map_append]
/-- With these choices the crash keeps just this version. -/
theorem choose_law (s : St) (hz : chkD s.1 s.2 = 0) (j : Nat) (c : Int × Sec) (hj : s.2[j]? = some c) (ks : List Int) (hnd : ks.Nodup) (hks : ∀ x, x ∈ ks ↔ x < c.1 ∧ ∃ y ∈ s.2, y.1 = x) :
    (crashD s (List.replicate ks.length 0 ++ [((vers (s.2.take (j + 1)) c.1).length : Int)])).1 = s.1.set c.1.toNat c.2 := by
  have hok := anyBad_ok (chkD_ok hz)
  obtain ⟨hc0, hcn⟩ := hok c (List.mem_of_getElem? hj)
  obtain ⟨a, ha⟩ : ∃ a : Nat, c.1 = a := ⟨c.1.toNat, by omega⟩
  have han : a + 1 ≤ s.1.length := by omega
  have hvt : vers (s.2.take (j + 1)) c.1 = vers (s.2.take j) c.1 ++ [c.2] := by
    rw [List.take_add_one, hj]
    show vers (s.2.take j ++ [c]) c.1 = _
    rw [vers_snoc, if_pos rfl]
  have hva : vers s.2 c.1 = vers (s.2.take j) c.1 ++ [c.2] ++ vers (s.2.drop (j + 1)) c.1 := by
    rw [← hvt, ← vers_app, List.take_append_drop]
  have hlen : ks.length = (((List.range a).map fun (i : Nat) => (i : Int)).filter fun i => !(vers s.2 i).isEmpty).length := by
    refine List.Perm.length_eq ((List.perm_ext_iff_of_nodup hnd ?_).2 fun x => ?_)
    · refine List.Pairwise.filter _ ?_
      refine List.pairwise_map.2 (List.nodup_range.imp fun {x y} hxy e => hxy ?_)
      exact Int.ofNat.inj e
    · rw [hks, List.mem_filter]
      have hvb : (!(vers s.2 x).isEmpty) = true ↔ vers s.2 x ≠ [] := by simp
      rw [hvb, vers_ne]
      constructor
      · rintro ⟨h1, y, hy, rfl⟩
        refine ⟨?_, y, hy, rfl⟩
        have h2 := (hok y hy).1
        exact List.mem_map.2 ⟨y.1.toNat, List.mem_range.2 (by omega), by omega⟩
      · rintro ⟨h1, h2⟩
        obtain ⟨i, hi, rfl⟩ := List.mem_map.1 h1
        have := List.mem_range.1 hi
        exact ⟨by omega, h2⟩
  unfold crashD
  rw [Go.Deep.range_split han, List.map_append, List.foldl_append, List.range_succ, List.map_append, List.foldl_append, hlen, crash_eat]
  have hstep : [a].map (fun (i : Nat) => (i : Int)) = [c.1] := by rw [ha]; rfl
  rw [hstep]
  simp only [List.foldl_cons, List.foldl_nil]
  have hne : vers s.2 c.1 ≠ [] := by rw [hva]; simp
  have hd : (decD [((vers (s.2.take (j + 1)) c.1).length : Int)] ((vers s.2 c.1).length + 1)) = (((vers (s.2.take (j + 1)) c.1).length : Int), []) := by
    show (((vers (s.2.take (j + 1)) c.1).length : Int) % (((vers s.2 c.1).length + 1 : Nat) : Int), ([] : List Int)) = _
    rw [Int.emod_eq_of_lt (by omega) (by rw [hva, hvt]; simp; omega)]
  have e : crashStep s.2 (s.1, [((vers (s.2.take (j + 1)) c.1).length : Int)]) c.1 = (s.1.set c.1.toNat c.2, []) := by
    unfold crashStep
    rw [if_neg hne, hd]
    have hp : 0 < ((vers (s.2.take (j + 1)) c.1).length : Int) := by rw [hvt, List.length_append]; simp only [List.length_cons, List.length_nil]; omega
    rw [if_pos hp]
    have hg : (vers s.2 c.1).getD (((vers (s.2.take (j + 1)) c.1).length : Int) - 1).toNat default = c.2 := by
      have hi : (((vers (s.2.take (j + 1)) c.1).length : Int) - 1).toNat = (vers (s.2.take j) c.1).length := by rw [hvt]; simp
      rw [hi, hva, List.append_assoc, List.getD_eq_getElem?_getD, List.getElem?_append_right (Nat.le_refl _)]
      simp
    rw [hg]
  rw [e]
  exact crash_zero _ _ _ _ (by simp)
theorem choose_none (s : St) (n : Nat) : (crashD s (List.replicate n 0)).1 = s.1 := by
  unfold crashD
  exact crash_zero _ _ _ _ (fun x hx => (List.mem_replicate.1 hx).2)
end Go.Proofs.Ytcgffpncfgmhkaa
