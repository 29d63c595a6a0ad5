import Derived.Test.YtcgffpncfgmhkaaU1
import Derived.MapKept
import Derived.ChangeMaps4
set_option linter.unusedVariables false
set_option linter.unusedSimpArgs false
set_option maxRecDepth 100000
set_option maxHeartbeats 2000000
namespace Go.Proofs.Ytcgffpncfgmhkaa
open Go Go.Proofs Go.RowKit Go.Instr
open Go.ChangeMaps (setBlock)
open Go.Proofs.YtcgffpncfgmhkaaW.PrintWords

/-- An entry of the map of versions. -/
structure ME where
  key : Int
  A : Option Addr
  c : Nat
  secs : List Sec
def ME.val (x : ME) : Value := .slice x.A x.secs.length x.c
def ents : List ME → Nat → List MapEntry
  | [], _ => []
  | x :: l, i => ⟨.int .i64 x.key, x.val, i⟩ :: ents l (i + 1)
def idxOf : List ME → Int → Nat → Option (Nat × Value)
  | [], _, _ => none
  | x :: l, k, i => if k = x.key then some (i, x.val) else idxOf l k (i + 1)
def look (l : List ME) (k : Int) : Value := match l.find? (fun x => decide (k = x.key)) with
  | some x => x.val
  | none => .slice none 0 0
def updM : List ME → ME → List ME
  | [], y => [y]
  | x :: l, y => if y.key = x.key then y :: l else x :: updM l y

theorem ents_len (l : List ME) (i : Nat) : (ents l i).length = l.length := by
  induction l generalizing i with
  | nil => rfl
  | cons x l ih => simp [ents, ih]
theorem findNow_ents (l : List ME) (k : Int) (n i : Nat) : findNow (.int .i64) (.int .i64 k) (ents l n) i = some (idxOf l k i) := by
  induction l generalizing n i with
  | nil => rfl
  | cons x l ih =>
    simp only [ents, findNow, sameNow, if_true, idxOf]
    by_cases h : k = x.key
    · subst h; simp
    · have : (k == x.key) = false := by simpa using h
      simp [this, h, ih]
theorem idxOf_look (l : List ME) (k : Int) (i : Nat) : (match idxOf l k i with | some (_, v) => v | none => .slice none 0 0) = look l k := by
  induction l generalizing i with
  | nil => rfl
  | cons x l ih =>
    simp only [idxOf, look, List.find?_cons] at ih ⊢
    by_cases h : k = x.key
    · simp [h]
    · simp [h, ih (i + 1)]
theorem run_findKey_ents {P : Program} {kt : TypeId} (hk : P.underlying kt = some (.int .i64)) (l : List ME) (k : Int) (w : World) : (findKey kt (.int .i64 k) (ents l 0)).run P w = .ok (idxOf l k 0) w := by
  unfold findKey
  simp [run_underlying hk, findNow_ents]
theorem run_checkKey_int {P : Program} {kt : TypeId} (hk : P.underlying kt = some (.int .i64)) (b : Bool) (k : Int) (w : World) : (checkKey b 10000 kt (.int .i64 k)).run P w = .ok () w := by
  show (checkKey b (9999 + 1) kt (.int .i64 k)).run P w = _
  generalize 9999 = m
  unfold checkKey
  simp only [Sem.run_bind, run_underlying hk, Result.andThen_ok]
  rfl
/-- m[k]. -/
theorem run_look {P : Program} {t kt e : TypeId} (ht : P.underlying t = some (.map kt e)) (hk : P.underlying kt = some (.int .i64)) (hz : ∀ w, (zeroValue e).run P w = .ok (.slice none 0 0) w) (l : List ME) (k : Int) {M c : Nat} {w : World}
    (hM : w.heap[M]? = some (.map (ents l 0).toArray c)) : (Instr.lookup t (.map (some M)) (.int .i64 k) false).run P w = .ok (look l k) w := by
  have h := idxOf_look l k 0
  simp only [Instr.lookup, Sem.run_bind, run_underlying ht, Result.andThen_ok, MapKept.run_getObj_map hM, run_checkKey_int hk, List.toList_toArray, run_findKey_ents hk, Sem.run_pure]
  cases hi : idxOf l k 0 with
  | none => rw [hi] at h; simp [hz, h]
  | some p => obtain ⟨i, v⟩ := p; rw [hi] at h; simp [h]
theorem idxOf_none {l : List ME} {k : Int} {i : Nat} (h : idxOf l k i = none) (y : ME) (hy : y.key = k) : updM l y = l ++ [y] := by
  induction l generalizing i with
  | nil => rfl
  | cons x l ih =>
    simp only [idxOf] at h
    split at h
    · cases h
    · rename_i hne
      simp [updM, hy, hne, ih h]
theorem ents_append (l m : List ME) (i : Nat) : ents (l ++ m) i = ents l i ++ ents m (i + l.length) := by
  induction l generalizing i with
  | nil => simp [ents]
  | cons x l ih => simp only [List.cons_append, ents, ih, List.length_cons]; rw [show i + 1 + l.length = i + (l.length + 1) by omega]
theorem updM_modify {l : List ME} {k : Int} {j i n : Nat} {v : Value} (h : idxOf l k i = some (j, v)) (y : ME) (hy : y.key = k) :
    i ≤ j ∧ j - i < l.length ∧ ents (updM l y) n = (ents l n).modify (j - i) (fun e => { e with key := .int .i64 k, val := y.val }) ∧ ((ents l n)[j - i]?).map (·.key) = some (.int .i64 k) ∧ (updM l y).length = l.length := by
  induction l generalizing i n with
  | nil => cases h
  | cons x l ih =>
    simp only [idxOf] at h
    split at h
    · rename_i he
      injection h with h
      injection h with h1 h2
      subst h1
      simp [updM, hy, he, ents]
    · rename_i hne
      obtain ⟨h1, h2, h3, h4, h5⟩ := ih (n := n + 1) h
      have e : j - i = (j - (i + 1)) + 1 := by omega
      refine ⟨by omega, by simp; omega, ?_, ?_, ?_⟩
      · rw [e]; simp [updM, hy, hne, ents, h3]
      · rw [e]; simpa [ents] using h4
      · simp [updM, hy, hne, h5]
theorem sameBits_int (k : Int) : sameBits 10000 (.int .i64 k) (.int .i64 k) = true := by
  generalize 10000 = m
  cases m <;> simp [sameBits]
/-- m[k] = v. -/
theorem run_upd {P : Program} {t kt e : TypeId} (ht : P.underlying t = some (.map kt e)) (hk : P.underlying kt = some (.int .i64)) (l : List ME) (y : ME) {M : Nat} {w : World}
    (hM : w.heap[M]? = some (.map (ents l 0).toArray l.length)) : (Instr.mapUpdate t (.map (some M)) (.int .i64 y.key) y.val).run P w = .ok () (setBlock w M (.map (ents (updM l y) 0).toArray (updM l y).length)) := by
  simp only [Instr.mapUpdate, Sem.run_bind, run_underlying ht, Result.andThen_ok, MapKept.run_getObj_map hM, run_checkKey_int hk, List.toList_toArray, run_findKey_ents hk]
  cases hi : idxOf l y.key 0 with
  | none =>
    rw [idxOf_none hi y rfl]
    simp [MapKept.run_setObj_map _ hM, setBlock, ents_append, ents]
  | some p =>
    obtain ⟨j, v⟩ := p
    obtain ⟨_, h2, h3, h4, h5⟩ := updM_modify (n := 0) hi y rfl
    rw [Nat.sub_zero] at h2 h3 h4
    rw [h3, h5]
    have hkey : (((ents l 0)[j]?).map (·.key)).getD (.int .i64 y.key) = .int .i64 y.key := by rw [h4]; rfl
    simp [keyThatStays, hkey, sameBits_int, MapKept.run_setObj_map _ hM, setBlock]
end Go.Proofs.Ytcgffpncfgmhkaa
