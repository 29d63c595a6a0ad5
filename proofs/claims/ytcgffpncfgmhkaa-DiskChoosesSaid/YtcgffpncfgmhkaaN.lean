import Derived.Test.YtcgffpncfgmhkaaM
import Derived.Test.YtcgffpncfgmhkaaU3
set_option linter.unusedVariables false
set_option linter.unusedSimpArgs false
set_option maxRecDepth 100000
set_option maxHeartbeats 2000000
namespace Go.Proofs.Ytcgffpncfgmhkaa
open Go Go.Proofs Go.RowKit Go.Instr
open Go.ChangeMaps (setBlock)
open Go.Proofs.YtcgffpncfgmhkaaW.PrintWords

/-- The versions of a sector. -/
def vers (ca : List (Int × Sec)) (i : Int) : List Sec := (ca.filter fun x => decide (x.1 = i)).map (·.2)
theorem vers_snoc (ca : List (Int × Sec)) (x : Int × Sec) (i : Int) : vers (ca ++ [x]) i = vers ca i ++ (if x.1 = i then [x.2] else []) := by
  unfold vers
  rw [List.filter_append, List.map_append]
  by_cases h : x.1 = i <;> simp [h]

/-- Two values do not share their block. -/
def Apart (x y : ME) : Prop := ∀ b, x.val.ownBlock = some b → y.val.ownBlock ≠ some b
/-- The map of the versions of a cache. -/
structure MV (base : Nat) (w : World) (M : Nat) (l : List ME) (ca : List (Int × Sec)) : Prop where
  blk : w.heap[M]? = some (.map (ents l 0).toArray l.length)
  own : ∀ x ∈ l, w.ownsRow base 65 8 x.val x.secs.length (cellsOf Sec.c x.secs)
  nodup : l.Pairwise fun x y => x.key ≠ y.key
  apart : l.Pairwise Apart
  base : base ≤ M
  keys : ∀ x ∈ l, x.secs = vers ca x.key ∧ x.secs ≠ []
  all : ∀ y ∈ ca, ∃ x ∈ l, x.key = y.1

theorem find_key {l : List ME} {k : Int} {x : ME} (h : l.find? (fun x => decide (k = x.key)) = some x) : x ∈ l ∧ x.key = k := by
  have h1 := List.mem_of_find?_eq_some h
  have h2 := List.find?_some h
  exact ⟨h1, by simpa using (of_decide_eq_true h2).symm⟩

/-- What a lookup gives. -/
theorem MV.lookv {base : Nat} {w : World} {M : Nat} {l : List ME} {ca : List (Int × Sec)} (h : MV base w M l ca) (k : Int) :
    ∃ A c, look l k = .slice A (vers ca k).length c ∧ w.ownsRow base 65 8 (.slice A (vers ca k).length c) (vers ca k).length (cellsOf Sec.c (vers ca k)) := by
  unfold look
  cases hf : l.find? (fun x => decide (k = x.key)) with
  | none =>
    have hv : vers ca k = [] := by
      unfold vers
      rw [List.map_eq_nil_iff, List.filter_eq_nil_iff]
      intro y hy hk
      obtain ⟨x, hx, hxy⟩ := h.all y hy
      have := List.find?_eq_none.1 hf x hx
      simp only [decide_eq_true_eq] at hk this
      exact this (by rw [hxy, hk])
    rw [hv]
    exact ⟨none, 0, rfl, own_nil _ _ _ _⟩
  | some x =>
    obtain ⟨hx, hk⟩ := find_key hf
    have h1 := (h.keys x hx).1
    rw [hk] at h1
    have h2 := h.own x hx
    rw [← h1]
    exact ⟨x.A, x.c, rfl, h2⟩

/-- Which entry a lookup reads. -/
theorem look_block {l : List ME} {k : Int} {b : Nat} (h : (look l k).ownBlock = some b) : ∃ x ∈ l, x.key = k ∧ x.val.ownBlock = some b := by
  unfold look at h
  cases hf : l.find? (fun x => decide (k = x.key)) with
  | none => rw [hf] at h; simp [Value.ownBlock] at h
  | some x => rw [hf] at h; obtain ⟨hx, hk⟩ := find_key hf; exact ⟨x, hx, hk, h⟩

theorem mem_updM {l : List ME} {y x : ME} (hn : l.Pairwise fun x y => x.key ≠ y.key) (h : x ∈ updM l y) : x = y ∨ (x ∈ l ∧ x.key ≠ y.key) := by
  induction l with
  | nil => simp [updM] at h; exact .inl h
  | cons z l ih =>
    rw [List.pairwise_cons] at hn
    unfold updM at h
    split at h
    · rename_i he
      rcases List.mem_cons.1 h with rfl | h
      · exact .inl rfl
      · exact .inr ⟨by simp [h], fun hx => hn.1 x h (by rw [← he, hx])⟩
    · rename_i hne
      rcases List.mem_cons.1 h with rfl | h
      · exact .inr ⟨by simp, fun hh => hne hh.symm⟩
      · rcases ih hn.2 h with rfl | ⟨h1, h2⟩
        · exact .inl rfl
        · exact .inr ⟨by simp [h1], h2⟩
theorem updM_self {l : List ME} {y : ME} : y ∈ updM l y := by
  induction l with
  | nil => simp [updM]
  | cons z l ih => unfold updM; split <;> simp [ih]
theorem updM_mem {l : List ME} {y x : ME} (h : x ∈ l) : ∃ z ∈ updM l y, z.key = x.key := by
  induction l with
  | nil => cases h
  | cons z l ih =>
    unfold updM
    split
    · rename_i he
      rcases List.mem_cons.1 h with rfl | h
      · exact ⟨y, by simp, he⟩
      · exact ⟨x, by simp [h], rfl⟩
    · rcases List.mem_cons.1 h with rfl | h
      · exact ⟨x, by simp, rfl⟩
      · obtain ⟨u, hu, hk⟩ := ih h
        exact ⟨u, by simp [hu], hk⟩
theorem updM_nodup {l : List ME} {y : ME} (hn : l.Pairwise fun x y => x.key ≠ y.key) : (updM l y).Pairwise fun x y => x.key ≠ y.key := by
  induction l with
  | nil => simp [updM]
  | cons z l ih =>
    have hn' := hn
    rw [List.pairwise_cons] at hn
    unfold updM
    split
    · rename_i he
      rw [List.pairwise_cons]
      exact ⟨fun x hx => by rw [he]; exact hn.1 x hx, hn.2⟩
    · rename_i hne
      rw [List.pairwise_cons]
      refine ⟨fun x hx => ?_, ih hn.2⟩
      rcases mem_updM hn.2 hx with rfl | ⟨h1, _⟩
      · exact fun h => hne h.symm
      · exact hn.1 x h1
theorem Apart.symm {x y : ME} (h : Apart x y) : Apart y x := fun b h1 h2 => h b h2 h1
theorem updM_apart {l : List ME} {y : ME} (hn : l.Pairwise fun x y => x.key ≠ y.key) (ha : l.Pairwise Apart) (hy : ∀ x ∈ l, x.key ≠ y.key → Apart x y) : (updM l y).Pairwise Apart := by
  induction l with
  | nil => simp [updM]
  | cons z l ih =>
    rw [List.pairwise_cons] at hn ha
    unfold updM
    split
    · rename_i he
      rw [List.pairwise_cons]
      exact ⟨fun x hx => (hy x (by simp [hx]) (fun h => hn.1 x hx (by rw [← he, h]))).symm, ha.2⟩
    · rename_i hne
      rw [List.pairwise_cons]
      refine ⟨fun x hx => ?_, ih hn.2 ha.2 (fun x hx => hy x (by simp [hx]))⟩
      rcases mem_updM hn.2 hx with rfl | ⟨h1, _⟩
      · exact hy z (by simp) (fun h => hne h.symm)
      · exact ha.1 x h1
theorem apart_of_mem {l : List ME} (hn : l.Pairwise fun x y => x.key ≠ y.key) (ha : l.Pairwise Apart) {x z : ME} (hx : x ∈ l) (hz : z ∈ l) (hk : x.key ≠ z.key) : Apart x z := by
  induction l with
  | nil => cases hx
  | cons u l ih =>
    rw [List.pairwise_cons] at hn ha
    rcases List.mem_cons.1 hx with rfl | hx' <;> rcases List.mem_cons.1 hz with rfl | hz'
    · exact absurd rfl hk
    · exact ha.1 z hz'
    · exact (ha.1 x hx').symm
    · exact ih hn.2 ha.2 hx' hz'

/-- One more cached sector. w: before; w1: behind the append; w2: behind the update. -/
theorem MV.step {base : Nat} {w wa w1 : World} {M : Nat} {l : List ME} {ca : List (Int × Sec)} {x : Int × Sec} {gg cap n : Nat} (h : MV base w M l ca) (hwa : Ext w wa)
    (hown1 : w1.ownsRow base 65 8 (.slice (some ⟨gg, 0, none⟩) (n + 1) cap) (n + 1) (cellsOf Sec.c (vers ca x.1) ++ x.2.c)) (hn : n = (vers ca x.1).length) (hgrow : wa.grownBy w1 (look l x.1).ownBlock)
    (hat : (look l x.1).ownBlock = some gg ∨ wa.heap.size ≤ gg) (y : ME) (hy : y = ⟨x.1, some ⟨gg, 0, none⟩, cap, vers ca x.1 ++ [x.2]⟩) :
    w1.heap[M]? = some (.map (ents l 0).toArray l.length) ∧ MV base (setBlock w1 M (.map (ents (updM l y) 0).toArray (updM l y).length)) M (updM l y) (ca ++ [x]) := by
  have hM1 : w1.heap[M]? = some (.map (ents l 0).toArray l.length) := by
    have h1 := blk_below h.blk hwa
    refine blk_grown h1 hgrow ?_
    intro he
    obtain ⟨z, hz, hk, hb⟩ := look_block he.symm
    rcases (h.own z hz).2 with ⟨hv, _⟩ | ⟨g, c2, cur, hv, _, hh, _⟩
    · rw [hv] at hb; simp [Value.ownBlock] at hb
    · rw [hv] at hb
      simp only [Value.ownBlock, Option.some.injEq] at hb
      subst hb
      rw [h.blk] at hh
      cases hh
  have hset : ∀ (v : Value) (k : Nat) (cs : List Value), w1.ownsRow base 65 8 v k cs → (setBlock w1 M (.map (ents (updM l y) 0).toArray (updM l y).length)).ownsRow base 65 8 v k cs := by
    intro v k cs hv
    refine own_move hv (fun q hq => ?_)
    have hne : q ≠ M := by
      rintro rfl
      obtain ⟨cells, hc⟩ := own_typed hv q hq
      rw [hM1] at hc
      cases hc
    simp only [setBlock]
    rw [Array.getElem?_setIfInBounds_ne (Ne.symm hne)]
  have hMlt := (Array.getElem?_eq_some_iff.1 hM1).1
  have hkeep : ∀ z ∈ l, z.key ≠ x.1 → w1.ownsRow base 65 8 z.val z.secs.length (cellsOf Sec.c z.secs) := by
    intro z hz hk
    refine own_other (own_ext (h.own z hz) hwa) hgrow ?_
    by_cases hb : z.val.ownBlock = none
    · exact .inl hb
    · refine .inr fun he => ?_
      obtain ⟨b, hb'⟩ := Option.ne_none_iff_exists'.1 hb
      rw [hb'] at he
      obtain ⟨u, hu, hku, hub⟩ := look_block he.symm
      exact apart_of_mem h.nodup h.apart hz hu (by rw [hku]; exact hk) b hb' hub
  have hyk : y.key = x.1 := by rw [hy]
  have hys : y.secs = vers ca x.1 ++ [x.2] := by rw [hy]
  have hyv : y.val = .slice (some ⟨gg, 0, none⟩) (n + 1) cap := by rw [hy]; simp [ME.val, hn]
  have hsnoc : ∀ i : Int, i ≠ x.1 → vers (ca ++ [x]) i = vers ca i := fun i hi => by rw [vers_snoc, if_neg (fun h => hi h.symm), List.append_nil]
  refine ⟨hM1, ⟨?_, ?_, updM_nodup h.nodup, updM_apart h.nodup h.apart ?_, h.base, ?_, ?_⟩⟩
  · simp only [setBlock]
    rw [Array.getElem?_setIfInBounds_self_of_lt hMlt]
  · intro z hz
    rcases mem_updM h.nodup hz with rfl | ⟨h1, h2⟩
    · rw [hyv, hys]
      have := hset _ _ _ hown1
      have e : (vers ca x.1 ++ [x.2]).length = n + 1 := by simp [hn]
      rw [e, cellsOf_append]
      have e2 : cellsOf Sec.c [x.2] = x.2.c := by simp [cellsOf]
      rw [e2]
      exact this
    · exact hset _ _ _ (hkeep z h1 (by rw [hyk] at h2; exact h2))
  · intro z hz hk b hb hb'
    rw [hyv] at hb'
    simp only [Value.ownBlock, Option.some.injEq] at hb'
    have hb'' : gg = b := hb'
    subst hb''
    rw [hyk] at hk
    rcases hat with hat | hat
    · obtain ⟨u, hu, hku, hub⟩ := look_block hat
      exact apart_of_mem h.nodup h.apart hz hu (by rw [hku]; exact hk) _ hb hub
    · have h1 := own_lt (h.own z hz) gg hb
      have := hwa.size
      omega
  · intro z hz
    rcases mem_updM h.nodup hz with rfl | ⟨h1, h2⟩
    · rw [hys, hyk, vers_snoc, if_pos rfl]
      exact ⟨rfl, by simp⟩
    · rw [hsnoc z.key (by rw [hyk] at h2; exact h2)]
      exact h.keys z h1
  · intro u hu
    rcases List.mem_append.1 hu with hu | hu
    · obtain ⟨z, hz, hk⟩ := h.all u hu
      obtain ⟨z', hz', hk'⟩ := updM_mem (y := y) hz
      exact ⟨z', hz', by rw [hk', hk]⟩
    · rw [List.mem_singleton.1 hu]
      exact ⟨y, updM_self, hyk⟩
end Go.Proofs.Ytcgffpncfgmhkaa
