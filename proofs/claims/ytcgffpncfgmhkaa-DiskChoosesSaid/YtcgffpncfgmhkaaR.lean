import Derived.OrdersHeld
import Derived.Deep.RegionHeld
import Derived.WalkKit
import Derived.Test.YtcgffpncfgmhkaaK
set_option linter.unusedVariables false
namespace Go.Proofs.Ytcgffpncfgmhkaa
open Go Go.RowKit

section
variable {P : Program} {ops : Array Oper} {Q : Exit → Act → World → Prop} {md : Region.Mode} {S : World → Prop} {f : Nat}

/-- Whatever order is picked from here on; S holds behind every operation but number f. -/
def wpAnyF (P : Program) (md : Region.Mode) (ops : Array Oper) (Q : Exit → Act → World → Prop) (S : World → Prop) (f : Nat) : Nat → Array Bool → Act → World → Prop
  | 0, listed, a, w => Region.ready md ops listed = [] ∧ Q .normal a w
  | fuel + 1, listed, a, w =>
    (Region.ready md ops listed = [] → Q .normal a w) ∧
    ∀ i ∈ Region.ready md ops listed, wpOp P ops Q i (fun a' w' => (i ≠ f → S w') ∧ wpAnyF P md ops Q S f fuel (listed.setIfInBounds i true) a' w') a w

theorem wpAny_of_F : ∀ (fuel : Nat) (listed : Array Bool) (a : Act) (w : World), wpAnyF P md ops Q S f fuel listed a w → wpAny P md ops Q fuel listed a w
  | 0, _, _, _, h => h
  | fuel + 1, _, _, _, h => ⟨h.1, fun i hi => wpOp_mono (fun a' w' h' => wpAny_of_F fuel _ a' w' h'.2) (h.2 i hi)⟩

/-- Operation i comes before f. -/
def beforeF (md : Region.Mode) (ops : Array Oper) (f i : Nat) : Bool := match ops[f]? with
  | some o => o.after.any fun e => Region.binds md e && e.on == i
  | none => false

theorem not_ready_f {i : Nat} {listed : Array Bool} (hd : beforeF md ops f i = true) (hi : i ∈ Region.ready md ops listed) : f ∉ Region.ready md ops listed := by
  intro hf
  obtain ⟨h0, _⟩ := mem_ready.1 hi
  obtain ⟨_, o, ho, hall⟩ := mem_ready.1 hf
  unfold beforeF at hd
  rw [ho] at hd
  simp only [Array.any_eq_true, Bool.and_eq_true, beq_iff_eq] at hd
  obtain ⟨k, hk, hb, he⟩ := hd
  have h1 := hall _ (Array.getElem_mem hk) hb
  rw [he] at h1
  rcases Nat.lt_or_ge i listed.size with h' | h'
  · simp [h'] at h0 h1; rw [h0] at h1; cases h1
  · simp [Array.getElem?_eq_none h'] at h1

theorem wpAnyF_first {i : Nat} {oi : Oper} {v : Value} (hi : ops[i]? = some oi) (hsel : ∀ (j : Nat) (o : Oper) cs b, ops[j]? = some o → o.op ≠ .select cs b)
    (hQ : ∀ c a w, Q (.panic c) (a.put oi.dst v) w → Q (.panic c) a w) (hd : beforeF md ops f i = true) :
    ∀ (fuel : Nat) (listed : Array Bool) (a : Act) (w : World),
      (∀ j oj, ops[j]? = some oj → j ≠ i → listed.getD j true = false → (∀ e ∈ oj.after, Region.binds md e = true → e.on ≠ i) → oi.apart ops oj = true) →
      i ∈ Region.ready md ops listed → YieldsIf P ops S oi v a → S w →
      wpAnyF P md ops Q S f fuel (listed.setIfInBounds i true) (a.put oi.dst v) w → wpAnyF P md ops Q S f (fuel + 1) listed a w := by
  intro fuel
  induction fuel with
  | zero =>
    intro listed a w _ hr hy hS H
    refine ⟨fun h => (by rw [h] at hr; cases hr), fun j hj => ?_⟩
    by_cases hji : j = i
    · subst hji; exact hy.wpOp hi hS ⟨fun _ => hS, H⟩
    · have := ready_mono hj hji
      rw [H.1] at this
      cases this
  | succ fuel ih =>
    intro listed a w hfree hr hy hS H
    refine ⟨fun h => (by rw [h] at hr; cases hr), fun j hj => ?_⟩
    by_cases hji : j = i
    · subst hji; exact hy.wpOp hi hS ⟨fun _ => hS, H⟩
    · have hjf : j ≠ f := fun he => not_ready_f hd hr (he ▸ hj)
      have h1 := H.2 j (ready_mono hj hji)
      obtain ⟨hjun, oj, hoj, hall⟩ := mem_ready.1 hj
      have hnot : ∀ e ∈ oj.after, Region.binds md e = true → e.on ≠ i := fun e he hb heq => by
        have h1 := hall e he hb
        have h0 := (mem_ready.1 hr).1
        rw [heq] at h1
        rcases Nat.lt_or_ge i listed.size with h' | h'
        · simp [h'] at h0 h1; rw [h0] at h1; cases h1
        · simp [Array.getElem?_eq_none h'] at h1
      have h2 := wpOp_putIf hoj (hfree j oj hoj hji hjun hnot) (fun cs b => hsel i oi cs b hi) (fun cs b => hsel j oj cs b hoj) hQ hy h1
      have hfree' : ∀ k ok, ops[k]? = some ok → k ≠ i → (listed.setIfInBounds j true).getD k true = false →
          (∀ e ∈ ok.after, Region.binds md e = true → e.on ≠ i) → oi.apart ops ok = true := fun k ok hk hki hun hno => by
        refine hfree k ok hk hki ?_ hno
        by_cases hjk : j = k
        · subst hjk; exact hjun
        · rw [getD_set_ne true hjk] at hun; exact hun
      refine wpOp_mono (fun a' w' h3 => ⟨h3.2.1, ih (listed.setIfInBounds j true) a' w' hfree' (ready_mono hr (Ne.symm hji)) h3.1 (h3.2.1 hjf) ?_⟩) h2
      rw [Array.setIfInBounds_comm _ _ hji]
      exact h3.2.2

/-- Take number i first. -/
theorem wpAnyF_take {i : Nat} {oi : Oper} {v : Value} {fuel : Nat} {listed : Array Bool} {a : Act} {w : World} (hi : ops[i]? = some oi)
    (hs : Region.noSelect ops = true) (hf : Region.free md ops listed i = true) (hr : (Region.ready md ops listed).contains i = true) (hd : beforeF md ops f i = true)
    (hQ : ∀ c a w, Q (.panic c) (a.put oi.dst v) w → Q (.panic c) a w) (hy : YieldsIf P ops S oi v a) (hS : S w)
    (h : wpAnyF P md ops Q S f fuel (listed.setIfInBounds i true) (a.put oi.dst v) w) : wpAnyF P md ops Q S f (fuel + 1) listed a w :=
  wpAnyF_first hi (Region.noSelect_spec hs) hQ hd fuel listed a w (Region.free_spec hi hf) (by simpa using hr) hy hS h

/-- An operation alone, as the walk takes it. -/
theorem wpOp_of_list {o : Oper} {i : Nat} {K : Act → World → Prop} {a : Act} {w : World} (hi : ops[i]? = some o) (h : wpList P ops (Exit.then K Q) [o] a w) : wpOp P ops Q i K a w := by
  unfold wpOp
  simp only [hi]
  simp only [wpList] at h
  have hl : LetsOut (Exit.then K Q) → LetsOut Q := fun h => h
  split
  · rename_i hw
    rw [if_pos hw] at h
    rcases h with h | ⟨h1, h2⟩
    · refine .inl ?_
      unfold Oper.wp at *
      generalize (execOp a.eval o).run P w = r at *
      cases r with
      | ok n w' => cases n <;> first | exact h | exact Calls.mono h (fun e w'' he => by cases e <;> exact he)
      | halt x w' => cases x <;> exact h
    · exact .inr ⟨h1, hl h2⟩
  · rename_i hw
    rw [if_neg hw] at h
    exact h

/-- The only one that may come up comes up. -/
theorem wpAnyF_one {i : Nat} {o : Oper} {fuel : Nat} {listed : Array Bool} {a : Act} {w : World} (hr : Region.ready md ops listed = [i]) (hi : ops[i]? = some o)
    (h : wpList P ops (Exit.then (fun a' w' => Stop_ ((i ≠ f → S w') ∧ wpAnyF P md ops Q S f fuel (listed.setIfInBounds i true) a' w')) Q) [o] a w) : wpAnyF P md ops Q S f (fuel + 1) listed a w :=
  ⟨fun h0 => (by rw [hr] at h0; cases h0), fun j hj => (by rw [hr] at hj; cases List.mem_singleton.1 hj; exact wpOp_of_list hi h)⟩

theorem wpAnyF_done {listed : Array Bool} {a : Act} {w : World} (hr : Region.ready md ops listed = []) (h : Q .normal a w) :
    ∀ fuel, wpAnyF P md ops Q S f fuel listed a w
  | 0 => ⟨hr, h⟩
  | _ + 1 => ⟨fun _ => h, by rw [hr]; simp⟩

theorem wp_region_F {id : Nat} {a : Act} {w : World} (S : World → Prop) (f : Nat) (hm : P.follows .mixedOrders = true) (hS : S w.drew)
    (h : S w.drew → wpAnyF P .any ops Q S f ops.size (Array.replicate ops.size false) a w.drew) : (Code.region id ops true).wp P Q a w :=
  wp_region_any hm (wpAny_of_F _ _ _ _ (h hS))
end
end Go.Proofs.Ytcgffpncfgmhkaa
