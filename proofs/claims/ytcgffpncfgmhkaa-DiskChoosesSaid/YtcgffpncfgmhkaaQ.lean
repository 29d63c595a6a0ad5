import Derived.Test.YtcgffpncfgmhkaaR
import Derived.Deep.Cut
set_option linter.unusedVariables false
namespace Go.Proofs.Ytcgffpncfgmhkaa
open Go Go.RowKit

/-- How many of the first T are not yet listed. -/
def cntOpen (l : Array Bool) : Nat → Nat
  | 0 => 0
  | t + 1 => cntOpen l t + (if l.getD t false = true then 0 else 1)
theorem getD_set_bool {l : Array Bool} {i j : Nat} (hi : i < l.size) : (l.setIfInBounds i true).getD j false = if i = j then true else l.getD j false := by
  simp only [Array.getD_eq_getD_getElem?, Array.getElem?_setIfInBounds]
  by_cases h : i = j
  · subst h; simp [hi]
  · simp [h]
theorem cntOpen_ge {l : Array Bool} {i : Nat} (hi : i < l.size) : ∀ t, t ≤ i → cntOpen (l.setIfInBounds i true) t = cntOpen l t
  | 0, _ => rfl
  | t + 1, h => by
    unfold cntOpen
    rw [cntOpen_ge hi t (by omega), getD_set_bool hi, if_neg (show ¬ i = t by omega)]
theorem cntOpen_set {l : Array Bool} {i : Nat} (hi : i < l.size) (hu : l.getD i false = false) : ∀ t, i < t → cntOpen (l.setIfInBounds i true) t + 1 = cntOpen l t
  | 0, h => by omega
  | t + 1, h => by
    unfold cntOpen
    rw [getD_set_bool hi]
    by_cases ht : i = t
    · subst ht
      rw [if_pos rfl, cntOpen_ge hi i (Nat.le_refl _), hu]
      simp
    · rw [if_neg ht]
      have := cntOpen_set hi hu t (by omega)
      omega
theorem cntOpen_pos {l : Array Bool} : ∀ t, 0 < cntOpen l t → ∃ i, i < t ∧ l.getD i false = false ∧ ∀ j, j < i → l.getD j false = true
  | 0, h => by simp [cntOpen] at h
  | t + 1, h => by
    by_cases h0 : 0 < cntOpen l t
    · obtain ⟨i, hi, h1, h2⟩ := cntOpen_pos t h0
      exact ⟨i, by omega, h1, h2⟩
    · unfold cntOpen at h
      have hz : ∀ t, cntOpen l t = 0 → ∀ j, j < t → l.getD j false = true := by
        intro t
        induction t with
        | zero => intro _ j hj; omega
        | succ t ih =>
          intro hc j hj
          unfold cntOpen at hc
          by_cases hjt : j = t
          · subst hjt
            by_cases hb : l.getD j false = true
            · exact hb
            · rw [if_neg hb] at hc; omega
          · exact ih (by omega) j (by omega)
      refine ⟨t, by omega, ?_, hz t (by omega)⟩
      by_cases hb : l.getD t false = true
      · rw [if_pos hb] at h; omega
      · simpa using hb
theorem cntOpen_zero {l : Array Bool} : ∀ t, cntOpen l t = 0 → ∀ j, j < t → l.getD j false = true
  | 0, _, j, hj => by omega
  | t + 1, hc, j, hj => by
    unfold cntOpen at hc
    by_cases hjt : j = t
    · subst hjt
      by_cases hb : l.getD j false = true
      · exact hb
      · rw [if_neg hb] at hc; omega
    · exact cntOpen_zero t (by omega) j (by omega)

section
variable {P : Program} {ops : Array Oper} {Q : Exit → Act → World → Prop} {md : Region.Mode} {S : World → Prop} {f : Nat}

/-- co: the core of the head; hd: the head (the core and what may come late); the others: the tail. -/
structure HeadOk (md : Region.Mode) (ops : Array Oper) (co hd : Nat → Bool) (dd : Nat → Nat) : Prop where
  sub : ∀ i, co i = true → hd i = true ∧ i < ops.size
  topo : ∀ (i : Nat) (o : Oper), ops[i]? = some o → ∀ e ∈ o.after, Region.binds md e = true → e.on < i
  op : ∀ (i : Nat) (o : Oper), hd i = true → ops[i]? = some o → o.dst = some (dd i)
  inj : ∀ i j, i < ops.size → j < ops.size → hd i = true → hd j = true → dd i = dd j → i = j
  tail : ∀ (i : Nat) (o : Oper), hd i = false → ops[i]? = some o → ∀ (j : Nat), co j = true → ∃ e ∈ o.after, Region.binds md e = true ∧ (e.on = j ∨ (hd e.on = false ∧ e.on < ops.size))

/-- The frame but for the slots of the head. -/
structure Like (n : Nat) (hd : Nat → Bool) (dd : Nat → Nat) (a0 a : Act) : Prop where
  oth : ∀ k, (∀ i, i < n → hd i = true → dd i ≠ k) → a.tmps[k]? = a0.tmps[k]?
  sz : a.tmps.size = a0.tmps.size
  df : a.defers = a0.defers

theorem wpAnyF_head {co hd : Nat → Bool} {dd : Nat → Nat} {W0 : World} {a0 : Act} (Φ : Nat → Value → World → Prop) (hok : HeadOk md ops co hd dd) (hin : ∀ i, i < ops.size → hd i = true → dd i < a0.tmps.size)
    (hS : ∀ w, Ext W0 w → S w)
    (hmono : ∀ i v w w', i < ops.size → hd i = true → Ext w w' → Φ i v w → Φ i v w')
    (hstep : ∀ i a w, i < ops.size → hd i = true → Ext W0 w → Like ops.size hd dd a0 a → (∀ o, ops[i]? = some o → ∀ e ∈ o.after, Region.binds md e = true → ∃ v, a.tmps[dd e.on]? = some v ∧ Φ e.on v w) →
      wpOp P ops Q i (fun a' w' => Ext w w' ∧ ∃ v, a' = a.put (some (dd i)) v ∧ Φ i v w') a w)
    (hend : ∀ (listed : Array Bool) a w, listed.size = ops.size → (∀ i, co i = true → listed.getD i false = true) → (∀ i, i < ops.size → hd i = false → listed.getD i false = false) → Ext W0 w → Like ops.size hd dd a0 a →
      (∀ i, i < ops.size → hd i = true → listed.getD i false = true → ∃ v, a.tmps[dd i]? = some v ∧ Φ i v w) → wpAnyF P md ops Q S f (cntOpen listed ops.size) listed a w) :
    ∀ (m : Nat) (listed : Array Bool) (a : Act) (w : World), cntOpen listed ops.size = m → listed.size = ops.size → (∀ i, i < ops.size → hd i = false → listed.getD i false = false) → Ext W0 w → Like ops.size hd dd a0 a →
      (∀ i, i < ops.size → hd i = true → listed.getD i false = true → ∃ v, a.tmps[dd i]? = some v ∧ Φ i v w) → wpAnyF P md ops Q S f m listed a w
  | 0, listed, a, w, hc, hsz, htl, hx, hL, hv => by
    have := hend listed a w hsz (fun i hi => cntOpen_zero ops.size hc i (hok.sub i hi).2) htl hx hL hv
    rwa [hc] at this
  | m + 1, listed, a, w, hc, hsz, htl, hx, hL, hv => by
    by_cases hcore : ∀ i, co i = true → listed.getD i false = true
    · have := hend listed a w hsz hcore htl hx hL hv
      rwa [hc] at this
    · obtain ⟨j0, hj0⟩ := Classical.not_forall.1 hcore
      obtain ⟨hj1, hj2⟩ := Classical.not_imp.1 hj0
      have hj3 : listed.getD j0 false = false := by simpa using hj2
      obtain ⟨i0, hi0, hu0, hb0⟩ := cntOpen_pos ops.size (by omega : 0 < cntOpen listed ops.size)
      refine ⟨fun h0 => ?_, fun i hi => ?_⟩
      · exfalso
        have ho : ops[i0]? = some ops[i0] := Array.getElem?_eq_getElem hi0
        have : i0 ∈ Region.ready md ops listed := mem_ready.2 ⟨by
          have hlt : i0 < listed.size := by omega
          simpa [Array.getD_eq_getD_getElem?, hlt] using hu0, _, ho, fun e he hbb => hb0 _ (hok.topo i0 _ ho e he hbb)⟩
        rw [h0] at this
        cases this
      · obtain ⟨hun, o, ho, hall⟩ := mem_ready.1 hi
        have hlt : i < ops.size := (Array.getElem?_eq_some_iff.1 ho).1
        have hlt' : i < listed.size := by omega
        have hun' : listed.getD i false = false := by simpa [Array.getD_eq_getD_getElem?, hlt'] using hun
        have hiH : hd i = true := by
          cases hh : hd i with
          | true => rfl
          | false =>
            exfalso
            obtain ⟨e, he, hb, hcase⟩ := hok.tail i o hh ho j0 hj1
            have hl := hall e he hb
            rcases hcase with h1 | ⟨h1, h2⟩
            · rw [h1, hj3] at hl; cases hl
            · rw [htl e.on h2 h1] at hl; cases hl
        have hdeps : ∀ o, ops[i]? = some o → ∀ e ∈ o.after, Region.binds md e = true → ∃ v, a.tmps[dd e.on]? = some v ∧ Φ e.on v w := fun o2 ho2 e he hb => by
          rw [ho] at ho2
          cases ho2
          have hl := hall e he hb
          have hlt2 : e.on < ops.size := by have := hok.topo i o ho e he hb; omega
          cases hh : hd e.on with
          | true => exact hv e.on hlt2 hh hl
          | false => rw [htl e.on hlt2 hh] at hl; cases hl
        refine wpOp_mono ?_ (hstep i a w hlt hiH hx hL hdeps)
        rintro a' w' ⟨hx', v, rfl, hΦ⟩
        have hdi : dd i < a.tmps.size := by rw [hL.sz]; exact hin i hlt hiH
        refine ⟨fun _ => hS w' (hx.trans hx'), wpAnyF_head Φ hok hin hS hmono hstep hend m (listed.setIfInBounds i true) _ w' ?_ (by simp [hsz]) ?_ (hx.trans hx') ?_ ?_⟩
        · have := cntOpen_set hlt' hun' ops.size hlt
          omega
        · intro j hj hj2
          rw [getD_set_bool hlt']
          have hne : ¬ i = j := fun h => by subst h; rw [hiH] at hj2; cases hj2
          rw [if_neg hne]
          exact htl j hj hj2
        · refine ⟨fun k hk => ?_, by simp [Act.put, hL.sz], hL.df⟩
          show (a.tmps.setIfInBounds (dd i) v)[k]? = _
          rw [Array.getElem?_setIfInBounds_ne (hk i hlt hiH)]
          exact hL.oth k hk
        · intro j hj hjh hl
          show ∃ u, (a.tmps.setIfInBounds (dd i) v)[dd j]? = some u ∧ Φ j u w'
          by_cases hij : i = j
          · subst hij
            exact ⟨v, by rw [Array.getElem?_setIfInBounds_self_of_lt hdi], hΦ⟩
          · have hne : dd i ≠ dd j := fun h => hij (hok.inj i j hlt hj hiH hjh h)
            rw [getD_set_bool hlt', if_neg hij] at hl
            obtain ⟨u, hu, hp⟩ := hv j hj hjh hl
            exact ⟨u, by rw [Array.getElem?_setIfInBounds_ne hne]; exact hu, hmono j u w w' hj hjh hx' hp⟩

/-- The check of a head, to be run: for each operation its slot and its kind (0 tail, 1 core, 2 late). -/
def headB (md : Region.Mode) (ops : Array Oper) (ks : List (Nat × Nat)) : Bool :=
  decide (ks.length = ops.size) &&
  ((List.range ops.size).all (fun i => match ops[i]? with | some o => o.after.toList.all (fun e => !Region.binds md e || decide (e.on < i)) && (decide ((ks.getD i (0, 0)).2 = 0) || decide (o.dst = some (ks.getD i (0, 0)).1)) | none => true) &&
  ((List.range ops.size).all (fun i => (List.range ops.size).all fun j => decide (i = j) || decide ((ks.getD i (0, 0)).2 = 0) || decide ((ks.getD j (0, 0)).2 = 0) || decide ((ks.getD i (0, 0)).1 ≠ (ks.getD j (0, 0)).1)) &&
  (List.range ops.size).all (fun i => decide ((ks.getD i (0, 0)).2 ≠ 0) || (match ops[i]? with | some o => (List.range ops.size).all fun j => decide ((ks.getD j (0, 0)).2 ≠ 1) || o.after.toList.any fun e => Region.binds md e && (decide (e.on = j) || (decide ((ks.getD e.on (0, 0)).2 = 0) && decide (e.on < ops.size))) | none => true))))
def coOf (ks : List (Nat × Nat)) (i : Nat) : Bool := decide ((ks.getD i (0, 0)).2 = 1)
def hdOf (ks : List (Nat × Nat)) (i : Nat) : Bool := decide ((ks.getD i (0, 0)).2 ≠ 0)
def ddOf (ks : List (Nat × Nat)) (i : Nat) : Nat := (ks.getD i (0, 0)).1
theorem headB_ok {ks : List (Nat × Nat)} (h : headB md ops ks = true) : HeadOk md ops (coOf ks) (hdOf ks) (ddOf ks) := by
  unfold headB at h
  simp only [Bool.and_eq_true, decide_eq_true_eq, List.all_eq_true, List.mem_range, Bool.or_eq_true] at h
  obtain ⟨h1, h2, h3, h4⟩ := h
  refine ⟨fun i hi => ?_, fun i o ho e he hbb => ?_, fun i o hi ho => ?_, fun i j hi hj hi2 hj2 he => ?_, fun i o hi ho j hj => ?_⟩
  · unfold coOf at hi
    have hi := of_decide_eq_true hi
    refine ⟨by unfold hdOf; rw [hi]; rfl, ?_⟩
    rcases Nat.lt_or_ge i ops.size with h | h
    · exact h
    · rw [List.getD_eq_getElem?_getD, List.getElem?_eq_none (by omega)] at hi
      cases hi
  · have hlt : i < ops.size := (Array.getElem?_eq_some_iff.1 ho).1
    have := h2 i hlt
    rw [ho] at this
    simp only [Bool.and_eq_true, List.all_eq_true, Bool.or_eq_true, Bool.not_eq_true', decide_eq_true_eq] at this
    rcases this.1 e (Array.mem_toList_iff.2 he) with h | h
    · rw [hbb] at h; cases h
    · exact h
  · have hlt : i < ops.size := (Array.getElem?_eq_some_iff.1 ho).1
    have := h2 i hlt
    rw [ho] at this
    simp only [Bool.and_eq_true, Bool.or_eq_true, decide_eq_true_eq] at this
    rcases this.2 with h | h
    · unfold hdOf at hi; rw [h] at hi; cases hi
    · exact h
  · unfold hdOf at hi2 hj2
    have hi2 := of_decide_eq_true hi2
    have hj2 := of_decide_eq_true hj2
    rcases h3 i hi j hj with ((h | h) | h) | h
    · exact h
    · exact absurd h hi2
    · exact absurd h hj2
    · exact absurd he h
  · have hlt : i < ops.size := (Array.getElem?_eq_some_iff.1 ho).1
    unfold hdOf at hi
    have hi := of_decide_eq_false hi
    unfold coOf at hj
    have hj := of_decide_eq_true hj
    have hjl : j < ops.size := by
      rcases Nat.lt_or_ge j ops.size with h | h
      · exact h
      · rw [List.getD_eq_getElem?_getD, List.getElem?_eq_none (by omega)] at hj
        cases hj
    rcases h4 i hlt with h | h
    · exact absurd h hi
    · rw [ho] at h
      simp only [List.all_eq_true, List.mem_range, List.any_eq_true, Bool.and_eq_true, Bool.or_eq_true, decide_eq_true_eq] at h
      rcases h j hjl with h | ⟨e, he, hb, hc⟩
      · exact absurd hj h
      · refine ⟨e, Array.mem_toList_iff.1 he, hb, ?_⟩
        rcases hc with hc | ⟨hc, hc2⟩
        · exact .inl hc
        · exact .inr ⟨by unfold hdOf; rw [hc]; rfl, hc2⟩

def putAll : Act → List Nat → List Value → Act
  | a, d :: ds, x :: xs => putAll (a.put (some d) x) ds xs
  | a, _, _ => a
theorem wp_region_head (ks : List (Nat × Nat)) {id : Nat} {a0 : Act} {w : World} (f : Nat) (Φ : Nat → Value → World → Prop) (hm : P.follows .mixedOrders = true) (hok : headB .any ops ks = true) (hin : ks.all (fun p => decide (p.1 < a0.tmps.size)) = true)
    (hmono : ∀ i v w w', i < ops.size → hdOf ks i = true → Ext w w' → Φ i v w → Φ i v w')
    (hstep : ∀ i a w1, i < ops.size → hdOf ks i = true → Ext w.drew w1 → Like ops.size (hdOf ks) (ddOf ks) a0 a → (∀ o, ops[i]? = some o → ∀ e ∈ o.after, Region.binds .any e = true → ∃ v, a.tmps[ddOf ks e.on]? = some v ∧ Φ e.on v w1) →
      wpOp P ops Q i (fun a' w' => Ext w1 w' ∧ ∃ v, a' = a.put (some (ddOf ks i)) v ∧ Φ i v w') a w1)
    (hend : ∀ (listed : Array Bool) a w1, listed.size = ops.size → (∀ i, coOf ks i = true → listed.getD i false = true) → (∀ i, i < ops.size → hdOf ks i = false → listed.getD i false = false) → Ext w.drew w1 → Like ops.size (hdOf ks) (ddOf ks) a0 a →
      (∀ i, i < ops.size → hdOf ks i = true → listed.getD i false = true → ∃ v, a.tmps[ddOf ks i]? = some v ∧ Φ i v w1) → wpAnyF P .any ops Q (fun w' => Ext w.drew w') f (cntOpen listed ops.size) listed a w1) :
    (Code.region id ops true).wp P Q a0 w := by
  have hk := headB_ok hok
  have hr : ∀ i, (Array.replicate ops.size false).getD i false = false := fun i => by
    simp only [Array.getD_eq_getD_getElem?, Array.getElem?_replicate]
    split <;> rfl
  have hcnt : ∀ t, cntOpen (Array.replicate ops.size false) t = t := by
    intro t
    induction t with
    | zero => rfl
    | succ t ih => unfold cntOpen; rw [ih, hr]; simp
  have hks : ks.length = ops.size := by
    unfold headB at hok
    simp only [Bool.and_eq_true, decide_eq_true_eq] at hok
    exact hok.1
  have h := wpAnyF_head (P := P) (Q := Q) (S := fun w' => Ext w.drew w') (f := f) (W0 := w.drew) (a0 := a0) Φ hk (fun i hi _ => by
      have hlt : i < ks.length := by omega
      have := List.all_eq_true.1 hin (ks.getD i (0, 0)) (by rw [List.getD_eq_getElem?_getD, List.getElem?_eq_getElem hlt]; exact List.getElem_mem hlt)
      simpa [ddOf] using this) (fun w h => h) hmono hstep hend ops.size (Array.replicate ops.size false) a0 w.drew (hcnt _) (by simp) (fun i _ _ => hr i) (Ext.refl _) ⟨fun _ _ => rfl, rfl, rfl⟩ (fun i _ _ hl => by rw [hr] at hl; cases hl)
  exact wp_region_F (fun w' => Ext w.drew w') f hm (Ext.refl _) (fun _ => h)
end

/-- The frame at the end of a head, written out. -/
theorem putAll_size (a : Act) (ds : List Nat) (xs : List Value) : (putAll a ds xs).tmps.size = a.tmps.size := by
  induction ds generalizing a xs with
  | nil => cases xs <;> rfl
  | cons d ds ih => cases xs with
    | nil => rfl
    | cons x xs => unfold putAll; rw [ih]; simp [Act.put]
theorem putAll_defers (a : Act) (ds : List Nat) (xs : List Value) : (putAll a ds xs).defers = a.defers := by
  induction ds generalizing a xs with
  | nil => cases xs <;> rfl
  | cons d ds ih => cases xs with
    | nil => rfl
    | cons x xs => unfold putAll; rw [ih]; simp [Act.put]
theorem putAll_ne (a : Act) (ds : List Nat) (xs : List Value) (k : Nat) (h : k ∉ ds) : (putAll a ds xs).tmps[k]? = a.tmps[k]? := by
  induction ds generalizing a xs with
  | nil => cases xs <;> rfl
  | cons d ds ih => cases xs with
    | nil => rfl
    | cons x xs =>
      unfold putAll
      rw [ih _ _ (fun hk => h (List.mem_cons_of_mem _ hk))]
      show (a.tmps.setIfInBounds d x)[k]? = _
      have hne : d ≠ k := fun he => h (by rw [he]; exact List.mem_cons_self)
      rw [Array.getElem?_setIfInBounds_ne hne]
theorem putAll_at (a : Act) (ds : List Nat) (xs : List Value) (hn : ds.Nodup) (hl : ds.length = xs.length) (hb : ∀ d ∈ ds, d < a.tmps.size) (i : Nat) (d : Nat) (hd : ds[i]? = some d) : (putAll a ds xs).tmps[d]? = xs[i]? := by
  induction ds generalizing a xs i with
  | nil => simp at hd
  | cons e ds ih =>
    cases xs with
    | nil => simp at hl
    | cons x xs =>
      unfold putAll
      rw [List.nodup_cons] at hn
      cases i with
      | zero =>
        simp only [List.getElem?_cons_zero, Option.some.injEq] at hd ⊢
        subst hd
        rw [putAll_ne _ _ _ _ hn.1]
        show (a.tmps.setIfInBounds e x)[e]? = _
        rw [Array.getElem?_setIfInBounds_self_of_lt (hb e List.mem_cons_self)]
      | succ i =>
        simp only [List.getElem?_cons_succ] at hd ⊢
        exact ih (a.put (some e) x) xs hn.2 (by simpa using hl) (fun d hd => by simpa [Act.put] using hb d (List.mem_cons_of_mem _ hd)) i hd
theorem Like.eq {n : Nat} {ks : List (Nat × Nat)} {a0 a : Act} {dl : List Nat} {xs : List Value} (h : Like n (hdOf ks) (ddOf ks) a0 a) (hsub : ∀ i, i < n → hdOf ks i = true → ddOf ks i ∈ dl) (hn : dl.Nodup) (hb : ∀ d ∈ dl, d < a0.tmps.size) (hl : dl.length = xs.length) (hx : ∀ (i d : Nat), dl[i]? = some d → a.tmps[d]? = xs[i]?) : a = putAll a0 dl xs := by
  have ht : a.tmps = (putAll a0 dl xs).tmps := by
    apply Array.ext
    · rw [putAll_size, h.sz]
    · intro k h1 h2
      have e1 : a.tmps[k]? = (putAll a0 dl xs).tmps[k]? := by
        by_cases hk : k ∈ dl
        · obtain ⟨i, hi, he⟩ := List.getElem_of_mem hk
          have hd : dl[i]? = some k := by rw [List.getElem?_eq_getElem hi, he]
          rw [putAll_at a0 dl xs hn hl hb i k hd]
          exact hx i k hd
        · rw [putAll_ne _ _ _ _ hk]
          exact h.oth k fun i hi hh he => hk (he ▸ hsub i hi hh)
      rw [Array.getElem?_eq_getElem h1, Array.getElem?_eq_getElem h2] at e1
      exact Option.some.inj e1
  have hd : a.defers = (putAll a0 dl xs).defers := by rw [putAll_defers, h.df]
  cases a; cases hp : putAll a0 dl xs
  rw [hp] at ht hd
  simp at ht hd
  rw [ht, hd]
end Go.Proofs.Ytcgffpncfgmhkaa
