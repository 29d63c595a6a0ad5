import Derived.Test.YtcgffpncfgmhkaaU3
import Derived.OpenShut
import Derived.Deep.Slices
import Derived.Deep.Strs
import Derived.Lib.SmallJoins
set_option linter.unusedVariables false
set_option linter.unusedSimpArgs false
set_option maxRecDepth 100000
set_option maxHeartbeats 2000000
namespace Go.Proofs.Ytcgffpncfgmhkaa
open Go Go.Proofs Go.RowKit Go.ChangeShapes Go.Deep

theorem cellsOf_inv {α : Type} {enc : α → List Value} {k : Nat} (hk : ∀ x, (enc x).length = k) (l : List α) (j : Nat) (u : Value) (h : (cellsOf enc l)[j]? = some u) :
    ∃ i r x, j = i * k + r ∧ r < k ∧ i < l.length ∧ l[i]? = some x ∧ (enc x)[r]? = some u := by
  induction l generalizing j with
  | nil => simp [cellsOf] at h
  | cons y l ih =>
    simp only [cellsOf, List.flatMap_cons] at ih h
    by_cases hj : j < k
    · rw [List.getElem?_append_left (by rw [hk]; exact hj)] at h
      exact ⟨0, j, y, by omega, hj, by simp, rfl, h⟩
    · rw [List.getElem?_append_right (by rw [hk]; omega), hk] at h
      obtain ⟨i, r, x, e, hr, hi, hx, hu⟩ := ih _ h
      exact ⟨i + 1, r, x, by rw [Nat.add_mul]; omega, hr, by simp; omega, by simpa using hx, hu⟩

theorem cell_lt {w : World} {a : Addr} {v : Value} (h : w.cell? a = some v) : a.block < w.heap.size := by
  unfold World.cell? at h
  split at h
  · rename_i h1
    exact (Array.getElem?_eq_some_iff.1 h1).1
  · simp at h

section
variable {H : Type} {enc : TypeId × Value → H} {P : Program} {w : World} {base : Nat} {spare : Nat → Bool} {held : Bool}

/-- A slice of flat elements, opened. -/
theorem open_flat {α : Type} [Inhabited α] {t e : TypeId} {fuel k : Nat} {cs : List Value} {x : DataW H × List MemPlace} (enc' : α → List Value) (Q : α → Prop) (hk : ∀ x, (enc' x).length = k) (hk0 : 0 < k)
    (ht : P.underlying t = some (.slice e)) (hce : P.cellsOf e = k) (hel : ∀ n cs' y, DataW.trod enc P w base spare held n e cs' = some y → ∃ s : α, cs' = enc' s ∧ Q s)
    (h : DataW.trod enc P w base spare held fuel t cs = some x) :
    ∃ A c, ∃ l : List α, cs = [.slice A l.length c] ∧ Rd w k (.slice A l.length c) l.length (cellsOf enc' l) ∧ l.length ≤ maxLen ∧ ∀ s ∈ l, Q s := by
  rcases open_slice ht h with ⟨rfl, _⟩ | ⟨a, len, cap, m, n, D, Pl, rfl, hb, hl, hm, hmm, rfl, hx⟩
  · exact ⟨none, 0, [], rfl, rd_nil _ _, Nat.zero_le _, fun s hs => by cases hs⟩
  have hle : len ≤ m := by rw [hmm]; split <;> omega
  have hall : ∀ i, i < len → ∃ s : α, (∀ r u, (enc' s)[r]? = some u → w.cell? (a.add (i * k + r)) = some u) ∧ Q s := by
    intro i hi
    obtain ⟨cs', h1, h2⟩ := hx i (by omega)
    obtain ⟨s, rfl, hq⟩ := hel _ _ _ h2
    refine ⟨s, fun r u hu => ?_, hq⟩
    obtain ⟨_, hlen, hc⟩ := World.cells?_some h1
    have hr : r < P.cellsOf e := by have := (List.getElem?_eq_some_iff.1 hu).1; omega
    have h3 := hc r hr
    rw [add_add, hce] at h3
    rw [h3, hu]
  obtain ⟨f, hf⟩ := choose_lt hall
  have hlen : ((List.range len).map f).length = len := by simp
  refine ⟨some a, cap, (List.range len).map f, by rw [hlen], ⟨cellsOf_length hk _, some a, cap, rfl, by rw [hlen]; exact hl, fun hp => ?_⟩, by rw [hlen]; omega, fun s hs => ?_⟩
  · rw [hlen] at hp
    obtain ⟨u0, hu0⟩ : ∃ u0, (enc' (f 0))[0]? = some u0 := ⟨_, List.getElem?_eq_getElem (by rw [hk]; exact hk0)⟩
    have h0 := (hf 0 hp).1 0 u0 hu0
    obtain ⟨b, off, spot⟩ := a
    have hspot : spot = none := by
      have := World.cell?_spot h0
      unfold Addr.add at this
      split at this <;> simp_all
    subst hspot
    rw [Go.WideShapes.add_plain] at h0
    refine ⟨b, off, rfl, cell_lt h0, fun j u hj => ?_⟩
    obtain ⟨i, r, y, rfl, hr, hi, hy, hu⟩ := cellsOf_inv hk _ _ _ hj
    rw [hlen] at hi
    have hfi : y = f i := by
      rw [List.getElem?_map, List.getElem?_range hi] at hy
      exact (Option.some.inj hy).symm
    subst hfi
    have h1 := (hf i hi).1 r u hu
    rw [Go.WideShapes.add_plain] at h1
    exact h1
  · obtain ⟨i, hi, rfl⟩ := List.mem_map.1 hs
    exact (hf i (List.mem_range.1 hi)).2

theorem open_sec {t e : TypeId} {fuel : Nat} {cs : List Value} {x : DataW H × List MemPlace} (ht : P.underlying t = some (.array 8 e)) (he : P.underlying e = some (.int .u8)) (hce : P.cellsOf e = 1) (hct : P.cellsOf t = 8)
    (h : DataW.trod enc P w base spare held fuel t cs = some x) : ∃ s : Sec, cs = s.c ∧ True := by
  obtain ⟨xs, m, rfl, rfl, hl, hn, hx⟩ := DataW.trod_array ht h
  rw [hct] at hl
  rw [hce] at hx
  match cs, hl with
  | [c0, c1, c2, c3, c4, c5, c6, c7], _ =>
    have key : ∀ i c, i < 8 → ([c0, c1, c2, c3, c4, c5, c6, c7].drop (i * 1)).take 1 = [c] → ∃ z, c = .int .u8 z := by
      intro i c hi hc
      have h1 := hx i hi
      rw [hc] at h1
      cases hxi : xs[i]? with
      | none => rw [List.getElem?_eq_none_iff] at hxi; omega
      | some y =>
        rw [hxi] at h1
        obtain ⟨z, hz, _⟩ := DataW.trod_int he h1
        exact ⟨z, by simpa using hz⟩
    obtain ⟨z0, rfl⟩ := key 0 c0 (by decide) rfl
    obtain ⟨z1, rfl⟩ := key 1 c1 (by decide) rfl
    obtain ⟨z2, rfl⟩ := key 2 c2 (by decide) rfl
    obtain ⟨z3, rfl⟩ := key 3 c3 (by decide) rfl
    obtain ⟨z4, rfl⟩ := key 4 c4 (by decide) rfl
    obtain ⟨z5, rfl⟩ := key 5 c5 (by decide) rfl
    obtain ⟨z6, rfl⟩ := key 6 c6 (by decide) rfl
    obtain ⟨z7, rfl⟩ := key 7 c7 (by decide) rfl
    exact ⟨⟨z0, z1, z2, z3, z4, z5, z6, z7⟩, rfl, trivial⟩

end
theorem i64_of {n : Int} (h : (Lit.int .i64 n).wf = true) : I64 n := by
  simp [Lit.wf, IntKind.min, IntKind.max, IntKind.signed, IntKind.bits] at h
  unfold I64; omega

theorem ac3 : Try.prog.cellsOf 3 = 1 := by kernel_rfl
theorem ac5 : Try.prog.cellsOf 5 = 1 := by kernel_rfl
theorem ac65 : Try.prog.cellsOf 65 = 8 := by kernel_rfl
theorem ac67 : Try.prog.cellsOf 67 = 9 := by kernel_rfl
theorem ac25 : Try.prog.cellsOf 25 = 2 := by kernel_rfl
theorem ac22 : Try.prog.cellsOf 22 = 1 := by kernel_rfl
theorem ac29 : Try.prog.cellsOf 29 = 2 := by kernel_rfl
theorem ac27 : Try.prog.cellsOf 27 = 3 := by kernel_rfl

section
variable {H : Type} {enc : TypeId × Value → H} {w : World} {base : Nat} {spare : Nat → Bool} {held : Bool}
theorem open_cached {fuel : Nat} {cs : List Value} {x : DataW H × List MemPlace} (h : DataW.trod enc Try.prog w base spare held fuel 67 cs = some x) : ∃ s : Int × Sec, cs = cachedC s ∧ True := by
  obtain ⟨y0, y1, n, rfl, hl, h0, h1⟩ := trod_struct2 Try.underlying67 h
  rw [ac67] at hl
  match cs, hl with
  | [c0, c1, c2, c3, c4, c5, c6, c7, c8], _ =>
    have h0' : DataW.trod enc Try.prog w base spare held n 3 [c0] = some y0 := by
      have := h0
      simpa [ac3] using this
    have h1' : DataW.trod enc Try.prog w base spare held n 65 [c1, c2, c3, c4, c5, c6, c7, c8] = some y1 := by
      have := h1
      simpa [ac65] using this
    obtain ⟨z, hz, _⟩ := DataW.trod_int Try.underlying3 h0'
    obtain ⟨s, hs, _⟩ := open_sec Try.underlying65 Try.underlying5 ac5 ac65 h1'
    exact ⟨(z, s), by show _ = _ :: s.c; rw [← hs]; simpa using hz, trivial⟩

theorem open_secs {fuel : Nat} {cs : List Value} {x : DataW H × List MemPlace} (h : DataW.trod enc Try.prog w base spare held fuel 22 cs = some x) :
    ∃ A c, ∃ l : List Sec, cs = [.slice A l.length c] ∧ Rd w 8 (.slice A l.length c) l.length (cellsOf Sec.c l) ∧ l.length ≤ maxLen := by
  obtain ⟨A, c, l, h1, h2, h3, _⟩ := open_flat Sec.c (fun _ => True) Sec.c_len (by decide) Try.underlying22 ac65 (fun n cs' y hy => open_sec Try.underlying65 Try.underlying5 ac5 ac65 hy) h
  exact ⟨A, c, l, h1, h2, h3⟩

theorem open_disk {r : Reach} {b0 : Nat} {v : Value} {d : DataW H} {p : List MemPlace} (hv : Value.okWide Try.prog w r b0 25 v) (h : DataW.Trod enc Try.prog w base spare held 25 v d p) :
    ∃ s : St, DR w v s ∧ s.1.length ≤ maxLen ∧ s.2.length ≤ maxLen := by
  obtain ⟨v0, v1, y0, y1, n, rfl, _, _, h0, h1⟩ := Go.Joins.open_agg2 Try.underlying25 (by kernel_rfl) ac25 hv h
  obtain ⟨A, c, l, e0, r0, l0⟩ := open_secs h0
  obtain ⟨A2, c2, l2, e1, r1, l1, _⟩ := open_flat cachedC (fun _ => True) cachedC_len (by decide) Try.underlying23 ac67 (fun n cs' y hy => open_cached hy) h1
  obtain rfl : v0 = .slice A l.length c := by simpa using e0
  obtain rfl : v1 = .slice A2 l2.length c2 := by simpa using e1
  exact ⟨(l, l2), ⟨A, c, A2, c2, rfl, r0, r1⟩, l0, l1⟩

theorem open_ext {r : Reach} {b0 : Nat} {v : Value} {d : DataW H} {p : List MemPlace} (hv : Value.okWide Try.prog w r b0 29 v) (h : DataW.Trod enc Try.prog w base spare held 29 v d p) :
    ∃ k a : Int, v = .agg #[.int .i64 k, .int .i64 a] ∧ I64 k ∧ I64 a := by
  obtain ⟨v0, v1, y0, y1, n, rfl, _, _, h0, h1⟩ := Go.Joins.open_agg2 Try.underlying29 (by kernel_rfl) ac29 hv h
  obtain ⟨k, e0, _, w0⟩ := DataW.trod_int Try.underlying3 h0
  obtain ⟨a, e1, _, w1⟩ := DataW.trod_int Try.underlying3 h1
  obtain rfl : v0 = .int .i64 k := by simpa using e0
  obtain rfl : v1 = .int .i64 a := by simpa using e1
  exact ⟨k, a, rfl, i64_of w0, i64_of w1⟩

theorem open_op {r : Reach} {b0 : Nat} {v : Value} {d : DataW H} {p : List MemPlace} (hv : Value.okWide Try.prog w r b0 27 v) (h : DataW.Trod enc Try.prog w base spare held 27 v d p) :
    ∃ (k a : Int) (A : Option Addr) (c : Nat) (l : List Sec), v = .agg #[.int .i64 k, .int .i64 a, .slice A l.length c] ∧ I64 k ∧ I64 a ∧ Rd w 8 (.slice A l.length c) l.length (cellsOf Sec.c l) ∧ l.length ≤ maxLen := by
  obtain ⟨v0, v1, v2, y0, y1, y2, n, rfl, _, _, h0, h1, h2⟩ := Go.Joins.open_agg3 Try.underlying27 (by kernel_rfl) ac27 hv h
  obtain ⟨k, e0, _, w0⟩ := DataW.trod_int Try.underlying3 h0
  obtain ⟨a, e1, _, w1⟩ := DataW.trod_int Try.underlying3 h1
  obtain ⟨A, c, l, e2, r2, l2⟩ := open_secs h2
  obtain rfl : v0 = .int .i64 k := by simpa using e0
  obtain rfl : v1 = .int .i64 a := by simpa using e1
  obtain rfl : v2 = .slice A l.length c := by simpa using e2
  exact ⟨k, a, A, c, l, rfl, i64_of w0, i64_of w1, r2, l2⟩

instance : Inhabited OpD := ⟨⟨0, 0, []⟩⟩
theorem open_ops {t fuel : Nat} {cs : List Value} {x : DataW H × List MemPlace} (ht : Try.prog.underlying t = some (.slice 27)) (h : DataW.trod enc Try.prog w base spare held fuel t cs = some x) :
    ∃ A c, ∃ l : List OpD, cs = [.slice A l.length c] ∧ RdO w (.slice A l.length c) l ∧ OpsWf l ∧ l.length ≤ maxLen ∧ ∀ o ∈ l, o.data.length ≤ maxLen := by
  rcases open_slice ht h with ⟨rfl, _⟩ | ⟨a, len, cap, m, n, D, Pl, rfl, hb, hl, hm, hmm, rfl, hx⟩
  · exact ⟨none, 0, [], rfl, ⟨none, 0, rfl, Nat.le_refl _, fun hp => absurd hp (by simp)⟩, fun j o hj => by simp at hj, Nat.zero_le _, fun s hs => by cases hs⟩
  have hle : len ≤ m := by rw [hmm]; split <;> omega
  have hall : ∀ i, i < len → ∃ o : OpD, (∃ vd, w.cell? (a.add (i * 3)) = some (.int .i64 o.kind) ∧ w.cell? (a.add (i * 3 + 1)) = some (.int .i64 o.at_) ∧ w.cell? (a.add (i * 3 + 2)) = some vd ∧ Rd w 8 vd o.data.length (cellsOf Sec.c o.data)) ∧ o.wf ∧ o.data.length ≤ maxLen := by
    intro i hi
    obtain ⟨cs', h1, h2⟩ := hx i (by omega)
    obtain ⟨_, hlen, hc⟩ := World.cells?_some h1
    rw [ac27] at hlen hc
    obtain ⟨y0, y1, y2, n', _, hl3, g0, g1, g2⟩ := trod_struct3 Try.underlying27 h2
    match cs', hlen with
    | [c0, c1, c2], _ =>
      have g0' : DataW.trod enc Try.prog w base spare held n' 3 [c0] = some y0 := by
        have := g0
        simpa [ac3] using this
      have g1' : DataW.trod enc Try.prog w base spare held n' 3 [c1] = some y1 := by
        have := g1
        simpa [ac3] using this
      have g2' : DataW.trod enc Try.prog w base spare held n' 22 [c2] = some y2 := by
        have := g2
        simpa [ac22] using this
      obtain ⟨k, e0, _, w0⟩ := DataW.trod_int Try.underlying3 g0'
      obtain ⟨b, e1, _, w1⟩ := DataW.trod_int Try.underlying3 g1'
      obtain ⟨A, c, l, e2, r2, l2⟩ := open_secs g2'
      obtain rfl : c0 = .int .i64 k := by simpa using e0
      obtain rfl : c1 = .int .i64 b := by simpa using e1
      obtain rfl : c2 = .slice A l.length c := by simpa using e2
      have q0 := hc 0 (by decide)
      have q1 := hc 1 (by decide)
      have q2 := hc 2 (by decide)
      rw [add_add] at q0 q1 q2
      exact ⟨⟨k, b, l⟩, ⟨_, q0, q1, q2, r2⟩, ⟨i64_of w0, i64_of w1, by have h := l2; unfold maxLen at h; show l.length ≤ 9223372036854775807; omega⟩, l2⟩
  obtain ⟨f, hf⟩ := choose_lt hall
  have hlen : ((List.range len).map f).length = len := by simp
  have hat : ∀ j o, ((List.range len).map f)[j]? = some o → j < len ∧ o = f j := by
    intro j o hj
    have hjl : j < len := by have := (List.getElem?_eq_some_iff.1 hj).1; omega
    rw [List.getElem?_map, List.getElem?_range hjl] at hj
    exact ⟨hjl, (Option.some.inj hj).symm⟩
  refine ⟨some a, cap, (List.range len).map f, by rw [hlen], ⟨some a, cap, rfl, by rw [hlen]; exact hl, fun hp => ?_⟩, fun j o hj => ?_, by rw [hlen]; omega, fun o ho => ?_⟩
  · rw [hlen] at hp
    obtain ⟨vd0, h0, _⟩ := (hf 0 hp).1
    obtain ⟨b, off, spot⟩ := a
    have hspot : spot = none := by
      have := World.cell?_spot h0
      unfold Addr.add at this
      split at this <;> simp_all
    subst hspot
    have h0' := h0
    rw [Go.WideShapes.add_plain] at h0'
    refine ⟨b, off, rfl, cell_lt h0', fun j o hj => ?_⟩
    obtain ⟨hjl, rfl⟩ := hat j o hj
    obtain ⟨vd, k0, k1, k2, k3⟩ := (hf j hjl).1
    rw [Go.WideShapes.add_plain] at k0 k1 k2
    exact ⟨vd, k0, k1, k2, k3⟩
  · obtain ⟨hjl, rfl⟩ := hat j o hj
    exact (hf j hjl).2.1
  · obtain ⟨i, hi, rfl⟩ := List.mem_map.1 ho
    exact (hf i (List.mem_range.1 hi)).2.2

theorem open_intc {t fuel : Nat} {cs : List Value} {x : DataW H × List MemPlace} (ht : Try.prog.underlying t = some (.slice 3)) (h : DataW.trod enc Try.prog w base spare held fuel t cs = some x) :
    ∃ A c, ∃ l : List Int, cs = [.slice A l.length c] ∧ Rd w 1 (.slice A l.length c) l.length (cellsOf intC l) ∧ l.length ≤ maxLen ∧ ∀ x ∈ l, I64 x :=
  open_flat intC I64 intC_len (by decide) ht ac3 (fun n cs' y hy => by
    obtain ⟨z, e, _, wz⟩ := DataW.trod_int Try.underlying3 hy
    exact ⟨z, e, i64_of wz⟩) h

theorem sum_le {l : List OpD} {m k : Nat} (h : ∀ o ∈ l, o.data.length ≤ m) (hk : l.length ≤ k) : dataLen l ≤ k * m := by
  induction l generalizing k with
  | nil => simp [dataLen]
  | cons o l ih =>
    obtain ⟨j, rfl⟩ : ∃ j, k = j + 1 := ⟨k - 1, by simp at hk; omega⟩
    have h1 := ih (k := j) (fun x hx => h x (by simp [hx])) (by simp at hk; omega)
    have h2 := h o (by simp)
    simp only [dataLen, List.map_cons, List.sum_cons] at h1 ⊢
    rw [Nat.add_mul, Nat.one_mul]
    omega
end
end Go.Proofs.Ytcgffpncfgmhkaa
