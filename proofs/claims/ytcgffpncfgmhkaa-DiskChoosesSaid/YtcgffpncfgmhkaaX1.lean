import Derived.Test.YtcgffpncfgmhkaaW4
import Derived.Deep.Upon
set_option linter.unusedVariables false
set_option linter.unusedSimpArgs false
set_option maxRecDepth 100000
set_option maxHeartbeats 2000000
namespace Go.Proofs.Ytcgffpncfgmhkaa
open Go Go.Proofs Go.RowKit Go.Instr
open Go.Proofs.YtcgffpncfgmhkaaW.PrintWords

/-- append(own, xs...), xs a slice that reads. -/
theorem wpList_append_rd {P : Program} {w : World} {ops : Array Oper} {rest : List Oper} {o : Oper} {a : Act} {Q : Exit → Act → World → Prop} (hgd : o.guard = none) (s x : Operand) (t : TypeId)
    (ho : o.op = .call { callee := .builtin .append, args := #[s, x], argTypes := #[t, t] })
    (base : Nat) (e : TypeId) (i : TypeInfo) (z : Value) (size bytes : Nat) (ht : P.underlying t = some (.slice e)) (hi : P.info? e = some i) (hz : i.zero = some z)
    (hsize : i.size = size) (hby : i.bytes = bytes) (hzs : z.cells.size = size) (hsz : 0 < size)
    (A : Option Addr) (n c : Nat) (xs : List Value) (hs : a.eval s = .slice A n c) (hown : w.ownsRow base e size (.slice A n c) n xs)
    (vx : Value) (m : Nat) (news : List Value) (hx : a.eval x = vx) (hr : Rd w size vx m news) (h1 : ∀ u ∈ news, u.oneCell' = true)
    (h63 : n + m ≤ maxLen) (hbytes : (n + m) * bytes ≤ 140737488355328) (hbase : base ≤ w.heap.size)
    (h : ∀ A' c' w', w'.ownsRow base e size (.slice A' (n + m) c') (n + m) (xs ++ news) → w.grownBy w' (Value.slice A n c).ownBlock → wpList P ops Q rest (a.put o.dst (.slice A' (n + m) c')) w') : wpList P ops Q (o :: rest) a w := by
  obtain ⟨hl, Ax, cx, rfl, hcx, hrr⟩ := hr
  cases Ax with
  | none =>
    have hm : m = 0 := by
      rcases Nat.eq_zero_or_pos m with h0 | h0
      · exact h0
      · obtain ⟨b, off, hb, _⟩ := hrr h0
        cases hb
    subst hm
    have hnil : news = [] := List.length_eq_zero_iff.1 (by omega)
    subst hnil
    have hle := (rd_len (Rd.own hown)).2
    refine wpList_plain hgd fun K hK => ?_
    have hrun := run_append_nothing (P := P) w t t o.type e i ht hi A n c hle (.slice none 0 cx) (Src.ofNil w ht cx)
    unfold Oper.wp
    simp [execOp, ho, resolve, invoke, builtin, hs, hx, hrun, Result.andThen]
    exact hK _ _ (h A c w (by simpa using hown) ⟨rfl, rfl, rfl, Nat.le_refl _, fun _ _ _ => rfl⟩)
  | some ad =>
    refine wpList_append_own w hgd s x t ho base e i z size bytes ht hi hz hsize hby hzs hsz _ n xs hs hown ad m cx news hx hl ?_ h1 h63 hbytes hbase ?_
    · intro j u hj
      have hn : 0 < m := pos_of_idx hl hj
      obtain ⟨b, off, hb, hlt, hcell⟩ := hrr hn
      injection hb with hb
      subst hb
      rw [Addr.add_lit]
      exact hcell j u hj
    · intro v' w' h2 h3 h4
      obtain ⟨A', c', rfl⟩ := own_slice h2
      exact h A' c' w' h2 h3

theorem copy42 (v : Value) (s : St) (w : World) (hd : DR w v s) (hn : s.1.length ≤ 1000000) (hm : s.2.length ≤ 1000000) :
    Calls Try.prog 42 #[v] w fun e w' => ∃ A' c' B' d', e = .returned (.agg #[.slice A' s.1.length c', .slice B' s.2.length d']) ∧ w'.ownsRow w.heap.size 65 8 (.slice A' s.1.length c') s.1.length (cellsOf Sec.c s.1) ∧ w'.ownsRow w.heap.size 67 9 (.slice B' s.2.length d') s.2.length (cellsOf cachedC s.2) ∧ Ext w w' := by
  obtain ⟨A, c, A2, c2, rfl, h1, h2⟩ := hd
  obtain ⟨i0, hi0, hz0, hz1, hz2⟩ := info_parts info65
  obtain ⟨j0, hj0, hy0, hy1, hy2⟩ := info_parts info67
  go_enter Try.func42, Try.ntmps42
  go_wp2_with (at_builtin; refine stop_ ?_)
  have hW0 : Ext w (((w.alloc (.cells #[.slice A s.1.length c, .slice A2 s.2.length c2] 25)).alloc (.cells #[.slice none 0 0, .slice none 0 0] 25)).alloc (.cells #[.slice none 0 0, .slice none 0 0] 25)) := (((Ext.refl w).alloc _).alloc _).alloc _
  have B0 := ((Blk.new w #[.slice A s.1.length c, .slice A2 s.2.length c2] 25).alloc (.cells #[.slice none 0 0, .slice none 0 0] 25)).alloc (.cells #[.slice none 0 0, .slice none 0 0] 25)
  have C0 := (Blk.new (w.alloc (.cells #[.slice A s.1.length c, .slice A2 s.2.length c2] 25)) #[.slice none 0 0, .slice none 0 0] 25).alloc (.cells #[.slice none 0 0, .slice none 0 0] 25)
  have D0 := Blk.new ((w.alloc (.cells #[.slice A s.1.length c, .slice A2 s.2.length c2] 25)).alloc (.cells #[.slice none 0 0, .slice none 0 0] 25)) #[.slice none 0 0, .slice none 0 0] 25
  simp only [World.size_alloc] at C0 D0
  have hsz0 : (((w.alloc (.cells #[.slice A s.1.length c, .slice A2 s.2.length c2] 25)).alloc (.cells #[.slice none 0 0, .slice none 0 0] 25)).alloc (.cells #[.slice none 0 0, .slice none 0 0] 25)).heap.size = w.heap.size + 3 := by simp only [World.size_alloc]
  generalize ((w.alloc (.cells #[.slice A s.1.length c, .slice A2 s.2.length c2] 25)).alloc (.cells #[.slice none 0 0, .slice none 0 0] 25)).alloc (.cells #[.slice none 0 0, .slice none 0 0] 25) = W0 at *
  refine Stop_.go ?_
  refine wpList_append_rd rfl _ _ 22 rfl (w.heap.size + 3) 65 i0 _ 8 8 Try.underlying22 hi0 hz0 hz1 hz2 rfl (by omega) none 0 0 [] rfl (own_nil _ _ _ _) (.slice A s.1.length c) s.1.length _ rfl (h1.ext hW0) (cellsOf_one Sec.c_one _) (by unfold maxLen; omega) (by omega) (by omega) ?_
  intro A3 c3 w1 ho3 hg3
  simp only [Nat.zero_add, List.nil_append] at ho3
  have hx1 : Ext W0 w1 := (Ext.refl W0).grown hg3 (fun q hq => by cases hq)
  obtain ⟨b1, b2, b3, b4⟩ := (B0.ext hx1).f2
  obtain ⟨d1, d2, d3, d4⟩ := (D0.ext hx1).f2
  rw [Nat.zero_add]
  go_wp2_with (at_builtin; refine stop_ ?_)
  refine Stop_.go ?_
  have hW1 := (hW0.trans hx1).set (p := ⟨w.heap.size + 2, 0, none⟩) (by show w.heap.size ≤ w.heap.size + 2; omega) (.slice A3 s.1.length c3)
  have hl1 : w.heap.size + 3 ≤ (w1.setCell ⟨w.heap.size + 2, 0, none⟩ (.slice A3 s.1.length c3)).heap.size := by have := hx1.size; simp; omega
  refine wpList_append_rd rfl _ _ 23 rfl (w.heap.size + 3) 67 j0 _ 9 16 Try.underlying23 hj0 hy0 hy1 hy2 rfl (by omega) none 0 0 [] rfl (own_nil _ _ _ _) (.slice A2 s.2.length c2) s.2.length _ rfl (h2.ext hW1) (cellsOf_one cachedC_one _) (by unfold maxLen; omega) (by omega) hl1 ?_
  intro A4 c4 w2 ho4 hg4
  simp only [Nat.zero_add, List.nil_append] at ho4
  have hx2 := (Ext.refl (w1.setCell ⟨w.heap.size + 2, 0, none⟩ (.slice A3 s.1.length c3))).grown hg4 (fun q hq => by cases hq)
  have D2 := ((D0.ext hx1).set0 (.slice A3 s.1.length c3)).ext hx2
  have C2 := ((C0.ext hx1).far (p := ⟨w.heap.size + 2, 0, none⟩) (by show w.heap.size + 1 ≠ w.heap.size + 2; omega) (.slice A3 s.1.length c3)).ext hx2
  obtain ⟨f1, f2, f3, f4⟩ := D2.f2
  obtain ⟨g1, g2, g3, g4⟩ := C2.f2
  rw [Nat.zero_add]
  go_wp2_with fail
  refine bodyPost_ret (v := .agg #[.slice A3 s.1.length c3, .slice A4 s.2.length c4]) (by simp [results, Try.results42, go_sem, g1, g2, g3, g4]) rfl ?_
  have p2 : w.heap.size + 1 + 1 < w.heap.size + 3 := by omega
  have p1 : w.heap.size + 1 < w.heap.size + 3 := by omega
  have q2 : w.heap.size ≤ w.heap.size + 1 + 1 := by omega
  have q1 : w.heap.size ≤ w.heap.size + 1 := by omega
  have ho3' := own_setlow (own_setlow (own_setlow (own_ext (own_setlow ho3 (p := ⟨w.heap.size + 2, 0, none⟩) p2 (.slice A3 s.1.length c3)) hx2) (p := ⟨w.heap.size + 1 + 1, 1, none⟩) p2 (.slice A4 s.2.length c4)) (p := ⟨w.heap.size + 1, 0, none⟩) p1 (.slice A3 s.1.length c3)) (p := ⟨w.heap.size + 1, 1, none⟩) p1 (.slice A4 s.2.length c4)
  have ho4' := own_setlow (own_setlow (own_setlow ho4 (p := ⟨w.heap.size + 1 + 1, 1, none⟩) p2 (.slice A4 s.2.length c4)) (p := ⟨w.heap.size + 1, 0, none⟩) p1 (.slice A3 s.1.length c3)) (p := ⟨w.heap.size + 1, 1, none⟩) p1 (.slice A4 s.2.length c4)
  exact ⟨A3, c3, A4, c4, rfl, own_low ho3' (by omega), own_low ho4' (by omega), (((hW1.trans hx2).set (p := ⟨w.heap.size + 1 + 1, 1, none⟩) q2 _).set (p := ⟨w.heap.size + 1, 0, none⟩) q1 _).set (p := ⟨w.heap.size + 1, 1, none⟩) q1 _⟩
end Go.Proofs.Ytcgffpncfgmhkaa
