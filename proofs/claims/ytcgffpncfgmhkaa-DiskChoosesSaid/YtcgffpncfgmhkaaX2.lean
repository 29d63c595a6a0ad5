import Derived.Test.YtcgffpncfgmhkaaX1
set_option linter.unusedVariables false
set_option linter.unusedSimpArgs false
set_option maxRecDepth 100000
set_option maxHeartbeats 2000000
namespace Go.Proofs.Ytcgffpncfgmhkaa
open Go Go.Proofs Go.RowKit Go.Instr
open Go.Proofs.YtcgffpncfgmhkaaW.PrintWords

theorem newest45 (vs vc : Value) (st : List Sec) (ca : List (Int × Sec)) (w : World) (hs : Rd w 8 vs st.length (cellsOf Sec.c st)) (hr : Rd w 9 vc ca.length (cellsOf cachedC ca)) (h1 : st.length ≤ 1000000) (h2 : ca.length ≤ 1000000) (hok : anyBad ca st.length = false) :
    Calls Try.prog 45 #[.agg #[vs, vc]] w fun e w' => ∃ A' c', e = .returned (.slice A' st.length c') ∧ w'.ownsRow w.heap.size 65 8 (.slice A' st.length c') st.length (cellsOf Sec.c (newestD st ca)) ∧ Ext w w' := by
  obtain ⟨A1, c1, rfl⟩ := rd_slice hs
  obtain ⟨A, c, rfl⟩ := rd_slice hr
  have HOK := Lib.hid (anyBad_ok hok)
  clear hok
  obtain ⟨i0, hi0, hz0, hz1, hz2⟩ := info_parts info65
  go_enter Try.func45, Try.ntmps45
  go_wp2_with (at_builtin; refine stop_ ?_)
  have hW0 : Ext w (w.alloc (.cells #[.slice A1 st.length c1, .slice A ca.length c] 25)) := (Ext.refl w).alloc _
  have B0 := Blk.new w #[.slice A1 st.length c1, .slice A ca.length c] 25
  have hsz0 : (w.alloc (.cells #[.slice A1 st.length c1, .slice A ca.length c] 25)).heap.size = w.heap.size + 1 := by simp only [World.size_alloc]
  generalize w.alloc (.cells #[.slice A1 st.length c1, .slice A ca.length c] 25) = W0 at *
  refine Stop_.go ?_
  refine wpList_append_rd rfl _ _ 22 rfl (w.heap.size + 1) 65 i0 _ 8 8 Try.underlying22 hi0 hz0 hz1 hz2 rfl (by omega) none 0 0 [] rfl (own_nil _ _ _ _) (.slice A1 st.length c1) st.length _ rfl (hs.ext hW0) (cellsOf_one Sec.c_one _) (by unfold maxLen; omega) (by omega) (by omega) ?_
  intro A' c' w1 ho3 hg3
  simp only [Nat.zero_add, List.nil_append] at ho3
  have hx1 : Ext w w1 := hW0.trans ((Ext.refl W0).grown hg3 (fun q hq => by cases hq))
  have B1 := B0.ext ((Ext.refl W0).grown hg3 (fun q hq => by cases hq))
  rw [Nat.zero_add]
  have hw1 : w.heap.size < w1.heap.size := B1.lt
  go_wp2_with fail
  go_loopw [4] (fun t wr => ∃ k : Nat, k ≤ ca.length ∧ t = .int .i64 k ∧ Ext w wr ∧ Blk wr w.heap.size #[.slice A1 st.length c1, .slice A ca.length c] 25 ∧ wr.ownsRow (w.heap.size + 1) 65 8 (.slice A' st.length c') st.length (cellsOf Sec.c (newestD st (ca.take k)))) (fun t _ => ca.length - (intOf t).toNat)
  case atStart => exact ⟨0, Nat.zero_le _, rfl, hx1, B1, ho3⟩
  case round =>
    obtain ⟨k, hk, rfl, hx, hB, hown⟩ := hrel
    obtain ⟨b1, b2, b3, b4⟩ := hB.f2
    by_cases hlt : k < ca.length
    · obtain ⟨x, hkx⟩ : ∃ x, ca[k]? = some x := ⟨_, List.getElem?_eq_getElem hlt⟩
      obtain ⟨b, off, rfl, hbl, f0, f1, f2, f3, f4, f5, f6, f7, f8⟩ := rdC_at (hr.ext hx) hkx
      have hltz : (k : Int) < (ca.length : Int) := by omega
      obtain ⟨hx0, hxn⟩ := HOK.out x (List.mem_of_getElem? hkx)
      have hN := Lib.hid (newestD_snoc st ca k x hkx)
      have HX := Lib.hid hkx
      clear hkx
      obtain ⟨g, cap, hv, hbase, hglt⟩ := hown.form (by omega)
      injection hv with hA _ hc
      subst hA; subst hc
      have hlen := newestD_len st (ca.take k)
      have HL := Lib.hid hlen
      clear hlen
      have hi : x.1.toNat < st.length := by omega
      go_wp2_with fail
      refine wp_region_F (fun w' => Ext wr w') 14 (by kernel_rfl) ((Ext.refl wr).drew) (fun hS => ?_)
      refine wpAnyF_taked (i := 0) (v := ?vq0) 16 rfl rfl (by kernel_rfl) (by kernel_rfl) (by kernel_rfl) (by kernel_rfl) (fun _ _ _ h => h) (Or.inl ⟨by rfl, ?yq0⟩) hS ?rq0
      case' yq0 => intro w' hSw; obtain ⟨s1, s2, s3, s4⟩ := (hB.ext hSw).f2; go_simp; first | done | with_reducible rfl
      case' rq0 => simp only [Act.put, List.setIfInBounds_toArray, List.set_cons_zero, List.set_cons_succ]
      refine wpAnyF_taked (i := 1) (v := ?vq1) 17 rfl rfl (by kernel_rfl) (by kernel_rfl) (by kernel_rfl) (by kernel_rfl) (fun _ _ _ h => h) (Or.inl ⟨by rfl, ?yq1⟩) hS ?rq1
      case' yq1 => intro w' hSw; obtain ⟨s1, s2, s3, s4⟩ := (hB.ext hSw).f2; go_simp; first | done | with_reducible rfl
      case' rq1 => simp only [Act.put, List.setIfInBounds_toArray, List.set_cons_zero, List.set_cons_succ]
      refine wpAnyF_taked (i := 2) (v := ?vq2) 18 rfl rfl (by kernel_rfl) (by kernel_rfl) (by kernel_rfl) (by kernel_rfl) (fun _ _ _ h => h) (Or.inl ⟨by rfl, ?yq2⟩) hS ?rq2
      case' yq2 => intro w' hSw; obtain ⟨s1, s2, s3, s4⟩ := (hB.ext hSw).f2; go_simp; first | done | with_reducible rfl
      case' rq2 => simp only [Act.put, List.setIfInBounds_toArray, List.set_cons_zero, List.set_cons_succ]
      refine wpAnyF_taked (i := 3) (v := ?vq3) 19 rfl rfl (by kernel_rfl) (by kernel_rfl) (by kernel_rfl) (by kernel_rfl) (fun _ _ _ h => h) (Or.inl ⟨by rfl, ?yq3⟩) hS ?rq3
      case' yq3 => intro w' hSw; obtain ⟨s1, s2, s3, s4⟩ := (hB.ext hSw).f2; go_simp; first | done | with_reducible rfl
      case' rq3 => simp only [Act.put, List.setIfInBounds_toArray, List.set_cons_zero, List.set_cons_succ]
      refine wpAnyF_taked (i := 4) (v := ?vq4) 20 rfl rfl (by kernel_rfl) (by kernel_rfl) (by kernel_rfl) (by kernel_rfl) (fun _ _ _ h => h) (Or.inl ⟨by rfl, ?yq4⟩) hS ?rq4
      case' yq4 => intro w' hSw; obtain ⟨s1, s2, s3, s4⟩ := (hB.ext hSw).f2; go_simp; first | done | with_reducible rfl
      case' rq4 => simp only [Act.put, List.setIfInBounds_toArray, List.set_cons_zero, List.set_cons_succ]
      refine wpAnyF_taked (i := 5) (v := ?vq5) 21 rfl rfl (by kernel_rfl) (by kernel_rfl) (by kernel_rfl) (by kernel_rfl) (fun _ _ _ h => h) (Or.inl ⟨by rfl, ?yq5⟩) hS ?rq5
      case' yq5 => intro w' hSw; obtain ⟨s1, s2, s3, s4⟩ := (hB.ext hSw).f2; go_simp; first | done | with_reducible rfl
      case' rq5 => simp only [Act.put, List.setIfInBounds_toArray, List.set_cons_zero, List.set_cons_succ]
      refine wpAnyF_taked (i := 6) (v := ?vq6) 22 rfl rfl (by kernel_rfl) (by kernel_rfl) (by kernel_rfl) (by kernel_rfl) (fun _ _ _ h => h) (Or.inl ⟨by rfl, ?yq6⟩) hS ?rq6
      case' yq6 => intro w' hSw; obtain ⟨s1, s2, s3, s4⟩ := (hB.ext hSw).f2; obtain ⟨b8, off8, hh8, hb8, e0, e1, e2, e3, e4, e5, e6, e7, e8⟩ := rdC_at (hr.ext (hx.trans hSw)) HX.out; cases hh8; go_simp; first | done | with_reducible rfl
      case' rq6 => simp only [Act.put, List.setIfInBounds_toArray, List.set_cons_zero, List.set_cons_succ]
      refine wpAnyF_taked (i := 7) (v := ?vq7) 23 rfl rfl (by kernel_rfl) (by kernel_rfl) (by kernel_rfl) (by kernel_rfl) (fun _ _ _ h => h) (Or.inl ⟨by rfl, ?yq7⟩) hS ?rq7
      case' yq7 => intro w' hSw; obtain ⟨s1, s2, s3, s4⟩ := (hB.ext hSw).f2; go_simp; first | done | with_reducible rfl
      case' rq7 => simp only [Act.put, List.setIfInBounds_toArray, List.set_cons_zero, List.set_cons_succ]
      refine wpAnyF_taked (i := 8) (v := ?vq8) 24 rfl rfl (by kernel_rfl) (by kernel_rfl) (by kernel_rfl) (by kernel_rfl) (fun _ _ _ h => h) (Or.inl ⟨by rfl, ?yq8⟩) hS ?rq8
      case' yq8 => intro w' hSw; obtain ⟨s1, s2, s3, s4⟩ := (hB.ext hSw).f2; go_simp; first | done | with_reducible rfl
      case' rq8 => simp only [Act.put, List.setIfInBounds_toArray, List.set_cons_zero, List.set_cons_succ]
      refine wpAnyF_taked (i := 9) (v := ?vq9) 25 rfl rfl (by kernel_rfl) (by kernel_rfl) (by kernel_rfl) (by kernel_rfl) (fun _ _ _ h => h) (Or.inl ⟨by rfl, ?yq9⟩) hS ?rq9
      case' yq9 => intro w' hSw; obtain ⟨s1, s2, s3, s4⟩ := (hB.ext hSw).f2; go_simp; first | done | with_reducible rfl
      case' rq9 => simp only [Act.put, List.setIfInBounds_toArray, List.set_cons_zero, List.set_cons_succ]
      refine wpAnyF_taked (i := 10) (v := ?vq10) 26 rfl rfl (by kernel_rfl) (by kernel_rfl) (by kernel_rfl) (by kernel_rfl) (fun _ _ _ h => h) (Or.inl ⟨by rfl, ?yq10⟩) hS ?rq10
      case' yq10 => intro w' hSw; obtain ⟨s1, s2, s3, s4⟩ := (hB.ext hSw).f2; go_simp; first | done | with_reducible rfl
      case' rq10 => simp only [Act.put, List.setIfInBounds_toArray, List.set_cons_zero, List.set_cons_succ]
      refine wpAnyF_taked (i := 11) (v := ?vq11) 27 rfl rfl (by kernel_rfl) (by kernel_rfl) (by kernel_rfl) (by kernel_rfl) (fun _ _ _ h => h) (Or.inl ⟨by rfl, ?yq11⟩) hS ?rq11
      case' yq11 => intro w' hSw; obtain ⟨s1, s2, s3, s4⟩ := (hB.ext hSw).f2; go_simp; first | done | with_reducible rfl
      case' rq11 => simp only [Act.put, List.setIfInBounds_toArray, List.set_cons_zero, List.set_cons_succ]
      refine wpAnyF_taked (i := 12) (v := ?vq12) 28 rfl rfl (by kernel_rfl) (by kernel_rfl) (by kernel_rfl) (by kernel_rfl) (fun _ _ _ h => h) (Or.inl ⟨by rfl, ?yq12⟩) hS ?rq12
      case' yq12 => intro w' hSw; obtain ⟨s1, s2, s3, s4⟩ := (hB.ext hSw).f2; obtain ⟨b8, off8, hh8, hb8, e0, e1, e2, e3, e4, e5, e6, e7, e8⟩ := rdC_at (hr.ext (hx.trans hSw)) HX.out; cases hh8; go_simp; first | done | with_reducible rfl
      case' rq12 => simp only [Act.put, List.setIfInBounds_toArray, List.set_cons_zero, List.set_cons_succ]
      refine wpAnyF_taked (i := 13) (v := ?vq13) 29 rfl rfl (by kernel_rfl) (by kernel_rfl) (by kernel_rfl) (by kernel_rfl) (fun _ _ _ h => h) (Or.inl ⟨by rfl, ?yq13⟩) hS ?rq13
      case' yq13 => intro w' hSw; obtain ⟨s1, s2, s3, s4⟩ := (hB.ext hSw).f2; go_simp; first | done | with_reducible rfl
      case' rq13 => simp only [Act.put, List.setIfInBounds_toArray, List.set_cons_zero, List.set_cons_succ]
      refine wpAnyF_one (i := 14) (by kernel_rfl) rfl ?_
      refine wpList_store_own (e := 65) (base := w.heap.size + 1) (n := st.length) (cap := c') (i := x.1.toNat) Sec.c_len Sec.c_one (newestD st (ca.take k)) x.2 rfl rfl 65 (.tmp 29) (.tmp 28) rfl size65 rfl ?qo _ rfl rfl ?qw HL.out hi ?_
      case qo => simp
      case qw => exact own_ext hown hS
      intro w2 ho2 hg2
      go_wp2_with fail
      refine Stop_.go ⟨fun h => absurd rfl h, ?_⟩
      refine ⟨by kernel_rfl, ?_⟩
      go_wp2_with fail
      go_roundw
      case rel =>
        refine ⟨k + 1, by omega, by go_num, (hx.trans hS).grown hg2 (fun q hq => by cases hq; omega), (hB.ext hS).grown hg2 (own_ne (own_ext hown hS) (hB.ext hS) (by omega : (65 : Nat) ≠ 25)), ?_⟩
        rw [hN.out]; exact ho2
      case measure => simp [intOf]; omega
    · have hltz : ¬ (k : Int) < (ca.length : Int) := by omega
      have hk' : k = ca.length := by omega
      go_wp2_with fail
      go_ret
      refine ⟨_, _, rfl, ?_, hx⟩
      rw [hk', List.take_length] at hown
      exact own_low hown (by omega)
end Go.Proofs.Ytcgffpncfgmhkaa
