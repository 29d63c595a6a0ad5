import Derived.Test.YtcgffpncfgmhkaaZ1
import Derived.Test.YtcgffpncfgmhkaaV3
set_option linter.unusedVariables false
set_option linter.unusedSimpArgs false
set_option maxRecDepth 100000
set_option maxHeartbeats 2000000
namespace Go.Proofs.Ytcgffpncfgmhkaa
open Go Go.Proofs Go.RowKit Go.Instr
open Go.Proofs.YtcgffpncfgmhkaaW.PrintWords

def CrashP (w w' : World) (e : Ending) (r : List Sec × List Int) : Prop :=
  ∃ v l, e = .returned (.tuple #[v, l]) ∧ DRF w.heap.size w' v (r.1, []) ∧ Rd w' 1 l r.2.length (cellsOf intC r.2) ∧ Ext w w'

/-- The reference's Crash where the disk has an error: the arguments come back. -/
theorem crash23n (vd vch : Value) (s : St) (ch : List Int) (w : World) (hd : DR w vd s) (hz : chkD s.1 s.2 ≠ 0) (hn : s.1.length ≤ 1000000) (hca : s.2.length ≤ 1000000) :
    Calls Try.prog 23 #[vd, vch] w fun e w' => e = .returned (.tuple #[vd, vch]) ∧ Ext w w' := by
  obtain ⟨A, c, A2, c2, rfl, h1, h2⟩ := hd
  have hchk := fun W hx => check34 _ _ s.1 s.2 W (h1.ext hx) (h2.ext hx) hn hca
  generalize hres : chkD s.1 s.2 = err at *
  have hne : (err != 0) = true := by simpa using hz
  clear hres hz
  go_enter Try.func23, Try.ntmps23
  go_wp2_with (first
    | (go_at_call 34; refine (hchk _ (((Ext.refl w).alloc _).alloc _)).mono ?_; rintro e w1 ⟨rfl, hx1⟩; have B1 := ((Blk.new w _ _).alloc _).ext hx1; have C1 := (Blk.new (w.alloc (.cells #[.slice A s.1.length c, .slice A2 s.2.length c2] 25)) _ _).ext hx1; rw [World.size_alloc] at C1; obtain ⟨b1, b2, b3, b4⟩ := B1.f2; obtain ⟨y1, y2, y3, y4⟩ := C1.f2))
  obtain ⟨z1, z2, _, _⟩ := ((C1.set0 (.slice A s.1.length c)).set1 (.slice A2 s.2.length c2)).f2
  refine bodyPost_ret (v := .tuple #[.agg #[.slice A s.1.length c, .slice A2 s.2.length c2], vch]) (by simp [results, Try.results23, go_sem, z1, z2]) rfl ?_
  have hx3 := (((Ext.refl w).alloc _).alloc _).trans hx1
  exact ⟨rfl, (hx3.set (by show w.heap.size ≤ w.heap.size + 1; omega) _).set (by show w.heap.size ≤ w.heap.size + 1; omega) _⟩

theorem vers_len (ca : List (Int × Sec)) (i : Int) : (vers ca i).length ≤ ca.length := by
  unfold vers; rw [List.length_map]
  exact List.length_filter_le _ _
theorem vers_take {ca : List (Int × Sec)} {j : Nat} {x : Int × Sec} (h : ca[j]? = some x) (i : Int) : vers (ca.take (j + 1)) i = vers (ca.take j) i ++ (if x.1 = i then [x.2] else []) := by
  rw [List.take_add_one, h]
  exact vers_snoc _ x i

/-- The reference's Crash. -/
theorem crash23 (vd vch : Value) (s : St) (ch : List Int) (w : World) (hd : DR w vd s) (hr : Rd w 1 vch ch.length (cellsOf intC ch)) (hz : chkD s.1 s.2 = 0) (hn : s.1.length ≤ 4096) (hca : s.2.length ≤ 1000000) (hcl : ch.length ≤ 1000000) (hwf : ∀ x ∈ ch, I64 x) :
    Calls Try.prog 23 #[vd, vch] w fun e w' => CrashP w w' e (crashD s ch) := by
  obtain ⟨A, c, A2, c2, rfl, h1, h2⟩ := hd
  obtain ⟨Ac, cc, rfl⟩ := rd_slice hr
  have hchk := fun W hx => check34 _ _ s.1 s.2 W (h1.ext hx) (h2.ext hx) (by omega) hca
  rw [hz] at hchk
  clear hz
  obtain ⟨i0, hi0, hz0, hz1, hz2⟩ := info_parts info65
  go_enter Try.func23, Try.ntmps23
  go_upto_region 4 with (first
    | (go_at_call 34; refine (hchk _ (((Ext.refl w).alloc _).alloc _)).mono ?_; rintro e w1 ⟨rfl, hx1⟩; have B1 := ((Blk.new w _ _).alloc _).ext hx1; have C1 := (Blk.new (w.alloc (.cells #[.slice A s.1.length c, .slice A2 s.2.length c2] 25)) _ _).ext hx1; rw [World.size_alloc] at C1; obtain ⟨b1, b2, b3, b4⟩ := B1.f2)
    | fail)
  clear b1 b2 b3 b4
  obtain ⟨b1, b2, b3, b4⟩ := (B1.alloc (.cells #[.slice none 0 0, .slice none 0 0] 25)).f2
  obtain ⟨a1, a2, a3, a4⟩ := (Blk.new w1 #[.slice none 0 0, .slice none 0 0] 25).f2
  go_wp2_with (at_builtin; refine stop_ ?_)
  clear a1 a2 a3 a4
  have hx1' : Ext w w1 := (((Ext.refl w).alloc _).alloc _).trans hx1
  have hw1 : w.heap.size + 1 < w1.heap.size := C1.lt
  have D0 := Blk.new w1 #[.slice none 0 0, .slice none 0 0] 25
  have hW0 : Ext w1 (w1.alloc (.cells #[.slice none 0 0, .slice none 0 0] 25)) := (Ext.refl w1).alloc _
  have hsz0 : (w1.alloc (.cells #[.slice none 0 0, .slice none 0 0] 25)).heap.size = w1.heap.size + 1 := by simp only [World.size_alloc]
  generalize w1.alloc (.cells #[.slice none 0 0, .slice none 0 0] 25) = W0 at *
  refine Stop_.go ?_
  refine wpList_append_rd rfl _ _ 22 rfl (w1.heap.size + 1) 65 i0 _ 8 8 Try.underlying22 hi0 hz0 hz1 hz2 rfl (by omega) none 0 0 [] rfl (own_nil _ _ _ _) (.slice A s.1.length c) s.1.length _ rfl (h1.ext (hx1'.trans hW0)) (cellsOf_one Sec.c_one _) (by unfold maxLen; omega) (by omega) (by omega) ?_
  intro A3 c3 w2 ho3 hg3
  simp only [Nat.zero_add, List.nil_append] at ho3
  have hx2 : Ext W0 w2 := (Ext.refl W0).grown hg3 (fun q hq => by cases hq)
  have D2 := D0.ext hx2
  have C2 := (C1.ext hW0).ext hx2
  have B2 := (B1.ext hW0).ext hx2
  rw [Nat.zero_add]
  obtain ⟨d1, d2, d3, d4⟩ := D2.f2
  clear b1 b2 b3 b4
  have hx4 : Ext w (w2.setCell ⟨w1.heap.size, 0, none⟩ (.slice A3 s.1.length c3)) := ((hx1'.trans hW0).trans hx2).set (by show w.heap.size ≤ w1.heap.size; omega) _
  have D4 : Blk (w2.setCell ⟨w1.heap.size, 0, none⟩ (.slice A3 s.1.length c3)) w1.heap.size #[.slice A3 s.1.length c3, .slice none 0 0] 25 := D2.set0 _
  have C4 : Blk (w2.setCell ⟨w1.heap.size, 0, none⟩ (.slice A3 s.1.length c3)) (w.heap.size + 1) #[.slice none 0 0, .slice none 0 0] 25 := C2.far (by show w.heap.size + 1 ≠ w1.heap.size; omega) _
  have B4 : Blk (w2.setCell ⟨w1.heap.size, 0, none⟩ (.slice A3 s.1.length c3)) w.heap.size #[.slice A s.1.length c, .slice A2 s.2.length c2] 25 := B2.far (by show w.heap.size ≠ w1.heap.size; omega) _
  have ho4 := own_setCell (p := ⟨w1.heap.size, 0, none⟩) ho3 (own_ne ho3 D2 (by omega : (65 : Nat) ≠ 25)) (.slice A3 s.1.length c3)
  obtain ⟨ks, hks⟩ : ∃ ks, ks = (List.range s.1.length).map fun (i : Nat) => (i : Int) := ⟨_, rfl⟩
  have HKL : Hid (ks.length = s.1.length) := by show _ = _; rw [hks]; simp
  have HAT : Hid (∀ k : Nat, k < s.1.length → ks[k]? = some (k : Int)) := by
    intro k hk
    rw [hks, List.getElem?_map, List.getElem?_range hk]; rfl
  have HCD : Hid (ks.foldl (crashStep s.2) (s.1, ch) = crashD s ch) := by show _ = _; rw [hks]; rfl
  clear hks
  go_wp2_with fail
  generalize w2.setCell ⟨w1.heap.size, 0, none⟩ (.slice A3 s.1.length c3) = w3 at *
  clear d1 d2 d3 d4 D2 C2 B2 D0 C1 B1 hx2 hx1 hchk
  go_loopw [7, 1] (fun t lv wr => ∃ k : Nat, k ≤ s.1.length ∧ t = .int .i64 k ∧ Ext w wr ∧ Blk wr w.heap.size #[.slice A s.1.length c, .slice A2 s.2.length c2] 25 ∧ Blk wr (w.heap.size + 1) #[.slice none 0 0, .slice none 0 0] 25 ∧ Blk wr w1.heap.size #[.slice A3 s.1.length c3, .slice none 0 0] 25 ∧
    wr.ownsRow (w1.heap.size + 1) 65 8 (.slice A3 s.1.length c3) s.1.length (cellsOf Sec.c ((ks.take k).foldl (crashStep s.2) (s.1, ch)).1) ∧ ∃ B cb, lv = .slice B ((ks.take k).foldl (crashStep s.2) (s.1, ch)).2.length cb ∧ Rd w 1 (.slice B ((ks.take k).foldl (crashStep s.2) (s.1, ch)).2.length cb) ((ks.take k).foldl (crashStep s.2) (s.1, ch)).2.length (cellsOf intC ((ks.take k).foldl (crashStep s.2) (s.1, ch)).2)) (fun t _ _ => s.1.length - (intOf t).toNat)
  case atStart => exact ⟨0, Nat.zero_le _, rfl, hx4, B4, C4, D4, ho4, Ac, cc, rfl, hr⟩
  case round =>
    obtain ⟨k, hk, rfl, hx, hB, hC, hD, hown, B, cb, rfl, hlv⟩ := hrel
    clear hx4 B4 C4 D4 ho4 ho3 hg3
    obtain ⟨hz1l, jj, hz2d⟩ := crash_inv s.2 (ks.take k) (s.1, ch)
    have HF := fun i h => fold_take (crashStep s.2) (s.1, ch) ks k i h
    generalize hzz : (ks.take k).foldl (crashStep s.2) (s.1, ch) = z at hlv hown hz1l hz2d HF
    have hwz : ∀ x ∈ z.2, I64 x := fun x hx => hwf x (List.mem_of_mem_drop (by rw [hz2d] at hx; exact hx))
    have hzl : z.2.length ≤ ch.length := by rw [hz2d, List.length_drop]; exact Nat.sub_le _ _
    have HL1 := Lib.hid hz1l
    have HZZ := Lib.hid hzz
    clear hz1l hz2d hzz
    by_cases hlt : k < s.1.length
    · replace HF := Lib.hid (HF k (HAT.out k hlt))
      have hltz : (k : Int) < (s.1.length : Int) := by omega
      obtain ⟨d1, d2, d3, d4⟩ := hD.f2
      obtain ⟨b1, b2, b3, b4⟩ := hB.f2
      have hBl := hB.lt
      have hDl := hD.lt
      have hCl := hC.lt
      obtain ⟨g5, cap5, hv5, hbase5, hglt5⟩ := hown.form (by omega)
      injection hv5 with hA5 _ hc5
      subst hA5; subst hc5
      go_wp2_with fail
      rename World => w4
      go_loopw [8, 9] (fun lv t W => ∃ j : Nat, j ≤ s.2.length ∧ t = .int .i64 j ∧ Ext w4 W ∧ ∃ Av cv, lv = .slice Av (vers (s.2.take j) k).length cv ∧ W.ownsRow w4.heap.size 65 8 (.slice Av (vers (s.2.take j) k).length cv) (vers (s.2.take j) k).length (cellsOf Sec.c (vers (s.2.take j) k))) (fun _ t _ => s.2.length - (intOf t).toNat)
      case atStart => exact ⟨0, Nat.zero_le _, rfl, Ext.refl _, none, 0, rfl, own_nil _ _ _ _⟩
      case round =>
        obtain ⟨j, hj, rfl, hxj, Av, cv, rfl, hownv⟩ := hrel
        have hcl := Nat.le_trans (vers_len (s.2.take j) (k : Int)) (by rw [List.length_take]; omega : (s.2.take j).length ≤ s.2.length)
        have HCUR' : ∀ cur, vers (s.2.take j) k = cur → Hid (vers (s.2.take j) k = cur) := fun _ h => h
        generalize hcur : vers (s.2.take j) k = cur at hownv hcl
        have HCUR := HCUR' _ hcur
        clear hcur HCUR'
        obtain ⟨e1, e2, e3, e4⟩ := (hB.ext hxj).f2
        obtain ⟨l1, l2, l3, l4⟩ := (hD.ext hxj).f2
        by_cases hlt2 : j < s.2.length
        · obtain ⟨x, hkx⟩ : ∃ x, s.2[j]? = some x := ⟨_, List.getElem?_eq_getElem hlt2⟩
          have hSN := Lib.hid (vers_take hkx (k : Int))
          have HX := Lib.hid hkx
          obtain ⟨b, off, rfl, hbl, f0, f1, f2, f3, f4, f5, f6, f7, f8⟩ := rdC_at (h2.ext (hx.trans hxj)) hkx
          have hltz2 : (j : Int) < (s.2.length : Int) := by omega
          clear hkx
          by_cases hat : x.1 = (k : Int)
          · have HAX := Lib.hid hat
            rw [hat] at f0
            clear hat
            go_upto_region 13 with (first | fail)
            go_wp2_with (at_builtin; refine stop_ ?_)
            refine Stop_.go ?_
            refine wpList_append_lies _ rfl _ _ 22 rfl w4.heap.size 65 i0 _ 8 8 Try.underlying22 hi0 hz0 hz1 hz2 rfl (by omega) (.slice Av cur.length cv) cur.length (cellsOf Sec.c cur) rfl (own_ext hownv ((Ext.refl wr).alloc _))
              ⟨wr.heap.size, 0, none⟩ 1 1 x.2.c rfl rfl (World.news_of_block (cs := x.2.c.toArray) (t := 65) (fr := (0, 0)) (heap_alloc_new wr _)) (Sec.c_one _) (by omega) (by unfold maxLen; omega) (by omega) (by have := hxj.size; simp; omega) (wr.heap.size + 1) (by simp) ?_
            intro gg cap w6 hown6 hgrow6 hat6 hlt6
            go_wp2_with fail
            go_roundw
            case rel =>
              have hOw := own_ext hownv ((Ext.refl wr).alloc (.cells x.2.c.toArray 65))
              have hB0 := own_base hOw
              have he : vers (s.2.take (j + 1)) k = cur ++ [x.2] := by rw [hSN.out, HCUR.out, if_pos HAX.out]
              refine ⟨j + 1, by omega, by go_num, (hxj.alloc _).grown hgrow6 (fun q hq => hB0 q hq), some ⟨gg, 0, none⟩, cap, ?_, ?_⟩
              · rw [he]; simp
              · rw [he, cellsOf_append]
                have hz1 : cellsOf Sec.c [x.2] = x.2.c := by simp [cellsOf]
                rw [hz1]
                simpa using hown6
            case measure => simp [intOf]; omega
          · have hatn : ¬ x.1 = (k : Int) := hat
            have HAX := Lib.hid hat
            clear hat
            go_wp2_with fail
            go_roundw
            case rel =>
              have he : vers (s.2.take (j + 1)) k = cur := by rw [hSN.out, HCUR.out, if_neg HAX.out, List.append_nil]
              refine ⟨j + 1, by omega, by go_num, hxj, Av, cv, ?_, ?_⟩
              · rw [he]
              · rw [he]; exact hownv
            case measure => simp [intOf]; omega
        · have hltz2 : ¬ (j : Int) < (s.2.length : Int) := by omega
          have hjj : j = s.2.length := by omega
          have HV : Hid (vers s.2 k = cur) := by
            show _ = _
            have h := HCUR.out
            rw [hjj, List.take_length] at h
            exact h
          clear HCUR hjj
          by_cases hv0 : cur = []
          · subst hv0
            go_wp2_with fail
            go_roundw
            case rel =>
              have hst : crashStep s.2 z k = z := by unfold crashStep; rw [if_pos HV.out]
              refine ⟨k + 1, by omega, by go_num, ?_⟩
              rw [HF.out, hst]
              exact ⟨hx.trans hxj, hB.ext hxj, hC.ext hxj, hD.ext hxj, own_ext hown hxj, B, cb, rfl, hlv⟩
            case measure => simp [intOf]; omega
          · have hv1 : 0 < cur.length := List.length_pos_iff.2 hv0
            have hst : crashStep s.2 z k = (if 0 < (decD z.2 (cur.length + 1)).1 then z.1.set k (cur.getD ((decD z.2 (cur.length + 1)).1 - 1).toNat default) else z.1, (decD z.2 (cur.length + 1)).2) := by
              unfold crashStep; rw [HV.out, if_neg hv0]; rfl
            have hne : ((cur.length : Int) == 0) = false := by simp; omega
            have hnz : ¬ (cur.length : Int) = 0 := by omega
            replace HF := Lib.hid (HF.out.trans hst)
            clear hst hv0
            have hrg := decD_range z.2 (cur.length + 1) (by omega)
            have hdec := fun V hV => decide53 (.slice B z.2.length cb) z.2 (cur.length + 1) V (hlv.ext ((hx.trans hxj).trans hV)) (by omega) (by omega) (by omega) hwz
            generalize decD z.2 (cur.length + 1) = dd at HF hrg hdec
            obtain ⟨dn, dl⟩ := dd
            obtain ⟨hd0, hdn⟩ := hrg
            simp only at hd0 hdn
            have hdec' : ∀ V, Ext wr V → Calls Try.prog 53 #[.slice B z.2.length cb, .int .i64 ((cur.length : Int) + 1)] V fun e V' => DecPost V V' e (.slice B z.2.length cb) z.2 (dn, dl) := fun V hV => hdec V hV
            clear hdec
            have hw1 : IntKind.i64.wrap ((cur.length : Int) + 1) = (cur.length : Int) + 1 := IntWalk.i64_in _ (by omega)
            by_cases hdp : 0 < dn
            · obtain ⟨i, rfl⟩ : ∃ i : Nat, dn = (i : Int) + 1 := ⟨(dn - 1).toNat, by omega⟩
              have hil : i < cur.length := by omega
              obtain ⟨vx, hvx⟩ : ∃ x, cur[i]? = some x := ⟨_, List.getElem?_eq_getElem hil⟩
              have hgetD : Hid (cur.getD ((i : Int) + 1 - 1).toNat default = vx) := by show _ = _; rw [show ((i : Int) + 1 - 1).toNat = i from by omega, List.getD_eq_getElem?_getD, hvx]; rfl
              obtain ⟨b7, off7, rfl, hbl7, _⟩ := rdS_at (Rd.own hownv) hvx
              have HVX := Lib.hid hvx
              clear hvx
              go_wp2_with (first
                | (go_at_call 53; refine (hdec' _ (Ext.refl _)).mono ?_; rintro e w5 ⟨lv', rfl, hlv', hx5'⟩; obtain ⟨o5, o6, o7, o8⟩ := (hD.ext (hxj.trans hx5')).f2)
                | fail)
              obtain ⟨B', cb', rfl⟩ := rd_slice (hlv' w hlv)
              have hjz : (i : Int) < (cur.length : Int) := by omega
              have hw2 : IntKind.i64.wrap ((i : Int) + 1 - 1) = (i : Int) := by rw [IntWalk.i64_in _ (by omega)]; omega
              have hw3 : IntKind.i64.wrap (i : Int) = (i : Int) := IntWalk.i64_in _ (by omega)
              refine wp_region_F (fun w' => Ext w5 w') 9 (by kernel_rfl) ((Ext.refl w5).drew) (fun hS => ?_)
              refine wpAnyF_taked (i := 0) (v := ?vq0) 68 rfl rfl (by kernel_rfl) (by kernel_rfl) (by kernel_rfl) (by kernel_rfl) (fun _ _ _ h => h) (Or.inl ⟨by rfl, ?yq0⟩) hS ?rq0
              case' yq0 => intro w' hSw; obtain ⟨s1, s2, s3, s4⟩ := (hD.ext ((hxj.trans hx5').trans hSw)).f2; go_simp; first | done | with_reducible rfl
              case' rq0 => simp only [Act.put, List.setIfInBounds_toArray, List.set_cons_zero, List.set_cons_succ]
              refine wpAnyF_taked (i := 1) (v := ?vq1) 69 rfl rfl (by kernel_rfl) (by kernel_rfl) (by kernel_rfl) (by kernel_rfl) (fun _ _ _ h => h) (Or.inl ⟨by rfl, ?yq1⟩) hS ?rq1
              case' yq1 => intro w' hSw; obtain ⟨s1, s2, s3, s4⟩ := (hD.ext ((hxj.trans hx5').trans hSw)).f2; go_simp; first | done | with_reducible rfl
              case' rq1 => simp only [Act.put, List.setIfInBounds_toArray, List.set_cons_zero, List.set_cons_succ]
              refine wpAnyF_taked (i := 2) (v := ?vq2) 70 rfl rfl (by kernel_rfl) (by kernel_rfl) (by kernel_rfl) (by kernel_rfl) (fun _ _ _ h => h) (Or.inl ⟨by rfl, ?yq2⟩) hS ?rq2
              case' yq2 => intro w' hSw; obtain ⟨s1, s2, s3, s4⟩ := (hD.ext ((hxj.trans hx5').trans hSw)).f2; go_simp; first | done | with_reducible rfl
              case' rq2 => simp only [Act.put, List.setIfInBounds_toArray, List.set_cons_zero, List.set_cons_succ]
              refine wpAnyF_taked (i := 3) (v := ?vq3) 71 rfl rfl (by kernel_rfl) (by kernel_rfl) (by kernel_rfl) (by kernel_rfl) (fun _ _ _ h => h) (Or.inl ⟨by rfl, ?yq3⟩) hS ?rq3
              case' yq3 => intro w' hSw; obtain ⟨s1, s2, s3, s4⟩ := (hD.ext ((hxj.trans hx5').trans hSw)).f2; go_simp; first | done | with_reducible rfl
              case' rq3 => simp only [Act.put, List.setIfInBounds_toArray, List.set_cons_zero, List.set_cons_succ]
              refine wpAnyF_taked (i := 4) (v := ?vq4) 72 rfl rfl (by kernel_rfl) (by kernel_rfl) (by kernel_rfl) (by kernel_rfl) (fun _ _ _ h => h) (Or.inl ⟨by rfl, ?yq4⟩) hS ?rq4
              case' yq4 => intro w' hSw; obtain ⟨s1, s2, s3, s4⟩ := (hD.ext ((hxj.trans hx5').trans hSw)).f2; go_simp; first | done | with_reducible rfl
              case' rq4 => simp only [Act.put, List.setIfInBounds_toArray, List.set_cons_zero, List.set_cons_succ]
              refine wpAnyF_taked (i := 5) (v := ?vq5) 73 rfl rfl (by kernel_rfl) (by kernel_rfl) (by kernel_rfl) (by kernel_rfl) (fun _ _ _ h => h) (Or.inl ⟨by rfl, ?yq5⟩) hS ?rq5
              case' yq5 => intro w' hSw; obtain ⟨s1, s2, s3, s4⟩ := (hD.ext ((hxj.trans hx5').trans hSw)).f2; go_simp; first | done | with_reducible rfl
              case' rq5 => simp only [Act.put, List.setIfInBounds_toArray, List.set_cons_zero, List.set_cons_succ]
              refine wpAnyF_taked (i := 6) (v := ?vq6) 74 rfl rfl (by kernel_rfl) (by kernel_rfl) (by kernel_rfl) (by kernel_rfl) (fun _ _ _ h => h) (Or.inl ⟨by rfl, ?yq6⟩) hS ?rq6
              case' yq6 => intro w' hSw; obtain ⟨s1, s2, s3, s4⟩ := (hD.ext ((hxj.trans hx5').trans hSw)).f2; go_simp; first | done | with_reducible rfl
              case' rq6 => simp only [Act.put, List.setIfInBounds_toArray, List.set_cons_zero, List.set_cons_succ]
              refine wpAnyF_taked (i := 7) (v := ?vq7) 75 rfl rfl (by kernel_rfl) (by kernel_rfl) (by kernel_rfl) (by kernel_rfl) (fun _ _ _ h => h) (Or.inl ⟨by rfl, ?yq7⟩) hS ?rq7
              case' yq7 => intro w' hSw; obtain ⟨s1, s2, s3, s4⟩ := (hD.ext ((hxj.trans hx5').trans hSw)).f2; obtain ⟨b8, off8, hh8, hb8, t0, t1, t2, t3, t4, t5, t6, t7⟩ := rdS_at (Rd.own (own_ext hownv (hx5'.trans hSw))) HVX.out; cases hh8; go_simp; first | done | with_reducible rfl
              case' rq7 => simp only [Act.put, List.setIfInBounds_toArray, List.set_cons_zero, List.set_cons_succ]
              refine wpAnyF_taked (i := 8) (v := ?vq8) 76 rfl rfl (by kernel_rfl) (by kernel_rfl) (by kernel_rfl) (by kernel_rfl) (fun _ _ _ h => h) (Or.inl ⟨by rfl, ?yq8⟩) hS ?rq8
              case' yq8 => intro w' hSw; obtain ⟨s1, s2, s3, s4⟩ := (hD.ext ((hxj.trans hx5').trans hSw)).f2; go_simp; first | done | with_reducible rfl
              case' rq8 => simp only [Act.put, List.setIfInBounds_toArray, List.set_cons_zero, List.set_cons_succ]
              refine wpAnyF_one (i := 9) (by kernel_rfl) rfl ?_
              go_wp2_with ((with_reducible refine gate_store (t := 65) (p := 76) rfl ?_); refine stop_ ?_)
              refine Stop_.go ?_
              refine wpList_store_own (e := 65) (base := w1.heap.size + 1) (n := s.1.length) (cap := c3) (i := k) Sec.c_len Sec.c_one z.1 vx rfl rfl 65 (.tmp 76) (.tmp 75) rfl size65 rfl ?qo _ rfl rfl ?qw HL1.out hlt ?_
              case qo => simp
              case qw => exact own_ext hown ((hxj.trans hx5').trans hS)
              intro w6 ho6' hg6
              go_wp2_with fail
              refine Stop_.go ⟨fun h => absurd rfl h, ?_⟩
              refine ⟨by kernel_rfl, ?_⟩
              go_wp2_with fail
              go_roundw
              case rel =>
                refine ⟨k + 1, by omega, by go_num, ?_⟩
                rw [HF.out]
                simp only [if_pos (show 0 < (i : Int) + 1 from by omega), hgetD.out]
                have hxx := (hxj.trans hx5').trans hS
                have ho5 := own_ext hown hxx
                have hgb : ∀ q, (Value.slice (some ⟨g5, 0, none⟩) s.1.length c3).ownBlock = some q → w.heap.size ≤ q := fun q hq => by have := own_base ho5 q hq; omega
                exact ⟨(hx.trans hxx).grown hg6 hgb, (hB.ext hxx).grown hg6 (own_ne ho5 (hB.ext hxx) (by omega : (65 : Nat) ≠ 25)), (hC.ext hxx).grown hg6 (own_ne ho5 (hC.ext hxx) (by omega : (65 : Nat) ≠ 25)), (hD.ext hxx).grown hg6 (own_ne ho5 (hD.ext hxx) (by omega : (65 : Nat) ≠ 25)), ho6', _, _, rfl, hlv' w hlv⟩
              case measure => simp [intOf]; omega
            · go_wp2_with (first
                | (go_at_call 53; refine (hdec' _ (Ext.refl _)).mono ?_; rintro e w5 ⟨lv', rfl, hlv', hx5'⟩; obtain ⟨o5, o6, o7, o8⟩ := (hD.ext (hxj.trans hx5')).f2)
                | fail)
              go_roundw
              case rel =>
                obtain ⟨B', cb', rfl⟩ := rd_slice (hlv' w hlv)
                refine ⟨k + 1, by omega, by go_num, ?_⟩
                rw [HF.out]
                simp only [if_neg (show ¬ 0 < dn from by omega)]
                have hxx := hxj.trans hx5'
                exact ⟨hx.trans hxx, hB.ext hxx, hC.ext hxx, hD.ext hxx, own_ext hown hxx, _, _, rfl, hlv' w hlv⟩
              case measure => simp [intOf]; omega
    · have hltz : ¬ (k : Int) < (s.1.length : Int) := by omega
      have hkk : k = s.1.length := by omega
      obtain ⟨d1, d2, d3, d4⟩ := hD.f2
      obtain ⟨y1, y2, y3, y4⟩ := hC.f2
      have hneA : ¬ w1.heap.size = w.heap.size + 1 := by omega
      go_wp2_with fail
      obtain ⟨z1, z2, _, _⟩ := ((hC.set0 (.slice A3 s.1.length c3)).set1 (.slice none 0 0)).f2
      refine bodyPost_ret (v := .tuple #[.agg #[.slice A3 s.1.length c3, .slice none 0 0], .slice B z.2.length cb]) (by simp [results, Try.results23, go_sem, z1, z2]) rfl ?_
      have hzz' : z = crashD s ch := by rw [← HZZ.out, hkk, List.take_of_length_le (by have := HKL.out; omega)]; exact HCD.out
      rw [← hzz']
      have p1 : w.heap.size + 1 < w1.heap.size + 1 := by omega
      have hp9 := own_setlow (own_setlow hown (p := ⟨w.heap.size + 1, 0, none⟩) p1 (.slice A3 s.1.length c3)) (p := ⟨w.heap.size + 1, 1, none⟩) p1 (.slice none 0 0)
      have hfin := (hx.set (p := ⟨w.heap.size + 1, 0, none⟩) (by show w.heap.size ≤ w.heap.size + 1; omega) (.slice A3 s.1.length c3)).set (p := ⟨w.heap.size + 1, 1, none⟩) (by show w.heap.size ≤ w.heap.size + 1; omega) (.slice none 0 0)
      exact ⟨.agg #[.slice A3 s.1.length c3, .slice none 0 0], .slice B z.2.length cb, rfl, ⟨A3, c3, none, 0, by rw [HL1.out]; rfl, by rw [HL1.out]; exact Rd.own hp9, rd_nil _ _, by rw [HL1.out]; exact (Fresh.own hp9).low (by omega), Fresh.nil _⟩, hlv.ext hfin, hfin⟩
end Go.Proofs.Ytcgffpncfgmhkaa
