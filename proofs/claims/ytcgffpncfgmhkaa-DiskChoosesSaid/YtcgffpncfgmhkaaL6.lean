import Derived.Test.YtcgffpncfgmhkaaL4
import Derived.Test.YtcgffpncfgmhkaaJ1
import Derived.Test.YtcgffpncfgmhkaaJ2
set_option linter.unusedVariables false
set_option linter.unusedSimpArgs false
set_option maxRecDepth 100000
set_option maxHeartbeats 4000000
namespace Go.Proofs.Ytcgffpncfgmhkaa
open Go Go.Proofs Go.RowKit Go.Instr
open Go.ChangeMaps (setBlock)
open Go.Proofs.YtcgffpncfgmhkaaW.PrintWords

theorem eql65 (x y : Sec) (W : World) : (binOp .eql 65 (.agg x.c.toArray) (.agg y.c.toArray)).run Try.prog W = .ok (.bool (secEq x y)) W := by
  rw [run_eql_struct, equalIn65 9998 x y W]
  rfl
theorem blkM {w : World} {g t : Nat} {cs : Array Value} (h : Blk w g cs t) (o : Obj) : Blk (w.alloc o) g cs t := blk_alloc h o
theorem zero4 (w : World) : (zeroValue 4).run Try.prog w = .ok (.bool false) w := by kernel_rfl
theorem vers_min {ca : List (Int × Sec)} {k : Nat} {x : Int × Sec} (hx : ca[k]? = some x) (j : Nat) (i : Int) :
    (vers (ca.take (min (k + 1) (j + 1))) i).length = (vers (ca.take (min k (j + 1))) i).length + (if k ≤ j ∧ x.1 = i then 1 else 0) := by
  by_cases h : k ≤ j
  · rw [Nat.min_eq_left (by omega), Nat.min_eq_left (by omega), vers_take hx, List.length_append]
    by_cases h2 : x.1 = i <;> simp [h, h2]
  · rw [Nat.min_eq_right (by omega), Nat.min_eq_right (by omega), if_neg (fun h2 => h h2.1)]
    rfl
def SeenOk (ks : List Int) (ca : List (Int × Sec)) (k : Nat) (a : Int) : Prop := ks.Nodup ∧ ∀ x, x ∈ ks ↔ x < a ∧ ∃ y ∈ ca.take k, y.1 = x
theorem SeenOk.skip {ks : List Int} {ca : List (Int × Sec)} {k : Nat} {a : Int} {x : Int × Sec} (h : SeenOk ks ca k a) (hx : ca[k]? = some x) (hs : x.1 < a → x.1 ∈ ks) : SeenOk ks ca (k + 1) a := by
  refine ⟨h.1, fun z => ?_⟩
  rw [h.2 z, List.take_add_one, hx]
  constructor
  · rintro ⟨h1, y, hy, rfl⟩
    exact ⟨h1, y, by simp [hy], rfl⟩
  · rintro ⟨h1, y, hy, rfl⟩
    rcases List.mem_append.1 hy with hy | hy
    · exact ⟨h1, y, hy, rfl⟩
    · have : y = x := by simpa using hy
      subst this
      exact (h.2 y.1).1 (hs h1)
theorem SeenOk.add {ks : List Int} {ca : List (Int × Sec)} {k : Nat} {a : Int} {x : Int × Sec} (h : SeenOk ks ca k a) (hx : ca[k]? = some x) (hl : x.1 < a) (hs : x.1 ∉ ks) : SeenOk (ks ++ [x.1]) ca (k + 1) a := by
  refine ⟨List.nodup_append.2 ⟨h.1, by simp, fun u hu v hv => ?_⟩, fun z => ?_⟩
  · have : v = x.1 := by simpa using hv
    rintro rfl
    exact hs (this ▸ hu)
  · rw [List.mem_append, h.2 z, List.take_add_one, hx]
    constructor
    · rintro (⟨h1, y, hy, rfl⟩ | h1)
      · exact ⟨h1, y, by simp [hy], rfl⟩
      · have : z = x.1 := by simpa using h1
        subst this
        exact ⟨hl, x, by simp, rfl⟩
    · rintro ⟨h1, y, hy, rfl⟩
      rcases List.mem_append.1 hy with hy | hy
      · exact .inl ⟨h1, y, hy, rfl⟩
      · have : y = x := by simpa using hy
        subst this
        exact .inr (by simp)

/-- The law's own function, DiskChooses. -/
theorem law6 (m q : Nat) (hm : m < 256) (hq16 : q < 65536) (vo : Value) (ops : List OpD) (w : World) (hr : RdO w vo ops) (hwf : OpsWf ops) (hol : ops.length ≤ 9223372036854775807) :
    Calls Try.prog 6 #[.int .u8 (m : Int), vo, .int .u16 (q : Int)] w fun e w' => e = .returned (.bool true) ∧ Ext w w' := by
  obtain ⟨Ao, co, rfl⟩ := rdO_slice hr
  have hops := fun W hx => fewOps12w (.slice Ao ops.length co) ops W (hr.ext hx) hol
  cases hq2 : fewW ops with
  | false =>
    rw [hq2] at hops
    clear hr hwf hol hq2
    go_enter Try.func6, Try.ntmps6
    go_wp2_with (first
      | (go_at_call 12; refine (hops _ (Ext.refl _)).mono ?_; rintro e w1 ⟨rfl, hx1⟩)
      | (go_at_call 13; refine (awake13 _).mono ?_; rintro e w2 ⟨rfl, hx2⟩)
      | fail)
    go_ret
    exact ⟨rfl, hx1.trans hx2⟩
  | true =>
    rw [hq2] at hops
    have h60 := fewW_len hq2
    have hri := fun W hx => right27 m hm (.slice Ao ops.length co) ops W (hr.ext hx) hwf h60
    have hinv := rightD_inv m ops
    generalize rightD m ops = d at hri hinv
    obtain ⟨hch, hd1, hd2⟩ := hinv
    have hl1 : d.1.length ≤ 40 := by omega
    have hl2 : d.2.length ≤ 300000 := by omega
    clear hr hwf hol hq2 hd1 hd2 h60
    go_enter Try.func6, Try.ntmps6
    go_upto_region 4 with (first
      | (go_at_call 12; refine (hops _ (Ext.refl _)).mono ?_; rintro e w1 ⟨rfl, hx1⟩)
      | (go_at_call 27; refine (hri _ hx1).mono ?_; rintro e w2 ⟨A, c0, B, d0, rfl, hd, hx2⟩)
      | fail)
    have hE : Ext w (w2.alloc (.cells #[.slice A d.1.length c0, .slice B d.2.length d0] 25)) := (hx1.trans hx2).alloc _
    have D7 := Blk.new w2 #[.slice A d.1.length c0, .slice B d.2.length d0] 25
    have q7 : DR (w2.alloc (.cells #[.slice A d.1.length c0, .slice B d.2.length d0] 25)) (.agg #[.slice A d.1.length c0, .slice B d.2.length d0]) d := hd.ext ((Ext.refl w2).alloc _)
    clear hd hx1 hx2 hri hops
    generalize w2.heap.size = g7 at D7 ⊢
    generalize w2.alloc (.cells #[.slice A d.1.length c0, .slice B d.2.length d0] 25) = W0 at *
    obtain ⟨p1, p2, p3, p4⟩ := D7.f2
    by_cases hem : d.2.length = 0
    · rw [hem] at p2
      clear hch hl1 hl2 q7
      go_wp2_with (first
        | (go_at_call 13; refine (awake13 _).mono ?_; rintro e w2 ⟨rfl, hx2⟩)
        | fail)
      go_ret
      exact ⟨rfl, hE.trans hx2⟩
    · have hpos : 0 < d.2.length := by omega
      obtain ⟨A', c0', B', d0', hv, hR1, hR2⟩ := q7
      obtain ⟨⟨rfl, rfl⟩, rfl, rfl⟩ : (A' = A ∧ c0' = c0) ∧ B' = B ∧ d0' = d0 := by simpa using hv.symm
      clear hv
      have hjn : q % d.2.length < d.2.length := Nat.mod_lt _ hpos
      obtain ⟨j, hj⟩ : ∃ j, j = q % d.2.length := ⟨_, rfl⟩
      have hjl : j < d.2.length := by rw [hj]; exact hjn
      obtain ⟨c, hkc⟩ : ∃ c, d.2[j]? = some c := ⟨_, List.getElem?_eq_getElem hjl⟩
      obtain ⟨bB, oB, rfl, hbB, f0, f1, f2, f3, f4, f5, f6, f7, f8⟩ := rdC_at hR2 hkc
      have HKC := Lib.hid hkc
      have hrem : (q : Int).tmod (d.2.length : Int) = (j : Int) := by rw [hj, Int.tmod_eq_emod_of_nonneg (by omega)]; exact (Int.natCast_emod q d.2.length).symm
      have hwq : IntKind.i64.wrap (q : Int) = (q : Int) := IntWalk.i64_in _ (by omega)
      have hnn : ¬ d.2 = [] := fun h => by rw [h] at hpos; simp at hpos
      have HREM := Lib.hid hrem
      have hnz : ¬ (d.2.length : Int) = 0 := by omega
      have hne0 : ((d.2.length : Int) == 0) = false := by simp; omega
      have hjz : (j : Int) < (d.2.length : Int) := by omega
      clear hkc hj hjn hem
      go_upto_region 6 with fail
      go_cut [8] from 31 to 40 (fun t8 wx => Ext W0 wx ∧ ∃ g, t8 = .pointer (some ⟨g, 0, none⟩) ∧ Blk wx g #[.int .i64 c.1, .int .u8 c.2.b0, .int .u8 c.2.b1, .int .u8 c.2.b2, .int .u8 c.2.b3, .int .u8 c.2.b4, .int .u8 c.2.b5, .int .u8 c.2.b6, .int .u8 c.2.b7] 67 ∧ W0.heap.size ≤ g)
      case first =>
        refine wp_region_F (fun w' => Ext W0 w') 11 (by kernel_rfl) ((Ext.refl W0).drew) (fun hS => ?_)
        refine wpAnyF_taked (i := 0) (v := ?vq0) 31 rfl rfl (by kernel_rfl) (by kernel_rfl) (by kernel_rfl) (by kernel_rfl) (fun _ _ _ h => h) (Or.inl ⟨by rfl, ?yq0⟩) hS ?rq0
        case' yq0 => intro w' hSw; obtain ⟨s1, s2, s3, s4⟩ := (D7.ext hSw).f2; go_simp; first | done | with_reducible rfl
        case' rq0 => simp only [Act.put, List.setIfInBounds_toArray, List.set_cons_zero, List.set_cons_succ]
        refine wpAnyF_taked (i := 1) (v := ?vq1) 32 rfl rfl (by kernel_rfl) (by kernel_rfl) (by kernel_rfl) (by kernel_rfl) (fun _ _ _ h => h) (Or.inl ⟨by rfl, ?yq1⟩) hS ?rq1
        case' yq1 => intro w' hSw; obtain ⟨s1, s2, s3, s4⟩ := (D7.ext hSw).f2; go_simp; first | done | with_reducible rfl
        case' rq1 => simp only [Act.put, List.setIfInBounds_toArray, List.set_cons_zero, List.set_cons_succ]
        refine wpAnyF_taked (i := 2) (v := ?vq2) 33 rfl rfl (by kernel_rfl) (by kernel_rfl) (by kernel_rfl) (by kernel_rfl) (fun _ _ _ h => h) (Or.inl ⟨by rfl, ?yq2⟩) hS ?rq2
        case' yq2 => intro w' hSw; obtain ⟨s1, s2, s3, s4⟩ := (D7.ext hSw).f2; go_simp; first | done | with_reducible rfl
        case' rq2 => simp only [Act.put, List.setIfInBounds_toArray, List.set_cons_zero, List.set_cons_succ]
        refine wpAnyF_taked (i := 3) (v := ?vq3) 34 rfl rfl (by kernel_rfl) (by kernel_rfl) (by kernel_rfl) (by kernel_rfl) (fun _ _ _ h => h) (Or.inl ⟨by rfl, ?yq3⟩) hS ?rq3
        case' yq3 => intro w' hSw; obtain ⟨s1, s2, s3, s4⟩ := (D7.ext hSw).f2; go_simp; first | done | with_reducible rfl
        case' rq3 => simp only [Act.put, List.setIfInBounds_toArray, List.set_cons_zero, List.set_cons_succ]
        refine wpAnyF_taked (i := 4) (v := ?vq4) 35 rfl rfl (by kernel_rfl) (by kernel_rfl) (by kernel_rfl) (by kernel_rfl) (fun _ _ _ h => h) (Or.inl ⟨by rfl, ?yq4⟩) hS ?rq4
        case' yq4 => intro w' hSw; obtain ⟨s1, s2, s3, s4⟩ := (D7.ext hSw).f2; go_simp; first | done | with_reducible rfl
        case' rq4 => simp only [Act.put, List.setIfInBounds_toArray, List.set_cons_zero, List.set_cons_succ]
        refine wpAnyF_taked (i := 5) (v := ?vq5) 36 rfl rfl (by kernel_rfl) (by kernel_rfl) (by kernel_rfl) (by kernel_rfl) (fun _ _ _ h => h) (Or.inl ⟨by rfl, ?yq5⟩) hS ?rq5
        case' yq5 => intro w' hSw; obtain ⟨s1, s2, s3, s4⟩ := (D7.ext hSw).f2; go_simp; first | done | with_reducible rfl
        case' rq5 => simp only [Act.put, List.setIfInBounds_toArray, List.set_cons_zero, List.set_cons_succ]
        refine wpAnyF_taked (i := 6) (v := ?vq6) 37 rfl rfl (by kernel_rfl) (by kernel_rfl) (by kernel_rfl) (by kernel_rfl) (fun _ _ _ h => h) (Or.inl ⟨by rfl, ?yq6⟩) hS ?rq6
        case' yq6 => intro w' hSw; obtain ⟨s1, s2, s3, s4⟩ := (D7.ext hSw).f2; go_simp; first | done | with_reducible rfl
        case' rq6 => simp only [Act.put, List.setIfInBounds_toArray, List.set_cons_zero, List.set_cons_succ]
        refine wpAnyF_taked (i := 7) (v := ?vq7) 38 rfl rfl (by kernel_rfl) (by kernel_rfl) (by kernel_rfl) (by kernel_rfl) (fun _ _ _ h => h) (Or.inl ⟨by rfl, ?yq7⟩) hS ?rq7
        case' yq7 => intro w' hSw; obtain ⟨s1, s2, s3, s4⟩ := (D7.ext hSw).f2; have hrem := HREM.out; go_simp; first | done | with_reducible rfl
        case' rq7 => simp only [Act.put, List.setIfInBounds_toArray, List.set_cons_zero, List.set_cons_succ]
        refine wpAnyF_taked (i := 8) (v := ?vq8) 39 rfl rfl (by kernel_rfl) (by kernel_rfl) (by kernel_rfl) (by kernel_rfl) (fun _ _ _ h => h) (Or.inl ⟨by rfl, ?yq8⟩) hS ?rq8
        case' yq8 => intro w' hSw; obtain ⟨s1, s2, s3, s4⟩ := (D7.ext hSw).f2; have hrem := HREM.out; go_simp; first | done | with_reducible rfl
        case' rq8 => simp only [Act.put, List.setIfInBounds_toArray, List.set_cons_zero, List.set_cons_succ]
        refine wpAnyF_taked (i := 9) (v := ?vq9) 40 rfl rfl (by kernel_rfl) (by kernel_rfl) (by kernel_rfl) (by kernel_rfl) (fun _ _ _ h => h) (Or.inl ⟨by rfl, ?yq9⟩) hS ?rq9
        case' yq9 => intro w' hSw; obtain ⟨s1, s2, s3, s4⟩ := (D7.ext hSw).f2; have hrem := HREM.out; obtain ⟨b8, off8, hh8, hb8, e0, e1, e2, e3, e4, e5, e6, e7, e8⟩ := rdC_at (hR2.ext hSw) HKC.out; cases hh8; go_simp; first | done | with_reducible rfl
        case' rq9 => simp only [Act.put, List.setIfInBounds_toArray, List.set_cons_zero, List.set_cons_succ]
        refine wpAnyF_one (i := 10) (by kernel_rfl) rfl ?_
        go_wp2_with fail
        refine Stop_.go ⟨fun _ => hS.alloc _, ?_⟩
        refine wpAnyF_one (i := 11) (by kernel_rfl) rfl ?_
        go_wp2_with fail
        refine Stop_.go ⟨fun h => absurd rfl h, ?_⟩
        refine ⟨by kernel_rfl, ?_⟩
        go_wp2_with fail
        go_meet
        exact ⟨((Ext.refl W0).alloc _).drew, W0.heap.size, rfl, (Blk.new _ _ _).drew, Nat.le_refl _⟩
      case rest =>
        obtain ⟨hxA, g8, rfl, D8, hg8⟩ := hcut
        rename World => W1
        have hg78 : g7 < g8 := by have := D7.lt; omega
        replace D7 := D7.ext hxA
        replace hR1 := hR1.ext hxA
        replace hR2 := hR2.ext hxA
        replace hE := hE.trans hxA
        clear hxA hg8 f0 f1 f2 f3 f4 f5 f6 f7 f8 p1 p2 p3 p4 hbB
        obtain ⟨p1, p2, p3, p4⟩ := D7.f2
        have hmm := @run_makeMap Try.prog
        have hg7l := D7.lt
        go_upto_region 9 with fail
        obtain ⟨p5, p6, _, _⟩ := (blkM D7 (.map #[] 0)).f2
        go_wp2_with fail
        have hM0 : (W1.alloc (.map #[] 0)).heap[W1.heap.size]? = some (.map (entsB [] 0).toArray ([] : List Int).length) := heap_alloc_new W1 _
        have hxM : Ext W1 (W1.alloc (.map #[] 0)) := (Ext.refl W1).alloc _
        clear hmm p1 p2 p3 p4 p5 p6
        go_loopw [9, 10, 45] (fun pl vn t wr => ∃ k : Nat, ∃ ks : List Int, k ≤ d.2.length ∧ t = .int .i64 k ∧ pl = .int .i64 (ks.length : Nat) ∧ vn = .int .i64 ((vers (d.2.take (min k (j + 1))) c.1).length : Nat) ∧ ks.length ≤ k ∧ Ext W1 wr ∧ wr.heap[W1.heap.size]? = some (.map (entsB ks 0).toArray ks.length) ∧ Hid (SeenOk ks d.2 k c.1)) (fun _ _ t _ => d.2.length - (intOf t).toNat)
        case atStart => exact ⟨0, [], Nat.zero_le _, rfl, rfl, by simp [vers], Nat.le_refl _, hxM, hM0, ⟨List.nodup_nil, fun x => by simp⟩⟩
        case round =>
          obtain ⟨k, ks, hk, rfl, rfl, rfl, hkl, hx, hM, hks⟩ := hrel
          clear hM0 hxM
          have hvl := Nat.le_trans (vers_len (d.2.take (min k (j + 1))) c.1) (by rw [List.length_take]; exact Nat.min_le_right _ _ : (d.2.take (min k (j + 1))).length ≤ d.2.length)
          have HVM := fun x hx => @vers_min d.2 k x hx j c.1
          have HVV : ∀ nv, (vers (d.2.take (min k (j + 1))) c.1).length = nv → Hid ((vers (d.2.take (min k (j + 1))) c.1).length = nv) := fun _ h => h
          generalize hvv : (vers (d.2.take (min k (j + 1))) c.1).length = nv at hvl HVM
          replace HVV := HVV _ hvv
          clear hvv
          have D7r := D7.ext hx
          have D8r := D8.ext hx
          have hMl := blk_lt hM
          have hg8l := D8.lt
          by_cases hlt : k < d.2.length
          · obtain ⟨x, hkx⟩ : ∃ x, d.2[k]? = some x := ⟨_, List.getElem?_eq_getElem hlt⟩
            obtain ⟨b8, off8, hh8, hb8, e0, e1, e2, e3, e4, e5, e6, e7, e8⟩ := rdC_at (hR2.ext hx) hkx
            cases hh8
            have hltz : (k : Int) < (d.2.length : Int) := by omega
            replace HVM := Lib.hid (HVM x hkx)
            have HX := Lib.hid hkx
            clear hkx
            go_upto_region 12 with fail
            clear e0 e1 e2 e3 e4 e5 e6 e7 e8
            have D13 := Blk.new wr #[.int .i64 x.1, .int .u8 x.2.b0, .int .u8 x.2.b1, .int .u8 x.2.b2, .int .u8 x.2.b3, .int .u8 x.2.b4, .int .u8 x.2.b5, .int .u8 x.2.b6, .int .u8 x.2.b7] 67
            have D7s := D7r.alloc (.cells #[.int .i64 x.1, .int .u8 x.2.b0, .int .u8 x.2.b1, .int .u8 x.2.b2, .int .u8 x.2.b3, .int .u8 x.2.b4, .int .u8 x.2.b5, .int .u8 x.2.b6, .int .u8 x.2.b7] 67)
            have D8s := D8r.alloc (.cells #[.int .i64 x.1, .int .u8 x.2.b0, .int .u8 x.2.b1, .int .u8 x.2.b2, .int .u8 x.2.b3, .int .u8 x.2.b4, .int .u8 x.2.b5, .int .u8 x.2.b6, .int .u8 x.2.b7] 67)
            have hMs := blk_alloc hM (.cells #[.int .i64 x.1, .int .u8 x.2.b0, .int .u8 x.2.b1, .int .u8 x.2.b2, .int .u8 x.2.b3, .int .u8 x.2.b4, .int .u8 x.2.b5, .int .u8 x.2.b6, .int .u8 x.2.b7] 67)
            have hxs := hx.alloc (.cells #[.int .i64 x.1, .int .u8 x.2.b0, .int .u8 x.2.b1, .int .u8 x.2.b2, .int .u8 x.2.b3, .int .u8 x.2.b4, .int .u8 x.2.b5, .int .u8 x.2.b6, .int .u8 x.2.b7] 67)
            have hM13 : wr.heap.size ≠ W1.heap.size := by omega
            have hM8 : g8 ≠ W1.heap.size := by omega
            have hM7 : g7 ≠ W1.heap.size := by omega
            generalize wr.heap.size = g13 at D13 hM13 ⊢
            generalize wr.alloc (.cells #[.int .i64 x.1, .int .u8 x.2.b0, .int .u8 x.2.b1, .int .u8 x.2.b2, .int .u8 x.2.b3, .int .u8 x.2.b4, .int .u8 x.2.b5, .int .u8 x.2.b6, .int .u8 x.2.b7] 67) = W2 at *
            obtain ⟨u0, u1, u2, u3, u4, u5, u6, u7, u8⟩ := D13.f9
            obtain ⟨c0, c1, c2, c3, c4, c5, c6, c7, c8⟩ := D8s.f9
            obtain ⟨m1, m2, _, _⟩ := D7s.f2
            have q := run_lookB Try.underlying68 Try.underlying3 zero4 ks x.1 hMs
            have hw1 : IntKind.i64.wrap ((ks.length : Int) + 1) = (ks.length : Int) + 1 := IntWalk.i64_in _ (by omega)
            have hw2 : IntKind.i64.wrap ((nv : Int) + 1) = (nv : Int) + 1 := IntWalk.i64_in _ (by omega)
            by_cases h1 : x.1 < c.1
            · have hneb : ¬ x.1 = c.1 := by omega
              by_cases hs : x.1 ∈ ks
              · rw [decide_eq_true hs] at q
                have HS := Lib.hid hs
                clear hs
                go_wp2_with fail
                go_roundw
                case rel =>
                  refine ⟨k + 1, ks, by omega, by go_num, rfl, ?_, by omega, hxs, hMs, SeenOk.skip hks.out HX.out (fun _ => HS.out)⟩
                  rw [HVM.out, if_neg (fun h => hneb h.2)]; rfl
                case measure => simp [intOf]; omega
              · rw [decide_eq_false hs] at q
                have HS := Lib.hid hs
                have u := run_updB Try.underlying68 Try.underlying3 ks x.1 hs hMs
                simp only [List.length_append, List.length_cons, List.length_nil, Nat.zero_add] at u
                clear hs
                obtain ⟨v0, v1, v2, v3, v4, v5, v6, v7, v8⟩ := (D13.setBlock hM13 (.map (entsB (ks ++ [x.1]) 0).toArray (ks.length + 1))).f9
                obtain ⟨z0, z1, z2, z3, z4, z5, z6, z7, z8⟩ := (D8s.setBlock hM8 (.map (entsB (ks ++ [x.1]) 0).toArray (ks.length + 1))).f9
                go_wp2_with fail
                go_roundw
                case rel =>
                  refine ⟨k + 1, ks ++ [x.1], by omega, by go_num, by simp, ?_, by simp; omega, hxs.setBlock (Nat.le_refl _) _, ?_, SeenOk.add hks.out HX.out h1 HS.out⟩
                  · rw [HVM.out, if_neg (fun h => hneb h.2)]; rfl
                  · have := blk_lt hMs
                    simp [setBlock, this]
                case measure => simp [intOf]; omega
            · by_cases h2 : x.1 = c.1
              · have HQ := Lib.hid h2
                rw [h2] at u0 q
                by_cases h3 : k ≤ j
                · have h3z : (k : Int) ≤ (j : Int) := by omega
                  clear h2
                  go_wp2_with fail
                  go_roundw
                  case rel =>
                    refine ⟨k + 1, ks, by omega, by go_num, rfl, ?_, by omega, hxs, hMs, SeenOk.skip hks.out HX.out (fun h => absurd h h1)⟩
                    rw [HVM.out, if_pos ⟨h3, HQ.out⟩]; rfl
                  case measure => simp [intOf]; omega
                · have h3z : ¬ (k : Int) ≤ (j : Int) := by omega
                  clear h2
                  go_wp2_with fail
                  go_roundw
                  case rel =>
                    refine ⟨k + 1, ks, by omega, by go_num, rfl, ?_, by omega, hxs, hMs, SeenOk.skip hks.out HX.out (fun h => absurd h h1)⟩
                    rw [HVM.out, if_neg (fun h => h3 h.1)]; rfl
                  case measure => simp [intOf]; omega
              · go_wp2_with fail
                go_roundw
                case rel =>
                  refine ⟨k + 1, ks, by omega, by go_num, rfl, ?_, by omega, hxs, hMs, SeenOk.skip hks.out HX.out (fun h => absurd h h1)⟩
                  rw [HVM.out, if_neg (fun h => h2 h.2)]; rfl
                case measure => simp [intOf]; omega
          · have hltz : ¬ (k : Int) < (d.2.length : Int) := by omega
            have hkk : k = d.2.length := by omega
            have HVV2 : Hid ((vers (d.2.take (j + 1)) c.1).length = nv) := by
              show _ = _
              rw [← HVV.out, hkk, Nat.min_eq_right (by omega)]
            have HSE : Hid (ks.Nodup ∧ ∀ x, x ∈ ks ↔ x < c.1 ∧ ∃ y ∈ d.2, y.1 = x) := by
              have h := hks.out
              rw [hkk] at h
              unfold SeenOk at h
              rwa [List.take_length] at h
            clear HVM HVV hks hM hMl
            have hkl2 : ks.length ≤ 300000 := by omega
            clear hkk hkl
            have hmk := make46 (ks.length + 1) (by omega)
            rw [show ((ks.length + 1 : Nat) : Int) = (ks.length : Int) + 1 from by omega] at hmk
            have hw1 : IntKind.i64.wrap ((ks.length : Int) + 1) = (ks.length : Int) + 1 := IntWalk.i64_in _ (by omega)
            have hpz : (ks.length : Int) < (ks.length : Int) + 1 := by omega
            go_upto_region 19 with fail
            have HA : (madeCells #[.int .i64 0] (ks.length + 1)).toList = List.replicate (ks.length + 1) (.int .i64 0) := by
              have h := (made_zeros1 (ks.length + 1)).trans (cells_zeros1 _)
              rwa [Nat.mul_one] at h
            have G14 := Blk.new wr (madeCells #[.int .i64 0] (ks.length + 1)) 3
            have hx3 : Ext W1 (wr.alloc (.cells (madeCells #[.int .i64 0] (ks.length + 1)) 3)) := hx.alloc _
            have hg14 : W1.heap.size ≤ wr.heap.size := hx.size
            clear hmk hx D7r D8r
            generalize wr.heap.size = g14 at G14 hg14 ⊢
            generalize madeCells #[.int .i64 0] (ks.length + 1) = arr at *
            generalize wr.alloc (.cells arr 3) = W3 at *
            have hcell0 : W3.cell? ⟨g14, ks.length, none⟩ = some (.int .i64 0) := by
              refine (blk_cell G14 ks.length).trans ?_
              rw [← Array.getElem?_toList, HA, List.getElem?_replicate, if_pos (by omega)]
            have hfz0 := blk_frozen G14 ks.length
            go_upto_region 20 with fail
            have G15 : Blk (W3.setCell ⟨g14, ks.length, none⟩ (.int .i64 nv)) g14 (arr.setIfInBounds ks.length (.int .i64 nv)) 3 := blk_set G14 _ _
            have hx4 : Ext W1 (W3.setCell ⟨g14, ks.length, none⟩ (.int .i64 nv)) := hx3.set (p := ⟨g14, ks.length, none⟩) hg14 _
            have HA2 : (arr.setIfInBounds ks.length (.int .i64 nv)).toList = cellsOf intC (List.replicate ks.length 0 ++ [(nv : Int)]) := by
              rw [Array.toList_setIfInBounds, HA, cellsOf_append, cells_zeros1, List.replicate_succ', List.set_append_right _ _ (by simp)]
              simp [cellsOf, intC]
            have hlen1 : (List.replicate ks.length 0 ++ [(nv : Int)]).length = ks.length + 1 := by simp
            have hRC : Rd (W3.setCell ⟨g14, ks.length, none⟩ (.int .i64 nv)) 1 (.slice (some ⟨g14, 0, none⟩) (ks.length + 1) (ks.length + 1)) (List.replicate ks.length 0 ++ [(nv : Int)]).length (cellsOf intC (List.replicate ks.length 0 ++ [(nv : Int)])) := by
              rw [hlen1]
              refine rd_blk G15 ?_ HA2
              rw [← Array.length_toList, HA2, cellsOf_length intC_len, hlen1]
            have hcr1 := fun W hW hc => crash22 (.agg #[.slice A' d.1.length c0', .slice (some ⟨bB, oB, none⟩) d.2.length d0']) (.slice (some ⟨g14, 0, none⟩) (ks.length + 1) (ks.length + 1)) d (List.replicate ks.length 0 ++ [(nv : Int)]) W ⟨A', c0', _, d0', rfl, hR1.ext hW, hR2.ext hW⟩ hc hch (by omega) (by omega) (by rw [hlen1]; omega) (by
              intro x hx
              rcases List.mem_append.1 hx with h | h
              · rw [(List.mem_replicate.1 h).2]; exact ⟨by decide, by decide⟩
              · rw [List.mem_singleton.1 h]; exact ⟨by omega, by omega⟩)
            have hcr2 := fun W hW hc => crash22 (.agg #[.slice A' d.1.length c0', .slice (some ⟨bB, oB, none⟩) d.2.length d0']) (.slice (some ⟨g14, 0, none⟩) (ks.length + 1) (ks.length + 1)) d (List.replicate (ks.length + 1) 0) W ⟨A', c0', _, d0', rfl, hR1.ext hW, hR2.ext hW⟩ hc hch (by omega) (by omega) (by simp; omega) (by
              intro x hx
              rw [(List.mem_replicate.1 hx).2]; exact ⟨by decide, by decide⟩)
            have hL1 : (crashD d (List.replicate ks.length 0 ++ [(nv : Int)])).1 = d.1.set c.1.toNat c.2 := by
              have h := choose_law d hch j c HKC.out ks HSE.out.1 HSE.out.2
              rwa [HVV2.out] at h
            have hL2 : (crashD d (List.replicate (ks.length + 1) 0)).1 = d.1 := choose_none d _
            generalize crashD d (List.replicate ks.length 0 ++ [(nv : Int)]) = r1 at hcr1 hL1
            generalize crashD d (List.replicate (ks.length + 1) 0) = r2 at hcr2 hL2
            obtain ⟨X, l1⟩ := r1
            obtain ⟨Y, l2⟩ := r2
            obtain ⟨hc0, hcn⟩ := anyBad_ok (chkD_ok hch) c (List.mem_of_getElem? HKC.out)
            obtain ⟨a, ha⟩ : ∃ a : Nat, c.1 = a := ⟨c.1.toNat, by omega⟩
            have hXa : X[a]? = some c.2 := by
              have h : X = d.1.set c.1.toNat c.2 := hL1
              rw [h, ha, Int.toNat_natCast, List.getElem?_set_self (by omega)]
            have hXl : X.length = d.1.length := by
              have h : X = d.1.set c.1.toNat c.2 := hL1
              rw [h, List.length_set]
            have hY : Y = d.1 := hL2
            subst hY
            have HXA := Lib.hid hXa
            have hXn : ¬ (X.length : Int) ≤ (a : Int) := by omega
            have hXz : (a : Int) < (X.length : Int) := by omega
            have hYn : ¬ (d.1.length : Int) ≤ (a : Int) := by omega
            have ha0 : ¬ (a : Int) < 0 := by omega
            have D8c : Blk W1 g8 #[.int .i64 (a : Int), .int .u8 c.2.b0, .int .u8 c.2.b1, .int .u8 c.2.b2, .int .u8 c.2.b3, .int .u8 c.2.b4, .int .u8 c.2.b5, .int .u8 c.2.b6, .int .u8 c.2.b7] 67 := by rw [← ha]; exact D8
            have hp1 : ks.length + 1 ≤ 1000000 := by omega
            have hXL := Lib.hid hXl
            clear hL1 hL2 hXa hXl hc0 hcn ha D8 HVV2 HSE HKC HREM hrem hlen1 hcell0 hfz0 hlt hltz hch hpos hjl hjz
            have D7a := D7.ext hx4
            have hg14l := G15.lt
            clear G14 hx3
            generalize W3.setCell ⟨g14, ks.length, none⟩ (.int .i64 nv) = W4 at *
            obtain ⟨m1, m2, _, _⟩ := D7a.f2
            go_upto_region 21 with (first
              | (go_at_call 22; refine (hcr1 _ hx4 hRC).mono ?_; rintro e w5 ⟨v5, l5, rfl, ⟨A5, c5, B5, d5, rfl, hd5, he5, hf5, hg5⟩, hl5, hlf5, hx5⟩)
              | fail)
            have hd6 : Rd (w5.alloc (.cells #[.slice A5 X.length c5, .slice B5 0 d5] 25)) 8 (.slice A5 X.length c5) X.length (cellsOf Sec.c X) := hd5.ext ((Ext.refl w5).alloc _)
            have D15 := Blk.new w5 #[.slice A5 X.length c5, .slice B5 0 d5] 25
            have hx6 : Ext W4 (w5.alloc (.cells #[.slice A5 X.length c5, .slice B5 0 d5] 25)) := hx5.alloc _
            have hg15 : W4.heap.size ≤ w5.heap.size := hx5.size
            clear hcr1 m1 m2 hd5 he5 hg5 hl5 hlf5 hx5 hRC
            generalize w5.heap.size = g15 at D15 hg15 ⊢
            generalize w5.alloc (.cells #[.slice A5 X.length c5, .slice B5 0 d5] 25) = W6 at *
            have G16 := G15.ext hx6
            have hcell1 : W6.cell? ⟨g14, ks.length, none⟩ = some (.int .i64 nv) := by
              refine (blk_cell G16 ks.length).trans ?_
              rw [← Array.getElem?_toList, HA2, cellsOf_append, cells_zeros1, List.getElem?_append_right (by simp)]
              simp [cellsOf, intC]
            have hfz1 := blk_frozen G16 ks.length
            go_upto_region 22 with fail
            have G17 : Blk (W6.setCell ⟨g14, ks.length, none⟩ (.int .i64 0)) g14 ((arr.setIfInBounds ks.length (.int .i64 nv)).setIfInBounds ks.length (.int .i64 0)) 3 := blk_set G16 _ _
            have HA3 : ((arr.setIfInBounds ks.length (.int .i64 nv)).setIfInBounds ks.length (.int .i64 0)).toList = cellsOf intC (List.replicate (ks.length + 1) 0) := by
              rw [Array.toList_setIfInBounds, HA2, cellsOf_append, cells_zeros1, cells_zeros1, List.replicate_succ', List.set_append_right _ _ (by simp)]
              simp [cellsOf, intC]
            have hRC2 : Rd (W6.setCell ⟨g14, ks.length, none⟩ (.int .i64 0)) 1 (.slice (some ⟨g14, 0, none⟩) (ks.length + 1) (ks.length + 1)) (List.replicate (ks.length + 1) (0 : Int)).length (cellsOf intC (List.replicate (ks.length + 1) 0)) := by
              rw [List.length_replicate]
              refine rd_blk G17 ?_ HA3
              rw [← Array.length_toList, HA3, cellsOf_length intC_len, List.length_replicate]
            have hx7 : Ext W1 (W6.setCell ⟨g14, ks.length, none⟩ (.int .i64 0)) := (hx4.trans hx6).set (p := ⟨g14, ks.length, none⟩) hg14 _
            have hd7 : Rd (W6.setCell ⟨g14, ks.length, none⟩ (.int .i64 0)) 8 (.slice A5 X.length c5) X.length (cellsOf Sec.c X) := Rd.set hd6 hf5 (p := ⟨g14, ks.length, none⟩) hg14l _
            have D15b : Blk (W6.setCell ⟨g14, ks.length, none⟩ (.int .i64 0)) g15 #[.slice A5 X.length c5, .slice B5 0 d5] 25 := D15.far (by show g15 ≠ g14; omega) _
            clear hcell1 hfz1 G15 G16 HA HA2 hd6 D15 hx6
            have D7b := D7.ext hx7
            generalize W6.setCell ⟨g14, ks.length, none⟩ (.int .i64 0) = W7 at *
            obtain ⟨m1, m2, _, _⟩ := D7b.f2
            go_upto_region 23 with (first
              | (go_at_call 22; refine (hcr2 _ hx7 hRC2).mono ?_; rintro e w8 ⟨v8, l8, rfl, ⟨A6, c6, B6, d6, rfl, hd8, he8, hf8, hg88⟩, hl8, hlf8, hx8⟩)
              | fail)
            have hd9 : Rd (w8.alloc (.cells #[.slice A6 d.1.length c6, .slice B6 0 d6] 25)) 8 (.slice A6 d.1.length c6) d.1.length (cellsOf Sec.c d.1) := hd8.ext ((Ext.refl w8).alloc _)
            have D17 := Blk.new w8 #[.slice A6 d.1.length c6, .slice B6 0 d6] 25
            have hx9 : Ext W7 (w8.alloc (.cells #[.slice A6 d.1.length c6, .slice B6 0 d6] 25)) := hx8.alloc _
            clear hcr2 m1 m2 hd8 he8 hf8 hg88 hl8 hlf8 hx8 hRC2 D7a D7b hf5
            generalize w8.heap.size = g17 at D17 ⊢
            generalize w8.alloc (.cells #[.slice A6 d.1.length c6, .slice B6 0 d6] 25) = W8 at *
            have hd10 := hd7.ext hx9
            have D15c := D15b.ext hx9
            have hxB := hx7.trans hx9
            have D8d := D8c.ext hxB
            have D7c := D7.ext hxB
            have hR1c := hR1.ext hxB
            have hEw := hE.trans hxB
            clear hd7 D15b D8c D7 hR1 hR2 hx7 hx9 hx4 G17 HA3 hE hxB
            obtain ⟨c0, c1, c2, c3, c4, c5_, c6_, c7, c8⟩ := D8d.f9
            obtain ⟨m1, m2, _, _⟩ := D15c.f2
            obtain ⟨m3, m4, _, _⟩ := D17.f2
            go_upto_region 25 with fail
            clear c0 c1 c2 c3 c4 c5_ c6_ c7 c8 m1 m2 m3 m4
            obtain ⟨bX, oX, rfl, hbX, _⟩ := rdS_at hd10 HXA.out
            have hEq := fun W => eql65 c.2 c.2 W
            rw [secEq_iff.2 rfl] at hEq
            simp only [Sec.c] at hEq
            have h19 := fun W hW => same19t d.1 d.1.length (.slice A6 d.1.length c6) (.slice A' d.1.length c0') W rfl (hd9.ext hW) (hR1c.ext hW) (by omega)
            refine wp_region_F (fun w' => Ext W8 w') 19 (by kernel_rfl) ((Ext.refl W8).drew) (fun hS => ?_)
            refine wpAnyF_taked (i := 0) (v := ?vp0) 126 rfl rfl (by kernel_rfl) (by kernel_rfl) (by kernel_rfl) (by kernel_rfl) (fun _ _ _ h => h) (Or.inl ⟨by rfl, ?yp0⟩) hS ?rp0
            case' yp0 => intro w' hSw; skip; go_simp; first | done | with_reducible rfl
            case' rp0 => simp only [Act.put, List.setIfInBounds_toArray, List.set_cons_zero, List.set_cons_succ]
            refine wpAnyF_taked (i := 1) (v := ?vp1) 127 rfl rfl (by kernel_rfl) (by kernel_rfl) (by kernel_rfl) (by kernel_rfl) (fun _ _ _ h => h) (Or.inl ⟨by rfl, ?yp1⟩) hS ?rp1
            case' yp1 => intro w' hSw; skip; obtain ⟨s1, s2, s3, s4⟩ := (D15c.ext hSw).f2; go_simp; first | done | with_reducible rfl
            case' rp1 => simp only [Act.put, List.setIfInBounds_toArray, List.set_cons_zero, List.set_cons_succ]
            refine wpAnyF_taked (i := 2) (v := ?vp2) 128 rfl rfl (by kernel_rfl) (by kernel_rfl) (by kernel_rfl) (by kernel_rfl) (fun _ _ _ h => h) (Or.inl ⟨by rfl, ?yp2⟩) hS ?rp2
            case' yp2 => intro w' hSw; skip; go_simp; first | done | with_reducible rfl
            case' rp2 => simp only [Act.put, List.setIfInBounds_toArray, List.set_cons_zero, List.set_cons_succ]
            refine wpAnyF_taked (i := 3) (v := ?vp3) 129 rfl rfl (by kernel_rfl) (by kernel_rfl) (by kernel_rfl) (by kernel_rfl) (fun _ _ _ h => h) (Or.inl ⟨by rfl, ?yp3⟩) hS ?rp3
            case' yp3 => intro w' hSw; skip; obtain ⟨s0, s1, s2, s3, s4, s5, s6, s7, s8⟩ := (D8d.ext hSw).f9; go_simp; first | done | with_reducible rfl
            case' rp3 => simp only [Act.put, List.setIfInBounds_toArray, List.set_cons_zero, List.set_cons_succ]
            refine wpAnyF_taked (i := 4) (v := ?vp4) 130 rfl rfl (by kernel_rfl) (by kernel_rfl) (by kernel_rfl) (by kernel_rfl) (fun _ _ _ h => h) (Or.inl ⟨by rfl, ?yp4⟩) hS ?rp4
            case' yp4 => intro w' hSw; skip; go_simp; first | done | with_reducible rfl
            case' rp4 => simp only [Act.put, List.setIfInBounds_toArray, List.set_cons_zero, List.set_cons_succ]
            refine wpAnyF_taked (i := 5) (v := ?vp5) 131 rfl rfl (by kernel_rfl) (by kernel_rfl) (by kernel_rfl) (by kernel_rfl) (fun _ _ _ h => h) (Or.inl ⟨by rfl, ?yp5⟩) hS ?rp5
            case' yp5 => intro w' hSw; skip; obtain ⟨b8, off8, hh8, hb8, e0, e1, e2, e3, e4, e5, e6, e7⟩ := rdS_at (hd10.ext hSw) HXA.out; cases hh8; go_simp; first | done | with_reducible rfl
            case' rp5 => simp only [Act.put, List.setIfInBounds_toArray, List.set_cons_zero, List.set_cons_succ]
            refine wpAnyF_taked (i := 6) (v := ?vp6) 132 rfl rfl (by kernel_rfl) (by kernel_rfl) (by kernel_rfl) (by kernel_rfl) (fun _ _ _ h => h) (Or.inl ⟨by rfl, ?yp6⟩) hS ?rp6
            case' yp6 => intro w' hSw; skip; go_simp; first | done | with_reducible rfl
            case' rp6 => simp only [Act.put, List.setIfInBounds_toArray, List.set_cons_zero, List.set_cons_succ]
            refine wpAnyF_taked (i := 7) (v := ?vp7) 133 rfl rfl (by kernel_rfl) (by kernel_rfl) (by kernel_rfl) (by kernel_rfl) (fun _ _ _ h => h) (Or.inl ⟨by rfl, ?yp7⟩) hS ?rp7
            case' yp7 => intro w' hSw; skip; obtain ⟨s0, s1, s2, s3, s4, s5, s6, s7, s8⟩ := (D8d.ext hSw).f9; go_simp; first | done | with_reducible rfl
            case' rp7 => simp only [Act.put, List.setIfInBounds_toArray, List.set_cons_zero, List.set_cons_succ]
            refine wpAnyF_taked (i := 8) (v := ?vp8) 134 rfl rfl (by kernel_rfl) (by kernel_rfl) (by kernel_rfl) (by kernel_rfl) (fun _ _ _ h => h) (Or.inl ⟨by rfl, ?yp8⟩) hS ?rp8
            case' yp8 => intro w' hSw; skip; go_simp; first | done | with_reducible rfl
            case' rp8 => simp only [Act.put, List.setIfInBounds_toArray, List.set_cons_zero, List.set_cons_succ]
            refine wpAnyF_taked (i := 9) (v := ?vp9) 135 rfl rfl (by kernel_rfl) (by kernel_rfl) (by kernel_rfl) (by kernel_rfl) (fun _ _ _ h => h) (Or.inl ⟨by rfl, ?yp9⟩) hS ?rp9
            case' yp9 => intro w' hSw; skip; go_simp; first | done | with_reducible rfl
            case' rp9 => simp only [Act.put, List.setIfInBounds_toArray, List.set_cons_zero, List.set_cons_succ]
            refine wpAnyF_taked (i := 10) (v := ?vp10) 136 rfl rfl (by kernel_rfl) (by kernel_rfl) (by kernel_rfl) (by kernel_rfl) (fun _ _ _ h => h) (Or.inl ⟨by rfl, ?yp10⟩) hS ?rp10
            case' yp10 => intro w' hSw; skip; go_simp; first | done | with_reducible rfl
            case' rp10 => simp only [Act.put, List.setIfInBounds_toArray, List.set_cons_zero, List.set_cons_succ]
            refine wpAnyF_taked (i := 11) (v := ?vp11) 137 rfl rfl (by kernel_rfl) (by kernel_rfl) (by kernel_rfl) (by kernel_rfl) (fun _ _ _ h => h) (Or.inl ⟨by rfl, ?yp11⟩) hS ?rp11
            case' yp11 => intro w' hSw; skip; obtain ⟨s1, s2, s3, s4⟩ := (D17.ext hSw).f2; go_simp; first | done | with_reducible rfl
            case' rp11 => simp only [Act.put, List.setIfInBounds_toArray, List.set_cons_zero, List.set_cons_succ]
            refine wpAnyF_taked (i := 12) (v := ?vp12) 138 rfl rfl (by kernel_rfl) (by kernel_rfl) (by kernel_rfl) (by kernel_rfl) (fun _ _ _ h => h) (Or.inl ⟨by rfl, ?yp12⟩) hS ?rp12
            case' yp12 => intro w' hSw; skip; go_simp; first | done | with_reducible rfl
            case' rp12 => simp only [Act.put, List.setIfInBounds_toArray, List.set_cons_zero, List.set_cons_succ]
            refine wpAnyF_taked (i := 13) (v := ?vp13) 139 rfl rfl (by kernel_rfl) (by kernel_rfl) (by kernel_rfl) (by kernel_rfl) (fun _ _ _ h => h) (Or.inl ⟨by rfl, ?yp13⟩) hS ?rp13
            case' yp13 => intro w' hSw; skip; obtain ⟨s1, s2, s3, s4⟩ := (D7c.ext hSw).f2; go_simp; first | done | with_reducible rfl
            case' rp13 => simp only [Act.put, List.setIfInBounds_toArray, List.set_cons_zero, List.set_cons_succ]
            refine wpAnyF_one (i := 14) (by kernel_rfl) rfl ?_
            go_wp2_with (first
              | (go_at_call 19; refine (h19 _ hS).mono ?_; rintro e w9 ⟨rfl, hxC⟩)
              | fail)
            have hS2 : Ext W8 w9 := hS.trans hxC
            refine Stop_.go ⟨fun _ => hS2, ?_⟩
            refine wpAnyF_one (i := 15) (by kernel_rfl) rfl ?_
            go_wp2_with fail
            refine Stop_.go ⟨fun _ => hS2, ?_⟩
            refine wpAnyF_one (i := 16) (by kernel_rfl) rfl ?_
            go_wp2_with fail
            refine Stop_.go ⟨fun _ => hS2, ?_⟩
            refine wpAnyF_one (i := 17) (by kernel_rfl) rfl ?_
            go_wp2_with (first
              | (go_at_call 13; refine (awake13 _).mono ?_; rintro e w10 ⟨rfl, hxD⟩)
              | fail)
            have hS3 : Ext W8 w10 := hS2.trans hxD
            refine Stop_.go ⟨fun _ => hS3, ?_⟩
            refine wpAnyF_one (i := 18) (by kernel_rfl) rfl ?_
            go_wp2_with fail
            refine Stop_.go ⟨fun _ => hS3, ?_⟩
            refine wpAnyF_one (i := 19) (by kernel_rfl) rfl ?_
            go_wp2_with fail
            refine Stop_.go ⟨fun h => absurd rfl h, ?_⟩
            refine ⟨by kernel_rfl, ?_⟩
            go_wp2_with fail
            go_ret
            exact ⟨rfl, hEw.trans hS3⟩
end Go.Proofs.Ytcgffpncfgmhkaa
