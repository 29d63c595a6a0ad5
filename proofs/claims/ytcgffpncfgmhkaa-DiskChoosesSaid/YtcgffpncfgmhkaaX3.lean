import Derived.Test.YtcgffpncfgmhkaaX2
set_option linter.unusedVariables false
set_option linter.unusedSimpArgs false
set_option maxRecDepth 100000
set_option maxHeartbeats 2000000
namespace Go.Proofs.Ytcgffpncfgmhkaa
open Go Go.Proofs Go.RowKit Go.Instr
open Go.Proofs.YtcgffpncfgmhkaaW.PrintWords

/-- What the reference's Write comes to. -/
def writeP (s : St) (at_ : Int) (data : List Sec) : Int × St :=
  if chkD s.1 s.2 ≠ 0 then (chkD s.1 s.2, ([], [])) else if insD s.1.length at_ data.length then (0, (s.1, s.2 ++ placed at_ data)) else (2, ([], []))
theorem writeR_eq (s : St) (at_ : Int) (data : List Sec) : writeR s at_ data = writeP s at_ data := by
  unfold writeR writeP runR runD runD stepD
  by_cases hz : chkD s.1 s.2 = 0
  · by_cases hi : insD s.1.length at_ data.length = true
    · simp [hz, hi]
    · simp [hz, hi]
  · simp [hz]
theorem write15 (v vd : Value) (s : St) (at_ : Int) (data : List Sec) (w : World) (hd : DR w v s) (hr : Rd w 8 vd data.length (cellsOf Sec.c data)) (hwf : I64 at_) (hn : s.1.length ≤ 4096) (hdw : data.length ≤ 9223372036854775807) (hca : s.2.length ≤ 900000) :
    Calls Try.prog 15 #[v, .int .i64 at_, vd] w fun e w' => WPost w w' e (writeP s at_ data) := by
  obtain ⟨A, c, A2, c2, rfl, h1, h2⟩ := hd
  obtain ⟨Ad, cd, rfl⟩ := rd_slice hr
  obtain ⟨ha1, ha2⟩ := hwf
  have hchk := fun W hx => check34 _ _ s.1 s.2 W (h1.ext hx) (h2.ext hx) (by omega) (by omega)
  by_cases hz : chkD s.1 s.2 = 0
  · rw [hz] at hchk
    have HC : Hid (writeP s at_ data = if insD s.1.length at_ data.length then (0, (s.1, s.2 ++ placed at_ data)) else (2, ([], []))) := by show _ = _; unfold writeP; rw [if_neg (by simpa using hz)]
    clear hz
    by_cases g1 : at_ < 0
    · have HF : Hid (writeP s at_ data = (2, ([], []))) := by show _ = _; rw [HC.out]; simp [insD]; omega
      go_enter Try.func15, Try.ntmps15
      go_wp2_with (first
        | (go_at_call 34; refine (hchk _ (((Ext.refl w).alloc _).alloc _)).mono ?_; rintro e w1 ⟨rfl, hx1⟩; have B1 := ((Blk.new w _ _).alloc _).ext hx1; have C1 := (Blk.new (w.alloc (.cells #[.slice A s.1.length c, .slice A2 s.2.length c2] 25)) _ _).ext hx1; rw [World.size_alloc] at C1; obtain ⟨b1, b2, b3, b4⟩ := B1.f2; obtain ⟨y1, y2, y3, y4⟩ := C1.f2)
        | fail)
      refine bodyPost_ret (v := .tuple #[.agg #[.slice none 0 0, .slice none 0 0], .int .i64 2]) (by simp [results, Try.results15, go_sem, y1, y2, y3, y4]) rfl ?_
      rw [HF.out]
      exact ⟨_, rfl, DRF.nil _ _, (((((Ext.refl w).alloc _).alloc _).trans hx1).set (by show w.heap.size ≤ w.heap.size + 1; omega) _).set (by show w.heap.size ≤ w.heap.size + 1; omega) _⟩
    · by_cases g2 : (s.1.length : Int) < data.length
      · have HF : Hid (writeP s at_ data = (2, ([], []))) := by show _ = _; rw [HC.out]; simp [insD]; omega
        go_enter Try.func15, Try.ntmps15
        go_wp2_with (first
          | (go_at_call 34; refine (hchk _ (((Ext.refl w).alloc _).alloc _)).mono ?_; rintro e w1 ⟨rfl, hx1⟩; have B1 := ((Blk.new w _ _).alloc _).ext hx1; have C1 := (Blk.new (w.alloc (.cells #[.slice A s.1.length c, .slice A2 s.2.length c2] 25)) _ _).ext hx1; rw [World.size_alloc] at C1; obtain ⟨b1, b2, b3, b4⟩ := B1.f2; obtain ⟨y1, y2, y3, y4⟩ := C1.f2)
          | fail)
        refine bodyPost_ret (v := .tuple #[.agg #[.slice none 0 0, .slice none 0 0], .int .i64 2]) (by simp [results, Try.results15, go_sem, y1, y2, y3, y4]) rfl ?_
        rw [HF.out]
        exact ⟨_, rfl, DRF.nil _ _, (((((Ext.refl w).alloc _).alloc _).trans hx1).set (by show w.heap.size ≤ w.heap.size + 1; omega) _).set (by show w.heap.size ≤ w.heap.size + 1; omega) _⟩
      · have hws : IntKind.i64.wrap ((s.1.length : Int) - (data.length : Int)) = (s.1.length : Int) - (data.length : Int) := IntWalk.i64_in _ (by omega)
        by_cases g3 : (s.1.length : Int) - data.length < at_
        · have HF : Hid (writeP s at_ data = (2, ([], []))) := by show _ = _; rw [HC.out]; simp [insD]; omega
          go_enter Try.func15, Try.ntmps15
          go_wp2_with (first
            | (go_at_call 34; refine (hchk _ (((Ext.refl w).alloc _).alloc _)).mono ?_; rintro e w1 ⟨rfl, hx1⟩; have B1 := ((Blk.new w _ _).alloc _).ext hx1; have C1 := (Blk.new (w.alloc (.cells #[.slice A s.1.length c, .slice A2 s.2.length c2] 25)) _ _).ext hx1; rw [World.size_alloc] at C1; obtain ⟨b1, b2, b3, b4⟩ := B1.f2; obtain ⟨y1, y2, y3, y4⟩ := C1.f2)
            | fail)
          refine bodyPost_ret (v := .tuple #[.agg #[.slice none 0 0, .slice none 0 0], .int .i64 2]) (by simp [results, Try.results15, go_sem, y1, y2, y3, y4]) rfl ?_
          rw [HF.out]
          exact ⟨_, rfl, DRF.nil _ _, (((((Ext.refl w).alloc _).alloc _).trans hx1).set (by show w.heap.size ≤ w.heap.size + 1; omega) _).set (by show w.heap.size ≤ w.heap.size + 1; omega) _⟩
        · have HF : Hid (writeP s at_ data = (0, (s.1, s.2 ++ placed at_ data))) := by show _ = _; rw [HC.out, if_pos]; simp [insD]; omega
          have hcp := fun W hx => copy42 (.agg #[.slice A s.1.length c, .slice A2 s.2.length c2]) s W (DR.ext ⟨A, c, A2, c2, rfl, h1, h2⟩ hx) (by omega) (by omega)
          obtain ⟨j0, hj0, hy0, hy1, hy2⟩ := info_parts info67
          go_enter Try.func15, Try.ntmps15
          go_wp2_with (first
            | (go_at_call 34; refine (hchk _ (((Ext.refl w).alloc _).alloc _)).mono ?_; rintro e w1 ⟨rfl, hx1⟩; have B1 := ((Blk.new w _ _).alloc _).ext hx1; have C1 := (Blk.new (w.alloc (.cells #[.slice A s.1.length c, .slice A2 s.2.length c2] 25)) _ _).ext hx1; rw [World.size_alloc] at C1; obtain ⟨b1, b2, b3, b4⟩ := B1.f2; obtain ⟨y1, y2, y3, y4⟩ := C1.f2)
            | (go_at_call 42; refine (hcp _ ((((Ext.refl w).alloc _).alloc _).trans hx1)).mono ?_; rintro e w2 ⟨A3, c3, A4, c4, rfl, ho3, ho4, hx2⟩)
            | fail)
          have hx1' := (((Ext.refl w).alloc (.cells #[.slice A s.1.length c, .slice A2 s.2.length c2] 25)).alloc (.cells #[.slice none 0 0, .slice none 0 0] 25)).trans hx1
          have hx2' := hx1'.trans hx2
          have hs1 := hx1'.size
          have hs2 := hx2.size
          have hc1 := C1.lt
          go_loopw [10] (fun t wr => ∃ k : Nat, k ≤ data.length ∧ t = .int .i64 k ∧ Ext w wr ∧ Blk wr (w.heap.size + 1) #[.slice none 0 0, .slice none 0 0] 25 ∧ wr.ownsRow w1.heap.size 65 8 (.slice A3 s.1.length c3) s.1.length (cellsOf Sec.c s.1) ∧
            ∃ A4 c4, Blk wr w2.heap.size #[.slice A3 s.1.length c3, .slice A4 (s.2 ++ placed at_ (data.take k)).length c4] 25 ∧ wr.ownsRow w1.heap.size 67 9 (.slice A4 (s.2 ++ placed at_ (data.take k)).length c4) (s.2 ++ placed at_ (data.take k)).length (cellsOf cachedC (s.2 ++ placed at_ (data.take k)))) (fun t _ => data.length - (intOf t).toNat)
          case atStart =>
            have hE := (Ext.refl w2).alloc (.cells #[.slice A3 s.1.length c3, .slice A4 s.2.length c4] 25)
            have he : s.2 ++ placed at_ (data.take 0) = s.2 := by simp [placed]
            refine ⟨0, Nat.zero_le _, rfl, hx2'.trans hE, (C1.ext hx2).ext hE, own_ext ho3 hE, A4, c4, ?_, ?_⟩
            · rw [he]; exact Blk.new _ _ _
            · rw [he]; exact own_ext ho4 hE
          case round =>
            obtain ⟨k, hk, rfl, hx, hC, hown3, A4, c4, hD, hown⟩ := hrel
            generalize hcur' : s.2 ++ placed at_ (data.take k) = cur at hD hown
            have hcur := hcur'.symm
            clear hcur'
            obtain ⟨d1, d2, d3, d4⟩ := hD.f2
            have hcl : cur.length ≤ 1000000 := by rw [hcur, List.length_append, placed_len, List.length_take]; omega
            have HCUR := Lib.hid hcur
            clear hcur
            by_cases hlt : k < data.length
            · obtain ⟨x, hkx⟩ : ∃ x, data[k]? = some x := ⟨_, List.getElem?_eq_getElem hlt⟩
              obtain ⟨b, off, rfl, hbl, f0, f1, f2, f3, f4, f5, f6, f7⟩ := rdS_at (hr.ext hx) hkx
              have hltz : (k : Int) < (data.length : Int) := by omega
              have hN := Lib.hid (placed_snoc at_ data k x hkx)
              have HX := Lib.hid hkx
              clear hkx
              have hwr : IntKind.i64.wrap (at_ + (k : Int)) = at_ + (k : Int) := IntWalk.i64_in _ (by omega)
              have hDl := hD.lt
              go_wp2_with fail
              refine wp_region_F (fun w' => Ext w w' ∧ Blk w' w2.heap.size #[.slice A3 s.1.length c3, .slice A4 cur.length c4] 25) 13 (by kernel_rfl) ⟨hx.drew, hD.drew⟩ (fun hS => ?_)
              refine wpAnyF_taked (i := 0) (v := ?vq0) 46 rfl rfl (by kernel_rfl) (by kernel_rfl) (by kernel_rfl) (by kernel_rfl) (fun _ _ _ h => h) (Or.inl ⟨by rfl, ?yq0⟩) hS ?rq0
              case' yq0 => intro w' hSw; obtain ⟨hSx, hSb⟩ := hSw; obtain ⟨s1, s2, s3, s4⟩ := hSb.f2; go_simp; first | done | with_reducible rfl
              case' rq0 => simp only [Act.put, List.setIfInBounds_toArray, List.set_cons_zero, List.set_cons_succ]
              refine wpAnyF_taked (i := 1) (v := ?vq1) 47 rfl rfl (by kernel_rfl) (by kernel_rfl) (by kernel_rfl) (by kernel_rfl) (fun _ _ _ h => h) (Or.inl ⟨by rfl, ?yq1⟩) hS ?rq1
              case' yq1 => intro w' hSw; obtain ⟨hSx, hSb⟩ := hSw; obtain ⟨s1, s2, s3, s4⟩ := hSb.f2; go_simp; first | done | with_reducible rfl
              case' rq1 => simp only [Act.put, List.setIfInBounds_toArray, List.set_cons_zero, List.set_cons_succ]
              refine wpAnyF_taked (i := 2) (v := ?vq2) 48 rfl rfl (by kernel_rfl) (by kernel_rfl) (by kernel_rfl) (by kernel_rfl) (fun _ _ _ h => h) (Or.inl ⟨by rfl, ?yq2⟩) hS ?rq2
              case' yq2 => intro w' hSw; obtain ⟨hSx, hSb⟩ := hSw; obtain ⟨s1, s2, s3, s4⟩ := hSb.f2; go_simp; first | done | with_reducible rfl
              case' rq2 => simp only [Act.put, List.setIfInBounds_toArray, List.set_cons_zero, List.set_cons_succ]
              refine wpAnyF_taked (i := 3) (v := ?vq3) 49 rfl rfl (by kernel_rfl) (by kernel_rfl) (by kernel_rfl) (by kernel_rfl) (fun _ _ _ h => h) (Or.inl ⟨by rfl, ?yq3⟩) hS ?rq3
              case' yq3 => intro w' hSw; obtain ⟨hSx, hSb⟩ := hSw; obtain ⟨s1, s2, s3, s4⟩ := hSb.f2; go_simp; first | done | with_reducible rfl
              case' rq3 => simp only [Act.put, List.setIfInBounds_toArray, List.set_cons_zero, List.set_cons_succ]
              refine wpAnyF_taked (i := 4) (v := ?vq4) 50 rfl rfl (by kernel_rfl) (by kernel_rfl) (by kernel_rfl) (by kernel_rfl) (fun _ _ _ h => h) (Or.inl ⟨by rfl, ?yq4⟩) hS ?rq4
              case' yq4 => intro w' hSw; obtain ⟨hSx, hSb⟩ := hSw; obtain ⟨s1, s2, s3, s4⟩ := hSb.f2; go_simp; first | done | with_reducible rfl
              case' rq4 => simp only [Act.put, List.setIfInBounds_toArray, List.set_cons_zero, List.set_cons_succ]
              refine wpAnyF_taked (i := 5) (v := ?vq5) 51 rfl rfl (by kernel_rfl) (by kernel_rfl) (by kernel_rfl) (by kernel_rfl) (fun _ _ _ h => h) (Or.inl ⟨by rfl, ?yq5⟩) hS ?rq5
              case' yq5 => intro w' hSw; obtain ⟨hSx, hSb⟩ := hSw; obtain ⟨s1, s2, s3, s4⟩ := hSb.f2; go_simp; first | done | with_reducible rfl
              case' rq5 => simp only [Act.put, List.setIfInBounds_toArray, List.set_cons_zero, List.set_cons_succ]
              refine wpAnyF_taked (i := 6) (v := ?vq6) 52 rfl rfl (by kernel_rfl) (by kernel_rfl) (by kernel_rfl) (by kernel_rfl) (fun _ _ _ h => h) (Or.inl ⟨by rfl, ?yq6⟩) hS ?rq6
              case' yq6 => intro w' hSw; obtain ⟨hSx, hSb⟩ := hSw; obtain ⟨s1, s2, s3, s4⟩ := hSb.f2; go_simp; first | done | with_reducible rfl
              case' rq6 => simp only [Act.put, List.setIfInBounds_toArray, List.set_cons_zero, List.set_cons_succ]
              refine wpAnyF_taked (i := 7) (v := ?vq7) 53 rfl rfl (by kernel_rfl) (by kernel_rfl) (by kernel_rfl) (by kernel_rfl) (fun _ _ _ h => h) (Or.inl ⟨by rfl, ?yq7⟩) hS ?rq7
              case' yq7 => intro w' hSw; obtain ⟨hSx, hSb⟩ := hSw; obtain ⟨s1, s2, s3, s4⟩ := hSb.f2; go_simp; first | done | with_reducible rfl
              case' rq7 => simp only [Act.put, List.setIfInBounds_toArray, List.set_cons_zero, List.set_cons_succ]
              refine wpAnyF_taked (i := 8) (v := ?vq8) 54 rfl rfl (by kernel_rfl) (by kernel_rfl) (by kernel_rfl) (by kernel_rfl) (fun _ _ _ h => h) (Or.inl ⟨by rfl, ?yq8⟩) hS ?rq8
              case' yq8 => intro w' hSw; obtain ⟨hSx, hSb⟩ := hSw; obtain ⟨s1, s2, s3, s4⟩ := hSb.f2; obtain ⟨b8, off8, hh8, hb8, e0, e1, e2, e3, e4, e5, e6, e7⟩ := rdS_at (hr.ext hSx) HX.out; cases hh8; go_simp; first | done | with_reducible rfl
              case' rq8 => simp only [Act.put, List.setIfInBounds_toArray, List.set_cons_zero, List.set_cons_succ]
              refine wpAnyF_taked (i := 9) (v := ?vq9) 55 rfl rfl (by kernel_rfl) (by kernel_rfl) (by kernel_rfl) (by kernel_rfl) (fun _ _ _ h => h) (Or.inl ⟨by rfl, ?yq9⟩) hS ?rq9
              case' yq9 => intro w' hSw; obtain ⟨hSx, hSb⟩ := hSw; obtain ⟨s1, s2, s3, s4⟩ := hSb.f2; go_simp; first | done | with_reducible rfl
              case' rq9 => simp only [Act.put, List.setIfInBounds_toArray, List.set_cons_zero, List.set_cons_succ]
              refine wpAnyF_one (i := 10) (by kernel_rfl) rfl ?_
              go_wp2_with fail
              have hS2 : Ext w (wr.alloc (.cells (cachedC (at_ + (k : Int), x)).toArray 67)).drew ∧ Blk (wr.alloc (.cells (cachedC (at_ + (k : Int), x)).toArray 67)).drew w2.heap.size #[.slice A3 s.1.length c3, .slice A4 cur.length c4] 25 := ⟨(hx.alloc _).drew, (hD.alloc _).drew⟩
              refine Stop_.go ⟨fun _ => hS2, ?_⟩
              refine wpAnyF_one (i := 11) (by kernel_rfl) rfl ?_
              refine wpList_append_lies _ rfl _ _ 23 rfl w1.heap.size 67 j0 _ 9 16 Try.underlying23 hj0 hy0 hy1 hy2 rfl (by omega) (.slice A4 cur.length c4) cur.length (cellsOf cachedC cur) rfl (own_ext hown ((Ext.refl wr).alloc _).drew)
                ⟨wr.heap.size, 0, none⟩ 1 1 (cachedC (at_ + (k : Int), x)) rfl rfl (World.news_of_block (cs := (cachedC (at_ + (k : Int), x)).toArray) (t := 67) (fr := (0, 0)) (heap_alloc_new wr _)) (cachedC_one _) (by omega) (by unfold maxLen; omega) (by omega) (by have := hx.size; have := hown3; simp; omega) (wr.heap.size + 1) (by simp) ?_
              intro gg cap w3 hown4 hgrow4 hat4 hlt4
              go_wp2_with fail
              have hOw := own_ext hown ((Ext.refl wr).alloc (.cells (cachedC (at_ + (k : Int), x)).toArray 67)).drew
              have hB0 := own_base hOw
              have hS3 : Ext w w3 ∧ Blk w3 w2.heap.size #[.slice A3 s.1.length c3, .slice A4 cur.length c4] 25 := ⟨hS2.1.grown hgrow4 (fun q hq => by have := hB0 q hq; omega), hS2.2.grown hgrow4 (own_ne hOw hS2.2 (by omega : (67 : Nat) ≠ 25))⟩
              refine Stop_.go ⟨fun _ => hS3, ?_⟩
              refine wpAnyF_one (i := 12) (by kernel_rfl) rfl ?_
              go_wp2_with fail
              refine Stop_.go ⟨fun _ => hS3, ?_⟩
              obtain ⟨t1, t2, t3, t4⟩ := hS3.2.f2
              refine wpAnyF_one (i := 13) (by kernel_rfl) rfl ?_
              go_wp2_with fail
              refine Stop_.go ⟨fun h => absurd rfl h, ?_⟩
              refine ⟨by kernel_rfl, ?_⟩
              go_wp2_with fail
              go_roundw
              case rel =>
                have he : s.2 ++ placed at_ (data.take (k + 1)) = cur ++ [(at_ + (k : Int), x)] := by rw [hN.out, ← List.append_assoc, ← HCUR.out]
                have hel : (cur ++ [(at_ + (k : Int), x)]).length = cur.length + 1 := by simp
                have hC3 := ((hC.alloc (.cells (cachedC (at_ + (k : Int), x)).toArray 67)).drew).grown hgrow4 (own_ne hOw ((hC.alloc (.cells (cachedC (at_ + (k : Int), x)).toArray 67)).drew) (by omega : (67 : Nat) ≠ 25))
                have hR3 := own_other (own_ext hown3 ((Ext.refl wr).alloc (.cells (cachedC (at_ + (k : Int), x)).toArray 67)).drew) hgrow4 (own_type_ne (own_ext hown3 ((Ext.refl wr).alloc (.cells (cachedC (at_ + (k : Int), x)).toArray 67)).drew) hOw (by omega : (65 : Nat) ≠ 67))
                refine ⟨k + 1, by omega, by go_num, hS3.1.set (by show w.heap.size ≤ w2.heap.size; omega) _, hC3.far (by show w.heap.size + 1 ≠ w2.heap.size; omega) _, own_setCell (p := ⟨w2.heap.size, 1, none⟩) hR3 (own_ne hR3 hS3.2 (by omega : (65 : Nat) ≠ 25)) _, some ⟨gg, 0, none⟩, cap, ?_, ?_⟩
                · rw [he, hel]
                  exact hS3.2.set1 _
                · rw [he, hel, cellsOf_append]
                  have hz1 : cellsOf cachedC [(at_ + (k : Int), x)] = cachedC (at_ + (k : Int), x) := by simp [cellsOf]
                  rw [hz1]
                  exact own_setCell (p := ⟨w2.heap.size, 1, none⟩) hown4 (own_ne hown4 hS3.2 (by omega : (67 : Nat) ≠ 25)) _
              case measure => simp [intOf]; omega
            · have hltz : ¬ (k : Int) < (data.length : Int) := by omega
              have hkk : k = data.length := by omega
              obtain ⟨y1, y2, y3, y4⟩ := hC.f2
              go_wp2_with fail
              refine bodyPost_ret (v := .tuple #[.agg #[.slice A3 s.1.length c3, .slice A4 cur.length c4], .int .i64 0]) (by simp [results, Try.results15, go_sem, y1, y2, y3, y4]) rfl ?_
              rw [HF.out]
              have hce : cur = s.2 ++ placed at_ data := by rw [HCUR.out, hkk, List.take_length]
              rw [← hce]
              have p1 : w.heap.size + 1 < w1.heap.size := hc1
              have hr3 := own_setlow (own_setlow hown3 (p := ⟨w.heap.size + 1, 0, none⟩) p1 (.slice A3 s.1.length c3)) (p := ⟨w.heap.size + 1, 1, none⟩) p1 (.slice A4 cur.length c4)
              have hr4 := own_setlow (own_setlow hown (p := ⟨w.heap.size + 1, 0, none⟩) p1 (.slice A3 s.1.length c3)) (p := ⟨w.heap.size + 1, 1, none⟩) p1 (.slice A4 cur.length c4)
              refine ⟨_, rfl, ⟨A3, c3, A4, c4, rfl, Rd.own hr3, Rd.own hr4, (Fresh.own hr3).low hs1, (Fresh.own hr4).low hs1⟩, (hx.set (p := ⟨w.heap.size + 1, 0, none⟩) (by show w.heap.size ≤ w.heap.size + 1; omega) _).set (p := ⟨w.heap.size + 1, 1, none⟩) (by show w.heap.size ≤ w.heap.size + 1; omega) _⟩
  · have HF : Hid (writeP s at_ data = (chkD s.1 s.2, ([], []))) := by show _ = _; unfold writeP; rw [if_pos hz]
    generalize hres : chkD s.1 s.2 = err at *
    have hne : (err != 0) = true := by simpa using hz
    clear hres hz
    go_enter Try.func15, Try.ntmps15
    go_wp2_with (first
        | (go_at_call 34; refine (hchk _ (((Ext.refl w).alloc _).alloc _)).mono ?_; rintro e w1 ⟨rfl, hx1⟩; have B1 := ((Blk.new w _ _).alloc _).ext hx1; have C1 := (Blk.new (w.alloc (.cells #[.slice A s.1.length c, .slice A2 s.2.length c2] 25)) _ _).ext hx1; rw [World.size_alloc] at C1; obtain ⟨b1, b2, b3, b4⟩ := B1.f2; obtain ⟨y1, y2, y3, y4⟩ := C1.f2)
        | fail)
    refine bodyPost_ret (v := .tuple #[.agg #[.slice none 0 0, .slice none 0 0], .int .i64 err]) (by simp [results, Try.results15, go_sem, y1, y2, y3, y4]) rfl ?_
    rw [HF.out]
    exact ⟨_, rfl, DRF.nil _ _, (((((Ext.refl w).alloc _).alloc _).trans hx1).set (by show w.heap.size ≤ w.heap.size + 1; omega) _).set (by show w.heap.size ≤ w.heap.size + 1; omega) _⟩
end Go.Proofs.Ytcgffpncfgmhkaa
