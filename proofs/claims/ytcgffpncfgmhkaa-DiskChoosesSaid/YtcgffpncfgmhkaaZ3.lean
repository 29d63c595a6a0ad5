import Derived.Test.YtcgffpncfgmhkaaY1
import Derived.Test.YtcgffpncfgmhkaaZ1
set_option linter.unusedVariables false
set_option linter.unusedSimpArgs false
set_option maxRecDepth 100000
set_option maxHeartbeats 4000000
namespace Go.Proofs.Ytcgffpncfgmhkaa
open Go Go.Proofs Go.RowKit Go.Instr
open Go.Proofs.YtcgffpncfgmhkaaW.PrintWords

def RunPPost (w w' : World) (e : Ending) (r : Nat × Int × St) : Prop := ∃ v, e = .returned (.tuple #[v, .int .i64 (r.1 : Int), .int .i64 r.2.1]) ∧ DR w' v r.2.2 ∧ Ext w w'
theorem step_inv {s : St} {o : OpD} (h : chkD s.1 s.2 = 0) (h0 : (stepD s o).1 = 0) : chkD (stepD s o).2.1 (stepD s o).2.2 = 0 ∧ (stepD s o).2.1.length ≤ 4096 ∧ (stepD s o).2.2.length ≤ s.2.length + min o.data.length 4096 := by
  have h4 := chkD_len h
  have hi := runD_inv [o] 0 s (chkD_ok h) h4
  have e : (runD [o] 0 s).2.2 = (stepD s o).2 := by simp [runD, h0]
  rw [e] at hi
  obtain ⟨a, b, c⟩ := hi
  exact ⟨chkD_of (by rw [a]; exact b) (by omega), by omega, by simpa [dataLen] using c⟩
theorem writeP_step {s : St} {o : OpD} (h : chkD s.1 s.2 = 0) (hk : o.kind = 0) : (writeP s o.at_ o.data).1 = (stepD s o).1 ∧ ((stepD s o).1 = 0 → (writeP s o.at_ o.data).2 = (stepD s o).2) := by
  unfold writeP stepD
  rw [if_neg (by simpa using h), if_pos hk]
  by_cases hi : insD s.1.length o.at_ o.data.length = true
  · simp [hi]
  · simp [hi]
def PhiR (B : Nat) (A3 A4 : Option Addr) (c3 c4 b off n co k : Nat) (at_ : Int) (Av : Option Addr) (m cv : Nat) (s' t : St) (er : Int) : Nat → Value → World → Prop := fun i v w => match i with
  | 0 => v = .agg #[.slice A3 s'.1.length c3, .slice A4 s'.2.length c4]
  | 1 => v = .slice (some ⟨b, off, none⟩) n co
  | 2 => v = .int .i64 k
  | 3 => v = .pointer (some ⟨b, off + k * 3, none⟩)
  | 4 => v = .pointer (some ⟨b, off + k * 3 + 1, none⟩)
  | 5 => v = .int .i64 at_
  | 6 => v = .slice (some ⟨b, off, none⟩) n co
  | 7 => v = .int .i64 k
  | 8 => v = .pointer (some ⟨b, off + k * 3, none⟩)
  | 9 => v = .pointer (some ⟨b, off + k * 3 + 2, none⟩)
  | 10 => v = .slice Av m cv
  | 11 => ∃ A7 c7 A8 c8, v = .tuple #[.agg #[.slice A7 t.1.length c7, .slice A8 t.2.length c8], .int .i64 er] ∧ DR w (.agg #[.slice A7 t.1.length c7, .slice A8 t.2.length c8]) t
  | 12 => ∃ A7 c7 A8 c8, v = .tuple #[.agg #[.slice A7 t.1.length c7, .slice A8 t.2.length c8], .int .i64 er] ∧ DR w (.agg #[.slice A7 t.1.length c7, .slice A8 t.2.length c8]) t
  | 13 => ∃ A7 c7 A8 c8, v = .agg #[.slice A7 t.1.length c7, .slice A8 t.2.length c8] ∧ DR w (.agg #[.slice A7 t.1.length c7, .slice A8 t.2.length c8]) t
  | 14 => v = .int .i64 er
  | 15 => ∃ g, v = .pointer (some ⟨g, 0, none⟩) ∧ Blk w g #[.slice none 0 0, .slice none 0 0] 25 ∧ B ≤ g
  | _ => True
theorem PhiR.mono (B : Nat) (A3 A4 : Option Addr) (c3 c4 b off n co k : Nat) (at_ : Int) (Av : Option Addr) (m cv : Nat) (s' t : St) (er : Int) (i : Nat) (v : Value) (w w' : World) (hx : Ext w w') (h : PhiR B A3 A4 c3 c4 b off n co k at_ Av m cv s' t er i v w) : PhiR B A3 A4 c3 c4 b off n co k at_ Av m cv s' t er i v w' := by
  rcases i with _ | _ | _ | _ | _ | _ | _ | _ | _ | _ | _ | _ | _ | _ | _ | _ | i
  all_goals first
    | exact h
    | (obtain ⟨A7, c7, A8, c8, rfl, h⟩ := h; exact ⟨A7, c7, A8, c8, rfl, h.ext hx⟩)
    | (obtain ⟨g, rfl, h, hg⟩ := h; exact ⟨g, rfl, h.ext hx, hg⟩)
abbrev ksR : List (Nat × Nat) := [(35, 1), (36, 1), (37, 1), (38, 1), (39, 1), (40, 1), (41, 1), (42, 1), (43, 1), (44, 1), (45, 1), (46, 1), (34, 1), (47, 1), (48, 2), (9, 1), (0, 0), (0, 0)]
/-- The reference's Run. -/
theorem run21 (v vo : Value) (s : St) (ops : List OpD) (w : World) (hd : DR w v s) (hr : RdO w vo ops) (hwf : OpsWf ops) (hn : s.1.length ≤ 1000000) (hol : ops.length ≤ 1000000) (hca : s.2.length + dataLen ops ≤ 900000) :
    Calls Try.prog 21 #[v, vo] w fun e w' => RunPPost w w' e (runR s ops) := by
  obtain ⟨A, c, A2, c2, rfl, h1, h2⟩ := hd
  obtain ⟨Ao, co, rfl⟩ := rdO_slice hr
  have hchk := fun W hx => check34 _ _ s.1 s.2 W (h1.ext hx) (h2.ext hx) hn (by omega)
  by_cases hz : chkD s.1 s.2 = 0
  · rw [hz] at hchk
    have HZ := Lib.hid hz
    have h4 := chkD_len hz
    have hcp := fun W hx => copy42 (.agg #[.slice A s.1.length c, .slice A2 s.2.length c2]) s W (DR.ext ⟨A, c, A2, c2, rfl, h1, h2⟩ hx) (by omega) (by omega)
    clear hz
    go_enter Try.func21, Try.ntmps21
    go_wp2_with (first
      | (go_at_call 34; refine (hchk _ (((Ext.refl w).alloc _).alloc _)).mono ?_; rintro e w1 ⟨rfl, hx1⟩; have B1 := ((Blk.new w _ _).alloc _).ext hx1; have C1 := (Blk.new (w.alloc (.cells #[.slice A s.1.length c, .slice A2 s.2.length c2] 25)) _ _).ext hx1; rw [World.size_alloc] at C1; obtain ⟨b1, b2, b3, b4⟩ := B1.f2)
      | (go_at_call 42; refine (hcp _ ((((Ext.refl w).alloc _).alloc _).trans hx1)).mono ?_; rintro e w2 ⟨A3, c3, A4, c4, rfl, ho3, ho4, hx2⟩; have B2 := B1.ext hx2; have C2 := C1.ext hx2; obtain ⟨q1, q2, q3, q4⟩ := B2.f2)
      | fail)
    have hxw : Ext w w2 := ((((Ext.refl w).alloc (.cells #[.slice A s.1.length c, .slice A2 s.2.length c2] 25)).alloc (.cells #[.slice none 0 0, .slice none 0 0] 25)).trans hx1).trans hx2
    have hD2 : DR w2 (.agg #[.slice A3 s.1.length c3, .slice A4 s.2.length c4]) s := ⟨A3, c3, A4, c4, rfl, Rd.own ho3, Rd.own ho4⟩
    have hx3 : Ext w ((w2.setCell ⟨w.heap.size, 0, none⟩ (.slice A3 s.1.length c3)).setCell ⟨w.heap.size, 1, none⟩ (.slice A4 s.2.length c4)) := (hxw.set (Nat.le_refl _) _).set (Nat.le_refl _) _
    have B3 : Blk ((w2.setCell ⟨w.heap.size, 0, none⟩ (.slice A3 s.1.length c3)).setCell ⟨w.heap.size, 1, none⟩ (.slice A4 s.2.length c4)) w.heap.size #[.slice A3 s.1.length c3, .slice A4 s.2.length c4] 25 := (B2.set0 _).set1 _
    have C3 : Blk ((w2.setCell ⟨w.heap.size, 0, none⟩ (.slice A3 s.1.length c3)).setCell ⟨w.heap.size, 1, none⟩ (.slice A4 s.2.length c4)) (w.heap.size + 1) #[.slice none 0 0, .slice none 0 0] 25 := (C2.far (by show w.heap.size + 1 ≠ w.heap.size; omega) _).far (by show w.heap.size + 1 ≠ w.heap.size; omega) _
    have hD3 : DR ((w2.setCell ⟨w.heap.size, 0, none⟩ (.slice A3 s.1.length c3)).setCell ⟨w.heap.size, 1, none⟩ (.slice A4 s.2.length c4)) (.agg #[.slice A3 s.1.length c3, .slice A4 s.2.length c4]) s := (hD2.setne B2 0 _).setne (B2.set0 _) 1 _
    generalize (w2.setCell ⟨w.heap.size, 0, none⟩ (.slice A3 s.1.length c3)).setCell ⟨w.heap.size, 1, none⟩ (.slice A4 s.2.length c4) = w3 at *
    have HRR : Hid (runR s ops = if (runD ops 0 s).2.1 = 0 then runD ops 0 s else ((runD ops 0 s).1, (runD ops 0 s).2.1, ([], []))) := by show _ = _; unfold runR; rw [if_pos HZ.out]
    clear b1 b2 b3 b4 q1 q2 q3 q4 B1 C1 B2 C2 hx1 hx2 hxw ho3 ho4 hD2 hchk hcp
    go_loopw [8] (fun t8 wr => ∃ k : Nat, k ≤ ops.length ∧ t8 = .int .i64 k ∧ Ext w wr ∧ Blk wr (w.heap.size + 1) #[.slice none 0 0, .slice none 0 0] 25 ∧
      ∃ s' A3 c3 A4 c4, Blk wr w.heap.size #[.slice A3 s'.1.length c3, .slice A4 s'.2.length c4] 25 ∧ DR wr (.agg #[.slice A3 s'.1.length c3, .slice A4 s'.2.length c4]) s' ∧ Hid (chkD s'.1 s'.2 = 0) ∧ s'.1.length ≤ 4096 ∧ s'.2.length + dataLen (ops.drop k) ≤ 900000 ∧ Hid (runD ops 0 s = runD (ops.drop k) k s')) (fun t8 _ => ops.length - (intOf t8).toNat)
    case atStart => exact ⟨0, Nat.zero_le _, rfl, hx3, C3, s, A3, c3, A4, c4, B3, hD3, HZ, h4, hca, by show _ = _; rfl⟩
    case round =>
      clear hx3 C3 B3 hD3
      obtain ⟨k, hk, rfl, hx, hC, s', A3, c3, A4, c4, hB, hDR, hch, hs4, hdl, hres⟩ := hrel
      have hBl := hB.lt
      have hCl := hC.lt
      obtain ⟨x1, x2, x3, x4⟩ := hB.f2
      obtain ⟨y1, y2, y3, y4⟩ := hC.f2
      by_cases hlt : k < ops.length
      · obtain ⟨o, hko⟩ : ∃ o, ops[k]? = some o := ⟨_, List.getElem?_eq_getElem hlt⟩
        obtain ⟨b, off, vd, rfl, hbl, f0, f1, f2, hdd⟩ := rdO_at (hr.ext hx) hko
        obtain ⟨Av, cv, rfl⟩ := rd_slice hdd
        obtain ⟨⟨hk1, hk2⟩, ha, hdw⟩ := hwf k o hko
        have hltz : (k : Int) < (ops.length : Int) := by omega
        have HST := Lib.hid (hres.out.trans (runD_at hko s'))
        have HD := Lib.hid (dataLen_at hko)
        have hca' : s'.2.length ≤ 900000 := by omega
        have hdl5 : dataLen (ops.drop (k + 1)) ≤ 900000 := by have := HD.out; omega
        clear hko
        by_cases h0 : o.kind = 0
        · obtain ⟨hw1, hw2⟩ := writeP_step hch.out h0
          have hinv := fun h => step_inv (o := o) hch.out h
          rw [h0] at f0
          have hcall := fun W hW => write15 (.agg #[.slice A3 s'.1.length c3, .slice A4 s'.2.length c4]) (.slice Av o.data.length cv) s' o.at_ o.data W (hDR.ext hW) (hdd.ext hW) ha hs4 hdw hca'
          generalize hst : stepD s' o = so at hw1 hw2 hinv
          generalize writeP s' o.at_ o.data = r at hcall hw1 hw2
          obtain ⟨er, t⟩ := r
          obtain ⟨er', t'⟩ := so
          simp only at hw1
          subst hw1
          have HS := Lib.hid hst
          have HW2 := Lib.hid hw2
          have HIN := Lib.hid hinv
          clear hst hw2 hinv h0 ha hdw
          go_upto_region 11 with fail
          go_cut [9, 10] from 34 to 48 (fun t9 t10 wx => t10 = .int .i64 er ∧ Ext wr wx ∧ ∃ g7 A7 c7 A8 c8, t9 = .pointer (some ⟨g7, 0, none⟩) ∧ Blk wx g7 #[.slice A7 t.1.length c7, .slice A8 t.2.length c8] 25 ∧ DR wx (.agg #[.slice A7 t.1.length c7, .slice A8 t.2.length c8]) t ∧ wr.heap.size ≤ g7)
          case first =>
            refine wp_region_head ksR 17 (PhiR wr.heap.size A3 A4 c3 c4 b off ops.length co k o.at_ Av o.data.length cv s' t er) (by kernel_rfl) (by kernel_rfl) (by rfl) (fun i v w w' _ _ hx h => PhiR.mono _ _ _ _ _ _ _ _ _ _ _ _ _ _ _ _ _ i v w w' hx h) ?step ?fin
            case step =>
              intro i a wc hi hh hx9 hL hd9
              have hxx : Ext wr wc := (Ext.refl wr).drew.trans hx9
              have hi18 : i < 18 := hi
              have hcs : i = 0 ∨ i = 1 ∨ i = 2 ∨ i = 3 ∨ i = 4 ∨ i = 5 ∨ i = 6 ∨ i = 7 ∨ i = 8 ∨ i = 9 ∨ i = 10 ∨ i = 11 ∨ i = 12 ∨ i = 13 ∨ i = 14 ∨ i = 15 ∨ i = 16 ∨ i = 17 := by omega
              clear hi hi18
              rcases hcs with rfl | rfl | rfl | rfl | rfl | rfl | rfl | rfl | rfl | rfl | rfl | rfl | rfl | rfl | rfl | rfl | rfl | rfl
              · refine wpOp_of_list (i := 0) rfl ?_
                have h2 := (hL.oth 2 (by decide)).trans rfl
                obtain ⟨x1, x2, x3, x4⟩ := (hB.ext hxx).f2
                go_wp2_with fail
                exact ⟨Ext.refl _, _, rfl, rfl⟩
              · refine wpOp_of_list (i := 1) rfl ?_
                have h1 := (hL.oth 1 (by decide)).trans rfl
                go_wp2_with fail
                exact ⟨Ext.refl _, _, rfl, rfl⟩
              · refine wpOp_of_list (i := 2) rfl ?_
                have h8 := (hL.oth 8 (by decide)).trans rfl
                go_wp2_with fail
                exact ⟨Ext.refl _, _, rfl, rfl⟩
              · refine wpOp_of_list (i := 3) rfl ?_
                obtain ⟨v36, h36, p36⟩ : ∃ v, a.tmps[36]? = some v ∧ PhiR wr.heap.size A3 A4 c3 c4 b off ops.length co k o.at_ Av o.data.length cv s' t er 1 v wc := hd9 _ rfl ⟨1, .data⟩ (Array.mem_of_getElem? (i := 0) rfl) rfl
                obtain rfl := p36
                obtain ⟨v37, h37, p37⟩ : ∃ v, a.tmps[37]? = some v ∧ PhiR wr.heap.size A3 A4 c3 c4 b off ops.length co k o.at_ Av o.data.length cv s' t er 2 v wc := hd9 _ rfl ⟨2, .data⟩ (Array.mem_of_getElem? (i := 1) rfl) rfl
                obtain rfl := p37
                go_wp2_with fail
                exact ⟨Ext.refl _, _, rfl, rfl⟩
              · refine wpOp_of_list (i := 4) rfl ?_
                obtain ⟨v38, h38, p38⟩ : ∃ v, a.tmps[38]? = some v ∧ PhiR wr.heap.size A3 A4 c3 c4 b off ops.length co k o.at_ Av o.data.length cv s' t er 3 v wc := hd9 _ rfl ⟨3, .data⟩ (Array.mem_of_getElem? (i := 0) rfl) rfl
                obtain rfl := p38
                go_wp2_with fail
                exact ⟨Ext.refl _, _, rfl, rfl⟩
              · refine wpOp_of_list (i := 5) rfl ?_
                obtain ⟨v39, h39, p39⟩ : ∃ v, a.tmps[39]? = some v ∧ PhiR wr.heap.size A3 A4 c3 c4 b off ops.length co k o.at_ Av o.data.length cv s' t er 4 v wc := hd9 _ rfl ⟨4, .data⟩ (Array.mem_of_getElem? (i := 0) rfl) rfl
                obtain rfl := p39
                have f1c := pw_cell_below hxx f1
                go_wp2_with fail
                exact ⟨Ext.refl _, _, rfl, rfl⟩
              · refine wpOp_of_list (i := 6) rfl ?_
                have h1 := (hL.oth 1 (by decide)).trans rfl
                go_wp2_with fail
                exact ⟨Ext.refl _, _, rfl, rfl⟩
              · refine wpOp_of_list (i := 7) rfl ?_
                have h8 := (hL.oth 8 (by decide)).trans rfl
                go_wp2_with fail
                exact ⟨Ext.refl _, _, rfl, rfl⟩
              · refine wpOp_of_list (i := 8) rfl ?_
                obtain ⟨v41, h41, p41⟩ : ∃ v, a.tmps[41]? = some v ∧ PhiR wr.heap.size A3 A4 c3 c4 b off ops.length co k o.at_ Av o.data.length cv s' t er 6 v wc := hd9 _ rfl ⟨6, .data⟩ (Array.mem_of_getElem? (i := 0) rfl) rfl
                obtain rfl := p41
                obtain ⟨v42, h42, p42⟩ : ∃ v, a.tmps[42]? = some v ∧ PhiR wr.heap.size A3 A4 c3 c4 b off ops.length co k o.at_ Av o.data.length cv s' t er 7 v wc := hd9 _ rfl ⟨7, .data⟩ (Array.mem_of_getElem? (i := 1) rfl) rfl
                obtain rfl := p42
                go_wp2_with fail
                exact ⟨Ext.refl _, _, rfl, rfl⟩
              · refine wpOp_of_list (i := 9) rfl ?_
                obtain ⟨v43, h43, p43⟩ : ∃ v, a.tmps[43]? = some v ∧ PhiR wr.heap.size A3 A4 c3 c4 b off ops.length co k o.at_ Av o.data.length cv s' t er 8 v wc := hd9 _ rfl ⟨8, .data⟩ (Array.mem_of_getElem? (i := 0) rfl) rfl
                obtain rfl := p43
                go_wp2_with fail
                exact ⟨Ext.refl _, _, rfl, rfl⟩
              · refine wpOp_of_list (i := 10) rfl ?_
                obtain ⟨v44, h44, p44⟩ : ∃ v, a.tmps[44]? = some v ∧ PhiR wr.heap.size A3 A4 c3 c4 b off ops.length co k o.at_ Av o.data.length cv s' t er 9 v wc := hd9 _ rfl ⟨9, .data⟩ (Array.mem_of_getElem? (i := 0) rfl) rfl
                obtain rfl := p44
                have f2c := pw_cell_below hxx f2
                go_wp2_with fail
                exact ⟨Ext.refl _, _, rfl, rfl⟩
              · refine wpOp_of_list (i := 11) rfl ?_
                obtain ⟨v35, h35, p35⟩ : ∃ v, a.tmps[35]? = some v ∧ PhiR wr.heap.size A3 A4 c3 c4 b off ops.length co k o.at_ Av o.data.length cv s' t er 0 v wc := hd9 _ rfl ⟨0, .data⟩ (Array.mem_of_getElem? (i := 0) rfl) rfl
                obtain rfl := p35
                obtain ⟨v40, h40, p40⟩ : ∃ v, a.tmps[40]? = some v ∧ PhiR wr.heap.size A3 A4 c3 c4 b off ops.length co k o.at_ Av o.data.length cv s' t er 5 v wc := hd9 _ rfl ⟨5, .data⟩ (Array.mem_of_getElem? (i := 1) rfl) rfl
                obtain rfl := p40
                obtain ⟨v45, h45, p45⟩ : ∃ v, a.tmps[45]? = some v ∧ PhiR wr.heap.size A3 A4 c3 c4 b off ops.length co k o.at_ Av o.data.length cv s' t er 10 v wc := hd9 _ rfl ⟨10, .data⟩ (Array.mem_of_getElem? (i := 2) rfl) rfl
                obtain rfl := p45
                go_wp2_with (first
                  | (go_at_call 15; refine (hcall _ hxx).mono ?_; rintro e w5 ⟨v7, rfl, ⟨A7, c7, A8, c8, rfl, hd7, hd8, hf7, hf8⟩, hx7⟩)
                  | fail)
                exact ⟨hx7, _, rfl, A7, c7, A8, c8, rfl, ⟨A7, c7, A8, c8, rfl, hd7, hd8⟩⟩
              · refine wpOp_of_list (i := 12) rfl ?_
                obtain ⟨v46, h46, p46⟩ : ∃ v, a.tmps[46]? = some v ∧ PhiR wr.heap.size A3 A4 c3 c4 b off ops.length co k o.at_ Av o.data.length cv s' t er 11 v wc := hd9 _ rfl ⟨11, .data⟩ (Array.mem_of_getElem? (i := 0) rfl) rfl
                obtain ⟨A7, c7, A8, c8, rfl, p46⟩ := p46
                go_wp2_with fail
                exact ⟨Ext.refl _, _, rfl, A7, c7, A8, c8, rfl, p46⟩
              · refine wpOp_of_list (i := 13) rfl ?_
                obtain ⟨v34, h34, p34⟩ : ∃ v, a.tmps[34]? = some v ∧ PhiR wr.heap.size A3 A4 c3 c4 b off ops.length co k o.at_ Av o.data.length cv s' t er 12 v wc := hd9 _ rfl ⟨12, .data⟩ (Array.mem_of_getElem? (i := 0) rfl) rfl
                obtain ⟨A7, c7, A8, c8, rfl, p34⟩ := p34
                go_wp2_with fail
                exact ⟨Ext.refl _, _, rfl, A7, c7, A8, c8, rfl, p34⟩
              · refine wpOp_of_list (i := 14) rfl ?_
                obtain ⟨v34, h34, p34⟩ : ∃ v, a.tmps[34]? = some v ∧ PhiR wr.heap.size A3 A4 c3 c4 b off ops.length co k o.at_ Av o.data.length cv s' t er 12 v wc := hd9 _ rfl ⟨12, .data⟩ (Array.mem_of_getElem? (i := 0) rfl) rfl
                obtain ⟨A7, c7, A8, c8, rfl, p34⟩ := p34
                go_wp2_with fail
                exact ⟨Ext.refl _, _, rfl, rfl⟩
              · refine wpOp_of_list (i := 15) rfl ?_
                go_wp2_with fail
                exact ⟨(Ext.refl wc).alloc _, _, rfl, wc.heap.size, rfl, Blk.new _ _ _, hxx.size⟩
              · cases hh
              · cases hh
            case fin =>
              intro listed a wc hsz hco htl hx9 hL hv
              obtain ⟨b14, hb14⟩ : ∃ b, listed.getD 14 false = b := ⟨_, rfl⟩
              have hl : listed = #[true, true, true, true, true, true, true, true, true, true, true, true, true, true, b14, true, false, false] := by
                refine arr_eq hsz fun i hi => ?_
                have hi18 : i < 18 := hi
                have hcs : i = 0 ∨ i = 1 ∨ i = 2 ∨ i = 3 ∨ i = 4 ∨ i = 5 ∨ i = 6 ∨ i = 7 ∨ i = 8 ∨ i = 9 ∨ i = 10 ∨ i = 11 ∨ i = 12 ∨ i = 13 ∨ i = 14 ∨ i = 15 ∨ i = 16 ∨ i = 17 := by omega
                rcases hcs with rfl | rfl | rfl | rfl | rfl | rfl | rfl | rfl | rfl | rfl | rfl | rfl | rfl | rfl | rfl | rfl | rfl | rfl
                · exact hco 0 rfl
                · exact hco 1 rfl
                · exact hco 2 rfl
                · exact hco 3 rfl
                · exact hco 4 rfl
                · exact hco 5 rfl
                · exact hco 6 rfl
                · exact hco 7 rfl
                · exact hco 8 rfl
                · exact hco 9 rfl
                · exact hco 10 rfl
                · exact hco 11 rfl
                · exact hco 12 rfl
                · exact hco 13 rfl
                · exact hb14
                · exact hco 15 rfl
                · exact htl 16 (by decide) rfl
                · exact htl 17 (by decide) rfl
              obtain ⟨v35, h35, p35⟩ : ∃ v, a.tmps[35]? = some v ∧ PhiR wr.heap.size A3 A4 c3 c4 b off ops.length co k o.at_ Av o.data.length cv s' t er 0 v wc := hv 0 (by decide) rfl (hco 0 rfl)
              obtain ⟨v36, h36, p36⟩ : ∃ v, a.tmps[36]? = some v ∧ PhiR wr.heap.size A3 A4 c3 c4 b off ops.length co k o.at_ Av o.data.length cv s' t er 1 v wc := hv 1 (by decide) rfl (hco 1 rfl)
              obtain ⟨v37, h37, p37⟩ : ∃ v, a.tmps[37]? = some v ∧ PhiR wr.heap.size A3 A4 c3 c4 b off ops.length co k o.at_ Av o.data.length cv s' t er 2 v wc := hv 2 (by decide) rfl (hco 2 rfl)
              obtain ⟨v38, h38, p38⟩ : ∃ v, a.tmps[38]? = some v ∧ PhiR wr.heap.size A3 A4 c3 c4 b off ops.length co k o.at_ Av o.data.length cv s' t er 3 v wc := hv 3 (by decide) rfl (hco 3 rfl)
              obtain ⟨v39, h39, p39⟩ : ∃ v, a.tmps[39]? = some v ∧ PhiR wr.heap.size A3 A4 c3 c4 b off ops.length co k o.at_ Av o.data.length cv s' t er 4 v wc := hv 4 (by decide) rfl (hco 4 rfl)
              obtain ⟨v40, h40, p40⟩ : ∃ v, a.tmps[40]? = some v ∧ PhiR wr.heap.size A3 A4 c3 c4 b off ops.length co k o.at_ Av o.data.length cv s' t er 5 v wc := hv 5 (by decide) rfl (hco 5 rfl)
              obtain ⟨v41, h41, p41⟩ : ∃ v, a.tmps[41]? = some v ∧ PhiR wr.heap.size A3 A4 c3 c4 b off ops.length co k o.at_ Av o.data.length cv s' t er 6 v wc := hv 6 (by decide) rfl (hco 6 rfl)
              obtain ⟨v42, h42, p42⟩ : ∃ v, a.tmps[42]? = some v ∧ PhiR wr.heap.size A3 A4 c3 c4 b off ops.length co k o.at_ Av o.data.length cv s' t er 7 v wc := hv 7 (by decide) rfl (hco 7 rfl)
              obtain ⟨v43, h43, p43⟩ : ∃ v, a.tmps[43]? = some v ∧ PhiR wr.heap.size A3 A4 c3 c4 b off ops.length co k o.at_ Av o.data.length cv s' t er 8 v wc := hv 8 (by decide) rfl (hco 8 rfl)
              obtain ⟨v44, h44, p44⟩ : ∃ v, a.tmps[44]? = some v ∧ PhiR wr.heap.size A3 A4 c3 c4 b off ops.length co k o.at_ Av o.data.length cv s' t er 9 v wc := hv 9 (by decide) rfl (hco 9 rfl)
              obtain ⟨v45, h45, p45⟩ : ∃ v, a.tmps[45]? = some v ∧ PhiR wr.heap.size A3 A4 c3 c4 b off ops.length co k o.at_ Av o.data.length cv s' t er 10 v wc := hv 10 (by decide) rfl (hco 10 rfl)
              obtain ⟨v46, h46, p46⟩ : ∃ v, a.tmps[46]? = some v ∧ PhiR wr.heap.size A3 A4 c3 c4 b off ops.length co k o.at_ Av o.data.length cv s' t er 11 v wc := hv 11 (by decide) rfl (hco 11 rfl)
              obtain ⟨v34, h34, p34⟩ : ∃ v, a.tmps[34]? = some v ∧ PhiR wr.heap.size A3 A4 c3 c4 b off ops.length co k o.at_ Av o.data.length cv s' t er 12 v wc := hv 12 (by decide) rfl (hco 12 rfl)
              obtain ⟨v47, h47, p47⟩ : ∃ v, a.tmps[47]? = some v ∧ PhiR wr.heap.size A3 A4 c3 c4 b off ops.length co k o.at_ Av o.data.length cv s' t er 13 v wc := hv 13 (by decide) rfl (hco 13 rfl)
              obtain ⟨v48, h48⟩ : ∃ v, a.tmps[48]? = some v := ⟨_, Array.getElem?_eq_getElem (by rw [hL.sz]; show 48 < 62; decide)⟩
              have p48 : b14 = true → v48 = .int .i64 er := fun hb => by
                obtain ⟨v, h, p⟩ : ∃ v, a.tmps[48]? = some v ∧ PhiR wr.heap.size A3 A4 c3 c4 b off ops.length co k o.at_ Av o.data.length cv s' t er 14 v wc := hv 14 (by decide) rfl (hb14.trans hb)
                rw [h48] at h
                cases h
                exact p
              obtain ⟨v9, h9, p9⟩ : ∃ v, a.tmps[9]? = some v ∧ PhiR wr.heap.size A3 A4 c3 c4 b off ops.length co k o.at_ Av o.data.length cv s' t er 15 v wc := hv 15 (by decide) rfl (hco 15 rfl)
              have ha := hL.eq (dl := [35, 36, 37, 38, 39, 40, 41, 42, 43, 44, 45, 46, 34, 47, 48, 9]) (xs := [v35, v36, v37, v38, v39, v40, v41, v42, v43, v44, v45, v46, v34, v47, v48, v9]) (show ∀ i, i < 18 → hdOf ksR i = true → ddOf ksR i ∈ [35, 36, 37, 38, 39, 40, 41, 42, 43, 44, 45, 46, 34, 47, 48, 9] from by decide) (by decide) (show ∀ d ∈ [35, 36, 37, 38, 39, 40, 41, 42, 43, 44, 45, 46, 34, 47, 48, 9], d < 62 from by decide) rfl (fun i d hd => by
                rcases i with _ | _ | _ | _ | _ | _ | _ | _ | _ | _ | _ | _ | _ | _ | _ | _ | i
                · cases hd; exact h35
                · cases hd; exact h36
                · cases hd; exact h37
                · cases hd; exact h38
                · cases hd; exact h39
                · cases hd; exact h40
                · cases hd; exact h41
                · cases hd; exact h42
                · cases hd; exact h43
                · cases hd; exact h44
                · cases hd; exact h45
                · cases hd; exact h46
                · cases hd; exact h34
                · cases hd; exact h47
                · cases hd; exact h48
                · cases hd; exact h9
                · simp at hd)
              clear hv hL hco htl hsz hb14 h35 h36 h37 h38 h39 h40 h41 h42 h43 h44 h45 h46 h34 h47 h48 h9
              obtain rfl := p35
              obtain rfl := p36
              obtain rfl := p37
              obtain rfl := p38
              obtain rfl := p39
              obtain rfl := p40
              obtain rfl := p41
              obtain rfl := p42
              obtain rfl := p43
              obtain rfl := p44
              obtain rfl := p45
              obtain ⟨A46, c46, B46, d46, rfl, p46⟩ := p46
              obtain ⟨A34, c34, B34, d34, rfl, p34⟩ := p34
              obtain ⟨A7, c7, A8, c8, rfl, p47⟩ := p47
              obtain ⟨g9, rfl, p9, hg9⟩ := p9
              subst ha
              subst hl
              simp only [putAll, Act.put, List.setIfInBounds_toArray, List.set_cons_zero, List.set_cons_succ]
              obtain ⟨m1, m2, m3, m4⟩ := p9.f2
              have hW : wr.heap.size ≤ wc.heap.size := hx9.size
              cases b14
              · show wpAnyF _ _ _ _ _ _ 3 _ _ _
                refine wpAnyF_taked (i := 14) (v := ?vz1_) 48 rfl rfl (by kernel_rfl) (by kernel_rfl) (by kernel_rfl) (by kernel_rfl) (fun _ _ _ h => h) (Or.inl ⟨by rfl, ?yz1_⟩) (by show Ext _ _; (repeat (first | (with_reducible exact Ext.refl _) | assumption | (with_reducible refine Ext.alloc ?_ _) | (with_reducible refine Ext.drew ?_) | (with_reducible refine Ext.trans ?_ (by assumption))))) ?rz1_
                case' yz1_ => intro w' hSw; go_simp; first | done | with_reducible rfl
                case' rz1_ => simp only [Act.put, List.setIfInBounds_toArray, List.set_cons_zero, List.set_cons_succ]
                have hSS := Lib.hid ((hx9.set (p := ⟨g9, 0, none⟩) hg9 (.slice A7 t.1.length c7)).set (p := ⟨g9, 1, none⟩) hg9 (.slice A8 t.2.length c8))
                refine wpAnyF_one (i := 16) (by kernel_rfl) rfl ?_
                go_wp2_with fail
                first | refine Stop_.go ⟨hSS.out, ?_⟩ | refine Stop_.go ⟨fun _ => hSS.out, ?_⟩
                refine wpAnyF_one (i := 17) (by kernel_rfl) rfl ?_
                go_wp2_with fail
                first | refine Stop_.go ⟨fun h => absurd rfl h, ?_⟩ | refine Stop_.go ?_
                refine ⟨by kernel_rfl, ?_⟩
                go_wp2_with fail
                go_meet
                exact ⟨rfl, (Ext.refl wr).drew.trans hSS.out, g9, A7, c7, A8, c8, rfl, (p9.set0 _).set1 _, (p47.setne p9 0 _).setne (p9.set0 _) 1 _, hg9⟩
              · show wpAnyF _ _ _ _ _ _ 2 _ _ _
                obtain rfl := p48 rfl
                have hSS := Lib.hid ((hx9.set (p := ⟨g9, 0, none⟩) hg9 (.slice A7 t.1.length c7)).set (p := ⟨g9, 1, none⟩) hg9 (.slice A8 t.2.length c8))
                refine wpAnyF_one (i := 16) (by kernel_rfl) rfl ?_
                go_wp2_with fail
                first | refine Stop_.go ⟨hSS.out, ?_⟩ | refine Stop_.go ⟨fun _ => hSS.out, ?_⟩
                refine wpAnyF_one (i := 17) (by kernel_rfl) rfl ?_
                go_wp2_with fail
                first | refine Stop_.go ⟨fun h => absurd rfl h, ?_⟩ | refine Stop_.go ?_
                refine ⟨by kernel_rfl, ?_⟩
                go_wp2_with fail
                go_meet
                exact ⟨rfl, (Ext.refl wr).drew.trans hSS.out, g9, A7, c7, A8, c8, rfl, (p9.set0 _).set1 _, (p47.setne p9 0 _).setne (p9.set0 _) 1 _, hg9⟩
          case rest =>
            obtain ⟨rfl, hxA, g7, A7, c7, A8, c8, rfl, D7, hDt, hg7⟩ := hcut
            clear hcall
            obtain ⟨m1, m2, m3, m4⟩ := D7.f2
            obtain ⟨x1, x2, x3, x4⟩ := (hB.ext hxA).f2
            obtain ⟨y1, y2, y3, y4⟩ := (hC.ext hxA).f2
            have hB' := hB.ext hxA
            have hC' := hC.ext hxA
            have hgB : g7 ≠ w.heap.size := by omega
            have hgB2 : w.heap.size ≠ g7 := by omega
            rename World => wx
            by_cases he : er = 0
            · subst he
              go_wp2_with fail
              go_roundw
              case rel =>
                obtain ⟨hi1, hi2, hi3⟩ := HIN.out rfl
                obtain rfl := HW2.out rfl
                have hset : Ext w ((wx.setCell ⟨w.heap.size, 0, none⟩ (.slice A7 t.1.length c7)).setCell ⟨w.heap.size, 1, none⟩ (.slice A8 t.2.length c8)) := ((hx.trans hxA).set (Nat.le_refl _) _).set (Nat.le_refl _) _
                refine ⟨k + 1, by omega, by go_num, hset, (hC'.far (by show w.heap.size + 1 ≠ w.heap.size; omega) _).far (by show w.heap.size + 1 ≠ w.heap.size; omega) _, t, A7, c7, A8, c8, (hB'.set0 _).set1 _, (hDt.setne hB' 0 _).setne (hB'.set0 _) 1 _, hi1, hi2, ?_, ?_⟩
                · have := HD.out; simp only at hi3; omega
                · show _ = _
                  rw [HST.out, HS.out]; rfl
              case measure => simp [intOf]; omega
            · have hne : (er != 0) = true := by simpa using he
              have HE := Lib.hid he
              clear he
              go_wp2_with fail
              obtain ⟨z1, z2, _, _⟩ := ((hC'.set0 (.slice none 0 0)).set1 (.slice none 0 0)).f2
              refine bodyPost_ret (v := .tuple #[.agg #[.slice none 0 0, .slice none 0 0], .int .i64 k, .int .i64 er]) (by simp [results, Try.results21, go_sem, z1, z2]) rfl ?_
              have e1 : runD ops 0 s = (k, er, s') := by rw [HST.out, HS.out]; exact if_neg HE.out
              rw [HRR.out, e1, if_neg HE.out]
              exact ⟨_, rfl, DR.nil _, ((hx.trans hxA).set (by show w.heap.size ≤ w.heap.size + 1; omega) _).set (by show w.heap.size ≤ w.heap.size + 1; omega) _⟩
        · by_cases h1k : o.kind = 1
          · have hsy := fun W hW => sync35 (.agg #[.slice A3 s'.1.length c3, .slice A4 s'.2.length c4]) s' W (hDR.ext hW) (by omega) (by omega)
            have hst : stepD s' o = (0, (newestD s'.1 s'.2, [])) := by simp [stepD, h1k]
            have hinv := step_inv (o := o) hch.out (by rw [hst])
            rw [hst] at hinv
            have HS := Lib.hid hst
            have HIN := Lib.hid hinv
            rw [h1k] at f0
            clear hst hinv h0 h1k ha hdw
            go_wp2_with (first
              | (go_at_call 35; refine (hsy _ (Ext.refl _)).mono ?_; rintro e w5 ⟨v5, rfl, hx5, h5⟩; rcases h5 with ⟨h5, _⟩ | ⟨_, A7, c7, A8, c8, rfl, hd7, hd8, hf7, hf8⟩; exact absurd hch.out h5; obtain ⟨x1, x2, x3, x4⟩ := (hB.ext hx5).f2)
              | fail)
            go_roundw
            case rel =>
              obtain ⟨hi1, hi2, hi3⟩ := HIN.out
              have hB' := hB.ext hx5
              have hC' := hC.ext hx5
              have hDt : DR w5 (.agg #[.slice A7 (newestD s'.1 s'.2).length c7, .slice A8 0 c8]) (newestD s'.1 s'.2, []) := ⟨A7, c7, A8, c8, rfl, hd7, hd8⟩
              refine ⟨k + 1, by omega, by go_num, ((hx.trans hx5).set (Nat.le_refl _) _).set (Nat.le_refl _) _, (hC'.far (by show w.heap.size + 1 ≠ w.heap.size; omega) _).far (by show w.heap.size + 1 ≠ w.heap.size; omega) _, (newestD s'.1 s'.2, []), A7, c7, A8, c8, (hB'.set0 _).set1 _, (hDt.setne hB' 0 _).setne (hB'.set0 _) 1 _, hi1, hi2, ?_, ?_⟩
              · simpa using hdl5
              · show _ = _
                rw [HST.out, HS.out]; rfl
            case measure => simp [intOf]; omega
          · have hst : stepD s' o = (1, s') := by simp [stepD, h0, h1k]
            have HS := Lib.hid hst
            have hne0 : (o.kind == 0) = false := by simpa using h0
            have hne1 : (o.kind == 1) = false := by simpa using h1k
            clear hst ha hdw
            go_wp2_with fail
            obtain ⟨z1, z2, _, _⟩ := ((hC.set0 (.slice none 0 0)).set1 (.slice none 0 0)).f2
            refine bodyPost_ret (v := .tuple #[.agg #[.slice none 0 0, .slice none 0 0], .int .i64 k, .int .i64 1]) (by simp [results, Try.results21, go_sem, z1, z2]) rfl ?_
            have e1 : runD ops 0 s = (k, 1, s') := by rw [HST.out, HS.out]; rfl
            rw [HRR.out, e1]
            exact ⟨_, rfl, DR.nil _, (hx.set (by show w.heap.size ≤ w.heap.size + 1; omega) _).set (by show w.heap.size ≤ w.heap.size + 1; omega) _⟩
      · have hltz : ¬ (k : Int) < (ops.length : Int) := by omega
        have hkk : k = ops.length := by omega
        go_wp2_with fail
        obtain ⟨z1, z2, _, _⟩ := ((hC.set0 (.slice A3 s'.1.length c3)).set1 (.slice A4 s'.2.length c4)).f2
        refine bodyPost_ret (v := .tuple #[.agg #[.slice A3 s'.1.length c3, .slice A4 s'.2.length c4], .int .i64 ops.length, .int .i64 0]) (by simp [results, Try.results21, go_sem, z1, z2]) rfl ?_
        have e1 : runD ops 0 s = (ops.length, 0, s') := by rw [hres.out, hkk, List.drop_length]; rfl
        rw [HRR.out, e1]
        exact ⟨_, rfl, (hDR.setne hC 0 _).setne (hC.set0 _) 1 _, (hx.set (by show w.heap.size ≤ w.heap.size + 1; omega) _).set (by show w.heap.size ≤ w.heap.size + 1; omega) _⟩
  · have HF : Hid (runR s ops = (0, chkD s.1 s.2, ([], []))) := by show _ = _; unfold runR; rw [if_neg hz]
    generalize hres : chkD s.1 s.2 = err at *
    have hne : (err != 0) = true := by simpa using hz
    clear hres hz
    go_enter Try.func21, Try.ntmps21
    go_wp2_with (first
      | (go_at_call 34; refine (hchk _ (((Ext.refl w).alloc _).alloc _)).mono ?_; rintro e w1 ⟨rfl, hx1⟩; have B1 := ((Blk.new w _ _).alloc _).ext hx1; have C1 := (Blk.new (w.alloc (.cells #[.slice A s.1.length c, .slice A2 s.2.length c2] 25)) _ _).ext hx1; rw [World.size_alloc] at C1; obtain ⟨b1, b2, b3, b4⟩ := B1.f2; obtain ⟨y1, y2, y3, y4⟩ := C1.f2)
      | fail)
    obtain ⟨z1, z2, _, _⟩ := ((C1.set0 (.slice none 0 0)).set1 (.slice none 0 0)).f2
    refine bodyPost_ret (v := .tuple #[.agg #[.slice none 0 0, .slice none 0 0], .int .i64 0, .int .i64 err]) (by simp [results, Try.results21, go_sem, z1, z2]) rfl ?_
    rw [HF.out]
    exact ⟨_, rfl, DR.nil _, (((((Ext.refl w).alloc _).alloc _).trans hx1).set (by show w.heap.size ≤ w.heap.size + 1; omega) _).set (by show w.heap.size ≤ w.heap.size + 1; omega) _⟩
end Go.Proofs.Ytcgffpncfgmhkaa
