import Derived.Test.YtcgffpncfgmhkaaB1
import Derived.Test.YtcgffpncfgmhkaaY1
set_option linter.unusedVariables false
set_option linter.unusedSimpArgs false
set_option maxRecDepth 100000
set_option maxHeartbeats 2000000
namespace Go.Proofs.Ytcgffpncfgmhkaa
open Go Go.Proofs Go.RowKit Go.Instr
open Go.Proofs.YtcgffpncfgmhkaaW.PrintWords

/-- One operation; where it has an error the disk stays. -/
def rstep (s : St) (o : OpD) : St := if (runR s [o]).2.1 = 0 then (runR s [o]).2.2 else s
def rightD (m : Nat) (ops : List OpD) : St := ops.foldl rstep (List.replicate (m % 40) Sec.z, [])
theorem rstep_inv {s : St} {o : OpD} (h : chkD s.1 s.2 = 0) : chkD (rstep s o).1 (rstep s o).2 = 0 ∧ (rstep s o).1.length = s.1.length ∧ (rstep s o).2.length ≤ s.2.length + 4096 := by
  have h4 := chkD_len h
  unfold rstep
  by_cases h0 : (runR s [o]).2.1 = 0
  · rw [if_pos h0]
    have e : runR s [o] = runD [o] 0 s := by
      unfold runR at h0 ⊢
      rw [if_pos h] at h0 ⊢
      by_cases h1 : (runD [o] 0 s).2.1 = 0
      · rw [if_pos h1]
      · rw [if_neg h1] at h0; exact absurd h0 h1
    rw [e]
    obtain ⟨a, b, c⟩ := runD_inv [o] 0 s (chkD_ok h) h4
    refine ⟨chkD_of (by rw [a]; exact b) (by omega), a, Nat.le_trans c ?_⟩
    simp [dataLen]
    omega
  · rw [if_neg h0]
    exact ⟨h, rfl, by omega⟩
theorem right_inv (l : List OpD) (s : St) (h : chkD s.1 s.2 = 0) : chkD (l.foldl rstep s).1 (l.foldl rstep s).2 = 0 ∧ (l.foldl rstep s).1.length = s.1.length ∧ (l.foldl rstep s).2.length ≤ s.2.length + l.length * 4096 := by
  induction l generalizing s with
  | nil => exact ⟨h, rfl, by simp⟩
  | cons o l ih =>
    obtain ⟨a, b, c⟩ := rstep_inv (o := o) h
    obtain ⟨d, e, f⟩ := ih (rstep s o) a
    refine ⟨d, e.trans b, ?_⟩
    simp only [List.foldl_cons, List.length_cons]
    rw [Nat.add_mul, Nat.one_mul]
    omega
theorem zeros_ok (n : Nat) (h : n ≤ 4096) : chkD (List.replicate n Sec.z) ([] : List (Int × Sec)) = 0 := chkD_of (s := (List.replicate n Sec.z, [])) rfl (by simpa using h)
theorem rightD_inv (m : Nat) (l : List OpD) : chkD (rightD m l).1 (rightD m l).2 = 0 ∧ (rightD m l).1.length = m % 40 ∧ (rightD m l).2.length ≤ l.length * 4096 := by
  have := right_inv l (List.replicate (m % 40) Sec.z, []) (zeros_ok _ (by omega))
  simpa [rightD] using this

def RightPost (w w' : World) (e : Ending) (r : St) : Prop := ∃ A c B d, e = .returned (.agg #[.slice A r.1.length c, .slice B r.2.length d]) ∧ DR w' (.agg #[.slice A r.1.length c, .slice B r.2.length d]) r ∧ Ext w w'

theorem right27 (m : Nat) (hm : m < 256) (vo : Value) (ops : List OpD) (w : World) (hr : RdO w vo ops) (hwf : OpsWf ops) (hol : ops.length ≤ 60) :
    Calls Try.prog 27 #[.int .u8 (m : Int), vo] w fun e w' => RightPost w w' e (rightD m ops) := by
  obtain ⟨Ao, co, rfl⟩ := rdO_slice hr
  have hmk := make22 (m % 40) (by omega)
  rw [show ((m % 40 : Nat) : Int) = (m : Int) % 40 from by omega] at hmk
  have HI := Lib.hid (fun k => right_inv (ops.take k) (List.replicate (m % 40) Sec.z, []) (zeros_ok _ (by omega)))
  have HRD : Hid (rightD m ops = (ops.take ops.length).foldl rstep (List.replicate (m % 40) Sec.z, [])) := by show _ = _; rw [List.take_length]; rfl
  go_enter Try.func27, Try.ntmps27
  go_wp2_with fail
  have hE : Ext w (((w.alloc (.cells #[.slice none 0 0, .slice none 0 0] 25)).alloc (.cells (madeCells #[.int .u8 0, .int .u8 0, .int .u8 0, .int .u8 0, .int .u8 0, .int .u8 0, .int .u8 0, .int .u8 0] (m % 40 * 8)) 65)).alloc (.cells #[.slice (some ⟨w.heap.size + 1, 0, none⟩) (m % 40) (m % 40), .slice none 0 0] 25)) := (((Ext.refl w).alloc _).alloc _).alloc _
  have C1 : Blk (((w.alloc (.cells #[.slice none 0 0, .slice none 0 0] 25)).alloc (.cells (madeCells #[.int .u8 0, .int .u8 0, .int .u8 0, .int .u8 0, .int .u8 0, .int .u8 0, .int .u8 0, .int .u8 0] (m % 40 * 8)) 65)).alloc (.cells #[.slice (some ⟨w.heap.size + 1, 0, none⟩) (m % 40) (m % 40), .slice none 0 0] 25)) w.heap.size #[.slice none 0 0, .slice none 0 0] 25 := ((Blk.new w _ _).alloc _).alloc _
  have D1 : Blk (((w.alloc (.cells #[.slice none 0 0, .slice none 0 0] 25)).alloc (.cells (madeCells #[.int .u8 0, .int .u8 0, .int .u8 0, .int .u8 0, .int .u8 0, .int .u8 0, .int .u8 0, .int .u8 0] (m % 40 * 8)) 65)).alloc (.cells #[.slice (some ⟨w.heap.size + 1, 0, none⟩) (m % 40) (m % 40), .slice none 0 0] 25)) (w.heap.size + 1 + 1) #[.slice (some ⟨w.heap.size + 1, 0, none⟩) (m % 40) (m % 40), .slice none 0 0] 25 := by
    have := Blk.new ((w.alloc (.cells #[.slice none 0 0, .slice none 0 0] 25)).alloc (.cells (madeCells #[.int .u8 0, .int .u8 0, .int .u8 0, .int .u8 0, .int .u8 0, .int .u8 0, .int .u8 0, .int .u8 0] (m % 40 * 8)) 65)) #[.slice (some ⟨w.heap.size + 1, 0, none⟩) (m % 40) (m % 40), .slice none 0 0] 25
    rwa [World.size_alloc, World.size_alloc] at this
  have ho := made_own (w.alloc (.cells #[.slice none 0 0, .slice none 0 0] 25)) (m % 40) (w.heap.size + 1) (by omega) (by simp)
  rw [World.size_alloc] at ho
  obtain ⟨z0, hz0⟩ : ∃ z0 : St, z0 = (List.replicate (m % 40) Sec.z, []) := ⟨_, rfl⟩
  have hz1 : z0.1.length = m % 40 := by rw [hz0]; exact List.length_replicate
  have hz2 : z0.2.length = 0 := by rw [hz0]; rfl
  have hD : DR (((w.alloc (.cells #[.slice none 0 0, .slice none 0 0] 25)).alloc (.cells (madeCells #[.int .u8 0, .int .u8 0, .int .u8 0, .int .u8 0, .int .u8 0, .int .u8 0, .int .u8 0, .int .u8 0] (m % 40 * 8)) 65)).alloc (.cells #[.slice (some ⟨w.heap.size + 1, 0, none⟩) (m % 40) (m % 40), .slice none 0 0] 25)) (.agg #[.slice (some ⟨w.heap.size + 1, 0, none⟩) z0.1.length (m % 40), .slice none z0.2.length 0]) z0 := by
    refine ⟨_, _, _, _, rfl, ?_, ?_⟩
    · rw [hz1, hz0]; exact Rd.own (own_ext ho ((Ext.refl _).alloc _))
    · rw [hz2, hz0]; exact rd_nil _ _
  have D2 : Blk (((w.alloc (.cells #[.slice none 0 0, .slice none 0 0] 25)).alloc (.cells (madeCells #[.int .u8 0, .int .u8 0, .int .u8 0, .int .u8 0, .int .u8 0, .int .u8 0, .int .u8 0, .int .u8 0] (m % 40 * 8)) 65)).alloc (.cells #[.slice (some ⟨w.heap.size + 1, 0, none⟩) (m % 40) (m % 40), .slice none 0 0] 25)) (w.heap.size + 1 + 1) #[.slice (some ⟨w.heap.size + 1, 0, none⟩) z0.1.length (m % 40), .slice none z0.2.length 0] 25 := by rw [hz1, hz2]; exact D1
  have HI2 : Hid (∀ k, chkD ((ops.take k).foldl rstep z0).1 ((ops.take k).foldl rstep z0).2 = 0 ∧ ((ops.take k).foldl rstep z0).1.length = m % 40 ∧ ((ops.take k).foldl rstep z0).2.length ≤ (ops.take k).length * 4096) := by
    intro k
    have := HI.out k
    rw [← hz0] at this
    obtain ⟨a, b, c⟩ := this
    exact ⟨a, b.trans List.length_replicate, by simpa using c⟩
  have HRD2 : Hid (rightD m ops = (ops.take ops.length).foldl rstep z0) := by show _ = _; rw [hz0]; exact HRD.out
  generalize (((w.alloc (.cells #[.slice none 0 0, .slice none 0 0] 25)).alloc (.cells (madeCells #[.int .u8 0, .int .u8 0, .int .u8 0, .int .u8 0, .int .u8 0, .int .u8 0, .int .u8 0, .int .u8 0] (m % 40 * 8)) 65)).alloc (.cells #[.slice (some ⟨w.heap.size + 1, 0, none⟩) (m % 40) (m % 40), .slice none 0 0] 25)) = w3 at *
  clear hmk HI HRD hz0 hz1 hz2 D1 ho
  go_loopw [18] (fun t wr => ∃ k : Nat, k ≤ ops.length ∧ t = .int .i64 k ∧ Ext w wr ∧ Blk wr w.heap.size #[.slice none 0 0, .slice none 0 0] 25 ∧ ∃ A3 c3 A4 c4, Blk wr (w.heap.size + 1 + 1) #[.slice A3 ((ops.take k).foldl rstep z0).1.length c3, .slice A4 ((ops.take k).foldl rstep z0).2.length c4] 25 ∧
    DR wr (.agg #[.slice A3 ((ops.take k).foldl rstep z0).1.length c3, .slice A4 ((ops.take k).foldl rstep z0).2.length c4]) ((ops.take k).foldl rstep z0)) (fun t _ => ops.length - (intOf t).toNat)
  case atStart => exact ⟨0, Nat.zero_le _, rfl, hE, C1, _, _, _, _, D2, hD⟩
  case round =>
    clear hE C1 D2 hD
    obtain ⟨k, hk, rfl, hx, hC, A3, c3, A4, c4, hB, hDR⟩ := hrel
    have HIk := Lib.hid (HI2.out k)
    have HS := fun o h => fold_take rstep z0 ops k o h
    have HRK : ∀ z, (ops.take k).foldl rstep z0 = z → Hid ((ops.take k).foldl rstep z0 = z) := fun _ h => h
    generalize hsk : (ops.take k).foldl rstep z0 = sk at hB hDR HS HIk
    replace HRK := HRK _ hsk
    clear hsk
    have hBl := hB.lt
    have hCl := hC.lt
    obtain ⟨x1, x2, x3, x4⟩ := hB.f2
    obtain ⟨y1, y2, y3, y4⟩ := hC.f2
    by_cases hlt : k < ops.length
    · obtain ⟨o, hko⟩ : ∃ o, ops[k]? = some o := ⟨_, List.getElem?_eq_getElem hlt⟩
      obtain ⟨b, off, vd, rfl, hbl, f0, f1, f2, hdd⟩ := rdO_at (hr.ext hx) hko
      obtain ⟨Av, cv, rfl⟩ := rd_slice hdd
      have hwo : OpsWf [o] := fun j o' hj => by
        cases j with
        | zero => simp at hj; subst hj; exact hwf k o hko
        | succ j => simp at hj
      have hltz : (k : Int) < (ops.length : Int) := by omega
      have HN := Lib.hid (HS o hko)
      have hcb : sk.1.length ≤ 1000000 ∧ sk.2.length + dataLen [o] ≤ 1000000 := by
        obtain ⟨_, a, c⟩ := HIk.out
        have h1 : (ops.take k).length ≤ 60 := by rw [List.length_take]; omega
        have h2 : dataLen [o] ≤ 4096 := by simp [dataLen]; omega
        omega
      have hcall := fun W vo hW hO => run20 (.agg #[.slice A3 sk.1.length c3, .slice A4 sk.2.length c4]) vo sk [o] W (hDR.ext hW) hO hwo hcb.1 (by simp) hcb.2
      have hrs : rstep sk o = if (runR sk [o]).2.1 = 0 then (runR sk [o]).2.2 else sk := rfl
      rw [hrs] at HN
      generalize runR sk [o] = r at hcall HN
      obtain ⟨ri, er, t⟩ := r
      clear hko HS hcb hwo hrs HIk
      go_upto_region 5 with fail
      obtain ⟨x5, x6, _, _⟩ := (hB.alloc (.cells #[.int .i64 o.kind, .int .i64 o.at_, .slice Av o.data.length cv] 27)).f2
      obtain ⟨x7, x8, x9, _, _, _⟩ := (Blk.new wr #[.int .i64 o.kind, .int .i64 o.at_, .slice Av o.data.length cv] 27).f3
      have hE2 : Ext wr ((wr.alloc (.cells #[.int .i64 o.kind, .int .i64 o.at_, .slice Av o.data.length cv] 27)).alloc (.cells #[.int .i64 o.kind, .int .i64 o.at_, .slice Av o.data.length cv] 27)) := ((Ext.refl wr).alloc _).alloc _
      have hO2 : RdO ((wr.alloc (.cells #[.int .i64 o.kind, .int .i64 o.at_, .slice Av o.data.length cv] 27)).alloc (.cells #[.int .i64 o.kind, .int .i64 o.at_, .slice Av o.data.length cv] 27)) (.slice (some ⟨wr.heap.size + 1, 0, none⟩) 1 1) [o] := by
        have hb := Blk.new (wr.alloc (.cells #[.int .i64 o.kind, .int .i64 o.at_, .slice Av o.data.length cv] 27)) #[.int .i64 o.kind, .int .i64 o.at_, .slice Av o.data.length cv] 27
        rw [World.size_alloc] at hb
        exact rdO_one hb (hdd.ext hE2)
      go_upto_region 6 with (first
        | (go_at_call 20; refine (hcall _ _ hE2 hO2).mono ?_; rintro e w5 ⟨v5, rfl, ⟨A7, c7, A8, c8, rfl, hd7, hd8, hf7, hf8⟩, hx5⟩)
        | fail)
      have hx6 : Ext wr (w5.alloc (.cells #[.slice A7 t.1.length c7, .slice A8 t.2.length c8] 25)) := (hE2.trans hx5).alloc _
      have D8 := Blk.new w5 #[.slice A7 t.1.length c7, .slice A8 t.2.length c8] 25
      have hDt : DR (w5.alloc (.cells #[.slice A7 t.1.length c7, .slice A8 t.2.length c8] 25)) (.agg #[.slice A7 t.1.length c7, .slice A8 t.2.length c8]) t := DR.ext ⟨A7, c7, A8, c8, rfl, hd7, hd8⟩ ((Ext.refl w5).alloc _)
      have hg8 : wr.heap.size ≤ w5.heap.size := (hE2.trans hx5).size
      clear hcall x1 x2 x3 x4 x5 x6 x7 x8 x9 y1 y2 y3 y4 hd7 hd8 hf7 hf8 hO2 hE2 hx5 f0 f1 f2
      generalize w5.heap.size = g8 at D8 hg8 ⊢
      generalize w5.alloc (.cells #[.slice A7 t.1.length c7, .slice A8 t.2.length c8] 25) = w6 at *
      have hB' := hB.ext hx6
      have hC' := hC.ext hx6
      obtain ⟨x1, x2, x3, x4⟩ := hB'.f2
      obtain ⟨y1, y2, y3, y4⟩ := D8.f2
      have hgB : g8 ≠ w.heap.size + 1 + 1 := by omega
      have hgB2 : w.heap.size + 1 + 1 ≠ g8 := by omega
      by_cases he : er = 0
      · subst he
        go_wp2_with fail
        go_roundw
        case rel =>
          have hN := HN.out
          rw [if_pos rfl] at hN
          refine ⟨k + 1, by omega, by go_num, ?_, ?_, A7, c7, A8, c8, ?_, ?_⟩
          · exact ((hx.trans hx6).set (by show w.heap.size ≤ w.heap.size + 1 + 1; omega) _).set (by show w.heap.size ≤ w.heap.size + 1 + 1; omega) _
          · exact (hC'.far (by show w.heap.size ≠ w.heap.size + 1 + 1; omega) _).far (by show w.heap.size ≠ w.heap.size + 1 + 1; omega) _
          · rw [hN]; exact (hB'.set0 _).set1 _
          · rw [hN]; exact (hDt.setne hB' 0 _).setne (hB'.set0 _) 1 _
        case measure => simp [intOf]; omega
      · have hne : (er == 0) = false := by simpa using he
        have HE := Lib.hid he
        clear he
        go_wp2_with fail
        go_roundw
        case rel =>
          have hN := HN.out
          rw [if_neg HE.out] at hN
          refine ⟨k + 1, by omega, by go_num, hx.trans hx6, hC', A3, c3, A4, c4, ?_, ?_⟩
          · rw [hN]; exact hB'
          · rw [hN]; exact hDR.ext hx6
        case measure => simp [intOf]; omega
    · have hltz : ¬ (k : Int) < (ops.length : Int) := by omega
      have hkk : k = ops.length := by omega
      have hneA : w.heap.size + 1 + 1 ≠ w.heap.size := by omega
      go_wp2_with fail
      obtain ⟨z1, z2, _, _⟩ := ((hC.set0 (.slice A3 sk.1.length c3)).set1 (.slice A4 sk.2.length c4)).f2
      refine bodyPost_ret (v := .agg #[.slice A3 sk.1.length c3, .slice A4 sk.2.length c4]) (by simp [results, Try.results27, go_sem, z1, z2]) rfl ?_
      rw [HRD2.out, ← hkk, HRK.out]
      exact ⟨A3, c3, A4, c4, rfl, (hDR.setne hC 0 _).setne (hC.set0 _) 1 _, (hx.set (Nat.le_refl _) _).set (Nat.le_refl _) _⟩
end Go.Proofs.Ytcgffpncfgmhkaa
