import Derived.Test.YtcgffpncfgmhkaaW4
set_option linter.unusedVariables false
set_option linter.unusedSimpArgs false
set_option maxRecDepth 100000
set_option maxHeartbeats 2000000
namespace Go.Proofs.Ytcgffpncfgmhkaa
open Go Go.Proofs Go.RowKit Go.Instr
open Go.Proofs.YtcgffpncfgmhkaaW.PrintWords

/-- The sum of the lengths, as the machine adds them. -/
def zsum (l : List OpD) : Int := l.foldl (fun z o => IntKind.i64.wrap (z + (o.data.length : Int))) 0
theorem zsum_snoc {ops : List OpD} {k : Nat} {o : OpD} (h : ops[k]? = some o) : zsum (ops.take (k + 1)) = IntKind.i64.wrap (zsum (ops.take k) + (o.data.length : Int)) := by
  unfold zsum
  rw [List.take_add_one, h]
  simp [List.foldl_append]
def fewW (ops : List OpD) : Bool := decide (ops.length ≤ 60) && decide (zsum (ops.take 100) ≤ 400)
/-- The reference's FewOps, where the sum may wrap. -/
theorem fewOps12w (vo : Value) (ops : List OpD) (w : World) (hr : RdO w vo ops) (hol : ops.length ≤ 9223372036854775807) :
    Calls Try.prog 12 #[vo] w fun e w' => e = .returned (.bool (fewW ops)) ∧ Ext w w' := by
  obtain ⟨A, c, rfl⟩ := rdO_slice hr
  go_enter Try.func12, Try.ntmps12
  go_wp2_with fail
  go_loopw [3, 4] (fun s t wr => ∃ k : Nat, ∃ z : Int, k ≤ ops.length ∧ k ≤ 100 ∧ t = .int .i64 k ∧ s = .int .i64 z ∧ Hid (zsum (ops.take k) = z) ∧ Ext w wr) (fun _ t _ => 100 - (intOf t).toNat)
  case atStart => exact ⟨0, 0, Nat.zero_le _, Nat.zero_le _, rfl, rfl, by show _ = _; rfl, Ext.refl _⟩
  case round =>
    obtain ⟨k, z, hk, hk1, rfl, rfl, hz, hx⟩ := hrel
    by_cases hlt : k < ops.length
    · by_cases hlt1 : k < 100
      · obtain ⟨o, hko⟩ : ∃ o, ops[k]? = some o := ⟨_, List.getElem?_eq_getElem hlt⟩
        obtain ⟨b, off, vd, rfl, hbl, f0, f1, f2, hd⟩ := rdO_at (hr.ext hx) hko
        obtain ⟨Av, cv, rfl⟩ := rd_slice hd
        have hltz : (k : Int) < (ops.length : Int) := by omega
        have HN := Lib.hid (zsum_snoc hko)
        clear hko
        go_wp2_with fail
        go_roundw
        case rel =>
          refine ⟨k + 1, wrap64 (z + (o.data.length : Int)), by omega, by omega, by go_num, rfl, ?_, hx⟩
          show _ = _
          rw [HN.out, hz.out, IntWalk.i64_left]
        case measure => simp [intOf]; omega
      · have hk2 : k = 100 := by omega
        subst hk2
        have hltz : (100 : Int) < (ops.length : Int) := by omega
        have h60 : ¬ (ops.length : Int) ≤ 60 := by omega
        have HF : Hid (fewW ops = false) := by show _ = _; unfold fewW; rw [decide_eq_false (by omega : ¬ ops.length ≤ 60)]; rfl
        go_wp2_with fail
        go_ret
        rw [HF.out]
        exact ⟨by simp <;> omega, hx⟩
    · have hltz : ¬ (k : Int) < (ops.length : Int) := by omega
      have hkk : k = ops.length := by omega
      by_cases h60 : ops.length ≤ 60
      · have HT : Hid (zsum (ops.take 100) = z) := by
          show _ = _
          rw [← hz.out, List.take_of_length_le (by omega : ops.length ≤ 100), List.take_of_length_le (by omega : ops.length ≤ k)]
        by_cases h4 : z ≤ 400
        · have HF : Hid (fewW ops = true) := by show _ = _; unfold fewW; rw [decide_eq_true h60, HT.out, decide_eq_true h4]; rfl
          go_wp2_with fail
          go_ret
          rw [HF.out]
          exact ⟨by simp <;> omega, hx⟩
        · have HF : Hid (fewW ops = false) := by show _ = _; unfold fewW; rw [HT.out, decide_eq_false h4]; simp
          go_wp2_with fail
          go_ret
          rw [HF.out]
          exact ⟨by simp <;> omega, hx⟩
      · have HF : Hid (fewW ops = false) := by show _ = _; unfold fewW; rw [decide_eq_false h60]; rfl
        go_wp2_with fail
        go_ret
        rw [HF.out]
        exact ⟨by simp <;> omega, hx⟩
theorem fewW_len {ops : List OpD} (h : fewW ops = true) : ops.length ≤ 60 := by
  unfold fewW at h
  simp at h
  exact h.1
theorem dataLen_bound (ops : List OpD) : dataLen ops ≤ ops.length * 4096 := by
  induction ops with
  | nil => simp [dataLen]
  | cons o l ih =>
    simp only [dataLen, List.map_cons, List.sum_cons, List.length_cons] at ih ⊢
    rw [Nat.add_mul, Nat.one_mul]
    omega
end Go.Proofs.Ytcgffpncfgmhkaa
