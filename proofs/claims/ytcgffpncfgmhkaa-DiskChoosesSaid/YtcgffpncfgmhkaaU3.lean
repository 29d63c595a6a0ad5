import Derived.Test.YtcgffpncfgmhkaaU2
import Derived.Test.YtcgffpncfgmhkaaR
import Derived.Deep.QuietTactic
import Derived.BigQuiet
import Derived.Laws.MakeOwn
set_option linter.unusedVariables false
set_option linter.unusedSimpArgs false
set_option maxRecDepth 100000
set_option maxHeartbeats 2000000
namespace Go.Proofs.Ytcgffpncfgmhkaa
open Go.Proofs Go.RowKit
open Go.Proofs.YtcgffpncfgmhkaaW.PrintWords

/-- A decision. -/
def decD (ch : List Int) (n : Nat) : Int × List Int := match ch with
  | [] => (0, [])
  | c :: l => (c % (n : Int), l)
theorem tmod_pos (c : Int) (n : Nat) : ((c.tmod n) + n) % n = c % (n : Int) := by
  rw [Int.add_emod_right]
  have h4 : c.tmod n = c - (n : Int) * c.tdiv n := by have := Int.mul_tdiv_add_tmod c (n : Int); omega
  rw [h4, Int.sub_mul_emod_self_left]
def DecPost (w w' : World) (e : Ending) (vch : Value) (ch : List Int) (r : Int × List Int) : Prop :=
  ∃ v, e = .returned (.tuple #[.int .i64 r.1, v]) ∧ (∀ w0, Rd w0 1 vch ch.length (cellsOf intC ch) → Rd w0 1 v r.2.length (cellsOf intC r.2)) ∧ Ext w w'
theorem decide51 (vch : Value) (ch : List Int) (n : Nat) (w : World) (hr : Rd w 1 vch ch.length (cellsOf intC ch)) (hn : 0 < n) (hn2 : n ≤ 1000001) (hl : ch.length ≤ 1000000) (hwf : ∀ x ∈ ch, I64 x) :
    Calls Try.prog 51 #[vch, .int .i64 n] w fun e w' => DecPost w w' e vch ch (decD ch n) := by
  obtain ⟨A, c, rfl⟩ := rd_slice hr
  cases ch with
  | nil =>
    go_enter Try.func51, Try.ntmps51
    go_wp2
    go_ret2
    exact ⟨_, rfl, fun w0 _ => rd_nil _ _, Ext.refl _⟩
  | cons x l =>
    obtain ⟨hc1, hc2⟩ := hwf x (by simp)
    obtain ⟨b, off, rfl, hb, f0⟩ := rdI_at (j := 0) (x := x) hr rfl
    have hlen : (x :: l).length = l.length + 1 := rfl
    obtain ⟨i0, hi0, hz0, hz1, hz2⟩ := info_parts info3
    have hcut := cut_from (P := Try.prog) 46 3 .i64 Try.underlying46 hi0 1 hz1 (some ⟨b, off, none⟩) (l.length + 1) c 1 (by omega) (by omega)
    have hsub : ∀ w0, Rd w0 1 (.slice (some ⟨b, off, none⟩) (x :: l).length c) (x :: l).length (cellsOf intC (x :: l)) → Rd w0 1 (.slice (cutA (some ⟨b, off, none⟩) 1 1 c) l.length (c - 1)) l.length (cellsOf intC l) := by
      intro w0 h0
      have h9 := rd_len h0
      have := Rd.sub (n := l.length) (lo := 1) (m := c) (c' := c - 1) intC_len h0 (by rw [hlen]; omega) (by rw [hlen] at h9; omega) (by rw [hlen] at h9; omega)
      simpa using this
    have hcut' : ∀ W : World, (Instr.slice 46 (.slice (some ⟨b, off, none⟩) (l.length + 1) c) (some (.int .i64 1)) none none).run Try.prog W = .ok (.slice (cutA (some ⟨b, off, none⟩) 1 1 c) l.length (c - 1)) W := fun W => hcut W
    have f0' : w.cell? ⟨b, off, none⟩ = some (.int .i64 x) := f0
    have hn0 : (0 : Int) < (n : Int) := by omega
    have hnz : ¬ (n : Int) = 0 := by omega
    have hl0 : (0 : Int) < (l.length : Int) + 1 := by omega
    have hb1 := Int.tmod_lt_of_pos x (b := (n : Int)) hn0
    have hb2 : -(n : Int) < x.tmod n := by
      by_cases h : 0 ≤ x
      · have := Int.tmod_nonneg (n : Int) h; omega
      · have h3 : x = -(-x) := by omega
        rw [h3, Int.neg_tmod]
        have := Int.tmod_lt_of_pos (-x) (b := (n : Int)) hn0
        omega
    have HT := Lib.hid (tmod_pos x n)
    have w1 : IntKind.i64.wrap (x.tmod n) = x.tmod n := IntWalk.i64_in _ (by omega)
    have w2 : IntKind.i64.wrap (x.tmod n + n) = x.tmod n + n := IntWalk.i64_in _ (by omega)
    clear hcut f0
    go_enter Try.func51, Try.ntmps51
    go_wp2_with fail
    go_quiet (fail)
    go_wp2
    refine bodyPost_ret (results_tmp2 rfl _ _ _) rfl ?_
    refine ⟨_, ?_, hsub, (Ext.refl w).drewN _⟩
    show Ending.returned (.tuple #[.int .i64 ((x.tmod n + n) % n), _]) = _
    rw [HT.out]
    rfl
end Go.Proofs.Ytcgffpncfgmhkaa
