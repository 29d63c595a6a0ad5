import Derived.Test.YtcgffpncfgmhkaaT5
set_option linter.unusedVariables false
set_option maxRecDepth 100000
set_option maxHeartbeats 1000000
namespace Go.Proofs.Ytcgffpncfgmhkaa
open Go.Proofs Go.RowKit
open Go.Proofs.YtcgffpncfgmhkaaW.PrintWords

/-- Sectors that are all on a disk. -/
def insD (n : Nat) (at_ cnt : Int) : Bool := decide (0 ≤ at_) && decide (0 ≤ cnt) && decide (cnt ≤ (n : Int)) && decide (at_ ≤ (n : Int) - cnt)

theorem inside43 (A : Option Addr) (n c : Nat) (vc : Value) (x y : Int) (w : World) (hn : n ≤ 1000000) (hx : -9223372036854775808 ≤ x) (hx' : x ≤ 9223372036854775807) (hy : -9223372036854775808 ≤ y) (hy' : y ≤ 9223372036854775807) :
    Calls Try.prog 43 #[.agg #[.slice A n c, vc], .int .i64 x, .int .i64 y] w fun e w' => e = .returned (.bool (insD n x y)) ∧ Ext w w' := by
  have hE : ∀ b, insD n x y = b → Hid (insD n x y = b) := fun _ h => h
  by_cases h1 : 0 ≤ x
  · by_cases h2 : 0 ≤ y
    · by_cases h3 : y ≤ (n : Int)
      · by_cases h4 : x ≤ (n : Int) - y
        · have H := hE true (by simp [insD, h1, h2, h3, h4])
          clear hE
          go_enter Try.func43, Try.ntmps43
          go_wp2
          go_ret
          exact ⟨by rw [H.out]; rfl, (Ext.refl w).alloc _⟩
        · have H := hE false (by simp [insD, h1, h2, h3, h4])
          have hd : decide (x ≤ (n : Int) - y) = false := by simp [h4]
          clear hE
          go_enter Try.func43, Try.ntmps43
          go_wp2
          go_ret
          exact ⟨by rw [H.out]; first | rfl | (show Ending.returned (.bool (decide _)) = _; rw [hd]), (Ext.refl w).alloc _⟩
      · have H := hE false (by simp [insD, h1, h2, h3])
        clear hE
        go_enter Try.func43, Try.ntmps43
        go_wp2
        go_ret
        exact ⟨by rw [H.out]; rfl, (Ext.refl w).alloc _⟩
    · have H := hE false (by simp [insD, h1, h2])
      clear hE
      go_enter Try.func43, Try.ntmps43
      go_wp2
      go_ret
      exact ⟨by rw [H.out]; rfl, (Ext.refl w).alloc _⟩
  · have H := hE false (by simp [insD, h1])
    clear hE
    go_enter Try.func43, Try.ntmps43
    go_wp2
    go_ret
    exact ⟨by rw [H.out]; rfl, (Ext.refl w).alloc _⟩
end Go.Proofs.Ytcgffpncfgmhkaa
