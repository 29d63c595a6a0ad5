import Derived.Test.YtcgffpncfgmhkaaA
set_option linter.unusedVariables false
set_option linter.unusedSimpArgs false
set_option maxRecDepth 100000
set_option maxHeartbeats 2000000
namespace Go.Proofs.Ytcgffpncfgmhkaa
open Go Go.Proofs Go.RowKit Go.ChangeShapes Go.Deep
theorem ac56 : Try.prog.cellsOf 56 = 2 := by kernel_rfl
section
variable {H : Type} {enc : TypeId × Value → H} {w : World} {base : Nat} {spare : Nat → Bool} {held : Bool}
theorem open_break {r : Reach} {b0 : Nat} {v : Value} {d : DataW H} {p : List MemPlace} (hv : Value.okWide Try.prog w r b0 56 v) (h : DataW.Trod enc Try.prog w base spare held 56 v d p) :
    ∃ (a : Int) (A : Option Addr) (c : Nat) (l : List Int), v = .agg #[.int .i64 a, .slice A l.length c] ∧ I64 a ∧ Rd w 1 (.slice A l.length c) l.length (cellsOf intC l) ∧ l.length ≤ maxLen ∧ ∀ x ∈ l, I64 x := by
  obtain ⟨v0, v1, y0, y1, n, rfl, _, _, h0, h1⟩ := Go.Joins.open_agg2 Try.underlying56 (by kernel_rfl) ac56 hv h
  obtain ⟨a, e0, _, w0⟩ := DataW.trod_int Try.underlying3 h0
  obtain ⟨A, c, l, e1, r1, l1, hw⟩ := open_intc Try.underlying46 h1
  obtain rfl : v0 = .int .i64 a := by simpa using e0
  obtain rfl : v1 = .slice A l.length c := by simpa using e1
  exact ⟨a, A, c, l, rfl, i64_of w0, r1, l1, hw⟩
end
end Go.Proofs.Ytcgffpncfgmhkaa
