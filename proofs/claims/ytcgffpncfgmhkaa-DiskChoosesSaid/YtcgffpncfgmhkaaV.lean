import Derived.Test.YtcgffpncfgmhkaaO
import Derived.Test.YtcgffpncfgmhkaaU2
set_option linter.unusedVariables false
set_option linter.unusedSimpArgs false
set_option maxRecDepth 100000
set_option maxHeartbeats 2000000
namespace Go.Proofs.Ytcgffpncfgmhkaa
open Go Go.Proofs Go.RowKit Go.Instr
open Go.Proofs.YtcgffpncfgmhkaaW.PrintWords

theorem crash22n (vd vch : Value) (s : St) (ch : List Int) (w : World) (hd : DR w vd s) (hz : chkD s.1 s.2 ≠ 0) (hn : s.1.length ≤ 1000000) (hca : s.2.length ≤ 1000000) :
    Calls Try.prog 22 #[vd, vch] w fun e w' => e = .returned (.tuple #[vd, vch]) ∧ Ext w w' := by
  obtain ⟨A, c, A2, c2, rfl, h1, h2⟩ := hd
  have hchk := fun W hx => check33 _ _ s.1 s.2 W (h1.ext hx) (h2.ext hx) hn hca
  generalize hres : chkD s.1 s.2 = err at *
  have hne : (err != 0) = true := by simpa using hz
  clear hres hz
  go_enter Try.func22, Try.ntmps22
  go_wp2_with (first
    | (go_at_call 33; refine (hchk _ (((Ext.refl w).alloc _).alloc _)).mono ?_; rintro e w1 ⟨rfl, hx1⟩; have B1 := ((Blk.new w _ _).alloc _).ext hx1; have C1 := (Blk.new (w.alloc (.cells #[.slice A s.1.length c, .slice A2 s.2.length c2] 25)) _ _).ext hx1; rw [World.size_alloc] at C1; obtain ⟨b1, b2, b3, b4⟩ := B1.f2; obtain ⟨y1, y2, y3, y4⟩ := C1.f2; have hlt1 := B1.lt; have hlt2 := C1.lt)
    | fail)
  refine bodyPost_ret (v := .tuple #[.agg #[.slice A s.1.length c, .slice A2 s.2.length c2], vch]) (by simp [results, Try.results22, go_sem, y1, y2, y3, y4]) rfl ⟨rfl, ?_⟩
  exact (((((Ext.refl w).alloc _).alloc _).trans hx1).set (by show w.heap.size ≤ w.heap.size + 1; omega) _).set (by show w.heap.size ≤ w.heap.size + 1; omega) _
end Go.Proofs.Ytcgffpncfgmhkaa
