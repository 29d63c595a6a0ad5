import Derived.Test.YtcgffpncfgmhkaaX4
set_option linter.unusedVariables false
set_option linter.unusedSimpArgs false
set_option maxRecDepth 100000
set_option maxHeartbeats 2000000
namespace Go.Proofs.Ytcgffpncfgmhkaa
open Go Go.Proofs Go.RowKit Go.Instr
open Go.Proofs.YtcgffpncfgmhkaaW.PrintWords

theorem Blk.f8 {w : World} {g t : Nat} {a0 a1 a2 a3 a4 a5 a6 a7 : Value} (h : Blk w g #[a0, a1, a2, a3, a4, a5, a6, a7] t) : w.cell? ⟨g, 0, none⟩ = some a0 ∧ w.cell? ⟨g, 1, none⟩ = some a1 ∧ w.cell? ⟨g, 2, none⟩ = some a2 ∧ w.cell? ⟨g, 3, none⟩ = some a3 ∧
    w.cell? ⟨g, 4, none⟩ = some a4 ∧ w.cell? ⟨g, 5, none⟩ = some a5 ∧ w.cell? ⟨g, 6, none⟩ = some a6 ∧ w.cell? ⟨g, 7, none⟩ = some a7 :=
  ⟨blk_cell h 0, blk_cell h 1, blk_cell h 2, blk_cell h 3, blk_cell h 4, blk_cell h 5, blk_cell h 6, blk_cell h 7⟩
theorem sector39 (b : Int) (w : World) : Calls Try.prog 39 #[.int .u8 b] w fun e w' => e = .returned (.agg #[.int .u8 b, .int .u8 0, .int .u8 0, .int .u8 0, .int .u8 0, .int .u8 0, .int .u8 0, .int .u8 0]) ∧ Ext w w' := by
  have B := Blk.new w #[.int .u8 b, .int .u8 0, .int .u8 0, .int .u8 0, .int .u8 0, .int .u8 0, .int .u8 0, .int .u8 0] 65
  obtain ⟨q0, q1, q2, q3, q4, q5, q6, q7⟩ := B.f8
  clear B
  go_enter Try.func39, Try.ntmps39
  go_wp2_with fail
  refine bodyPost_ret (v := .agg #[.int .u8 b, .int .u8 0, .int .u8 0, .int .u8 0, .int .u8 0, .int .u8 0, .int .u8 0, .int .u8 0]) (by simp [results, Try.results39, go_sem, q0, q1, q2, q3, q4, q5, q6, q7]) rfl ⟨rfl, ?_⟩
  exact (Ext.refl w).alloc _
theorem op40 (a : Int) (A : Option Addr) (n c : Nat) (w : World) : Calls Try.prog 40 #[.int .i64 a, .slice A n c] w fun e w' => e = .returned (.agg #[.int .i64 0, .int .i64 a, .slice A n c]) ∧ Ext w w' := by
  obtain ⟨q0, q1, q2, q3, q4, q5⟩ := (Blk.new w #[.int .i64 0, .int .i64 a, .slice A n c] 27).f3
  go_enter Try.func40, Try.ntmps40
  go_wp2_with fail
  refine bodyPost_ret (v := .agg #[.int .i64 0, .int .i64 a, .slice A n c]) (by simp [results, Try.results40, go_sem, q0, q1, q2]) rfl ⟨rfl, ?_⟩
  exact (Ext.refl w).alloc _
theorem op29 (w : World) : Calls Try.prog 29 #[] w fun e w' => e = .returned (.agg #[.int .i64 1, .int .i64 0, .slice none 0 0]) ∧ Ext w w' := by
  obtain ⟨q0, q1, q2, q3, q4, q5⟩ := (Blk.new w #[.int .i64 1, .int .i64 0, .slice none 0 0] 27).f3
  go_enter Try.func29, Try.ntmps29
  go_wp2_with fail
  refine bodyPost_ret (v := .agg #[.int .i64 1, .int .i64 0, .slice none 0 0]) (by simp [results, Try.results29, go_sem, q0, q1, q2]) rfl ⟨rfl, ?_⟩
  exact (Ext.refl w).alloc _

def CrPost (w w' : World) (e : Ending) (r : List Sec) : Prop := ∃ A c, e = .returned (.slice A r.length c) ∧ Rd w' 8 (.slice A r.length c) r.length (cellsOf Sec.c r) ∧ Ext w w'
theorem crashed41 (v vch : Value) (s : St) (ch : List Int) (w : World) (hd : DR w v s) (hr : Rd w 1 vch ch.length (cellsOf intC ch)) (hz : chkD s.1 s.2 = 0) (hn : s.1.length ≤ 4096) (hca : s.2.length ≤ 1000000) (hcl : ch.length ≤ 1000000) (hwf : ∀ x ∈ ch, I64 x) :
    Calls Try.prog 41 #[v, vch] w fun e w' => CrPost w w' e (crashD s ch).1 := by
  have hcr := fun W hx => crash22 v vch s ch W (hd.ext hx) (hr.ext hx) hz hn hca hcl hwf
  obtain ⟨A, c, A2, c2, rfl, h1, h2⟩ := hd
  obtain ⟨B, d, rfl⟩ := rd_slice hr
  go_enter Try.func41, Try.ntmps41
  go_wp2_with (first
    | (go_at_call 22; refine (hcr _ ((Ext.refl w).alloc _)).mono ?_; rintro e w3 ⟨v5, l5, rfl, ⟨A5, c5, A6, c6, rfl, hd5, hd6, hf5, hf6⟩, hl5, hlf5, hx5⟩)
    | fail)
  go_ret
  exact ⟨A5, c5, rfl, hd5.ext ((Ext.refl w3).alloc _), (((Ext.refl w).alloc _).trans hx5).alloc _⟩
end Go.Proofs.Ytcgffpncfgmhkaa
