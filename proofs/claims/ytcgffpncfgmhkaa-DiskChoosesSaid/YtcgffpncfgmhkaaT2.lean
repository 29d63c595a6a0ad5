import Derived.Test.YtcgffpncfgmhkaaK
set_option linter.unusedVariables false
namespace Go.Proofs.Ytcgffpncfgmhkaa
open Go.Proofs Go.RowKit
open Go.Proofs.YtcgffpncfgmhkaaW.PrintWords

theorem info65 : (Try.prog.info? 65).map (fun i => (i.zero, i.size, i.bytes)) = some (some (.agg #[.int .u8 0, .int .u8 0, .int .u8 0, .int .u8 0, .int .u8 0, .int .u8 0, .int .u8 0, .int .u8 0]), 8, 8) := by kernel_rfl
theorem info67 : (Try.prog.info? 67).map (fun i => (i.zero, i.size, i.bytes)) = some (some (.agg #[.int .i64 0, .int .u8 0, .int .u8 0, .int .u8 0, .int .u8 0, .int .u8 0, .int .u8 0, .int .u8 0, .int .u8 0]), 9, 16) := by kernel_rfl

set_option maxHeartbeats 1000000 in
set_option maxRecDepth 100000 in
theorem clone48 (v : Value) (n : Nat) (cs : List Value) (w : World) (hr : Rd w 8 v n cs) (h1 : ∀ u ∈ cs, u.oneCell' = true) (hbig : n ≤ 1000000) :
    Calls Try.prog 48 #[v] w fun e w' => ∃ A' c', e = .returned (.slice A' n c') ∧ w'.ownsRow w.heap.size 65 8 (.slice A' n c') n cs ∧ Ext w w' := by
  obtain ⟨hl, A, c, rfl, hc, hr⟩ := hr
  have q22 : ∀ (w : World) (a : Option Addr) (n c n' c' : Nat), (binOp .eql 22 (.slice a n c) (.slice none n' c')).run Try.prog w = .ok (.bool a.isNone) w := fun w a n c n' c' => Lib.run_eql_slice_nil w _ _ a n c n' c' Try.underlying22
  cases A with
  | none =>
    have hn : n = 0 := by
      rcases Nat.eq_zero_or_pos n with h | h
      · exact h
      · obtain ⟨b, off, hb, _⟩ := hr h
        cases hb
    subst hn
    go_enter Try.func48, Try.ntmps48
    go_wp2
    go_ret
    exact ⟨_, _, rfl, ⟨hl, .inl ⟨rfl, rfl⟩⟩, Ext.refl _⟩
  | some ad =>
    obtain ⟨i0, hi, hz0, hz1, hz2⟩ := info_parts info65
    have HR := Lib.hid hr
    have HL := Lib.hid hl
    clear hr hl
    go_enter Try.func48, Try.ntmps48
    go_wp2_with (at_builtin; refine wpList_append_own _ rfl _ _ 22 rfl w.heap.size 65 i0 _ 8 8 Try.underlying22 hi hz0 hz1 hz2 rfl (by decide) _ _ _ rfl (World.ownsRow_made w #[] 0 (Nat.le_refl _) (Nat.zero_le _) (by simp)) ad n c cs rfl ?qc1 ?qc2 ?qc3 ?qc4 ?qc5 ?qc6 ?_)
    case qc1 => exact HL.out
    case qc2 =>
      intro j u hj
      have hn : 0 < n := pos_of_idx HL.out hj
      obtain ⟨b, off, hb, hlt, hcell⟩ := HR.out hn
      injection hb with hb
      subst hb
      rw [Addr.add_lit]
      exact Lib.cell?_alloc_some _ (hcell j u hj)
    case qc3 => exact h1
    case qc4 => simp only [maxLen]; omega
    case qc5 => omega
    case qc6 => simp
    intro v' w1 hown hgrow hnil
    go_wp2
    go_ret
    obtain ⟨A', c', rfl⟩ := own_slice hown
    refine ⟨A', c', rfl, by simpa using hown, ?_⟩
    exact ((Below.refl _ w).alloc (Nat.le_refl _) _).grown hgrow (by simp) (by intro k hk; simp [Value.ownBlock] at hk; omega)
set_option maxHeartbeats 1000000 in
set_option maxRecDepth 100000 in
theorem clone61 (v : Value) (n : Nat) (cs : List Value) (w : World) (hr : Rd w 9 v n cs) (h1 : ∀ u ∈ cs, u.oneCell' = true) (hbig : n ≤ 1000000) :
    Calls Try.prog 61 #[v] w fun e w' => ∃ A' c', e = .returned (.slice A' n c') ∧ w'.ownsRow w.heap.size 67 9 (.slice A' n c') n cs ∧ Ext w w' := by
  obtain ⟨hl, A, c, rfl, hc, hr⟩ := hr
  have q22 : ∀ (w : World) (a : Option Addr) (n c n' c' : Nat), (binOp .eql 23 (.slice a n c) (.slice none n' c')).run Try.prog w = .ok (.bool a.isNone) w := fun w a n c n' c' => Lib.run_eql_slice_nil w _ _ a n c n' c' Try.underlying23
  cases A with
  | none =>
    have hn : n = 0 := by
      rcases Nat.eq_zero_or_pos n with h | h
      · exact h
      · obtain ⟨b, off, hb, _⟩ := hr h
        cases hb
    subst hn
    go_enter Try.func61, Try.ntmps61
    go_wp2
    go_ret
    exact ⟨_, _, rfl, ⟨hl, .inl ⟨rfl, rfl⟩⟩, Ext.refl _⟩
  | some ad =>
    obtain ⟨i0, hi, hz0, hz1, hz2⟩ := info_parts info67
    have HR := Lib.hid hr
    have HL := Lib.hid hl
    clear hr hl
    go_enter Try.func61, Try.ntmps61
    go_wp2_with (at_builtin; refine wpList_append_own _ rfl _ _ 23 rfl w.heap.size 67 i0 _ 9 16 Try.underlying23 hi hz0 hz1 hz2 rfl (by decide) _ _ _ rfl (World.ownsRow_made w #[] 0 (Nat.le_refl _) (Nat.zero_le _) (by simp)) ad n c cs rfl ?qc1 ?qc2 ?qc3 ?qc4 ?qc5 ?qc6 ?_)
    case qc1 => exact HL.out
    case qc2 =>
      intro j u hj
      have hn : 0 < n := pos_of_idx HL.out hj
      obtain ⟨b, off, hb, hlt, hcell⟩ := HR.out hn
      injection hb with hb
      subst hb
      rw [Addr.add_lit]
      exact Lib.cell?_alloc_some _ (hcell j u hj)
    case qc3 => exact h1
    case qc4 => simp only [maxLen]; omega
    case qc5 => omega
    case qc6 => simp
    intro v' w1 hown hgrow hnil
    go_wp2
    go_ret
    obtain ⟨A', c', rfl⟩ := own_slice hown
    refine ⟨A', c', rfl, by simpa using hown, ?_⟩
    exact ((Below.refl _ w).alloc (Nat.le_refl _) _).grown hgrow (by simp) (by intro k hk; simp [Value.ownBlock] at hk; omega)
theorem info3 : (Try.prog.info? 3).map (fun i => (i.zero, i.size, i.bytes)) = some (some (.int .i64 0), 1, 8) := by kernel_rfl
set_option maxHeartbeats 1000000 in
set_option maxRecDepth 100000 in
theorem clone52 (v : Value) (n : Nat) (cs : List Value) (w : World) (hr : Rd w 1 v n cs) (h1 : ∀ u ∈ cs, u.oneCell' = true) (hbig : n ≤ 1000000) :
    Calls Try.prog 52 #[v] w fun e w' => ∃ A' c', e = .returned (.slice A' n c') ∧ w'.ownsRow w.heap.size 3 1 (.slice A' n c') n cs ∧ Ext w w' := by
  obtain ⟨hl, A, c, rfl, hc, hr⟩ := hr
  have q22 : ∀ (w : World) (a : Option Addr) (n c n' c' : Nat), (binOp .eql 46 (.slice a n c) (.slice none n' c')).run Try.prog w = .ok (.bool a.isNone) w := fun w a n c n' c' => Lib.run_eql_slice_nil w _ _ a n c n' c' Try.underlying46
  cases A with
  | none =>
    have hn : n = 0 := by
      rcases Nat.eq_zero_or_pos n with h | h
      · exact h
      · obtain ⟨b, off, hb, _⟩ := hr h
        cases hb
    subst hn
    go_enter Try.func52, Try.ntmps52
    go_wp2
    go_ret
    exact ⟨_, _, rfl, ⟨hl, .inl ⟨rfl, rfl⟩⟩, Ext.refl _⟩
  | some ad =>
    obtain ⟨i0, hi, hz0, hz1, hz2⟩ := info_parts info3
    have HR := Lib.hid hr
    have HL := Lib.hid hl
    clear hr hl
    go_enter Try.func52, Try.ntmps52
    go_wp2_with (at_builtin; refine wpList_append_own _ rfl _ _ 46 rfl w.heap.size 3 i0 _ 1 8 Try.underlying46 hi hz0 hz1 hz2 rfl (by decide) _ _ _ rfl (World.ownsRow_made w #[] 0 (Nat.le_refl _) (Nat.zero_le _) (by simp)) ad n c cs rfl ?qc1 ?qc2 ?qc3 ?qc4 ?qc5 ?qc6 ?_)
    case qc1 => exact HL.out
    case qc2 =>
      intro j u hj
      have hn : 0 < n := pos_of_idx HL.out hj
      obtain ⟨b, off, hb, hlt, hcell⟩ := HR.out hn
      injection hb with hb
      subst hb
      rw [Addr.add_lit]
      exact Lib.cell?_alloc_some _ (hcell j u hj)
    case qc3 => exact h1
    case qc4 => simp only [maxLen]; omega
    case qc5 => omega
    case qc6 => simp
    intro v' w1 hown hgrow hnil
    go_wp2
    go_ret
    obtain ⟨A', c', rfl⟩ := own_slice hown
    refine ⟨A', c', rfl, by simpa using hown, ?_⟩
    exact ((Below.refl _ w).alloc (Nat.le_refl _) _).grown hgrow (by simp) (by intro k hk; simp [Value.ownBlock] at hk; omega)
end Go.Proofs.Ytcgffpncfgmhkaa
