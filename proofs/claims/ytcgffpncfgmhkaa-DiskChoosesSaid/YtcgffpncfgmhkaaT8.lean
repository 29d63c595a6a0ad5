import Derived.Test.YtcgffpncfgmhkaaT7
set_option linter.unusedVariables false
set_option maxRecDepth 100000
set_option maxHeartbeats 2000000
namespace Go.Proofs.Ytcgffpncfgmhkaa
open Go.Proofs Go.RowKit
open Go.Proofs.YtcgffpncfgmhkaaW.PrintWords

/-- A disk of the executor, with its stable sectors. -/
structure EY (w0 w : World) (X : Nat) (As : Option Addr) (c1 : Nat) (Ac : Option Addr) (c2 : Nat) (st : List Sec) (ca : List (Int × Sec)) : Prop where
  x : EX w0 w X (.slice As st.length c1) Ac c2 ca
  own : w.ownsRow w0.heap.size 65 8 (.slice As st.length c1) st.length (cellsOf Sec.c st)
  ok : anyBad ca st.length = false
theorem EY.ext' {w0 w w1 : World} {X c1 c2 : Nat} {As Ac : Option Addr} {st : List Sec} {ca : List (Int × Sec)} (h : EY w0 w X As c1 Ac c2 st ca) (hx : Ext w w1) : EY w0 w1 X As c1 Ac c2 st ca :=
  ⟨h.x.ext' hx, own_ext h.own hx, h.ok⟩

def EYPost (w0 w w' : World) (X : Nat) (row : Option Nat) (st : List Sec) (ca : List (Int × Sec)) : Prop := ∃ A c A2 c2, EY w0 w' X A c A2 c2 st ca ∧ KeepBut w w' X row

theorem esync63 (w0 w : World) (X : Nat) (As : Option Addr) (c1 : Nat) (Ac : Option Addr) (c2 : Nat) (st : List Sec) (ca : List (Int × Sec)) (kind at_ : Int) (vd : Value) (row : Option Nat)
    (hE : EY w0 w X As c1 Ac c2 st ca) (hn : st.length ≤ 1000000) (hca : ca.length ≤ 1000000) :
    Calls Try.prog 63 #[.pointer (some ⟨X, 0, none⟩), .agg #[.int .i64 kind, .int .i64 at_, vd]] w fun e w' =>
      e = .returned (.int .i64 0) ∧ EYPost w0 w w' X row (newestD st ca) [] := by
  obtain ⟨⟨hb, ho, hx0, hB⟩, hso, hok⟩ := hE
  obtain ⟨b1, b2, b3, b4⟩ := hb.f2
  have hlt := hb.lt
  have hne : X ≠ w.heap.size := by omega
  have hcall := newest44 (.slice As st.length c1) (.slice Ac ca.length c2) st ca (w.alloc (.cells #[.int .i64 kind, .int .i64 at_, vd] 27)) ((Rd.own hso).ext ((Ext.refl w).alloc _)) ((Rd.own ho).ext ((Ext.refl w).alloc _)) hn hca hok
  have hnl := Lib.hid (newestD_len st ca)
  go_enter Try.func63, Try.ntmps63
  go_wp2_with (go_at_call 44; refine hcall.mono ?_; rintro e w1 ⟨A', c', rfl, ho1, hx1⟩; have hb1 := (hb.alloc (.cells #[.int .i64 kind, .int .i64 at_, vd] 27)).ext hx1; obtain ⟨e1, e2, e3, e4⟩ := hb1.f2)
  go_ret
  have hxx := ((Ext.refl w).alloc (.cells #[.int .i64 kind, .int .i64 at_, vd] 27)).trans hx1
  have hXo := own_ne ho1 hb1 (by omega : (65 : Nat) ≠ 91)
  have h65 := own_setCell (own_setCell ho1 hXo (p := ⟨X, 0, none⟩) (.slice A' st.length c')) hXo (p := ⟨X, 1, none⟩) (.slice none 0 0)
  refine ⟨rfl, A', c', none, 0, ⟨⟨?_, own_nil _ _ _ _, ?_, hB⟩, ?_, rfl⟩, ?_⟩
  · rw [hnl.out]; exact (hb1.set0 _).set1 _
  · exact ((hx0.trans hxx).set hB _).set hB _
  · rw [hnl.out]; exact own_low h65 (by have := hx0.size; simp; omega)
  · exact ((KeepBut.of_below hxx X row).set_ 0 _).set_ 1 _

theorem placed_mem {at_ : Int} {l : List Sec} {x : Int × Sec} (h : x ∈ placed at_ l) : at_ ≤ x.1 ∧ x.1 < at_ + (l.length : Int) := by
  unfold placed at h
  obtain ⟨⟨s, i⟩, hi, rfl⟩ := List.mem_map.1 h
  have := List.mem_zipIdx hi
  simp at this ⊢
  omega
theorem anyBad_of {ca : List (Int × Sec)} {n : Nat} (h : ∀ x ∈ ca, 0 ≤ x.1 ∧ x.1 < (n : Int)) : anyBad ca n = false := by
  unfold anyBad
  rw [List.any_eq_false]
  intro x hx
  have := h x hx
  simp
  omega
theorem placed_ok {n : Nat} {at_ : Int} {l : List Sec} {ca : List (Int × Sec)} (hi : insD n at_ l.length = true) (h : anyBad ca n = false) : anyBad (ca ++ placed at_ l) n = false := by
  refine anyBad_of fun x hx => ?_
  rcases List.mem_append.1 hx with hx | hx
  · exact anyBad_ok h x hx
  · have := placed_mem hx
    simp [insD] at hi
    omega

theorem ewriteY (w0 w : World) (X : Nat) (As : Option Addr) (c1 : Nat) (Ac : Option Addr) (c2 : Nat) (st : List Sec) (ca : List (Int × Sec)) (kind at_ : Int) (vd : Value) (data : List Sec)
    (hE : EY w0 w X As c1 Ac c2 st ca) (hd : Rd w0 8 vd data.length (cellsOf Sec.c data)) (hn : st.length ≤ 1000000) (hdw : data.length ≤ 9223372036854775807) (hca : insD st.length at_ data.length = true → ca.length + data.length ≤ 1000000)
    (hx : -9223372036854775808 ≤ at_) (hx' : at_ ≤ 9223372036854775807) :
    Calls Try.prog 62 #[.pointer (some ⟨X, 0, none⟩), .agg #[.int .i64 kind, .int .i64 at_, vd]] w fun e w' =>
      e = .returned (.int .i64 (if insD st.length at_ data.length then 0 else 2)) ∧
      EYPost w0 w w' X (Value.slice Ac ca.length c2).ownBlock st (if insD st.length at_ data.length then ca ++ placed at_ data else ca) := by
  refine (ewrite62 w0 w X As st.length c1 Ac c2 ca kind at_ vd data hE.x hd hn hdw hca hx hx').mono ?_
  rintro e w' ⟨he, Ac', c2', hE', hK⟩
  refine ⟨he, As, c1, Ac', c2', ⟨hE', ?_, ?_⟩, hK⟩
  · refine KeepBut.own hK hE.own ?_ ?_
    · have := own_ne hE.own hE.x.blk (by omega : (65 : Nat) ≠ 91)
      exact fun h => this h.symm
    · rcases own_type_ne hE.own hE.x.own (by omega : (65 : Nat) ≠ 67) with h | h
      · exact .inl h
      · exact .inr h
  · cases hq : insD st.length at_ data.length with
    | true => simpa using placed_ok hq hE.ok
    | false => simpa using hE.ok
end Go.Proofs.Ytcgffpncfgmhkaa
