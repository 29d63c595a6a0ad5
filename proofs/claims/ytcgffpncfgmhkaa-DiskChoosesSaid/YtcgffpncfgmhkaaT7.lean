import Derived.Test.YtcgffpncfgmhkaaT6
import Derived.Deep.RegionHeld3
import Derived.Deep.AppendLies
import Derived.Deep.RegionLaw
import Derived.IntWalk
set_option linter.unusedVariables false
set_option maxRecDepth 100000
set_option maxHeartbeats 2000000
namespace Go.Proofs.Ytcgffpncfgmhkaa
open Go.Proofs Go.RowKit
open Go.Proofs.YtcgffpncfgmhkaaW.PrintWords

/-- Sectors placed one behind the other. -/
def placed (at_ : Int) (l : List Sec) : List (Int × Sec) := l.zipIdx.map fun p => (at_ + (p.2 : Int), p.1)
theorem placed_len (at_ : Int) (l : List Sec) : (placed at_ l).length = l.length := by simp [placed]
theorem placed_snoc (at_ : Int) (l : List Sec) (k : Nat) (x : Sec) (h : l[k]? = some x) : placed at_ (l.take (k + 1)) = placed at_ (l.take k) ++ [(at_ + (k : Int), x)] := by
  unfold placed
  have hk : k < l.length := (List.getElem?_eq_some_iff.1 h).1
  rw [List.take_add_one, h, List.zipIdx_append, List.map_append]
  simp
  omega

/-- A disk of the executor: its block, the cache its own. -/
structure EX (w0 w : World) (X : Nat) (vs : Value) (Ac : Option Addr) (c2 : Nat) (ca : List (Int × Sec)) : Prop where
  blk : Blk w X #[vs, .slice Ac ca.length c2] 91
  own : w.ownsRow w0.heap.size 67 9 (.slice Ac ca.length c2) ca.length (cellsOf cachedC ca)
  ext : Ext w0 w
  base : w0.heap.size ≤ X

theorem EX.ext' {w0 w w1 : World} {X c2 : Nat} {vs : Value} {Ac : Option Addr} {ca : List (Int × Sec)} (h : EX w0 w X vs Ac c2 ca) (hx : Ext w w1) : EX w0 w1 X vs Ac c2 ca :=
  ⟨h.blk.ext hx, own_ext h.own hx, h.ext.trans hx, h.base⟩

/-- What an operation of the executor leaves. -/
def EPost (w0 w w' : World) (X : Nat) (row : Option Nat) (n : Nat) (ca : List (Int × Sec)) : Prop :=
  ∃ As c1 Ac c2, EX w0 w' X (.slice As n c1) Ac c2 ca ∧ KeepBut w w' X row
def EWPost (w0 w w' : World) (X : Nat) (row : Option Nat) (vs : Value) (ca : List (Int × Sec)) : Prop :=
  ∃ Ac c2, EX w0 w' X vs Ac c2 ca ∧ KeepBut w w' X row

theorem Blk.set1 {w : World} {g t : Nat} {a b : Value} (h : Blk w g #[a, b] t) (u : Value) : Blk (w.setCell ⟨g, 1, none⟩ u) g #[a, u] t := by
  have := blk_set h 1 u
  unfold Blk
  simpa using this
theorem Blk.set0 {w : World} {g t : Nat} {a b : Value} (h : Blk w g #[a, b] t) (u : Value) : Blk (w.setCell ⟨g, 0, none⟩ u) g #[u, b] t := by
  have := blk_set h 0 u
  unfold Blk
  simpa using this
theorem Blk.far {w : World} {g t : Nat} {cs : Array Value} (h : Blk w g cs t) {p : Addr} (hne : g ≠ p.block) (u : Value) : Blk (w.setCell p u) g cs t := blk_far h hne u
theorem Blk.grown {w w1 : World} {g t : Nat} {cs : Array Value} {row : Option Nat} (h : Blk w g cs t) (hg : w.grownBy w1 row) (hne : some g ≠ row) : Blk w1 g cs t := blk_grown h hg hne
def OwnAt (Ac' Ac : Option Addr) (c2' c2 : Nat) (w : World) : Prop := (Value.slice Ac' 0 c2').ownBlock = (Value.slice Ac 0 c2).ownBlock ∨ ∃ b, (Value.slice Ac' 0 c2').ownBlock = some b ∧ w.heap.size ≤ b
theorem ownBlock_len (A : Option Addr) (n m c : Nat) : (Value.slice A n c).ownBlock = (Value.slice A m c).ownBlock := by cases A <;> rfl
theorem ew_step {w0 w wr wr2 w1 : World} {X gg cap c2 c2' : Nat} {vs : Value} {Ac Ac' : Option Addr} {ca cur cur2 : List (Int × Sec)} {y : Int × Sec} {bx : Array Value}
    (hE : EX w0 wr X vs Ac' c2' cur) (hK : KeepBut w wr X (Value.slice Ac ca.length c2).ownBlock) (hat : OwnAt Ac' Ac c2' c2 w) (G : Blk wr w.heap.size bx 27) (hwX : X < w.heap.size) (hr2 : Ext wr wr2)
    (hown1 : w1.ownsRow w0.heap.size 67 9 (.slice (some ⟨gg, 0, none⟩) (cur.length + 1) cap) (cur.length + 1) (cellsOf cachedC cur ++ cachedC y)) (hgrow : wr2.grownBy w1 (Value.slice Ac' cur.length c2').ownBlock)
    (hat1 : (Value.slice Ac' cur.length c2').ownBlock = some gg ∨ gg = wr2.heap.size) (hc : cur2 = cur ++ [y]) :
    EX w0 (w1.setCell ⟨X, 1, none⟩ (.slice (some ⟨gg, 0, none⟩) (cur.length + 1) cap)) X vs (some ⟨gg, 0, none⟩) cap cur2 ∧
    KeepBut w (w1.setCell ⟨X, 1, none⟩ (.slice (some ⟨gg, 0, none⟩) (cur.length + 1) cap)) X (Value.slice Ac ca.length c2).ownBlock ∧ OwnAt (some ⟨gg, 0, none⟩) Ac cap c2 w ∧
    Blk (w1.setCell ⟨X, 1, none⟩ (.slice (some ⟨gg, 0, none⟩) (cur.length + 1) cap)) w.heap.size bx 27 := by
  have hXo := own_ne hE.own hE.blk (by omega : (67 : Nat) ≠ 91)
  have hGo := own_ne hE.own G (by omega : (67 : Nat) ≠ 27)
  have hX1 := (hE.blk.ext hr2).grown hgrow hXo
  have hG1 := (G.ext hr2).grown hgrow hGo
  have hXn := own_ne hown1 hX1 (by omega : (67 : Nat) ≠ 91)
  have hlen : cur2.length = cur.length + 1 := by rw [hc, List.length_append]; rfl
  have hsz : w.heap.size ≤ wr.heap.size := hK.1
  refine ⟨⟨?_, ?_, ?_, hE.base⟩, ?_, ?_, ?_⟩
  · rw [hlen]; exact hX1.set1 _
  · rw [hlen, hc, cellsOf_append]
    have : cellsOf cachedC [y] = cachedC y := by simp [cellsOf]
    rw [this]
    exact own_setCell hown1 hXn _
  · exact ((hE.ext.trans hr2).grown hgrow (fun k hk => own_base hE.own k hk)).set hE.base _
  · refine KeepBut.set_ ?_ 1 _
    have h1 : KeepBut wr w1 X (Value.slice Ac' cur.length c2').ownBlock := (KeepBut.of_below hr2 X _).trans (KeepBut.of_grown hgrow X) (.inl rfl)
    refine hK.trans h1 ?_
    rw [ownBlock_len Ac' cur.length 0, ownBlock_len Ac ca.length 0]
    exact hat
  · rcases hat1 with h | h
    · unfold OwnAt at hat ⊢
      have e : (Value.slice (some (⟨gg, 0, none⟩ : Addr)) 0 cap).ownBlock = (Value.slice Ac' 0 c2').ownBlock := by rw [ownBlock_len Ac' 0 cur.length, h]; rfl
      rw [e]; exact hat
    · exact .inr ⟨gg, rfl, by rw [h]; have := hr2.size; omega⟩
  · exact hG1.far (by show w.heap.size ≠ X; omega) _

theorem ewrite62 (w0 w : World) (X : Nat) (As : Option Addr) (n c1 : Nat) (Ac : Option Addr) (c2 : Nat) (ca : List (Int × Sec)) (kind at_ : Int) (vd : Value) (data : List Sec)
    (hE : EX w0 w X (.slice As n c1) Ac c2 ca) (hd : Rd w0 8 vd data.length (cellsOf Sec.c data)) (hn : n ≤ 1000000) (hdw : data.length ≤ 9223372036854775807) (hca : insD n at_ data.length = true → ca.length + data.length ≤ 1000000)
    (hx : -9223372036854775808 ≤ at_) (hx' : at_ ≤ 9223372036854775807) :
    Calls Try.prog 62 #[.pointer (some ⟨X, 0, none⟩), .agg #[.int .i64 kind, .int .i64 at_, vd]] w fun e w' =>
      e = .returned (.int .i64 (if insD n at_ data.length then 0 else 2)) ∧
      EWPost w0 w w' X (Value.slice Ac ca.length c2).ownBlock (.slice As n c1) (if insD n at_ data.length then ca ++ placed at_ data else ca) := by
  obtain ⟨A, c, rfl⟩ := rd_slice hd
  obtain ⟨hb, ho, hx0, hB⟩ := hE
  obtain ⟨b1, b2, b3, b4⟩ := hb.f2
  have hlt0 := hb.lt
  have hne : X ≠ w.heap.size := by omega
  have hcall := fun W => inside43 As n c1 (.slice Ac ca.length c2) at_ (data.length : Int) W hn hx hx' (by omega) (by omega)
  generalize hq : insD n at_ data.length = q at hcall
  cases q with
  | false =>
    clear hca
    go_enter Try.func62, Try.ntmps62
    go_wp2_with fail
    go_region_held3 (fun w' => w'.cell? ⟨X, 0, none⟩ = some (.slice As n c1) ∧ w'.cell? ⟨X, 1, none⟩ = some (.slice Ac ca.length c2) ∧ w'.cell? ⟨w.heap.size, 1, none⟩ = some (.int .i64 at_) ∧ w'.cell? ⟨w.heap.size, 2, none⟩ = some (.slice A data.length c))
      (first | go_keep)
      (first | (go_at_call 43; refine (hcall _).mono ?_; rintro e w1 ⟨rfl, hx1⟩; obtain ⟨e1, e2, e3, e4⟩ := ((hb.alloc _).drew.ext hx1).f2; obtain ⟨g1, g2, g3, g4⟩ := ((Blk.new w _ _).drew.ext hx1).f3))
    go_wp2
    go_ret
    have hxx := ((Ext.refl w).alloc _).drew.trans hx1
    exact ⟨rfl, ⟨_, _, EX.ext' ⟨hb, ho, hx0, hB⟩ hxx, KeepBut.of_below hxx _ _⟩⟩
  | true =>
    replace hca := hca hq
    have hq' : 0 ≤ at_ ∧ at_ + (data.length : Int) ≤ (n : Int) := by simp [insD] at hq; omega
    obtain ⟨hq1, hq2⟩ := hq'
    clear hq
    obtain ⟨i0, hi0, hz0, hz1, hz2⟩ := info_parts info67
    go_enter Try.func62, Try.ntmps62
    go_wp2_with fail
    go_region_held3 (fun w' => w'.cell? ⟨X, 0, none⟩ = some (.slice As n c1) ∧ w'.cell? ⟨X, 1, none⟩ = some (.slice Ac ca.length c2) ∧ w'.cell? ⟨w.heap.size, 1, none⟩ = some (.int .i64 at_) ∧ w'.cell? ⟨w.heap.size, 2, none⟩ = some (.slice A data.length c))
      (first | go_keep)
      (first | (go_at_call 43; refine (hcall _).mono ?_; rintro e w1 ⟨rfl, hx1⟩; obtain ⟨e1, e2, e3, e4⟩ := ((hb.alloc _).drew.ext hx1).f2; have G0 := (Blk.new w _ _).drew.ext hx1; obtain ⟨g1, g2, g3, g4, g5, g6⟩ := G0.f3))
    have hxx := ((Ext.refl w).alloc _).drew.trans hx1
    have hE1 := EX.ext' ⟨hb, ho, hx0, hB⟩ hxx
    have hK1 := KeepBut.of_below hxx X (Value.slice Ac ca.length c2).ownBlock
    have hpl : placed at_ (data.take 0) = [] := rfl
    have HP := Lib.hid hpl
    clear hpl hcall hxx hx1
    go_wp2_with fail
    go_loopw [21] (fun t wr => ∃ k : Nat, k ≤ data.length ∧ t = .int .i64 k ∧ Blk wr w.heap.size #[.int .i64 kind, .int .i64 at_, .slice A data.length c] 27 ∧
      ∃ Ac' c2', EX w0 wr X (.slice As n c1) Ac' c2' (ca ++ placed at_ (data.take k)) ∧ KeepBut w wr X (Value.slice Ac ca.length c2).ownBlock ∧
        OwnAt Ac' Ac c2' c2 w) (fun t _ => data.length - (intOf t).toNat)
    case atStart => exact ⟨0, Nat.zero_le _, rfl, G0, Ac, c2, by rw [HP.out, List.append_nil]; exact hE1, hK1, .inl rfl⟩
    case round =>
      obtain ⟨k, hk, rfl, G, Ac', c2', hE, hK, hat⟩ := hrel
      by_cases hlt : k < data.length
      · obtain ⟨x, hkx⟩ : ∃ x, data[k]? = some x := ⟨_, List.getElem?_eq_getElem hlt⟩
        obtain ⟨b, off, rfl, hbl, f0, f1, f2, f3, f4, f5, f6, f7⟩ := rdS_at (hd.ext hE.ext) hkx
        have hltz : (k : Int) < (data.length : Int) := by omega
        have hS : Hid (ca ++ placed at_ (data.take (k + 1)) = (ca ++ placed at_ (data.take k)) ++ [(at_ + (k : Int), x)]) := by show _ = _; rw [placed_snoc at_ data k x hkx, List.append_assoc]
        obtain ⟨m1, m2, m3, m4⟩ := hE.blk.f2
        obtain ⟨n1, n2, n3, n4, n5, n6⟩ := G.f3
        have hXl := hE.blk.lt
        have hGl := G.lt
        have hXne : X ≠ wr.heap.size := by omega
        have hGne : w.heap.size ≠ wr.heap.size := by omega
        have hXG : X ≠ w.heap.size := by omega
        have hlen : (ca ++ placed at_ (data.take k)).length = ca.length + k := by rw [List.length_append, placed_len, List.length_take]; omega
        have HLEN := Lib.hid hlen
        have hXo := own_ne hE.own hE.blk (by omega : (67 : Nat) ≠ 91)
        have hGo := own_ne hE.own G (by omega : (67 : Nat) ≠ 27)
        have hbnd : (ca ++ placed at_ (data.take k)).length ≤ 1000000 := by omega
        clear hkx hlen
        generalize ca ++ placed at_ (data.take k) = cur at *
        go_wp2_with fail
        have hwr : IntKind.i64.wrap (at_ + (k : Int)) = at_ + (k : Int) := IntWalk.i64_in _ (by omega)
        go_region_law (first
          | (refine step_append_lies _ (by rfl) _ _ _ (by rfl) w0.heap.size 67 i0 _ 9 16 Try.underlying23 hi0 hz0 hz1 hz2 rfl (by omega) (.slice Ac' cur.length c2') cur.length (cellsOf cachedC cur) (by rfl) (own_ext hE.own (((Ext.refl wr).alloc _).alloc _).drew)
              ⟨wr.heap.size + 1, 0, none⟩ 1 1 (cachedC (at_ + (k : Int), x)) (by rfl) (by rfl) (World.news_of_block (cs := (cachedC (at_ + (k : Int), x)).toArray) (t := 67) (fr := (0, 0)) (heap_alloc2_new wr _ _)) (cachedC_one _) (by omega) (by unfold maxLen; omega) (by omega) (by have := hE.ext.size; simp; omega) (wr.heap.size + 2) (by simp) ?_; intro gg cap w1 hown1 hgrow hat1 hlt1; have hgX : some X ≠ (Value.slice Ac' cur.length c2').ownBlock := hXo; obtain ⟨z1, z2, z3, z4⟩ := (show Blk w1 X _ _ from blk_grown (hE.blk.ext (((Ext.refl wr).alloc _).alloc _).drew) hgrow hXo).f2))
        all_goals
          go_wp2
          go_roundw
          case rel =>
            obtain ⟨r1, r2, r3, r4⟩ := ew_step hE hK hat G hlt0 (((Ext.refl wr).alloc _).alloc _).drew hown1 hgrow (by simpa using hat1) hS.out
            exact ⟨k + 1, by omega, by go_num, r4, _, _, r1, r2, r3⟩
          case measure => simp [intOf]; omega
      · have hltz : ¬ (k : Int) < (data.length : Int) := by omega
        have hk' : k = data.length := by omega
        go_wp2
        go_ret
        rw [hk', List.take_length] at hE
        exact ⟨rfl, ⟨_, _, hE, hK⟩⟩
end Go.Proofs.Ytcgffpncfgmhkaa
