import Derived.Test.YtcgffpncfgmhkaaT8
import Derived.Laws.EntriesVeiled
set_option linter.unusedVariables false
set_option maxRecDepth 100000
set_option maxHeartbeats 2000000
namespace Go.Proofs.Ytcgffpncfgmhkaa
open Go.Proofs Go.RowKit
open Go.Proofs.YtcgffpncfgmhkaaW.PrintWords

/-- An operation. -/
structure OpD where
  kind : Int
  at_ : Int
  data : List Sec
def I64 (x : Int) : Prop := -9223372036854775808 ≤ x ∧ x ≤ 9223372036854775807
def OpD.wf (o : OpD) : Prop := I64 o.kind ∧ I64 o.at_ ∧ o.data.length ≤ 9223372036854775807
def OpsWf (l : List OpD) : Prop := ∀ (j : Nat) (o : OpD), l[j]? = some o → o.wf
def dataLen (l : List OpD) : Nat := (l.map fun o => min o.data.length 4096).sum
/-- A slice of operations that reads. -/
def RdO (w : World) (v : Value) (ops : List OpD) : Prop :=
  ∃ A c, v = .slice A ops.length c ∧ ops.length ≤ c ∧ (0 < ops.length → ∃ b off, A = some ⟨b, off, none⟩ ∧ b < w.heap.size ∧ ∀ j o, ops[j]? = some o → ∃ vd, w.cell? ⟨b, off + j * 3, none⟩ = some (.int .i64 o.kind) ∧
    w.cell? ⟨b, off + j * 3 + 1, none⟩ = some (.int .i64 o.at_) ∧ w.cell? ⟨b, off + j * 3 + 2, none⟩ = some vd ∧ Rd w 8 vd o.data.length (cellsOf Sec.c o.data))
theorem RdO.ext {w w1 : World} {v : Value} {ops : List OpD} (h : RdO w v ops) (hx : Ext w w1) : RdO w1 v ops := by
  obtain ⟨A, c, hv, hc, hr⟩ := h
  refine ⟨A, c, hv, hc, fun hp => ?_⟩
  obtain ⟨b, off, hA, hb, H⟩ := hr hp
  refine ⟨b, off, hA, Nat.lt_of_lt_of_le hb hx.size, fun j o hj => ?_⟩
  obtain ⟨vd, h1, h2, h3, h4⟩ := H j o hj
  exact ⟨vd, pw_cell_below hx h1, pw_cell_below hx h2, pw_cell_below hx h3, h4.ext hx⟩
theorem rdO_at {w : World} {A : Option Addr} {m c j : Nat} {ops : List OpD} {o : OpD} (h : RdO w (.slice A m c) ops) (hj : ops[j]? = some o) :
    ∃ b off vd, A = some ⟨b, off, none⟩ ∧ b < w.heap.size ∧ w.cell? ⟨b, off + j * 3, none⟩ = some (.int .i64 o.kind) ∧
    w.cell? ⟨b, off + j * 3 + 1, none⟩ = some (.int .i64 o.at_) ∧ w.cell? ⟨b, off + j * 3 + 2, none⟩ = some vd ∧ Rd w 8 vd o.data.length (cellsOf Sec.c o.data) := by
  obtain ⟨A', c', hv, _, hr⟩ := h
  injection hv with h1 h2 h3
  subst h1
  obtain ⟨b, off, hA, hb, H⟩ := hr (by have := (List.getElem?_eq_some_iff.1 hj).1; omega)
  obtain ⟨vd, h1, h2, h3, h4⟩ := H j o hj
  exact ⟨b, off, vd, hA, hb, h1, h2, h3, h4⟩
theorem rdO_slice {w : World} {v : Value} {ops : List OpD} (h : RdO w v ops) : ∃ A c, v = .slice A ops.length c := by
  obtain ⟨A, c, hv, _⟩ := h
  exact ⟨A, c, hv⟩

/-- The state of a disk. -/
abbrev St := List Sec × List (Int × Sec)
def stepD (s : St) (o : OpD) : Int × St :=
  if o.kind = 0 then (if insD s.1.length o.at_ o.data.length then (0, (s.1, s.2 ++ placed o.at_ o.data)) else (2, s)) else if o.kind = 1 then (0, (newestD s.1 s.2, [])) else (1, s)
def runD : List OpD → Nat → St → Nat × Int × St
  | [], i, s => (i, 0, s)
  | o :: l, i, s => if (stepD s o).1 = 0 then runD l (i + 1) (stepD s o).2 else (i, (stepD s o).1, s)
theorem runD_at {l : List OpD} {k : Nat} {o : OpD} (hk : l[k]? = some o) (s : St) : runD (l.drop k) k s = if (stepD s o).1 = 0 then runD (l.drop (k + 1)) (k + 1) (stepD s o).2 else (k, (stepD s o).1, s) := by
  rw [List.drop_eq_getElem?_toList_append, hk]
  rfl
theorem dataLen_at {l : List OpD} {k : Nat} {o : OpD} (hk : l[k]? = some o) : dataLen (l.drop k) = min o.data.length 4096 + dataLen (l.drop (k + 1)) := by
  rw [List.drop_eq_getElem?_toList_append, hk]
  simp [dataLen]

/-- What a run of the executor leaves. -/
def RunPost (w0 w' : World) (X : Nat) (s : St) : Prop := ∃ A c A2 c2, EY w0 w' X A c A2 c2 s.1 s.2

theorem erun47 (w0 w : World) (X : Nat) (As : Option Addr) (c1 : Nat) (Ac : Option Addr) (c2 : Nat) (st : List Sec) (ca : List (Int × Sec)) (vo : Value) (ops : List OpD)
    (hE : EY w0 w X As c1 Ac c2 st ca) (hr : RdO w0 vo ops) (hwf : OpsWf ops) (hn : st.length ≤ 4096) (hol : ops.length ≤ 1000000) (hca : ca.length + dataLen ops ≤ 1000000) :
    Calls Try.prog 47 #[.pointer (some ⟨X, 0, none⟩), vo] w fun e w' =>
      e = .returned (.tuple #[.int .i64 (runD ops 0 (st, ca)).1, .int .i64 (runD ops 0 (st, ca)).2.1]) ∧ RunPost w0 w' X (runD ops 0 (st, ca)).2.2 := by
  obtain ⟨A, c, rfl⟩ := rdO_slice hr
  have hlt0 := hE.x.blk.lt
  generalize hres : runD ops 0 (st, ca) = res
  have HR := Lib.hid hres
  clear hres
  go_enter Try.func47, Try.ntmps47
  go_wp2_with fail
  have hK0 := Blk.new w #[.func (.func 62) #[.pointer (some ⟨X, 0, none⟩)] #[], .func (.func 63) #[.pointer (some ⟨X, 0, none⟩)] #[]] 115
  have hE0 := hE.ext' ((Ext.refl w).alloc (.cells #[.func (.func 62) #[.pointer (some ⟨X, 0, none⟩)] #[], .func (.func 63) #[.pointer (some ⟨X, 0, none⟩)] #[]] 115))
  go_loopw [17] (fun t wr => ∃ k : Nat, k ≤ ops.length ∧ t = .int .i64 k ∧ Blk wr w.heap.size #[.func (.func 62) #[.pointer (some ⟨X, 0, none⟩)] #[], .func (.func 63) #[.pointer (some ⟨X, 0, none⟩)] #[]] 115 ∧
     ∃ As c1 Ac c2 st' ca', EY w0 wr X As c1 Ac c2 st' ca' ∧ Hid (st'.length = st.length) ∧ ca'.length + dataLen (ops.drop k) ≤ 1000000 ∧ Hid (res = runD (ops.drop k) k (st', ca'))) (fun t _ => ops.length - (intOf t).toNat)
  case atStart => exact ⟨0, Nat.zero_le _, rfl, hK0, As, c1, Ac, c2, st, ca, hE0, rfl, hca, HR.out.symm⟩
  case round =>
    obtain ⟨k, hk, rfl, hK, As, c1, Ac, c2, st', ca', hE, hst, hdl, hres⟩ := hrel
    by_cases hlt : k < ops.length
    · obtain ⟨o, hko⟩ : ∃ o, ops[k]? = some o := ⟨_, List.getElem?_eq_getElem hlt⟩
      have hEx := hE.x.ext
      obtain ⟨b, off, vd, rfl, hbl, f0', f1', f2', hd⟩ := rdO_at hr hko
      obtain ⟨Av, cv, rfl⟩ := rd_slice hd
      have f0 := pw_cell_below hEx f0'
      have f1 := pw_cell_below hEx f1'
      have f2 := pw_cell_below hEx f2'
      clear f0' f1' f2'
      obtain ⟨⟨hk1, hk2⟩, ⟨ha1, ha2⟩, hdw⟩ := hwf k o hko
      have hltz : (k : Int) < (ops.length : Int) := by omega
      have hstep := hres.out.trans (runD_at hko (st', ca'))
      have hdat := dataLen_at hko
      have HST := Lib.hid hstep
      have HD := Lib.hid hdat
      have hst4 : st'.length ≤ 4096 := by rw [hst.out]; exact hn
      have hdl2 : insD st'.length o.at_ o.data.length = true → ca'.length + o.data.length ≤ 1000000 := fun hi => by
        have h4 : (o.data.length : Int) ≤ (st'.length : Int) := by simp [insD] at hi; omega
        omega
      have HLE : Hid (insD st'.length o.at_ o.data.length = true → o.data.length ≤ 4096) := fun hi => by
        have h4 : (o.data.length : Int) ≤ (st'.length : Int) := by simp [insD] at hi; omega
        omega
      have hdl4 : ca'.length ≤ 1000000 := by omega
      clear hstep hdat hres hko
      have hXl := hE.x.blk.lt
      have hKl := hK.lt
      have hXK : X ≠ w.heap.size := by omega
      have hstl : st'.length ≤ 1000000 := by omega
      obtain ⟨k1, k2, k3, k4⟩ := hK.f2
      by_cases h0 : o.kind = 0
      · rw [h0] at f0
        have hW := hE.ext' (((Ext.refl wr).alloc (.cells #[.int .i64 0, .int .i64 o.at_, .slice Av o.data.length cv] 27)).drew)
        have hcall := ewriteY w0 _ X As c1 Ac c2 st' ca' 0 o.at_ (.slice Av o.data.length cv) o.data hW hd hstl hdw hdl2 ha1 ha2
        clear hdl2
        have hKo := own_ne hW.x.own ((hK.alloc (.cells #[.int .i64 0, .int .i64 o.at_, .slice Av o.data.length cv] 27)).drew) (by omega : (67 : Nat) ≠ 115)
        have hGo := own_ne hW.x.own ((Blk.new wr #[.int .i64 0, .int .i64 o.at_, .slice Av o.data.length cv] 27).drew) (by omega : (67 : Nat) ≠ 27)
        clear hW
        cases hq : insD st'.length o.at_ o.data.length with
        | true =>
          rw [hq] at hcall
          simp only [if_true] at hcall
          have hsd : stepD (st', ca') o = (0, (st', ca' ++ placed o.at_ o.data)) := by simp [stepD, h0, hq]
          have HSD := Lib.hid hsd
          have HL4 : Hid (o.data.length ≤ 4096) := HLE.out hq
          clear hsd hq h0
          go_wp2_with fail
          go_region_held3 (fun w' => w'.cell? ⟨w.heap.size, 0, none⟩ = some (.func (.func 62) #[.pointer (some ⟨X, 0, none⟩)] #[]) ∧ w'.cell? ⟨w.heap.size, 1, none⟩ = some (.func (.func 63) #[.pointer (some ⟨X, 0, none⟩)] #[]) ∧
          w'.cell? ⟨wr.heap.size, 0, none⟩ = some (.int .i64 0) ∧ w'.cell? ⟨wr.heap.size, 1, none⟩ = some (.int .i64 o.at_) ∧ w'.cell? ⟨wr.heap.size, 2, none⟩ = some (.slice Av o.data.length cv)) (first | go_keep) (first | (go_at_call 62; refine (hcall).mono ?_; rintro e w1 ⟨rfl, A1, d1, A2, d2, hE1, hKB⟩; have hK1 := KeepBut.blk hKB (hK.ext (((Ext.refl wr).alloc _).drew)) (by omega) hKo; have hG1 := KeepBut.blk hKB (Blk.new wr _ _).drew (by omega) hGo; obtain ⟨e1, e2, e3, e4⟩ := (show Blk _ _ _ _ from hK1).f2; obtain ⟨g1, g2, g3, g4, g5, g6⟩ := (show Blk _ _ _ _ from hG1).f3))
          go_wp2
          go_roundw
          case rel =>
            refine ⟨k + 1, by omega, by go_num, hK1, A1, d1, A2, d2, _, _, hE1, hst, ?_, ?_⟩
            · rw [List.length_append, placed_len]; have := HD.out; have := HL4.out; omega
            · show _ = _
              rw [HST.out, HSD.out]; rfl
          case measure => simp [intOf]; omega
        | false =>
          rw [hq] at hcall
          simp only [Bool.false_eq_true, if_false] at hcall
          have hsd : stepD (st', ca') o = (2, (st', ca')) := by simp [stepD, h0, hq]
          have HSD := Lib.hid hsd
          clear hsd hq h0
          go_wp2_with fail
          go_region_held3 (fun w' => w'.cell? ⟨w.heap.size, 0, none⟩ = some (.func (.func 62) #[.pointer (some ⟨X, 0, none⟩)] #[]) ∧ w'.cell? ⟨w.heap.size, 1, none⟩ = some (.func (.func 63) #[.pointer (some ⟨X, 0, none⟩)] #[]) ∧
          w'.cell? ⟨wr.heap.size, 0, none⟩ = some (.int .i64 0) ∧ w'.cell? ⟨wr.heap.size, 1, none⟩ = some (.int .i64 o.at_) ∧ w'.cell? ⟨wr.heap.size, 2, none⟩ = some (.slice Av o.data.length cv)) (first | go_keep) (first | (go_at_call 62; refine (hcall).mono ?_; rintro e w1 ⟨rfl, A1, d1, A2, d2, hE1, hKB⟩; have hK1 := KeepBut.blk hKB (hK.ext (((Ext.refl wr).alloc _).drew)) (by omega) hKo; have hG1 := KeepBut.blk hKB (Blk.new wr _ _).drew (by omega) hGo; obtain ⟨e1, e2, e3, e4⟩ := (show Blk _ _ _ _ from hK1).f2; obtain ⟨g1, g2, g3, g4, g5, g6⟩ := (show Blk _ _ _ _ from hG1).f3))
          go_wp2
          go_ret2
          have h2 := HST.out
          rw [HSD.out] at h2
          simp only [show ¬ ((2 : Int) = 0) by decide, if_false] at h2
          rw [h2]
          exact ⟨rfl, A1, d1, A2, d2, hE1⟩
      · by_cases h1 : o.kind = 1
        · rw [h1] at f0
          have hW := hE.ext' (((Ext.refl wr).alloc (.cells #[.int .i64 1, .int .i64 o.at_, .slice Av o.data.length cv] 27)).drew)
          have hcall := esync63 w0 _ X As c1 Ac c2 st' ca' 1 o.at_ (.slice Av o.data.length cv) none hW hstl (by omega)
          have hKo : some w.heap.size ≠ none := by simp
          have hGo : some wr.heap.size ≠ none := by simp
          clear hW
          have hsd : stepD (st', ca') o = (0, (newestD st' ca', [])) := by simp [stepD, h1]
          have HSD := Lib.hid hsd
          have HNL := Lib.hid ((newestD_len st' ca').trans hst.out)
          have hdl3 : dataLen (ops.drop (k + 1)) ≤ 1000000 := by have := HD.out; omega
          clear hsd h0 h1
          go_wp2_with fail
          go_region_held3 (fun w' => w'.cell? ⟨w.heap.size, 0, none⟩ = some (.func (.func 62) #[.pointer (some ⟨X, 0, none⟩)] #[]) ∧ w'.cell? ⟨w.heap.size, 1, none⟩ = some (.func (.func 63) #[.pointer (some ⟨X, 0, none⟩)] #[]) ∧
          w'.cell? ⟨wr.heap.size, 0, none⟩ = some (.int .i64 1) ∧ w'.cell? ⟨wr.heap.size, 1, none⟩ = some (.int .i64 o.at_) ∧ w'.cell? ⟨wr.heap.size, 2, none⟩ = some (.slice Av o.data.length cv)) (first | go_keep) (first | (go_at_call 63; refine (hcall).mono ?_; rintro e w1 ⟨rfl, A1, d1, A2, d2, hE1, hKB⟩; have hK1 := KeepBut.blk hKB (hK.ext (((Ext.refl wr).alloc _).drew)) (by omega) hKo; have hG1 := KeepBut.blk hKB (Blk.new wr _ _).drew (by omega) hGo; obtain ⟨e1, e2, e3, e4⟩ := (show Blk _ _ _ _ from hK1).f2; obtain ⟨g1, g2, g3, g4, g5, g6⟩ := (show Blk _ _ _ _ from hG1).f3))
          go_wp2
          go_roundw
          case rel =>
            refine ⟨k + 1, by omega, by go_num, hK1, A1, d1, A2, d2, _, _, hE1, HNL, by simpa using hdl3, ?_⟩
            show _ = _
            rw [HST.out, HSD.out]; rfl
          case measure => simp [intOf]; omega
        · have hsd : stepD (st', ca') o = (1, (st', ca')) := by simp [stepD, h0, h1]
          have HSD := Lib.hid hsd
          have hW := hE.ext' ((Ext.refl wr).alloc (.cells #[.int .i64 o.kind, .int .i64 o.at_, .slice Av o.data.length cv] 27))
          clear hsd
          by_cases h2 : o.kind < 0
          · clear h0 h1
            go_wp2_with fail
            go_ret2
            have h2 := HST.out
            rw [HSD.out] at h2
            simp only [show ¬ ((1 : Int) = 0) by decide, if_false] at h2
            rw [h2]
            exact ⟨rfl, _, _, _, _, hW⟩
          · have h3 : 2 ≤ o.kind := by omega
            clear h0 h1
            go_wp2_with fail
            go_ret2
            have h2 := HST.out
            rw [HSD.out] at h2
            simp only [show ¬ ((1 : Int) = 0) by decide, if_false] at h2
            rw [h2]
            exact ⟨rfl, _, _, _, _, hW⟩
    · have hltz : ¬ (k : Int) < (ops.length : Int) := by omega
      have hk' : k = ops.length := by omega
      go_wp2
      have h2 := hres.out
      rw [hk', List.drop_length] at h2
      go_ret2
      rw [h2]
      exact ⟨rfl, _, _, _, _, hE⟩
end Go.Proofs.Ytcgffpncfgmhkaa
