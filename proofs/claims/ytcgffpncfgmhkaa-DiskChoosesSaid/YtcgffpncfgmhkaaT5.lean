import Derived.Test.YtcgffpncfgmhkaaT4
set_option linter.unusedVariables false
set_option maxRecDepth 100000
set_option maxHeartbeats 1000000
namespace Go.Proofs.Ytcgffpncfgmhkaa
open Go.Proofs Go.RowKit
open Go.Proofs.YtcgffpncfgmhkaaW.PrintWords

/-- The newest contents. -/
def newestD (st : List Sec) (ca : List (Int × Sec)) : List Sec := ca.foldl (fun l x => l.set x.1.toNat x.2) st
theorem newestD_len (st : List Sec) (ca : List (Int × Sec)) : (newestD st ca).length = st.length := by
  unfold newestD
  induction ca generalizing st with
  | nil => rfl
  | cons x ca ih => rw [List.foldl_cons, ih, List.length_set]
theorem newestD_snoc (st : List Sec) (ca : List (Int × Sec)) (k : Nat) (x : Int × Sec) (h : ca[k]? = some x) : newestD st (ca.take (k + 1)) = (newestD st (ca.take k)).set x.1.toNat x.2 := by
  unfold newestD
  rw [List.take_add_one, h, List.foldl_append]
  rfl

theorem size65 : (Try.prog.info? 65).map (·.size) = some 8 := by kernel_rfl
theorem size67 : (Try.prog.info? 67).map (·.size) = some 9 := by kernel_rfl
theorem newest44 (vs vc : Value) (st : List Sec) (ca : List (Int × Sec)) (w : World) (hs : Rd w 8 vs st.length (cellsOf Sec.c st)) (hr : Rd w 9 vc ca.length (cellsOf cachedC ca)) (h1 : st.length ≤ 1000000) (h2 : ca.length ≤ 1000000)
    (hok : anyBad ca st.length = false) :
    Calls Try.prog 44 #[.agg #[vs, vc]] w fun e w' => ∃ A' c', e = .returned (.slice A' st.length c') ∧ w'.ownsRow w.heap.size 65 8 (.slice A' st.length c') st.length (cellsOf Sec.c (newestD st ca)) ∧ Ext w w' := by
  have hcl := fun W hx => clone48 vs st.length (cellsOf Sec.c st) W (hs.ext hx) (cellsOf_one Sec.c_one _) h1
  obtain ⟨A, c, rfl⟩ := rd_slice hr
  have HOK := Lib.hid (anyBad_ok hok)
  clear hok hs
  go_enter Try.func44, Try.ntmps44
  go_wp2_with (go_at_call 48; refine (hcl _ ((Ext.refl w).alloc _)).mono ?_; rintro e w1 ⟨A', c', rfl, ho, hx⟩; obtain ⟨q1, q2, q3, q4⟩ := ((Blk.new w #[vs, .slice A ca.length c] 25).ext hx).f2)
  have hx1 : Ext w w1 := ((Ext.refl w).alloc _).trans hx
  have ho' := own_low (base' := w.heap.size) ho (by simp)
  clear hcl ho hx
  go_loopw [12] (fun t wr => ∃ k : Nat, k ≤ ca.length ∧ t = .int .i64 k ∧ Ext w wr ∧ wr.ownsRow w.heap.size 65 8 (.slice A' st.length c') st.length (cellsOf Sec.c (newestD st (ca.take k)))) (fun t _ => ca.length - (intOf t).toNat)
  case atStart => exact ⟨0, Nat.zero_le _, rfl, hx1, ho'⟩
  case round =>
    obtain ⟨k, hk, rfl, hx, hown⟩ := hrel
    by_cases hlt : k < ca.length
    · obtain ⟨x, hkx⟩ : ∃ x, ca[k]? = some x := ⟨_, List.getElem?_eq_getElem hlt⟩
      obtain ⟨b, off, rfl, hbl, f0, f1, f2, f3, f4, f5, f6, f7, f8⟩ := rdC_at (hr.ext hx) hkx
      have hltz : (k : Int) < (ca.length : Int) := by omega
      obtain ⟨hx0, hxn⟩ := HOK.out x (List.mem_of_getElem? hkx)
      have hN := Lib.hid (newestD_snoc st ca k x hkx)
      clear hkx
      obtain ⟨g, cap, hv, hbase, hglt⟩ := hown.form (by omega)
      injection hv with hA _ hc
      subst hA; subst hc
      have hlen := newestD_len st (ca.take k)
      have HL := Lib.hid hlen
      clear hlen
      have hi : x.1.toNat < st.length := by omega
      go_wp2_with ((with_reducible refine gate_store (t := 65) (p := 21) rfl ?_); refine stop_ ?_)
      refine Stop_.go ?_
      refine wpList_store_own (e := 65) (base := w.heap.size) (n := st.length) (cap := c') (i := x.1.toNat) Sec.c_len Sec.c_one (newestD st (ca.take k)) x.2 rfl rfl 65 (.tmp 21) (.tmp 20) rfl size65 rfl ?qo _ rfl rfl ?qw HL.out hi ?_
      case qo => simp
      case qw => exact own_ext hown ((Ext.refl _).alloc _)
      intro w2 ho2 hg2
      go_wp2
      go_roundw
      case rel =>
        refine ⟨k + 1, by omega, by go_num, (hx.alloc _).grown hg2 (fun q hq => by cases hq; exact hbase), ?_⟩
        rw [hN.out]; exact ho2
      case measure => simp [intOf]; omega
    · have hltz : ¬ (k : Int) < (ca.length : Int) := by omega
      have hk' : k = ca.length := by omega
      go_wp2
      go_ret
      refine ⟨_, _, rfl, ?_, hx⟩
      rw [hk', List.take_length] at hown
      exact hown
end Go.Proofs.Ytcgffpncfgmhkaa
