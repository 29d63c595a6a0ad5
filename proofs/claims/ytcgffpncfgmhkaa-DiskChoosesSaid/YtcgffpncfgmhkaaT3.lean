import Derived.Test.YtcgffpncfgmhkaaT2
import Derived.Deep.RegionWith
import Derived.Deep.RegionHeld3
set_option linter.unusedVariables false
set_option maxRecDepth 100000
set_option maxHeartbeats 1000000
namespace Go.Proofs.Ytcgffpncfgmhkaa
open Go.Proofs Go.RowKit
open Go.Proofs.YtcgffpncfgmhkaaW.PrintWords

theorem copied46 (vs vc : Value) (n m : Nat) (cs ds : List Value) (w : World) (hs : Rd w 8 vs n cs) (hc : Rd w 9 vc m ds) (h1 : ∀ u ∈ cs, u.oneCell' = true) (h2 : ∀ u ∈ ds, u.oneCell' = true) (hn : n ≤ 1000000) (hm : m ≤ 1000000) :
    Calls Try.prog 46 #[.agg #[vs, vc]] w fun e w' => ∃ A1 c1 A2 c2, e = .returned (.agg #[.slice A1 n c1, .slice A2 m c2]) ∧ w'.ownsRow w.heap.size 65 8 (.slice A1 n c1) n cs ∧ w'.ownsRow w.heap.size 67 9 (.slice A2 m c2) m ds ∧ Ext w w' := by
  go_enter Try.func46, Try.ntmps46
  go_wp2
  go_region_held3 (fun w' => w'.cell? ⟨w.heap.size, 0, none⟩ = some vs ∧ w'.cell? ⟨w.heap.size, 1, none⟩ = some vc)
   (first | go_keep)
   (first
   | (go_at_call 48; refine (clone48 vs n cs _ ?_ h1 hn).mono ?_; exact (hs.ext (by repeat (first | exact Ext.refl _ | refine Ext.alloc ?_ _ | refine Ext.drew ?_))); rintro e w1 ⟨A1, c1, rfl, ho, hb⟩; have e0 := ((Blk.new w #[vs, vc] 25).alloc (.cells #[.slice none 0 0, .slice none 0 0] 25)).drew.ext hb; have k0 := (by simpa using (Blk.new (w.alloc (.cells #[vs, vc] 25)) #[.slice none 0 0, .slice none 0 0] 25).drew.ext hb : Blk w1 (w.heap.size + 1) #[.slice none 0 0, .slice none 0 0] 25); obtain ⟨e1, e2, e3, e4⟩ := e0.f2; obtain ⟨j1, j2, j3, j4⟩ := k0.f2)
   | (go_at_call 61; refine (clone61 vc m ds _ ?_ h2 hm).mono ?_; exact (hc.ext (by repeat (first | exact Ext.refl _ | refine Ext.alloc ?_ _ | refine Ext.drew ?_ | refine Ext.trans ?_ (by assumption)))); rintro e w2 ⟨A2, c2, rfl, ho1, hb1⟩; obtain ⟨g1, g2, g3, g4⟩ := (e0.ext hb1).f2; obtain ⟨p1, p2, p3, p4⟩ := (k0.ext hb1).f2))
  go_wp2
  refine bodyPost_ret (v := .agg #[.slice A1 n c1, .slice A2 m c2]) (by simp [results, Try.results46, go_sem, p1, p2, p3, p4]) rfl ⟨A1, c1, A2, c2, rfl, ?_, ?_, ?_⟩
  · exact own_low (own_setlow (own_setlow (own_ext ho hb1) (by simp) _) (by simp) _) (by simp; omega)
  · have hz := hb.size
    have hz2 : w.heap.size + 2 ≤ w1.heap.size := by simpa using hz
    exact own_low (own_setlow (own_setlow ho1 (by show w.heap.size + 1 < _; omega) _) (by show w.heap.size + 1 < _; omega) _) (by omega)
  · have hz := ((((Ext.refl w).alloc (.cells #[vs, vc] 25)).alloc (.cells #[.slice none 0 0, .slice none 0 0] 25)).drew.trans hb).trans hb1
    exact (hz.set (by show w.heap.size ≤ w.heap.size + 1; omega) _).set (by show w.heap.size ≤ w.heap.size + 1; omega) _
end Go.Proofs.Ytcgffpncfgmhkaa
