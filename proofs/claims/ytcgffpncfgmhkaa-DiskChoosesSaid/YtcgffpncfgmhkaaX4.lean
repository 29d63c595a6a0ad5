import Derived.Test.YtcgffpncfgmhkaaX3
set_option linter.unusedVariables false
set_option linter.unusedSimpArgs false
set_option maxRecDepth 100000
set_option maxHeartbeats 2000000
namespace Go.Proofs.Ytcgffpncfgmhkaa
open Go Go.Proofs Go.RowKit Go.Instr
open Go.Proofs.YtcgffpncfgmhkaaW.PrintWords

theorem cut2 {P : Program} (t e : TypeId) (kl kh : IntKind) {i : TypeInfo} (ht : P.underlying t = some (.slice e)) (hi : P.info? e = some i) (size : Nat) (hsz : i.size = size) (A : Option Addr) (n c : Nat) (lo hi' : Int) (h0 : 0 ≤ lo) (h1 : lo ≤ hi') (h2 : hi' ≤ n) (hc : n ≤ c) :
    ∀ W : World, (Instr.slice t (.slice A n c) (some (.int kl lo)) (some (.int kh hi')) none).run P W = .ok (.slice (cutA A size lo.toNat c) (hi'.toNat - lo.toNat) (c - lo.toNat)) W := by
  intro W
  have hel : P.elem t = e := by simp [Program.elem, ht]
  have hu : P.underlying t = some (.slice (P.elem t)) := by rw [hel]; exact ht
  rw [run_slice_lh W t A n c hu kl kh lo hi' h0 h1 (by omega), hel]
  simp [sizeOf, typeInfo, hi, hsz, sliced, Result.andThen, cutA]
theorem read17 (v : Value) (s : St) (a n : Int) (w : World) (hd : DR w v s) (hn : s.1.length ≤ 1000000) (hca : s.2.length ≤ 1000000) (ha : I64 a) (hnn : I64 n) :
    Calls Try.prog 17 #[v, .agg #[.int .i64 a, .int .i64 n]] w fun e w' => ReadPost w w' e (readR s a n) := by
  obtain ⟨A, c, A2, c2, rfl, h1, h2⟩ := hd
  obtain ⟨ha1, ha2⟩ := ha
  obtain ⟨hn1, hn2⟩ := hnn
  have hchk := fun W hx => check34 _ _ s.1 s.2 W (h1.ext hx) (h2.ext hx) hn hca
  by_cases hz : chkD s.1 s.2 = 0
  · rw [hz] at hchk
    have HC : Hid (readR s a n = if insD s.1.length a n then (0, ((newestD s.1 s.2).drop a.toNat).take n.toNat) else (2, [])) := by show _ = _; unfold readR; rw [if_pos hz]
    have hnew := fun W hx => newest45 _ _ s.1 s.2 W (h1.ext hx) (h2.ext hx) hn hca (chkD_ok hz)
    clear hz
    by_cases k1 : a < 0
    · have HF : Hid (readR s a n = (2, [])) := by show _ = _; rw [HC.out]; simp [insD]; omega
      go_enter Try.func17, Try.ntmps17
      go_wp2_with (first
        | (go_at_call 34; refine (hchk _ (((Ext.refl w).alloc _).alloc _)).mono ?_; rintro e w1 ⟨rfl, hx1⟩; have B1 := ((Blk.new w _ _).alloc _).ext hx1; have C1 := (Blk.new (w.alloc (.cells #[.slice A s.1.length c, .slice A2 s.2.length c2] 25)) _ _).ext hx1; rw [World.size_alloc] at C1; obtain ⟨b1, b2, b3, b4⟩ := B1.f2; obtain ⟨y1, y2, y3, y4⟩ := C1.f2)
        | fail)
      go_ret2
      rw [HF.out]
      exact ⟨_, rfl, rd_nil _ _, Fresh.nil _, (((Ext.refl w).alloc _).alloc _).trans hx1⟩
    · by_cases k2 : n < 0
      · have HF : Hid (readR s a n = (2, [])) := by show _ = _; rw [HC.out]; simp [insD]; omega
        go_enter Try.func17, Try.ntmps17
        go_wp2_with (first
          | (go_at_call 34; refine (hchk _ (((Ext.refl w).alloc _).alloc _)).mono ?_; rintro e w1 ⟨rfl, hx1⟩; have B1 := ((Blk.new w _ _).alloc _).ext hx1; have C1 := (Blk.new (w.alloc (.cells #[.slice A s.1.length c, .slice A2 s.2.length c2] 25)) _ _).ext hx1; rw [World.size_alloc] at C1; obtain ⟨b1, b2, b3, b4⟩ := B1.f2; obtain ⟨y1, y2, y3, y4⟩ := C1.f2)
          | fail)
        go_ret2
        rw [HF.out]
        exact ⟨_, rfl, rd_nil _ _, Fresh.nil _, (((Ext.refl w).alloc _).alloc _).trans hx1⟩
      · by_cases k3 : (s.1.length : Int) < n
        · have HF : Hid (readR s a n = (2, [])) := by show _ = _; rw [HC.out]; simp [insD]; omega
          go_enter Try.func17, Try.ntmps17
          go_wp2_with (first
            | (go_at_call 34; refine (hchk _ (((Ext.refl w).alloc _).alloc _)).mono ?_; rintro e w1 ⟨rfl, hx1⟩; have B1 := ((Blk.new w _ _).alloc _).ext hx1; have C1 := (Blk.new (w.alloc (.cells #[.slice A s.1.length c, .slice A2 s.2.length c2] 25)) _ _).ext hx1; rw [World.size_alloc] at C1; obtain ⟨b1, b2, b3, b4⟩ := B1.f2; obtain ⟨y1, y2, y3, y4⟩ := C1.f2)
            | fail)
          go_ret2
          rw [HF.out]
          exact ⟨_, rfl, rd_nil _ _, Fresh.nil _, (((Ext.refl w).alloc _).alloc _).trans hx1⟩
        · have hws : IntKind.i64.wrap ((s.1.length : Int) - n) = (s.1.length : Int) - n := IntWalk.i64_in _ (by omega)
          by_cases k4 : (s.1.length : Int) - n < a
          · have HF : Hid (readR s a n = (2, [])) := by show _ = _; rw [HC.out]; simp [insD]; omega
            go_enter Try.func17, Try.ntmps17
            go_wp2_with (first
              | (go_at_call 34; refine (hchk _ (((Ext.refl w).alloc _).alloc _)).mono ?_; rintro e w1 ⟨rfl, hx1⟩; have B1 := ((Blk.new w _ _).alloc _).ext hx1; have C1 := (Blk.new (w.alloc (.cells #[.slice A s.1.length c, .slice A2 s.2.length c2] 25)) _ _).ext hx1; rw [World.size_alloc] at C1; obtain ⟨b1, b2, b3, b4⟩ := B1.f2; obtain ⟨y1, y2, y3, y4⟩ := C1.f2)
              | fail)
            go_ret2
            rw [HF.out]
            exact ⟨_, rfl, rd_nil _ _, Fresh.nil _, (((Ext.refl w).alloc _).alloc _).trans hx1⟩
          · have HF : Hid (readR s a n = (0, ((newestD s.1 s.2).drop a.toNat).take n.toNat)) := by show _ = _; rw [HC.out, if_pos]; simp [insD]; omega
            have g1 : 0 ≤ a := by omega
            have g3 : a + n ≤ (s.1.length : Int) := by omega
            obtain ⟨i0, hi0, hz0, hz1, hz2⟩ := info_parts info65
            have hwr : IntKind.i64.wrap (a + n) = a + n := IntWalk.i64_in _ (by omega)
            have hcut := fun A' c' hc => cut2 (P := Try.prog) 22 65 .i64 .i64 Try.underlying22 hi0 8 hz1 A' s.1.length c' a (a + n) g1 (by omega) g3 hc
            have HL := Lib.hid (newestD_len s.1 s.2)
            go_enter Try.func17, Try.ntmps17
            go_wp2_with (first
              | (go_at_call 34; refine (hchk _ (((Ext.refl w).alloc _).alloc _)).mono ?_; rintro e w1 ⟨rfl, hx1⟩; have B1 := ((Blk.new w _ _).alloc _).ext hx1; have C1 := (Blk.new (w.alloc (.cells #[.slice A s.1.length c, .slice A2 s.2.length c2] 25)) _ _).ext hx1; rw [World.size_alloc] at C1; obtain ⟨b1, b2, b3, b4⟩ := B1.f2; obtain ⟨y1, y2, y3, y4⟩ := C1.f2)
              | fail)
            go_region_held3 (fun w' => w'.cell? ⟨w.heap.size, 0, none⟩ = some (.slice A s.1.length c) ∧ w'.cell? ⟨w.heap.size, 1, none⟩ = some (.slice A2 s.2.length c2) ∧ w'.cell? ⟨w.heap.size + 1, 0, none⟩ = some (.int .i64 a) ∧ w'.cell? ⟨w.heap.size + 1, 1, none⟩ = some (.int .i64 n))
              (first | go_keep)
              (first | (go_at_call 45; refine (hnew _ ((((Ext.refl w).alloc _).alloc _).trans hx1).drew).mono ?_; rintro e w3 ⟨A3, c3, rfl, ho3, hx3⟩; obtain ⟨p1, p2, p3, p4⟩ := (show Blk _ _ _ _ from B1.drew.ext hx3).f2; obtain ⟨q1, q2, q3, q4⟩ := (show Blk _ _ _ _ from C1.drew.ext hx3).f2; have hct := hcut A3 c3 (own_le ho3)))
            go_wp2
            have hxx := ((((Ext.refl w).alloc (.cells #[.slice A s.1.length c, .slice A2 s.2.length c2] 25)).alloc (.cells #[.int .i64 a, .int .i64 n] 29)).trans hx1).drew.trans hx3
            have hsz := (((Ext.refl w).alloc (.cells #[.slice A s.1.length c, .slice A2 s.2.length c2] 25)).alloc (.cells #[.int .i64 a, .int .i64 n] 29)).trans hx1
            have hR := Rd.own ho3
            have hle3 := own_le ho3
            rw [← HL.out] at hR
            have hsub := Rd.sub (n := n.toNat) (lo := a.toNat) (m := c3) (c' := c3 - a.toNat) Sec.c_len hR (by rw [HL.out]; omega) (by omega) (by omega)
            refine bodyPost_ret (results_tmp2 rfl _ _ _) rfl ?_
            rw [HF.out]
            have hn' : (a + n).toNat - a.toNat = n.toNat := by omega
            have hlen : (((newestD s.1 s.2).drop a.toNat).take n.toNat).length = n.toNat := by rw [List.length_take, List.length_drop, HL.out]; omega
            refine ⟨.slice (cutA A3 8 a.toNat c3) n.toNat (c3 - a.toNat), ?_, ?_, ?_, hxx⟩
            · show Ending.returned (.tuple #[.slice _ ((a + n).toNat - a.toNat) _, .int .i64 0]) = _
              rw [hn']
            · rw [hlen]; exact hsub
            · intro b hb
              have h9 := own_base ho3 b (cutA_block b hb)
              have h8 := hsz.size
              exact Nat.le_trans h8 h9
  · generalize hres : chkD s.1 s.2 = err at *
    have HF : Hid (readR s a n = (err, [])) := by show _ = _; unfold readR; rw [hres, if_neg hz]
    have hne : (err != 0) = true := by simpa using hz
    clear hres hz
    go_enter Try.func17, Try.ntmps17
    go_wp2_with (first
      | (go_at_call 34; refine (hchk _ (((Ext.refl w).alloc _).alloc _)).mono ?_; rintro e w1 ⟨rfl, hx1⟩; have B1 := ((Blk.new w _ _).alloc _).ext hx1; have C1 := (Blk.new (w.alloc (.cells #[.slice A s.1.length c, .slice A2 s.2.length c2] 25)) _ _).ext hx1; rw [World.size_alloc] at C1; obtain ⟨b1, b2, b3, b4⟩ := B1.f2; obtain ⟨y1, y2, y3, y4⟩ := C1.f2)
      | fail)
    go_ret2
    rw [HF.out]
    exact ⟨_, rfl, rd_nil _ _, Fresh.nil _, (((Ext.refl w).alloc _).alloc _).trans hx1⟩
end Go.Proofs.Ytcgffpncfgmhkaa
