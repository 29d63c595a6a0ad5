import Derived.Test.YtcgffpncfgmhkaaV3
import Derived.Test.YtcgffpncfgmhkaaWEqStruct
import Derived.Laws.StructEq
import Derived.ChangeKeysEq
set_option linter.unusedVariables false
set_option linter.unusedSimpArgs false
set_option maxRecDepth 100000
set_option maxHeartbeats 2000000
namespace Go.Proofs.Ytcgffpncfgmhkaa
open Go Go.Proofs Go.RowKit Go.Instr
open Go.Proofs.YtcgffpncfgmhkaaW.PrintWords

def secEq (x y : Sec) : Bool := x.b0 == y.b0 && (x.b1 == y.b1 && (x.b2 == y.b2 && (x.b3 == y.b3 && (x.b4 == y.b4 && (x.b5 == y.b5 && (x.b6 == y.b6 && x.b7 == y.b7))))))
theorem secEq_iff {x y : Sec} : secEq x y = true ↔ x = y := by
  obtain ⟨x0, x1, x2, x3, x4, x5, x6, x7⟩ := x
  obtain ⟨y0, y1, y2, y3, y4, y5, y6, y7⟩ := y
  simp [secEq]
theorem secEq_dec (x y : Sec) : secEq x y = decide (x = y) := by
  cases h : secEq x y with
  | true => simp [secEq_iff.1 h]
  | false => symm; rw [decide_eq_false_iff_not]; intro he; rw [secEq_iff.2 he] at h; cases h
theorem i5 : ∃ i, Try.prog.info? 5 = some i := by
  have h : (Try.prog.info? 5).map (·.size) = some 1 := by kernel_rfl
  cases hi : Try.prog.info? 5 with
  | none => rw [hi] at h; cases h
  | some i => exact ⟨i, rfl⟩
theorem eqi_last {P : Program} {d : Nat} {e : TypeId} {xs ys : Array Value} {i : Nat} {a b : Value} {r : Bool} {w : World} (ha : (part e xs (i * P.cellsOf e)).run P w = .ok a w) (hb : (part e ys (i * P.cellsOf e)).run P w = .ok b w) (he : (Op.equalIn d e a b).run P w = .ok r w) : (Op.eqItems d e (P.cellsOf e) xs ys [i]).run P w = .ok r w := by
  simp only [Op.eqItems, Sem.run_bind, ha, hb, he, Result.andThen_ok]
  cases r <;> simp
theorem eqi_cons {P : Program} {d : Nat} {e : TypeId} {xs ys : Array Value} {i : Nat} {is : List Nat} {a b : Value} {r s : Bool} {w : World} (ha : (part e xs (i * P.cellsOf e)).run P w = .ok a w) (hb : (part e ys (i * P.cellsOf e)).run P w = .ok b w) (he : (Op.equalIn d e a b).run P w = .ok r w) (hr : (Op.eqItems d e (P.cellsOf e) xs ys is).run P w = .ok s w) : (Op.eqItems d e (P.cellsOf e) xs ys (i :: is)).run P w = .ok (r && s) w := by
  rw [Op.eqItems]
  simp only [Sem.run_bind, ha, hb, he, Result.andThen_ok]
  cases r
  · simp
  · simpa using hr
theorem p5 : Try.prog.plainKey 5 = true := by kernel_rfl
theorem c5' : Try.prog.cellsOf 5 = 1 := by kernel_rfl
theorem equalIn65 (d : Nat) (x y : Sec) (W : World) : (Op.equalIn (d + 2) 65 (.agg x.c.toArray) (.agg y.c.toArray)).run Try.prog W = .ok (secEq x y) W := by
  obtain ⟨i, hi⟩ := i5
  rw [run_equalIn_array W (d + 1) _ _ Try.underlying65 hi]
  have hp : ∀ (s : Sec) (j : Nat) (v : Value), s.c.toArray[j * Try.prog.cellsOf 5]? = some v → (part 5 s.c.toArray (j * Try.prog.cellsOf 5)).run Try.prog W = .ok v W := fun s j v h => run_part_plain W p5 h
  have he : ∀ a b : Int, (Op.equalIn (d + 1) 5 (.int .u8 a) (.int .u8 b)).run Try.prog W = .ok (a == b) W := fun a b => run_equalIn_int W d 5 .u8 .u8 a b Try.underlying5
  rw [show List.range 8 = [0, 1, 2, 3, 4, 5, 6, 7] from rfl]
  refine eqi_cons (hp x 0 _ (by rw [c5']; rfl)) (hp y 0 _ (by rw [c5']; rfl)) (he _ _) ?_
  refine eqi_cons (hp x 1 _ (by rw [c5']; rfl)) (hp y 1 _ (by rw [c5']; rfl)) (he _ _) ?_
  refine eqi_cons (hp x 2 _ (by rw [c5']; rfl)) (hp y 2 _ (by rw [c5']; rfl)) (he _ _) ?_
  refine eqi_cons (hp x 3 _ (by rw [c5']; rfl)) (hp y 3 _ (by rw [c5']; rfl)) (he _ _) ?_
  refine eqi_cons (hp x 4 _ (by rw [c5']; rfl)) (hp y 4 _ (by rw [c5']; rfl)) (he _ _) ?_
  refine eqi_cons (hp x 5 _ (by rw [c5']; rfl)) (hp y 5 _ (by rw [c5']; rfl)) (he _ _) ?_
  refine eqi_cons (hp x 6 _ (by rw [c5']; rfl)) (hp y 6 _ (by rw [c5']; rfl)) (he _ _) ?_
  exact eqi_last (hp x 7 _ (by rw [c5']; rfl)) (hp y 7 _ (by rw [c5']; rfl)) (he _ _)
theorem neq65 (x y : Sec) (W : World) : (binOp .neq 65 (.agg x.c.toArray) (.agg y.c.toArray)).run Try.prog W = .ok (.bool (!secEq x y)) W := by
  rw [run_neq_struct, equalIn65 9998 x y W]
  rfl
theorem fo67 : Try.prog.fieldsOf 67 = #[{ name := "At", type := 3, offset := 0, embedded := false, tag := "", pkgPath := "", byteOffset := 0 }, { name := "Data", type := 65, offset := 1, embedded := false, tag := "", pkgPath := "", byteOffset := 8 }] := by
  simp [Program.fieldsOf, Try.underlying67]
theorem sh67 : Try.prog.stoodInHeld 67 = false := by kernel_rfl
theorem p3 : Try.prog.plainKey 3 = true := by kernel_rfl
theorem c65 : Try.prog.cellsOf 65 = 8 := by kernel_rfl
theorem part65 (a : Int) (x : Sec) (W : World) : (part 65 (cachedC (a, x)).toArray 1).run Try.prog W = .ok (.agg x.c.toArray) W := by
  obtain ⟨i0, hi0, hz0, hz1, hz2⟩ := info_parts info65
  simp [part, isAgg, run_underlying Try.underlying65, sizeOf, typeInfo, hi0, hz1, cachedC, Sec.c]
theorem neq67 (a b : Int) (x y : Sec) (W : World) : (binOp .neq 67 (.agg (cachedC (a, x)).toArray) (.agg (cachedC (b, y)).toArray)).run Try.prog W = .ok (.bool (!(a == b && secEq x y))) W := by
  have h : (Op.equalIn 10000 67 (.agg (cachedC (a, x)).toArray) (.agg (cachedC (b, y)).toArray)).run Try.prog W = .ok (a == b && secEq x y) W := by
    rw [run_equalIn_agg W 9999 67 _ _ (by rw [fo67]; exact Try.underlying67) sh67, fo67]
    refine eqf_cons (by rfl) (run_part_plain W p3 (v := .int .i64 a) rfl) (run_part_plain W p3 (v := .int .i64 b) rfl) (run_equalIn_int W 9998 3 .i64 .i64 a b Try.underlying3) ?_
    exact eqf_last (by rfl) (part65 a x W) (part65 b y W) (equalIn65 9997 x y W)
  rw [run_neq_struct, h]
  rfl
end Go.Proofs.Ytcgffpncfgmhkaa
