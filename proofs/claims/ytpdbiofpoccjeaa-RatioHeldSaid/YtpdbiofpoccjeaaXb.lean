/- The walks over what the law of package ratio is made of: shown, small; two ratios held against each other. -/
import Derived.Test.YtpdbiofpoccjeaaXa
namespace Go.Proofs.Ytpdbiofpoccjeaa
open Go.RowKit
theorem eq_rat' (d : Nat) (a b c e : Int) (w : World) : (Op.equalIn (d + 1 + 1) 24 (.agg #[.int .i64 a, .int .i64 b]) (.agg #[.int .i64 c, .int .i64 e])).run Try.prog w = .ok (a == c && b == e) w := by
  have h0 := fun (x y : Int) => run_equalIn_int (P := Try.prog) w d 2 .i64 .i64 x y Try.underlying2
  have hp : Try.prog.plainKey 2 = true := by unfold Program.plainKey; rw [Try.underlying2]
  have hf : Try.prog.fieldsOf 24 = #[{ name := "N", type := 2, offset := 0, embedded := false, tag := "", pkgPath := "", byteOffset := 0 }, { name := "D", type := 2, offset := 1, embedded := false, tag := "", pkgPath := "", byteOffset := 8 }] := by simp only [Program.fieldsOf, Try.underlying24]
  rw [run_equalIn_struct (P := Try.prog) w (d + 1) 24 _ _ (by rw [hf]; exact Try.underlying24) (by kernel_rfl), hf]
  have p1 := run_part_plain (P := Try.prog) w hp (xs := #[.int .i64 a, .int .i64 b]) (off := 0) (v := .int .i64 a) rfl
  have p2 := run_part_plain (P := Try.prog) w hp (xs := #[.int .i64 a, .int .i64 b]) (off := 1) (v := .int .i64 b) rfl
  have p3 := run_part_plain (P := Try.prog) w hp (xs := #[.int .i64 c, .int .i64 e]) (off := 0) (v := .int .i64 c) rfl
  have p4 := run_part_plain (P := Try.prog) w hp (xs := #[.int .i64 c, .int .i64 e]) (off := 1) (v := .int .i64 e) rfl
  simp only [Op.eqFields, Sem.run_bind, p1, p2, p3, p4, h0, Result.andThen_ok, Sem.run_ite]
  by_cases h : a = c
  · by_cases h2 : b = e <;> simp [h, h2]
  · simp [h]
theorem eq_rat (a b c e : Int) (w : World) : (Op.equalIn 10000 24 (.agg #[.int .i64 a, .int .i64 b]) (.agg #[.int .i64 c, .int .i64 e])).run Try.prog w = .ok (a == c && b == e) w :=
  eq_rat' 9998 a b c e w
theorem shown_any (w : World) : Calls Try.prog 13 #[] w (RetB true w) := by
  have he := eq_rat
  go_enter Try.func13, Try.ntmps13
  go_wp2_with fail
  refine (make_any 6 (-4) ⟨by omega, by omega⟩ ⟨by omega, by omega⟩ _).mono ?_
  rintro e w1 ⟨rfl, hb1⟩
  replace hb1 : Below w.heap.size w w1 := hb1
  rw [show toldN (makeV 6 (-4)) (-4 : Int).natAbs = -3 by decide, show toldD (makeV 6 (-4)) (-4 : Int).natAbs = 2 by decide, show toldOk (makeV 6 (-4)) (-4 : Int).natAbs = true by decide]
  dsimp only
  repeat (first | go_big_skip | go_step)
  have BA := Blk.new w1 #[.int .i64 (-3), .int .i64 2] 24
  have hbl := bl_alloc hb1 (.cells #[.int .i64 (-3), .int .i64 2] 24)
  refine (add_any 1 2 1 3 ⟨by omega, by omega⟩ ⟨by omega, by omega⟩ ⟨by omega, by omega⟩ ⟨by omega, by omega⟩ _).mono ?_
  rintro e w2 ⟨rfl, hb2⟩
  rw [show opN 1 2 1 3 (1 * 3 + 1 * 2) ((2 * 3 : Int).natAbs) = 5 by decide, show opD 1 2 1 3 (1 * 3 + 1 * 2) ((2 * 3 : Int).natAbs) = 6 by decide, show opOk 1 2 1 3 (1 * 3 + 1 * 2) ((2 * 3 : Int).natAbs) = true by decide]
  replace BA := BA.after hb2
  replace hbl := bl_then hbl hb2
  clear hb1 hb2
  dsimp only
  repeat (first | go_big_skip | go_step)
  replace BA := BA.alloc (.cells #[.int .i64 5, .int .i64 6] 24)
  have BB := Blk.new w2 #[.int .i64 5, .int .i64 6] 24
  replace hbl := bl_alloc hbl (.cells #[.int .i64 5, .int .i64 6] 24)
  refine (scaler_any 7 1 2 ⟨by omega, by omega⟩ ⟨by omega, by omega⟩ ⟨by omega, by omega⟩ _).mono ?_
  rintro e w3 ⟨rfl, hb3⟩
  rw [show scN 7 1 2 = 4 by decide, show scOk 7 1 2 = true by decide]
  replace BA := BA.after hb3
  replace BB := BB.after hb3
  replace hbl := bl_then hbl hb3
  clear hb3
  dsimp only
  repeat (first | go_big_skip | go_step)
  refine (make_any 1 0 ⟨by omega, by omega⟩ ⟨by omega, by omega⟩ _).mono ?_
  rintro e w4 ⟨rfl, hb4⟩
  rw [show toldN (makeV 1 0) (0 : Int).natAbs = 0 by decide, show toldD (makeV 1 0) (0 : Int).natAbs = 0 by decide, show toldOk (makeV 1 0) (0 : Int).natAbs = false by decide]
  replace BA := (BA.after hb4).alloc (.cells #[.int .i64 0, .int .i64 0] 24)
  replace BB := (BB.after hb4).alloc (.cells #[.int .i64 0, .int .i64 0] 24)
  replace hbl := bl_alloc (bl_then hbl hb4) (.cells #[.int .i64 0, .int .i64 0] 24)
  clear hb4
  dsimp only
  have ca0 := BA.cell 0; have ca1 := BA.cell 1; have cb0 := BB.cell 0; have cb1 := BB.cell 1
  simp at ca0 ca1 cb0 cb1
  repeat (first | go_big_skip | go_step)
  refine (roundr_any (-3) 2 ⟨by omega, by omega⟩ ⟨by omega, by omega⟩ _).mono ?_
  rintro e w5 ⟨rfl, hb5⟩
  rw [show roundR (-3) 2 = -1 by decide]
  replace BA := BA.after hb5
  replace hbl := bl_then hbl hb5
  clear hb5 ca0 ca1 cb0 cb1
  have ca0 := BA.cell 0; have ca1 := BA.cell 1
  simp at ca0 ca1
  dsimp only
  repeat (first | go_big_skip | go_step)
  refine (floorr_any (-3) 2 ⟨by omega, by omega⟩ ⟨by omega, by omega⟩ _).mono ?_
  rintro e w6 ⟨rfl, hb6⟩
  rw [show floorR (-3) 2 = -2 by decide]
  replace hbl := bl_then hbl hb6
  clear hb6 ca0 ca1
  dsimp only
  repeat (first | go_big_skip | go_step)
  simp [bodyPost, results, Try.results13, go_sem]
  exact ⟨rfl, hbl⟩
end Go.Proofs.Ytpdbiofpoccjeaa
