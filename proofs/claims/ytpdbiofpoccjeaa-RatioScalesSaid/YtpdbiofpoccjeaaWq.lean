/- The walks over package ratio's greatest divisor in common, and the ratio of two numbers. -/
import Derived.Test.YtpdbiofpoccjeaaWo
namespace Go.Proofs.Ytpdbiofpoccjeaa
open Go.RowKit
theorem eq_arr' (d : Nat) (a b c e : Int) (w : World) : (Op.equalIn (d + 1 + 1) 47 (.agg #[.int .u64 a, .int .u64 b]) (.agg #[.int .u64 c, .int .u64 e])).run Try.prog w = .ok (a == c && b == e) w := by
  have h0 := fun (x y : Int) => run_equalIn_int (P := Try.prog) w d 45 .u64 .u64 x y Try.underlying45
  rw [Op.equalIn]
  generalize Op.equalIn (d + 1) = f at *
  simp only [Sem.run_bind, run_underlying Try.underlying47, Result.andThen_ok]
  have r2 : List.range' 0 2 = [0, 1] := rfl
  simp [go_sem, r2, h0]
  by_cases h : a = c
  · by_cases h2 : b = e <;> simp [h, h2]
  · simp [h]
theorem eq_arr (a b c e : Int) (w : World) : (Op.equalIn 10000 47 (.agg #[.int .u64 a, .int .u64 b]) (.agg #[.int .u64 c, .int .u64 e])).run Try.prog w = .ok (a == c && b == e) w :=
  eq_arr' 9998 a b c e w
theorem eq_zero {h l : Int} {n : Nat} (H : Wd h l n) (w : World) : (Op.equalIn 10000 47 (.agg #[.int .u64 h, .int .u64 l]) (.agg #[.int .u64 0, .int .u64 0])).run Try.prog w = .ok (n == 0) w := by
  rw [eq_arr]
  have := H.zero
  by_cases hn : n = 0
  · obtain ⟨rfl, rfl⟩ := this.1 hn
    simp [hn]
  · have h' : ¬ (h = 0 ∧ l = 0) := fun x => hn (this.2 x)
    have e : (n == 0) = false := by simpa using hn
    rw [e]
    by_cases h0 : h = 0 <;> by_cases l0 : l = 0 <;> simp_all
set_option maxRecDepth 10000 in
set_option maxHeartbeats 2000000 in
theorem common_any (ah al bh bl : Int) (a b : Nat) (ha : Wd ah al a) (hb : Wd bh bl b) (w : World) :
    Calls Try.prog 52 #[.agg #[.int .u64 ah, .int .u64 al], .agg #[.int .u64 bh, .int .u64 bl]] w (RetW (Nat.gcd a b) w) := by
  go_enter Try.func52, Try.ntmps52
  go_wp2_with fail
  go_loopg [] b (fun k wr => ∃ (xh xl yh yl : Int) (x y : Nat), Blk wr w.heap.size #[.int .u64 xh, .int .u64 xl] 47 ∧ Blk wr (w.heap.size + 1) #[.int .u64 yh, .int .u64 yl] 47 ∧ Blk wr (w.heap.size + 1 + 1) #[.int .u64 0, .int .u64 0] 47 ∧ Hid (Wd xh xl x) ∧ Hid (Wd yh yl y) ∧ Hid (Nat.gcd x y = Nat.gcd a b ∧ y = k) ∧ Below w.heap.size w wr)
  case atStart =>
    refine ⟨ah, al, bh, bl, a, b, ?_, ?_, ?_, ha, hb, ⟨rfl, rfl⟩, ?_⟩
    · exact ((Blk.new _ _ _).alloc _).alloc _
    · exact (Blk.made _ _ _ _ (by simp)).alloc _
    · exact (Blk.made _ _ _ _ (by simp))
    · repeat (first | exact bl_refl _ | apply bl_alloc)
  case round =>
    obtain ⟨xh, xl, yh, yl, x, y, BX, BY, BR, hx, hy, hg, hbl⟩ := hrel
    have cX0 := BX.cell 0; have cX1 := BX.cell 1; have cY0 := BY.cell 0; have cY1 := BY.cell 1
    have fX0 := BX.frozen 0; have fX1 := BX.frozen 1; have fY0 := BY.frozen 0; have fY1 := BY.frozen 1
    simp at cX0 cX1 cY0 cY1
    have hq := eq_zero hy.out wr
    by_cases hy0 : y = 0
    · have h0 : (y == 0) = true := by simpa using hy0
      rw [h0] at hq
      have cR0 := BR.cell 0; have cR1 := BR.cell 1; have fR0 := BR.frozen 0; have fR1 := BR.frozen 1
      simp at cR0 cR1
      go_wp2_with fail
      simp [bodyPost, results, Try.results52, go_sem, cR0, cR1]
      refine ⟨_, _, rfl, ?_, bl_set (bl_set hbl _ _ (by omega) _) _ _ (by omega) _⟩
      rw [← hg.out.1, hy0, Nat.gcd_zero_right]
      exact hx.out
    · have h0 : (y == 0) = false := by simpa using hy0
      rw [h0] at hq
      clear h0
      go_upto_region 2 with (fail)
      go_region_with (go_at_call 65; refine (mod_any xh xl yh yl x y hx.out hy.out (by omega) _).mono ?_; rintro e w1 ⟨rh, rl, rfl, hw, hb1⟩; have CX := BX.drew.after hb1; have CY := BY.drew.after hb1; have CR := BR.drew.after hb1; have dbl := bl_then (bl_drew hbl) hb1; have dX0 := CX.cell 0; have dX1 := CX.cell 1; have dY0 := CY.cell 0; have dY1 := CY.cell 1; have gX0 := CX.frozen 0; have gX1 := CX.frozen 1; have gY0 := CY.frozen 0; have gY1 := CY.frozen 1; simp at dX0 dX1 dY0 dY1)
      all_goals
        repeat (first | go_big_skip | go_step)
        go_roundg (x % y)
        case measure => rw [← hg.out.2]; exact Nat.mod_lt _ (by omega)
        case rel =>
          refine ⟨yh, yl, rh, rl, y, x % y, ?_, ?_, ?_, hy, hw, ⟨?_, rfl⟩, ?_⟩
          · exact (((CX.set 0 (.int .u64 yh)).set 1 (.int .u64 yl)).far _ 0 (by omega) _).far _ 1 (by omega) _
          · exact (((CY.far _ 0 (by omega) _).far _ 1 (by omega) _).set 0 (.int .u64 rh)).set 1 (.int .u64 rl)
          · exact (((CR.far _ 0 (by omega) _).far _ 1 (by omega) _).far _ 0 (by omega) _).far _ 1 (by omega) _
          · rw [← hg.out.1, Nat.gcd_comm x y, Nat.gcd_rec y x, Nat.gcd_comm]
          · exact bl_set (bl_set (bl_set (bl_set dbl _ _ (by omega) _) _ _ (by omega) _) _ _ (by omega) _) _ _ (by omega) _
end Go.Proofs.Ytpdbiofpoccjeaa
