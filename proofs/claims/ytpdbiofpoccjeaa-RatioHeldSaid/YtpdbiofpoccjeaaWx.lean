/- The walk over package ratio's Cmp. -/
import Derived.Test.YtpdbiofpoccjeaaWw
namespace Go.Proofs.Ytpdbiofpoccjeaa
open Go.RowKit
set_option maxRecDepth 10000 in
theorem cmp_yes (aN aD bN bD : Int) (hA : R64 aN) (hB : R64 aD) (hC : R64 bN) (hD : R64 bD) (ha : rightB aN aD = true) (hb : rightB bN bD = true) (w : World) :
    Calls Try.prog 22 #[.agg #[.int .i64 aN, .int .i64 aD], .agg #[.int .i64 bN, .int .i64 bD]] w (RetI (sgn (aN * bD + -bN * aD)) w) := by
  have hne := right_min hC hb
  have a1 := hA.lo; have a2 := hA.hi; have b1 := hB.lo; have b2 := hB.hi; have c1 := hC.lo; have c2 := hC.hi; have d1 := hD.lo; have d2 := hD.hi
  have HL := hidden (show (aN * bD).natAbs + (-bN * aD).natAbs < 340282366920938463463374607431768211456 by have := mul_lt hA hD; have := mul_lt (⟨by omega, by omega⟩ : R64 (-bN)) hB; omega)
  have rN : IntKind.i64.wrap (-bN) = -bN := by simp [IntKind.wrap_i64]; omega
  go_enter Try.func22, Try.ntmps22
  go_wp2_with fail
  refine (right_any aN aD hA hB _).mono ?_
  rw [ha]
  rintro e w1 ⟨rfl, hb1⟩
  have BA : Blk w1 w.heap.size #[.int .i64 aN, .int .i64 aD] 24 := ((Blk.new _ _ _).alloc _).after hb1
  have BB : Blk w1 (w.heap.size + 1) #[.int .i64 bN, .int .i64 bD] 24 := (Blk.made _ _ _ _ (by simp)).after hb1
  have hbl := bl_then (bl_alloc (bl_alloc (bl_refl w) _) _) hb1
  have cb0 := BB.cell 0; have cb1 := BB.cell 1
  simp at cb0 cb1
  dsimp only
  repeat (first | go_big_skip | go_step)
  refine (right_any bN bD hC hD _).mono ?_
  rw [hb]
  rintro e W0 ⟨rfl, hb2⟩
  replace BA := BA.after hb2
  replace BB := BB.after hb2
  replace hbl := bl_then hbl hb2
  clear cb0 cb1 hb1 hb2 ha hb
  dsimp only
  go_upto_region 3 with (fail)
  go_cut [5] (fun s5 w' => ∃ (X : Nat) (sb : Bool) (sh sl : Int), s5 = .pointer (some ⟨X, 0, none⟩) ∧ Blk w' X #[.bool sb, .int .u64 sh, .int .u64 sl] 49 ∧ Hid (Sg sb sh sl (aN * bD + -bN * aD)) ∧ Below w.heap.size w w')
  case first =>
    have ca0 := BA.cell 0; have ca1 := BA.cell 1; have cb0 := BB.cell 0; have cb1 := BB.cell 1
    simp at ca0 ca1 cb0 cb1
    have lA := BA.lt; have lB := BB.lt
    go_region_held3 (fun w' => ∀ b o, b < W0.heap.size → w'.cell? ⟨b, o, none⟩ = W0.cell? ⟨b, o, none⟩)
      (exact (bcell (by repeat (first | (with_reducible first | assumption | exact bl_refl _ | apply bl_drew | apply bl_alloc) | (with_reducible refine bl_set ?_ _ _ (by omega) _)))).1)
      (first
        | (go_at_call_of 35 (Value.int .i64 aN); refine (mul_any _ _ (by omega) (by omega) (by omega) (by omega) _).mono ?_; rintro e w2 ⟨sb1, sh1, sl1, rfl, hs1, hb2⟩; have hbl2 : Below W0.heap.size W0 w2 := bl_then (by repeat (first | exact bl_refl _ | apply bl_alloc | apply bl_drew)) hb2; have lV := hbl2.size; (try (have BU : Blk w2 W0.heap.size #[.bool false, .int .u64 0, .int .u64 0] 49 := ((Blk.new W0.drew _ _).after hb2))))
        | (go_at_call_of 35 (Value.int .i64 (-bN)); refine (mul_any _ _ (by omega) (by omega) (by omega) (by omega) _).mono ?_; rintro e w3 ⟨sb2, sh2, sl2, rfl, hs2, hb3⟩; have hbl3 : Below W0.heap.size W0 w3 := bl_then (by repeat (first | exact hbl2 | apply bl_alloc)) hb3; have lW3 := hbl3.size; (try (have BV : Blk w3 W0.heap.size #[.bool false, .int .u64 0, .int .u64 0] 49 := BU.after hb3)); (try (have BV : Blk w3 w2.heap.size #[.bool false, .int .u64 0, .int .u64 0] 49 := (Blk.new w2 _ _).after hb3)))
        | (go_at_call 43; refine (sadd_any _ _ _ _ _ _ _ _ hs1 hs2 HL.out _).mono ?_; rintro e w4 ⟨sb, sh, sl, rfl, hs, hb4⟩; have hbl4 : Below W0.heap.size W0 w4 := bl_then (by repeat (first | exact hbl3 | apply bl_alloc)) hb4; have lW4 := hbl4.size; (try (have BX : Blk w4 W0.heap.size #[.bool false, .int .u64 0, .int .u64 0] 49 := BV.after hb4; have x0 := BX.cell 0; have x1 := BX.cell 1; have x5 := BX.cell 2; have x2 := BX.frozen 0; have x3 := BX.frozen 1; have x6 := BX.frozen 2; have x4 := BX.lt; simp at x0 x1 x5)); (try (have BX : Blk w4 w2.heap.size #[.bool false, .int .u64 0, .int .u64 0] 49 := BV.after hb4; have x0 := BX.cell 0; have x1 := BX.cell 1; have x5 := BX.cell 2; have x2 := BX.frozen 0; have x3 := BX.frozen 1; have x6 := BX.frozen 2; have x4 := BX.lt; simp at x0 x1 x5)); (try (have BX : Blk w4 w3.heap.size #[.bool false, .int .u64 0, .int .u64 0] 49 := (Blk.new w3 _ _).after hb4; have x0 := BX.cell 0; have x1 := BX.cell 1; have x5 := BX.cell 2; have x2 := BX.frozen 0; have x3 := BX.frozen 1; have x6 := BX.frozen 2; have x4 := BX.lt; simp at x0 x1 x5))))
    all_goals
      have hblw := bl_then hbl hbl4
      have lw := hbl.size
      clear ca0 ca1 cb0 cb1
      repeat (first | go_big_skip | go_step)
      go_meet
      refine ⟨_, sb, sh, sl, rfl, ?_, hs, ?_⟩
      · (repeat (first | (with_reducible first | assumption | exact Blk.new _ _ _) | (with_reducible refine Blk.set3 (a := .bool false) (b := .int .u64 0) (c := .int .u64 0) ?_ _ _ _)))
      · repeat (first | (with_reducible first | exact hblw | apply bl_alloc) | (with_reducible refine bl_set ?_ _ _ (by omega) _))
  case rest =>
    clear BA BB hbl HL
    obtain ⟨X, sb, sh, sl, rfl, BX, hs, hbl⟩ := hcut
    have x0 := BX.cell 0; have x1 := BX.cell 1; have x2 := BX.cell 2
    simp at x0 x1 x2
    have hq := eq_zero hs.out.wd wc
    obtain ⟨v, ev⟩ : ∃ v, v = aN * bD + -bN * aD := ⟨_, rfl⟩
    rw [← ev] at hs hq
    replace ev := hidden ev
    by_cases h0 : v = 0
    · have e0 : (v.natAbs == 0) = true := by simpa using h0
      rw [e0] at hq
      have hr : sgn v = 0 := by simp [sgn, h0]
      replace h0 := hidden h0
      replace hr := hidden hr
      replace e0 := hidden e0
      go_wp2_with fail
      simp [bodyPost, results, Try.results22, go_sem]
      exact ⟨ret_int (by rw [← ev.out]; exact hr.out.symm), hbl⟩
    · have e0 : (v.natAbs == 0) = false := by simpa using h0
      rw [e0] at hq
      have hs2 := hs.out
      have hlo := hs2.lo; have hhi := hs2.hi
      cases sb
      · have hr : sgn v = 1 := by have := hhi rfl; simp [sgn, h0]; omega
        clear hlo hhi hs2 
        replace h0 := hidden h0
        replace hr := hidden hr
        replace e0 := hidden e0
        replace hs := hidden hs
        go_wp2_with fail
        simp [bodyPost, results, Try.results22, go_sem]
        exact ⟨ret_int (by rw [← ev.out]; exact hr.out.symm), hbl⟩
      · have hr : sgn v = -1 := by have := hlo rfl; have : v < 0 := by omega
                                   simp [sgn, h0, this]
        clear hlo hhi hs2
        replace h0 := hidden h0
        replace hr := hidden hr
        replace e0 := hidden e0
        replace hs := hidden hs
        go_wp2_with fail
        simp [bodyPost, results, Try.results22, go_sem]
        exact ⟨ret_int (by rw [← ev.out]; exact hr.out.symm), hbl⟩
theorem cmpr_any (aN aD bN bD : Int) (hA : R64 aN) (hB : R64 aD) (hC : R64 bN) (hD : R64 bD) (w : World) :
    Calls Try.prog 22 #[.agg #[.int .i64 aN, .int .i64 aD], .agg #[.int .i64 bN, .int .i64 bD]] w (RetI (cmpR aN aD bN bD) w) := by
  unfold cmpR
  by_cases h : (rightB aN aD && rightB bN bD) = true
  · obtain ⟨ha, hb⟩ := Bool.and_eq_true_iff.1 h
    simp only [h, if_true]
    exact cmp_yes aN aD bN bD hA hB hC hD ha hb w
  · have h' : (rightB aN aD && rightB bN bD) = false := by simpa using h
    simp only [h', Bool.false_eq_true, if_false]
    exact cmp_no aN aD bN bD hA hB hC hD h' w
end Go.Proofs.Ytpdbiofpoccjeaa
