/- RatioRings: the plain law and the walk. -/
import Derived.Test.YtpdbiofpoccjeaaYd
namespace Go.Proofs.Ytpdbiofpoccjeaa
open Go.RowKit
/-- What small hands back. -/
def RetP (N D : Int) (w : World) (e : Ending) (w' : World) : Prop := e = .returned (.agg #[.int .i64 N, .int .i64 D]) ∧ Below w.heap.size w w'
theorem tmod15 (n : Int) : -32768 < n.tmod 32768 ∧ n.tmod 32768 < 32768 := by
  have h1 := Int.tmod_lt_of_pos n (b := 32768) (by omega)
  have h2 := Int.lt_tmod_of_pos n (b := 32768) (by omega)
  omega
set_option maxRecDepth 10000 in
theorem small_c (x y : Int) : ∃ N D : Int, Rt N D ∧ N.natAbs ≤ 32768 ∧ D.natAbs ≤ 32768 ∧ ∀ w, Calls Try.prog 19 #[.agg #[.int .i64 x, .int .i64 y]] w (RetP N D w) := by
  obtain ⟨n, en⟩ : ∃ n, x.tmod 32768 = n := ⟨_, rfl⟩
  obtain ⟨m, em⟩ : ∃ m, bits .and .i64 y 32767 = m := ⟨_, rfl⟩
  have hn : -32768 < n ∧ n < 32768 := en ▸ tmod15 x
  have hm : 0 ≤ m ∧ m < 32768 := by rw [i64_mask15] at em; omega
  obtain ⟨d, ed⟩ : ∃ d, 1 + m = d := ⟨_, rfl⟩
  have wd : wrap64 d = d := by unfold wrap64; omega
  have h0 : d ≠ 0 := by omega
  have o := make_ok (n := n) h0 (by omega) (by omega)
  obtain ⟨_, hR, he⟩ := make_is o
  have hs := told_small (n := makeV n d) (d := d.natAbs)
  rw [makeV_abs] at hs
  have t : toldOk (makeV n d) d.natAbs = true ∧ toldN (makeV n d) d.natAbs = toldN (makeV n d) d.natAbs ∧ toldD (makeV n d) d.natAbs = toldD (makeV n d) d.natAbs := ⟨o, rfl, rfl⟩
  have r1 : R64 n := ⟨by omega, by omega⟩
  have r2 : R64 d := ⟨by omega, by omega⟩
  have mt := fun w => make_to r1 r2 t w
  generalize toldN (makeV n d) d.natAbs = N at *
  generalize toldD (makeV n d) d.natAbs = D at *
  refine ⟨N, D, hR, by omega, by omega, fun w => ?_⟩
  clear o t he hs hR hn hm h0 r1 r2
  replace mt := hidden mt
  go_enter Try.func19, Try.ntmps19
  go_wp2_with fail
  refine (mt.out _).mono ?_
  rintro e w1 ⟨rfl, hb1⟩
  have BR : Blk w1 (w.heap.size + 1) #[.int .i64 0, .int .i64 0] 24 := (Blk.made _ _ _ _ (by simp)).after hb1
  have hbl := bl_then (bl_alloc (bl_alloc (bl_refl w) _) _) hb1
  have lt1 := BR.lt
  have c0 := BR.cell 0; have c1 := BR.cell 1; have f0 := BR.frozen 0; have f1 := BR.frozen 1
  simp at c0 c1
  have E := (BR.set2 (.int .i64 N) (.int .i64 D)).alloc (.cells #[.int .i64 N, .int .i64 D] 24)
  have e0 := E.cell 0; have e1 := E.cell 1
  simp at e0 e1
  dsimp only
  repeat (first | go_big_skip | go_step)
  simp [bodyPost, results, Try.results19, go_sem, e0, e1]
  exact ⟨rfl, by repeat (first | exact hbl | apply bl_alloc | refine bl_set ?_ _ _ (by omega) _)⟩
theorem add_s {aN aD bN bD : Int} (A : Rt aN aD) (B : Rt bN bD) (h1 : (aN * bD + bN * aD).natAbs ≤ 9223372036854775807) (h2 : (aD * bD).natAbs ≤ 9223372036854775807) :
    ∃ N D, Rt N D ∧ N * (aD * bD) = (aN * bD + bN * aD) * D ∧ (N.natAbs ≤ (aN * bD + bN * aD).natAbs ∧ D.natAbs ≤ (aD * bD).natAbs) ∧ ∀ w, Calls Try.prog 20 #[.agg #[.int .i64 aN, .int .i64 aD], .agg #[.int .i64 bN, .int .i64 bD]] w (RetR N D true w) := by
  rcases add_c A B with h | h
  · exact h
  · exact (h.1 h1 h2).elim
theorem mul_s {aN aD bN bD : Int} (A : Rt aN aD) (B : Rt bN bD) (h1 : (aN * bN).natAbs ≤ 9223372036854775807) (h2 : (aD * bD).natAbs ≤ 9223372036854775807) :
    ∃ N D, Rt N D ∧ N * (aD * bD) = (aN * bN) * D ∧ (N.natAbs ≤ (aN * bN).natAbs ∧ D.natAbs ≤ (aD * bD).natAbs) ∧ ∀ w, Calls Try.prog 21 #[.agg #[.int .i64 aN, .int .i64 aD], .agg #[.int .i64 bN, .int .i64 bD]] w (RetR N D true w) := by
  rcases mul_c A B with h | h
  · exact h
  · exact (h.1 h1 h2).elim
theorem sum_sum {aN aD bN bD cN cD N1 D1 N2 D2 N3 D3 : Int} (hb : bD ≠ 0) (hc : cD ≠ 0) (h1 : D1 ≠ 0)
    (e1 : N1 * (aD * bD) = (aN * bD + bN * aD) * D1) (e2 : N2 * (D1 * cD) = (N1 * cD + cN * D1) * D2) (e3 : N3 * (bD * cD) = (bN * cD + cN * bD) * D3) :
    N2 * (aD * D3) = (aN * D3 + N3 * aD) * D2 := by
  have f1 : N2 * (aD * bD * cD) = ((aN * bD + bN * aD) * cD + cN * (aD * bD)) * D2 := by
    have : (N2 * (aD * bD * cD)) * D1 = (((aN * bD + bN * aD) * cD + cN * (aD * bD)) * D2) * D1 := by grind
    exact Int.eq_of_mul_eq_mul_right h1 this
  have f2 : (N2 * (aD * D3)) * (bD * cD) = ((aN * D3 + N3 * aD) * D2) * (bD * cD) := by grind
  exact Int.eq_of_mul_eq_mul_right (Int.mul_ne_zero hb hc) f2
theorem mul_sum {aN aD bN bD cN cD N3 D3 N4 D4 N5 D5 N6 D6 : Int} (hb : bD ≠ 0) (ha : aD ≠ 0) (hc : cD ≠ 0) (h3 : D3 ≠ 0)
    (e3 : N3 * (bD * cD) = (bN * cD + cN * bD) * D3) (e4 : N4 * (aD * D3) = (aN * N3) * D4) (e5 : N5 * (aD * bD) = (aN * bN) * D5) (e6 : N6 * (aD * cD) = (aN * cN) * D6) :
    N4 * (D5 * D6) = (N5 * D6 + N6 * D5) * D4 := by
  have f1 : N4 * (aD * bD * cD) = aN * (bN * cD + cN * bD) * D4 := by
    have : (N4 * (aD * bD * cD)) * D3 = (aN * (bN * cD + cN * bD) * D4) * D3 := by grind
    exact Int.eq_of_mul_eq_mul_right h3 this
  have f2 : (N4 * (D5 * D6)) * (aD * bD * cD) = ((N5 * D6 + N6 * D5) * D4) * (aD * bD * cD) := by grind
  exact Int.eq_of_mul_eq_mul_right (Int.mul_ne_zero (Int.mul_ne_zero ha hb) hc) f2
theorem sum_bound {a b c d : Int} {x y : Nat} (h1 : (a * b).natAbs ≤ x) (h2 : (c * d).natAbs ≤ y) : (a * b + c * d).natAbs ≤ x + y := by omega

set_option maxRecDepth 10000 in
set_option maxHeartbeats 1000000 in
theorem rings_any (x0 x1 y0 y1 z0 z1 : Int) (_ : R64 x0) (_ : R64 x1) (_ : R64 y0) (_ : R64 y1) (_ : R64 z0) (_ : R64 z1) (w : World) :
    Calls Try.prog 7 #[.agg #[.int .i64 x0, .int .i64 x1], .agg #[.int .i64 y0, .int .i64 y1], .agg #[.int .i64 z0, .int .i64 z1]] w (RetB true w) := by
  obtain ⟨aN, aD, A, a1, a2, ca⟩ := small_c x0 x1
  obtain ⟨bN, bD, B, b1, b2, cb⟩ := small_c y0 y1
  obtain ⟨cN, cD, C, c1, c2, cc⟩ := small_c z0 z1
  have a0 := A.pos; have b0 := B.pos; have c0 := C.pos
  obtain ⟨N1, D1, R1, e1, ⟨n1, d1⟩, k1⟩ := add_s A B (by have := sum_bound (mul_bound a1 b2) (mul_bound b1 a2); omega) (by have := mul_bound a2 b2; omega)
  have n1' : N1.natAbs ≤ 2147483648 := by have := sum_bound (mul_bound a1 b2) (mul_bound b1 a2); omega
  have d1' : D1.natAbs ≤ 1073741824 := by have := mul_bound a2 b2; omega
  have k2 := add_y B A R1 (by rw [Int.mul_comm bD aD, Int.add_comm]; exact e1)
  obtain ⟨N2, D2, R2, e2, _, k3⟩ := add_s R1 C (by have := sum_bound (mul_bound n1' c2) (mul_bound c1 d1'); omega) (by have := mul_bound d1' c2; omega)
  obtain ⟨N3, D3, R3, e3, ⟨n3, d3⟩, k4⟩ := add_s B C (by have := sum_bound (mul_bound b1 c2) (mul_bound c1 b2); omega) (by have := mul_bound b2 c2; omega)
  have n3' : N3.natAbs ≤ 2147483648 := by have := sum_bound (mul_bound b1 c2) (mul_bound c1 b2); omega
  have d3' : D3.natAbs ≤ 1073741824 := by have := mul_bound b2 c2; omega
  have p1 := R1.pos; have p3 := R3.pos
  have k5 := add_y A R3 R2 (sum_sum (by omega) (by omega) (by omega) e1 e2 e3)
  obtain ⟨N4, D4, R4, e4, _, k6⟩ := mul_s A R3 (by have := mul_bound a1 n3'; omega) (by have := mul_bound a2 d3'; omega)
  obtain ⟨N5, D5, R5, e5, _, k7⟩ := mul_s A B (by have := mul_bound a1 b1; omega) (by have := mul_bound a2 b2; omega)
  obtain ⟨N6, D6, R6, e6, _, k8⟩ := mul_s A C (by have := mul_bound a1 c1; omega) (by have := mul_bound a2 c2; omega)
  have k9 := add_y R5 R6 R4 (mul_sum (by omega) (by omega) (by omega) (by omega) e3 e4 e5 e6)
  have k10 := add_y A rt_zero A (by grind)
  have k11 := mul_y A rt_one A (by grind)
  clear e1 e2 e3 e4 e5 e6 n1 d1 n1' d1' n3 d3 n3' d3' a0 b0 c0 p1 p3 a1 a2 b1 b2 c1 c2 A B C R1 R2 R3 R4 R5 R6
  have heq := eq_rat
  replace ca := hidden ca; replace cb := hidden cb; replace cc := hidden cc
  replace k1 := hidden k1; replace k2 := hidden k2; replace k3 := hidden k3; replace k4 := hidden k4; replace k5 := hidden k5; replace k6 := hidden k6
  replace k7 := hidden k7; replace k8 := hidden k8; replace k9 := hidden k9; replace k10 := hidden k10; replace k11 := hidden k11
  go_enter Try.func7, Try.ntmps7
  go_wp2_with fail
  refine (shown_any _).mono ?_
  rintro e w0 ⟨rfl, hb⟩
  have BX : Blk w0 w.heap.size #[.int .i64 x0, .int .i64 x1] 34 := (((Blk.new _ _ _).alloc _).alloc _).after hb
  have BY : Blk w0 (w.heap.size + 1) #[.int .i64 y0, .int .i64 y1] 34 := ((Blk.made _ _ _ _ (by simp)).alloc _).after hb
  have BZ : Blk w0 (w.heap.size + 1 + 1) #[.int .i64 z0, .int .i64 z1] 34 := (Blk.made _ _ _ _ (by simp)).after hb
  have hbl := bl_then (bl_alloc (bl_alloc (bl_alloc (bl_refl w) _) _) _) hb
  clear hb
  have i0 := BX.cell 0; have i1 := BX.cell 1
  simp at i0 i1
  dsimp only
  repeat (first | go_big_skip | go_step)
  refine (ca.out _).mono ?_
  rintro e w1 ⟨rfl, hb⟩
  replace BY := (BY.after hb).alloc (.cells #[.int .i64 aN, .int .i64 aD] 24)
  replace BZ := (BZ.after hb).alloc (.cells #[.int .i64 aN, .int .i64 aD] 24)
  have BA := Blk.new w1 #[.int .i64 aN, .int .i64 aD] 24
  replace hbl := bl_alloc (bl_then hbl hb) (.cells #[.int .i64 aN, .int .i64 aD] 24)
  clear hb i0 i1
  have BY0 := BY.cell 0; have BY1 := BY.cell 1
  simp at BY0 BY1
  dsimp only
  repeat (first | go_big_skip | go_step)
  refine (cb.out _).mono ?_
  rintro e w2 ⟨rfl, hb⟩
  replace BY := (BY.after hb).alloc (.cells #[.int .i64 bN, .int .i64 bD] 24)
  replace BZ := (BZ.after hb).alloc (.cells #[.int .i64 bN, .int .i64 bD] 24)
  replace BA := (BA.after hb).alloc (.cells #[.int .i64 bN, .int .i64 bD] 24)
  have BB := Blk.new w2 #[.int .i64 bN, .int .i64 bD] 24
  replace hbl := bl_alloc (bl_then hbl hb) (.cells #[.int .i64 bN, .int .i64 bD] 24)
  clear hb BY0 BY1
  have BZ0 := BZ.cell 0; have BZ1 := BZ.cell 1
  simp at BZ0 BZ1
  dsimp only
  repeat (first | go_big_skip | go_step)
  refine (cc.out _).mono ?_
  rintro e w3 ⟨rfl, hb⟩
  replace BY := (BY.after hb).alloc (.cells #[.int .i64 cN, .int .i64 cD] 24)
  replace BZ := (BZ.after hb).alloc (.cells #[.int .i64 cN, .int .i64 cD] 24)
  replace BA := (BA.after hb).alloc (.cells #[.int .i64 cN, .int .i64 cD] 24)
  replace BB := (BB.after hb).alloc (.cells #[.int .i64 cN, .int .i64 cD] 24)
  have BC := Blk.new w3 #[.int .i64 cN, .int .i64 cD] 24
  replace hbl := bl_alloc (bl_then hbl hb) (.cells #[.int .i64 cN, .int .i64 cD] 24)
  clear hb BZ0 BZ1
  have BA0 := BA.cell 0; have BA1 := BA.cell 1
  have BB0 := BB.cell 0; have BB1 := BB.cell 1
  simp at BA0 BA1 BB0 BB1
  dsimp only
  repeat (first | go_big_skip | go_step)
  refine (k1.out _).mono ?_
  rintro e w4 ⟨rfl, hb⟩
  replace BY := (BY.after hb).alloc (.cells #[.int .i64 N1, .int .i64 D1] 24)
  replace BZ := (BZ.after hb).alloc (.cells #[.int .i64 N1, .int .i64 D1] 24)
  replace BA := (BA.after hb).alloc (.cells #[.int .i64 N1, .int .i64 D1] 24)
  replace BB := (BB.after hb).alloc (.cells #[.int .i64 N1, .int .i64 D1] 24)
  replace BC := (BC.after hb).alloc (.cells #[.int .i64 N1, .int .i64 D1] 24)
  have P1_ := Blk.new w4 #[.int .i64 N1, .int .i64 D1] 24
  replace hbl := bl_alloc (bl_then hbl hb) (.cells #[.int .i64 N1, .int .i64 D1] 24)
  clear hb BA0 BA1 BB0 BB1
  have BB0 := BB.cell 0; have BB1 := BB.cell 1
  have BA0 := BA.cell 0; have BA1 := BA.cell 1
  simp at BB0 BB1 BA0 BA1
  dsimp only
  repeat (first | go_big_skip | go_step)
  refine (k2.out _).mono ?_
  rintro e w5 ⟨rfl, hb⟩
  replace BY := (BY.after hb).alloc (.cells #[.int .i64 N1, .int .i64 D1] 24)
  replace BZ := (BZ.after hb).alloc (.cells #[.int .i64 N1, .int .i64 D1] 24)
  replace BA := (BA.after hb).alloc (.cells #[.int .i64 N1, .int .i64 D1] 24)
  replace BB := (BB.after hb).alloc (.cells #[.int .i64 N1, .int .i64 D1] 24)
  replace BC := (BC.after hb).alloc (.cells #[.int .i64 N1, .int .i64 D1] 24)
  replace P1_ := (P1_.after hb).alloc (.cells #[.int .i64 N1, .int .i64 D1] 24)
  have P2_ := Blk.new w5 #[.int .i64 N1, .int .i64 D1] 24
  replace hbl := bl_alloc (bl_then hbl hb) (.cells #[.int .i64 N1, .int .i64 D1] 24)
  clear hb BB0 BB1 BA0 BA1
  have P1_0 := P1_.cell 0; have P1_1 := P1_.cell 1
  have BC0 := BC.cell 0; have BC1 := BC.cell 1
  simp at P1_0 P1_1 BC0 BC1
  dsimp only
  repeat (first | go_big_skip | go_step)
  refine (k3.out _).mono ?_
  rintro e w6 ⟨rfl, hb⟩
  replace BY := (BY.after hb).alloc (.cells #[.int .i64 N2, .int .i64 D2] 24)
  replace BZ := (BZ.after hb).alloc (.cells #[.int .i64 N2, .int .i64 D2] 24)
  replace BA := (BA.after hb).alloc (.cells #[.int .i64 N2, .int .i64 D2] 24)
  replace BB := (BB.after hb).alloc (.cells #[.int .i64 N2, .int .i64 D2] 24)
  replace BC := (BC.after hb).alloc (.cells #[.int .i64 N2, .int .i64 D2] 24)
  replace P1_ := (P1_.after hb).alloc (.cells #[.int .i64 N2, .int .i64 D2] 24)
  replace P2_ := (P2_.after hb).alloc (.cells #[.int .i64 N2, .int .i64 D2] 24)
  have P3_ := Blk.new w6 #[.int .i64 N2, .int .i64 D2] 24
  replace hbl := bl_alloc (bl_then hbl hb) (.cells #[.int .i64 N2, .int .i64 D2] 24)
  clear hb P1_0 P1_1 BC0 BC1
  have BB0 := BB.cell 0; have BB1 := BB.cell 1
  have BC0 := BC.cell 0; have BC1 := BC.cell 1
  simp at BB0 BB1 BC0 BC1
  dsimp only
  repeat (first | go_big_skip | go_step)
  refine (k4.out _).mono ?_
  rintro e w7 ⟨rfl, hb⟩
  replace BY := (BY.after hb).alloc (.cells #[.int .i64 N3, .int .i64 D3] 24)
  replace BZ := (BZ.after hb).alloc (.cells #[.int .i64 N3, .int .i64 D3] 24)
  replace BA := (BA.after hb).alloc (.cells #[.int .i64 N3, .int .i64 D3] 24)
  replace BB := (BB.after hb).alloc (.cells #[.int .i64 N3, .int .i64 D3] 24)
  replace BC := (BC.after hb).alloc (.cells #[.int .i64 N3, .int .i64 D3] 24)
  replace P1_ := (P1_.after hb).alloc (.cells #[.int .i64 N3, .int .i64 D3] 24)
  replace P2_ := (P2_.after hb).alloc (.cells #[.int .i64 N3, .int .i64 D3] 24)
  replace P3_ := (P3_.after hb).alloc (.cells #[.int .i64 N3, .int .i64 D3] 24)
  have P4_ := Blk.new w7 #[.int .i64 N3, .int .i64 D3] 24
  replace hbl := bl_alloc (bl_then hbl hb) (.cells #[.int .i64 N3, .int .i64 D3] 24)
  clear hb BB0 BB1 BC0 BC1
  have BA0 := BA.cell 0; have BA1 := BA.cell 1
  have P4_0 := P4_.cell 0; have P4_1 := P4_.cell 1
  simp at BA0 BA1 P4_0 P4_1
  dsimp only
  repeat (first | go_big_skip | go_step)
  refine (k5.out _).mono ?_
  rintro e w8 ⟨rfl, hb⟩
  replace BY := (BY.after hb).alloc (.cells #[.int .i64 N2, .int .i64 D2] 24)
  replace BZ := (BZ.after hb).alloc (.cells #[.int .i64 N2, .int .i64 D2] 24)
  replace BA := (BA.after hb).alloc (.cells #[.int .i64 N2, .int .i64 D2] 24)
  replace BB := (BB.after hb).alloc (.cells #[.int .i64 N2, .int .i64 D2] 24)
  replace BC := (BC.after hb).alloc (.cells #[.int .i64 N2, .int .i64 D2] 24)
  replace P1_ := (P1_.after hb).alloc (.cells #[.int .i64 N2, .int .i64 D2] 24)
  replace P2_ := (P2_.after hb).alloc (.cells #[.int .i64 N2, .int .i64 D2] 24)
  replace P3_ := (P3_.after hb).alloc (.cells #[.int .i64 N2, .int .i64 D2] 24)
  replace P4_ := (P4_.after hb).alloc (.cells #[.int .i64 N2, .int .i64 D2] 24)
  have P5_ := Blk.new w8 #[.int .i64 N2, .int .i64 D2] 24
  replace hbl := bl_alloc (bl_then hbl hb) (.cells #[.int .i64 N2, .int .i64 D2] 24)
  clear hb BA0 BA1 P4_0 P4_1
  have BA0 := BA.cell 0; have BA1 := BA.cell 1
  have P4_0 := P4_.cell 0; have P4_1 := P4_.cell 1
  simp at BA0 BA1 P4_0 P4_1
  dsimp only
  repeat (first | go_big_skip | go_step)
  refine (k6.out _).mono ?_
  rintro e w9 ⟨rfl, hb⟩
  replace BY := (BY.after hb).alloc (.cells #[.int .i64 N4, .int .i64 D4] 24)
  replace BZ := (BZ.after hb).alloc (.cells #[.int .i64 N4, .int .i64 D4] 24)
  replace BA := (BA.after hb).alloc (.cells #[.int .i64 N4, .int .i64 D4] 24)
  replace BB := (BB.after hb).alloc (.cells #[.int .i64 N4, .int .i64 D4] 24)
  replace BC := (BC.after hb).alloc (.cells #[.int .i64 N4, .int .i64 D4] 24)
  replace P1_ := (P1_.after hb).alloc (.cells #[.int .i64 N4, .int .i64 D4] 24)
  replace P2_ := (P2_.after hb).alloc (.cells #[.int .i64 N4, .int .i64 D4] 24)
  replace P3_ := (P3_.after hb).alloc (.cells #[.int .i64 N4, .int .i64 D4] 24)
  replace P4_ := (P4_.after hb).alloc (.cells #[.int .i64 N4, .int .i64 D4] 24)
  replace P5_ := (P5_.after hb).alloc (.cells #[.int .i64 N4, .int .i64 D4] 24)
  have P6_ := Blk.new w9 #[.int .i64 N4, .int .i64 D4] 24
  replace hbl := bl_alloc (bl_then hbl hb) (.cells #[.int .i64 N4, .int .i64 D4] 24)
  clear hb BA0 BA1 P4_0 P4_1
  have BA0 := BA.cell 0; have BA1 := BA.cell 1
  have BB0 := BB.cell 0; have BB1 := BB.cell 1
  simp at BA0 BA1 BB0 BB1
  dsimp only
  repeat (first | go_big_skip | go_step)
  refine (k7.out _).mono ?_
  rintro e w10 ⟨rfl, hb⟩
  replace BY := (BY.after hb).alloc (.cells #[.int .i64 N5, .int .i64 D5] 24)
  replace BZ := (BZ.after hb).alloc (.cells #[.int .i64 N5, .int .i64 D5] 24)
  replace BA := (BA.after hb).alloc (.cells #[.int .i64 N5, .int .i64 D5] 24)
  replace BB := (BB.after hb).alloc (.cells #[.int .i64 N5, .int .i64 D5] 24)
  replace BC := (BC.after hb).alloc (.cells #[.int .i64 N5, .int .i64 D5] 24)
  replace P1_ := (P1_.after hb).alloc (.cells #[.int .i64 N5, .int .i64 D5] 24)
  replace P2_ := (P2_.after hb).alloc (.cells #[.int .i64 N5, .int .i64 D5] 24)
  replace P3_ := (P3_.after hb).alloc (.cells #[.int .i64 N5, .int .i64 D5] 24)
  replace P4_ := (P4_.after hb).alloc (.cells #[.int .i64 N5, .int .i64 D5] 24)
  replace P5_ := (P5_.after hb).alloc (.cells #[.int .i64 N5, .int .i64 D5] 24)
  replace P6_ := (P6_.after hb).alloc (.cells #[.int .i64 N5, .int .i64 D5] 24)
  have P7_ := Blk.new w10 #[.int .i64 N5, .int .i64 D5] 24
  replace hbl := bl_alloc (bl_then hbl hb) (.cells #[.int .i64 N5, .int .i64 D5] 24)
  clear hb BA0 BA1 BB0 BB1
  have BA0 := BA.cell 0; have BA1 := BA.cell 1
  have BC0 := BC.cell 0; have BC1 := BC.cell 1
  simp at BA0 BA1 BC0 BC1
  dsimp only
  repeat (first | go_big_skip | go_step)
  refine (k8.out _).mono ?_
  rintro e w11 ⟨rfl, hb⟩
  replace BY := (BY.after hb).alloc (.cells #[.int .i64 N6, .int .i64 D6] 24)
  replace BZ := (BZ.after hb).alloc (.cells #[.int .i64 N6, .int .i64 D6] 24)
  replace BA := (BA.after hb).alloc (.cells #[.int .i64 N6, .int .i64 D6] 24)
  replace BB := (BB.after hb).alloc (.cells #[.int .i64 N6, .int .i64 D6] 24)
  replace BC := (BC.after hb).alloc (.cells #[.int .i64 N6, .int .i64 D6] 24)
  replace P1_ := (P1_.after hb).alloc (.cells #[.int .i64 N6, .int .i64 D6] 24)
  replace P2_ := (P2_.after hb).alloc (.cells #[.int .i64 N6, .int .i64 D6] 24)
  replace P3_ := (P3_.after hb).alloc (.cells #[.int .i64 N6, .int .i64 D6] 24)
  replace P4_ := (P4_.after hb).alloc (.cells #[.int .i64 N6, .int .i64 D6] 24)
  replace P5_ := (P5_.after hb).alloc (.cells #[.int .i64 N6, .int .i64 D6] 24)
  replace P6_ := (P6_.after hb).alloc (.cells #[.int .i64 N6, .int .i64 D6] 24)
  replace P7_ := (P7_.after hb).alloc (.cells #[.int .i64 N6, .int .i64 D6] 24)
  have P8_ := Blk.new w11 #[.int .i64 N6, .int .i64 D6] 24
  replace hbl := bl_alloc (bl_then hbl hb) (.cells #[.int .i64 N6, .int .i64 D6] 24)
  clear hb BA0 BA1 BC0 BC1
  have P7_0 := P7_.cell 0; have P7_1 := P7_.cell 1
  have P8_0 := P8_.cell 0; have P8_1 := P8_.cell 1
  simp at P7_0 P7_1 P8_0 P8_1
  dsimp only
  repeat (first | go_big_skip | go_step)
  refine (k9.out _).mono ?_
  rintro e w12 ⟨rfl, hb⟩
  replace BY := (BY.after hb).alloc (.cells #[.int .i64 N4, .int .i64 D4] 24)
  replace BZ := (BZ.after hb).alloc (.cells #[.int .i64 N4, .int .i64 D4] 24)
  replace BA := (BA.after hb).alloc (.cells #[.int .i64 N4, .int .i64 D4] 24)
  replace BB := (BB.after hb).alloc (.cells #[.int .i64 N4, .int .i64 D4] 24)
  replace BC := (BC.after hb).alloc (.cells #[.int .i64 N4, .int .i64 D4] 24)
  replace P1_ := (P1_.after hb).alloc (.cells #[.int .i64 N4, .int .i64 D4] 24)
  replace P2_ := (P2_.after hb).alloc (.cells #[.int .i64 N4, .int .i64 D4] 24)
  replace P3_ := (P3_.after hb).alloc (.cells #[.int .i64 N4, .int .i64 D4] 24)
  replace P4_ := (P4_.after hb).alloc (.cells #[.int .i64 N4, .int .i64 D4] 24)
  replace P5_ := (P5_.after hb).alloc (.cells #[.int .i64 N4, .int .i64 D4] 24)
  replace P6_ := (P6_.after hb).alloc (.cells #[.int .i64 N4, .int .i64 D4] 24)
  replace P7_ := (P7_.after hb).alloc (.cells #[.int .i64 N4, .int .i64 D4] 24)
  replace P8_ := (P8_.after hb).alloc (.cells #[.int .i64 N4, .int .i64 D4] 24)
  have P9_ := Blk.new w12 #[.int .i64 N4, .int .i64 D4] 24
  replace hbl := bl_alloc (bl_then hbl hb) (.cells #[.int .i64 N4, .int .i64 D4] 24)
  clear hb P7_0 P7_1 P8_0 P8_1
  have BA0 := BA.cell 0; have BA1 := BA.cell 1
  simp at BA0 BA1
  dsimp only
  repeat (first | go_big_skip | go_step)
  refine (k10.out _).mono ?_
  rintro e w13 ⟨rfl, hb⟩
  replace BY := (BY.after hb).alloc (.cells #[.int .i64 aN, .int .i64 aD] 24)
  replace BZ := (BZ.after hb).alloc (.cells #[.int .i64 aN, .int .i64 aD] 24)
  replace BA := (BA.after hb).alloc (.cells #[.int .i64 aN, .int .i64 aD] 24)
  replace BB := (BB.after hb).alloc (.cells #[.int .i64 aN, .int .i64 aD] 24)
  replace BC := (BC.after hb).alloc (.cells #[.int .i64 aN, .int .i64 aD] 24)
  replace P1_ := (P1_.after hb).alloc (.cells #[.int .i64 aN, .int .i64 aD] 24)
  replace P2_ := (P2_.after hb).alloc (.cells #[.int .i64 aN, .int .i64 aD] 24)
  replace P3_ := (P3_.after hb).alloc (.cells #[.int .i64 aN, .int .i64 aD] 24)
  replace P4_ := (P4_.after hb).alloc (.cells #[.int .i64 aN, .int .i64 aD] 24)
  replace P5_ := (P5_.after hb).alloc (.cells #[.int .i64 aN, .int .i64 aD] 24)
  replace P6_ := (P6_.after hb).alloc (.cells #[.int .i64 aN, .int .i64 aD] 24)
  replace P7_ := (P7_.after hb).alloc (.cells #[.int .i64 aN, .int .i64 aD] 24)
  replace P8_ := (P8_.after hb).alloc (.cells #[.int .i64 aN, .int .i64 aD] 24)
  replace P9_ := (P9_.after hb).alloc (.cells #[.int .i64 aN, .int .i64 aD] 24)
  have P10_ := Blk.new w13 #[.int .i64 aN, .int .i64 aD] 24
  replace hbl := bl_alloc (bl_then hbl hb) (.cells #[.int .i64 aN, .int .i64 aD] 24)
  clear hb BA0 BA1
  have BA0 := BA.cell 0; have BA1 := BA.cell 1
  simp at BA0 BA1
  dsimp only
  repeat (first | go_big_skip | go_step)
  refine (k11.out _).mono ?_
  rintro e w14 ⟨rfl, hb⟩
  replace BY := (BY.after hb).alloc (.cells #[.int .i64 aN, .int .i64 aD] 24)
  replace BZ := (BZ.after hb).alloc (.cells #[.int .i64 aN, .int .i64 aD] 24)
  replace BA := (BA.after hb).alloc (.cells #[.int .i64 aN, .int .i64 aD] 24)
  replace BB := (BB.after hb).alloc (.cells #[.int .i64 aN, .int .i64 aD] 24)
  replace BC := (BC.after hb).alloc (.cells #[.int .i64 aN, .int .i64 aD] 24)
  replace P1_ := (P1_.after hb).alloc (.cells #[.int .i64 aN, .int .i64 aD] 24)
  replace P2_ := (P2_.after hb).alloc (.cells #[.int .i64 aN, .int .i64 aD] 24)
  replace P3_ := (P3_.after hb).alloc (.cells #[.int .i64 aN, .int .i64 aD] 24)
  replace P4_ := (P4_.after hb).alloc (.cells #[.int .i64 aN, .int .i64 aD] 24)
  replace P5_ := (P5_.after hb).alloc (.cells #[.int .i64 aN, .int .i64 aD] 24)
  replace P6_ := (P6_.after hb).alloc (.cells #[.int .i64 aN, .int .i64 aD] 24)
  replace P7_ := (P7_.after hb).alloc (.cells #[.int .i64 aN, .int .i64 aD] 24)
  replace P8_ := (P8_.after hb).alloc (.cells #[.int .i64 aN, .int .i64 aD] 24)
  replace P9_ := (P9_.after hb).alloc (.cells #[.int .i64 aN, .int .i64 aD] 24)
  replace P10_ := (P10_.after hb).alloc (.cells #[.int .i64 aN, .int .i64 aD] 24)
  have P11_ := Blk.new w14 #[.int .i64 aN, .int .i64 aD] 24
  replace hbl := bl_alloc (bl_then hbl hb) (.cells #[.int .i64 aN, .int .i64 aD] 24)
  clear hb BA0 BA1
  have P1_0 := P1_.cell 0; have P1_1 := P1_.cell 1
  have P2_0 := P2_.cell 0; have P2_1 := P2_.cell 1
  have P3_0 := P3_.cell 0; have P3_1 := P3_.cell 1
  have P5_0 := P5_.cell 0; have P5_1 := P5_.cell 1
  have P6_0 := P6_.cell 0; have P6_1 := P6_.cell 1
  have P9_0 := P9_.cell 0; have P9_1 := P9_.cell 1
  have P10_0 := P10_.cell 0; have P10_1 := P10_.cell 1
  have P11_0 := P11_.cell 0; have P11_1 := P11_.cell 1
  have BA0 := BA.cell 0; have BA1 := BA.cell 1
  simp at P1_0 P1_1 P2_0 P2_1 P3_0 P3_1 P5_0 P5_1 P6_0 P6_1 P9_0 P9_1 P10_0 P10_1 P11_0 P11_1 BA0 BA1
  dsimp only
  repeat (first | go_big_skip | go_step)
  simp [bodyPost, results, Try.results7, go_sem]
  exact ⟨rfl, hbl⟩
end Go.Proofs.Ytpdbiofpoccjeaa
