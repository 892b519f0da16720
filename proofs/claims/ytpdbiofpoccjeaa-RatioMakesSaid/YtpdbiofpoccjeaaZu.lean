/- RatioMakes, RatioScales, RatioHeld: the walks. -/
import Derived.Test.YtpdbiofpoccjeaaZt
import Derived.Lib.QuietBelow
namespace Go.Proofs.Ytpdbiofpoccjeaa.Ref
open Go.RowKit Go.Sort
set_option maxRecDepth 100000 in
theorem makes_any (n d : Int) (hn : R64 n) (hd : R64 d) (w : World) : Calls Try.prog 3 #[.int .i64 n, .int .i64 d] w (RetB true w) := by
  obtain ⟨N, eN⟩ : ∃ N, toldN (makeV n d) d.natAbs = N := ⟨_, rfl⟩
  obtain ⟨D, eD⟩ : ∃ D, toldD (makeV n d) d.natAbs = D := ⟨_, rfl⟩
  obtain ⟨k, ek⟩ : ∃ k, toldOk (makeV n d) d.natAbs = k := ⟨_, rfl⟩
  have c1 := make_any n d hn hd
  have c2 := fun w => rmake_any n d w hn hd
  unfold RetT at c1 c2
  rw [eN, eD, ek] at c1 c2
  have hQ := fun w => eq_rat N D N D w
  rw [show (N == N && D == D) = true by simp] at hQ
  have hk : (k == k) = true := by simp
  replace c1 := hidden c1; replace c2 := hidden c2
  clear eN eD ek
  go_enter Try.func3, Try.ntmps3
  go_wp2_with fail
  refine (shown_any _).mono ?_
  rintro e w1 ⟨rfl, hb1⟩
  have hbl := bl_then (bl_refl w) hb1
  clear hb1
  go_wp2_with fail
  refine (c1.out _).mono ?_
  rintro e w2 ⟨rfl, hb2⟩
  replace hbl := bl_alloc (bl_then hbl hb2) (.cells #[.int .i64 N, .int .i64 D] 24)
  have BA := Blk.new w2 #[.int .i64 N, .int .i64 D] 24
  clear hb2
  go_wp2_with fail
  refine (c2.out _).mono ?_
  rintro e w3 ⟨rfl, hb3⟩
  replace hbl := bl_alloc (bl_then hbl hb3) (.cells #[.int .i64 N, .int .i64 D] 24)
  replace BA := (BA.after hb3).alloc (.cells #[.int .i64 N, .int .i64 D] 24)
  have BB := Blk.new w3 #[.int .i64 N, .int .i64 D] 24
  clear hb3
  go_upto_region 4 with (fail)
  generalize w3.alloc (.cells #[.int .i64 N, .int .i64 D] 24) = W at hbl BA BB ⊢
  have a0 := Blk2.c0 BA; have a1 := Blk2.c1 BA; have b0 := Blk2.c0 BB; have b1 := Blk2.c1 BB
  go_wp2_with fail
  go_ret
  exact ⟨rfl, hbl⟩
theorem scales_any (n a b : Int) (hn : R64 n) (ha : R64 a) (hb : R64 b) (w : World) : Calls Try.prog 4 #[.int .i64 n, .int .i64 a, .int .i64 b] w (RetB true w) := by
  obtain ⟨N, eN⟩ : ∃ N, scN n a b = N := ⟨_, rfl⟩
  obtain ⟨k, ek⟩ : ∃ k, scOk n a b = k := ⟨_, rfl⟩
  have c1 := scaler_any n a b hn ha hb
  have c2 := rscale_any n a b hn ha hb
  rw [eN, ek] at c1 c2
  have hk : (k == k) = true := by simp
  have hN : (N == N) = true := by simp
  replace c1 := hidden c1; replace c2 := hidden c2
  clear eN ek
  go_enter Try.func4, Try.ntmps4
  go_wp2_with fail
  refine (shown_any _).mono ?_
  rintro e w1 ⟨rfl, hb1⟩
  have hbl := bl_then (bl_refl w) hb1
  clear hb1
  go_wp2_with fail
  refine (c1.out _).mono ?_
  rintro e w2 ⟨rfl, hb2⟩
  replace hbl := bl_then hbl hb2
  clear hb2
  go_wp2_with fail
  refine (c2.out _).mono ?_
  rintro e w3 ⟨rfl, hb3⟩
  replace hbl := bl_then hbl hb3
  clear hb3
  go_wp2_with fail
  go_ret
  exact ⟨rfl, hbl⟩
set_option maxRecDepth 100000 in
set_option maxHeartbeats 4000000 in
theorem held_any (aN aD bN bD : Int) (hA : R64 aN) (hB : R64 aD) (hC : R64 bN) (hD : R64 bD) (w : World) : Calls Try.prog 8 #[.agg #[.int .i64 aN, .int .i64 aD], .agg #[.int .i64 bN, .int .i64 bD]] w (RetB true w) := by
  obtain ⟨x, ex⟩ : ∃ x, cmpR aN aD bN bD = x := ⟨_, rfl⟩
  obtain ⟨y, ey⟩ : ∃ y, floorR aN aD = y := ⟨_, rfl⟩
  obtain ⟨z, ez⟩ : ∃ z, roundR aN aD = z := ⟨_, rfl⟩
  have c1 := cmpr_any aN aD bN bD hA hB hC hD
  have c2 := rcmp_any aN aD bN bD hA hB hC hD
  have c3 := floorr_any aN aD hA hB
  have c4 := rfloor_any aN aD hA hB
  have c5 := roundr_any aN aD hA hB
  have c6 := rround_any aN aD hA hB
  rw [ex] at c1 c2
  rw [ey] at c3 c4
  rw [ez] at c5 c6
  replace c1 := hidden c1; replace c2 := hidden c2; replace c3 := hidden c3; replace c4 := hidden c4; replace c5 := hidden c5; replace c6 := hidden c6
  have hx : (x == x) = true := by simp
  have hy : (y == y) = true := by simp
  have hz : (z == z) = true := by simp
  clear ex ey ez
  go_enter Try.func8, Try.ntmps8
  go_upto_region 2 with (go_at_call 13; refine (shown_any _).mono ?_; rintro e W0 ⟨rfl, hb1⟩; have BA : Blk W0 w.heap.size #[.int .i64 aN, .int .i64 aD] 24 := ((Blk.new _ _ _).alloc _).after hb1; have BB : Blk W0 (w.heap.size + 1) #[.int .i64 bN, .int .i64 bD] 24 := Blk.after (Blk.made _ _ _ _ (by simp)) hb1; have hbl := bl_then (bl_alloc (bl_alloc (bl_refl w) _) _) hb1)
  clear hb1
  have k0 := cell_regrown (Blk2.c0 BA)
  have k1 := cell_regrown (Blk2.c1 BA)
  have k2 := cell_regrown (Blk2.c0 BB)
  have k3 := cell_regrown (Blk2.c1 BB)
  have r1 : ∀ dd os, Calls Try.prog 22 #[.agg #[.int .i64 aN, .int .i64 aD], .agg #[.int .i64 bN, .int .i64 bD]] (grow (redrawn W0 dd) os) fun e w'' => e = .returned (.int .i64 x) ∧ ∃ p : Regrown, w'' = grow (redrawn W0 p.d) p.os := fun dd os => Calls.regrown_of (c1.out _)
  have r2 : ∀ dd os, Calls Try.prog 23 #[.agg #[.int .i64 aN, .int .i64 aD], .agg #[.int .i64 bN, .int .i64 bD]] (grow (redrawn W0 dd) os) fun e w'' => e = .returned (.int .i64 x) ∧ ∃ p : Regrown, w'' = grow (redrawn W0 p.d) p.os := fun dd os => Calls.regrown_of (c2.out _)
  have r3 : ∀ dd os, Calls Try.prog 24 #[.agg #[.int .i64 aN, .int .i64 aD]] (grow (redrawn W0 dd) os) fun e w'' => e = .returned (.int .i64 y) ∧ ∃ p : Regrown, w'' = grow (redrawn W0 p.d) p.os := fun dd os => Calls.regrown_of (c3.out _)
  have r4 : ∀ dd os, Calls Try.prog 25 #[.agg #[.int .i64 aN, .int .i64 aD]] (grow (redrawn W0 dd) os) fun e w'' => e = .returned (.int .i64 y) ∧ ∃ p : Regrown, w'' = grow (redrawn W0 p.d) p.os := fun dd os => Calls.regrown_of (c4.out _)
  have r5 : ∀ dd os, Calls Try.prog 18 #[.agg #[.int .i64 aN, .int .i64 aD]] (grow (redrawn W0 dd) os) fun e w'' => e = .returned (.int .i64 z) ∧ ∃ p : Regrown, w'' = grow (redrawn W0 p.d) p.os := fun dd os => Calls.regrown_of (c5.out _)
  have r6 : ∀ dd os, Calls Try.prog 26 #[.agg #[.int .i64 aN, .int .i64 aD]] (grow (redrawn W0 dd) os) fun e w'' => e = .returned (.int .i64 z) ∧ ∃ p : Regrown, w'' = grow (redrawn W0 p.d) p.os := fun dd os => Calls.regrown_of (c6.out _)
  replace c1 := True.intro; replace c2 := True.intro; replace c3 := True.intro; replace c4 := True.intro; replace c5 := True.intro; replace c6 := True.intro
  clear c1 c2 c3 c4 c5 c6
  replace r1 := hidden r1; replace r2 := hidden r2; replace r3 := hidden r3; replace r4 := hidden r4; replace r5 := hidden r5; replace r6 := hidden r6
  refine wp_region_quiet_below (by kernel_rfl) (by kernel_rfl) ?_
  repeat (go_big_quiet_step (first | exact r1.out _ _ | exact r2.out _ _ | exact r3.out _ _ | exact r4.out _ _ | exact r5.out _ _ | exact r6.out _ _))
  refine wpQuiet_nil ?_
  intro _ hw'
  obtain ⟨⟨dq, osq⟩, hw''⟩ := hw'
  subst hw''
  go_wp2_with fail
  go_ret
  exact ⟨rfl, bl_then hbl (below_regrown _ dq osq)⟩
end Go.Proofs.Ytpdbiofpoccjeaa.Ref
