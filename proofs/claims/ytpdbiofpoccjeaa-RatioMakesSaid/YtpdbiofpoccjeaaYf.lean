/- RatioBack: the plain law and the walk. -/
import Derived.Test.YtpdbiofpoccjeaaYe
namespace Go.Proofs.Ytpdbiofpoccjeaa
open Go.RowKit
theorem back_sum {aN aD bN bD N D : Int} (hb : bD ≠ 0) (e : N * (aD * bD) = (aN * bD + bN * aD) * D) : aN * (D * bD) = (N * bD + -bN * D) * aD := by
  have h : (aN * (D * bD)) * bD = ((N * bD + -bN * D) * aD) * bD := by grind
  exact Int.eq_of_mul_eq_mul_right hb h
theorem back_mul {aN aD bN bD N D : Int} (e : N * (aD * bD) = (aN * bN) * D) : aN * (D * bN) = (N * bD) * aD := by grind
theorem make_c2 {n d : Int} (hn : R64 n) (hd : R64 d) : ∃ (N D : Int) (ok : Bool), (ok = true → Rt N D) ∧ (ok = false → N = 0 ∧ D = 0) ∧ ∀ w, Calls Try.prog 14 #[.int .i64 n, .int .i64 d] w (RetR N D ok w) := by
  rcases make_c hn hd with ⟨N, D, R, _, _, c⟩ | c
  · exact ⟨N, D, true, fun _ => R, by simp, c⟩
  · exact ⟨0, 0, false, by simp, fun _ => ⟨rfl, rfl⟩, c⟩
set_option maxRecDepth 10000 in
theorem back_none (x0 x1 y0 y1 aN aD bN bD : Int) (ok is : Bool) (ha : ok = false → aN = 0 ∧ aD = 0) (hb : is = false → bN = 0 ∧ bD = 0) (hno : (ok && is) = false)
    (ca : ∀ w, Calls Try.prog 14 #[.int .i64 x0, .int .i64 x1] w (RetR aN aD ok w)) (cb : ∀ w, Calls Try.prog 14 #[.int .i64 y0, .int .i64 y1] w (RetR bN bD is w)) (w : World) :
    Calls Try.prog 11 #[.agg #[.int .i64 x0, .int .i64 x1], .agg #[.int .i64 y0, .int .i64 y1]] w (RetB true w) := by
  have heq := eq_rat
  replace ca := hidden ca; replace cb := hidden cb
  go_enter Try.func11, Try.ntmps11
  go_wp2_with fail
  refine (shown_any _).mono ?_
  rintro e w0 ⟨rfl, hb0⟩
  have BX : Blk w0 w.heap.size #[.int .i64 x0, .int .i64 x1] 40 := ((Blk.new _ _ _).alloc _).after hb0
  have BY : Blk w0 (w.heap.size + 1) #[.int .i64 y0, .int .i64 y1] 40 := (Blk.made _ _ _ _ (by simp)).after hb0
  have hbl := bl_then (bl_alloc (bl_alloc (bl_refl w) _) _) hb0
  have i0 := BX.cell 0; have i1 := BX.cell 1
  simp at i0 i1
  dsimp only
  repeat (first | go_big_skip | go_step)
  refine (ca.out _).mono ?_
  rintro e w1 ⟨rfl, hb1⟩
  have BA := Blk.new w1 #[.int .i64 aN, .int .i64 aD] 24
  replace BY := (BY.after hb1).alloc (.cells #[.int .i64 aN, .int .i64 aD] 24)
  replace hbl := bl_alloc (bl_then hbl hb1) (.cells #[.int .i64 aN, .int .i64 aD] 24)
  clear i0 i1
  have i0 := BY.cell 0; have i1 := BY.cell 1
  simp at i0 i1
  dsimp only
  repeat (first | go_big_skip | go_step)
  refine (cb.out _).mono ?_
  rintro e w2 ⟨rfl, hb2⟩
  have BB := Blk.new w2 #[.int .i64 bN, .int .i64 bD] 24
  replace BA := (BA.after hb2).alloc (.cells #[.int .i64 bN, .int .i64 bD] 24)
  replace hbl := bl_alloc (bl_then hbl hb2) (.cells #[.int .i64 bN, .int .i64 bD] 24)
  clear i0 i1
  have i0 := BA.cell 0; have i1 := BA.cell 1; have j0 := BB.cell 0; have j1 := BB.cell 1
  simp at i0 i1 j0 j1
  dsimp only
  cases ok
  · obtain ⟨rfl, rfl⟩ := ha rfl
    clear ha
    cases is
    · obtain ⟨rfl, rfl⟩ := hb rfl
      clear hb
      repeat (first | go_big_skip | go_step)
      simp [bodyPost, results, Try.results11, go_sem]
      exact ⟨rfl, hbl⟩
    · clear hb
      repeat (first | go_big_skip | go_step)
      simp [bodyPost, results, Try.results11, go_sem]
      exact ⟨rfl, hbl⟩
  · obtain rfl : is = false := by simpa using hno
    obtain ⟨rfl, rfl⟩ := hb rfl
    clear ha hb
    repeat (first | go_big_skip | go_step)
    simp [bodyPost, results, Try.results11, go_sem]
    exact ⟨rfl, hbl⟩
theorem add_c2 {aN aD bN bD : Int} (A : Rt aN aD) (B : Rt bN bD) : ∃ (N D : Int) (ok : Bool), (ok = true → Rt N D ∧ N * (aD * bD) = (aN * bD + bN * aD) * D) ∧ ∀ w, Calls Try.prog 20 #[.agg #[.int .i64 aN, .int .i64 aD], .agg #[.int .i64 bN, .int .i64 bD]] w (RetR N D ok w) := by
  rcases add_c A B with ⟨N, D, R, e, _, c⟩ | ⟨_, c⟩
  · exact ⟨N, D, true, fun _ => ⟨R, e⟩, c⟩
  · exact ⟨0, 0, false, by simp, c⟩
theorem mul_c2 {aN aD bN bD : Int} (A : Rt aN aD) (B : Rt bN bD) : ∃ (N D : Int) (ok : Bool), (ok = true → Rt N D ∧ N * (aD * bD) = (aN * bN) * D) ∧ ∀ w, Calls Try.prog 21 #[.agg #[.int .i64 aN, .int .i64 aD], .agg #[.int .i64 bN, .int .i64 bD]] w (RetR N D ok w) := by
  rcases mul_c A B with ⟨N, D, R, e, _, c⟩ | ⟨_, c⟩
  · exact ⟨N, D, true, fun _ => ⟨R, e⟩, c⟩
  · exact ⟨0, 0, false, by simp, c⟩
set_option maxRecDepth 10000 in
set_option maxHeartbeats 1000000 in
theorem back_some (x0 x1 y0 y1 aN aD bN bD : Int) (A : Rt aN aD) (B : Rt bN bD)
    (ca : ∀ w, Calls Try.prog 14 #[.int .i64 x0, .int .i64 x1] w (RetR aN aD true w)) (cb : ∀ w, Calls Try.prog 14 #[.int .i64 y0, .int .i64 y1] w (RetR bN bD true w)) (w : World) :
    Calls Try.prog 11 #[.agg #[.int .i64 x0, .int .i64 x1], .agg #[.int .i64 y0, .int .i64 y1]] w (RetB true w) := by
  have heq := eq_rat
  obtain ⟨sN, sD, sok, hs, cs⟩ := add_c2 A B
  obtain ⟨pN, pD, pok, hp, cp⟩ := mul_c2 A B
  have A0 := hidden A.pos; have B0 := hidden B.pos
  have cd := div_0 A rt_zero
  have cz := sub_y A A rt_zero (by grind)
  replace ca := hidden ca; replace cb := hidden cb; replace cs := hidden cs; replace cp := hidden cp; replace hs := hidden hs; replace hp := hidden hp
  replace A := hidden A; replace B := hidden B; replace cd := hidden cd; replace cz := hidden cz
  go_enter Try.func11, Try.ntmps11
  go_wp2_with fail
  refine (shown_any _).mono ?_
  rintro e w0 ⟨rfl, hb0⟩
  have BX : Blk w0 w.heap.size #[.int .i64 x0, .int .i64 x1] 40 := ((Blk.new _ _ _).alloc _).after hb0
  have BY : Blk w0 (w.heap.size + 1) #[.int .i64 y0, .int .i64 y1] 40 := (Blk.made _ _ _ _ (by simp)).after hb0
  have hbl := bl_then (bl_alloc (bl_alloc (bl_refl w) _) _) hb0
  have i0 := BX.cell 0; have i1 := BX.cell 1
  simp at i0 i1
  dsimp only
  repeat (first | go_big_skip | go_step)
  refine (ca.out _).mono ?_
  rintro e w1 ⟨rfl, hb1⟩
  have BA := Blk.new w1 #[.int .i64 aN, .int .i64 aD] 24
  replace BY := (BY.after hb1).alloc (.cells #[.int .i64 aN, .int .i64 aD] 24)
  replace hbl := bl_alloc (bl_then hbl hb1) (.cells #[.int .i64 aN, .int .i64 aD] 24)
  clear i0 i1
  have i0 := BY.cell 0; have i1 := BY.cell 1
  simp at i0 i1
  dsimp only
  repeat (first | go_big_skip | go_step)
  refine (cb.out _).mono ?_
  rintro e w2 ⟨rfl, hb2⟩
  have BB := Blk.new w2 #[.int .i64 bN, .int .i64 bD] 24
  replace BA := (BA.after hb2).alloc (.cells #[.int .i64 bN, .int .i64 bD] 24)
  replace hbl := bl_alloc (bl_then hbl hb2) (.cells #[.int .i64 bN, .int .i64 bD] 24)
  clear i0 i1 hb0 hb1 hb2 BX BY
  have i0 := BA.cell 0; have i1 := BA.cell 1; have j0 := BB.cell 0; have j1 := BB.cell 1
  simp at i0 i1 j0 j1
  dsimp only
  repeat (first | go_big_skip | go_step)
  refine (cs.out _).mono ?_
  rintro e w3 ⟨rfl, hb3⟩
  have BS := Blk.new w3 #[.int .i64 sN, .int .i64 sD] 24
  replace BA := (BA.after hb3).alloc (.cells #[.int .i64 sN, .int .i64 sD] 24)
  replace BB := (BB.after hb3).alloc (.cells #[.int .i64 sN, .int .i64 sD] 24)
  replace hbl := bl_alloc (bl_then hbl hb3) (.cells #[.int .i64 sN, .int .i64 sD] 24)
  clear i0 i1 j0 j1 hb3
  dsimp only
  go_upto_if 68 with (fail)
  generalize w3.alloc (.cells #[.int .i64 sN, .int .i64 sD] 24) = W3 at BS BA BB hbl ⊢
  go_cut [] (fun w' => Blk w' w1.heap.size #[.int .i64 aN, .int .i64 aD] 24 ∧ Blk w' w2.heap.size #[.int .i64 bN, .int .i64 bD] 24 ∧ Below w.heap.size w w')
  case first =>
    cases sok
    · repeat (first | go_big_skip | go_step)
      go_meet
      exact ⟨BA, BB, hbl⟩
    · obtain ⟨R, e⟩ := hs.out rfl
      have ck := hidden (sub_y R B.out A.out (back_sum (by have := B0.out; omega) e))
      clear e R
      have i0 := BS.cell 0; have i1 := BS.cell 1; have j0 := BB.cell 0; have j1 := BB.cell 1
      simp at i0 i1 j0 j1
      repeat (first | go_big_skip | go_step)
      refine (ck.out _).mono ?_
      rintro e w4 ⟨rfl, hb4⟩
      have BK := Blk.new w4 #[.int .i64 aN, .int .i64 aD] 24
      replace BA := (BA.after hb4).alloc (.cells #[.int .i64 aN, .int .i64 aD] 24)
      replace BB := (BB.after hb4).alloc (.cells #[.int .i64 aN, .int .i64 aD] 24)
      replace hbl := bl_alloc (bl_then hbl hb4) (.cells #[.int .i64 aN, .int .i64 aD] 24)
      clear i0 i1 j0 j1 hb4
      have i0 := BA.cell 0; have i1 := BA.cell 1; have j0 := BK.cell 0; have j1 := BK.cell 1
      simp at i0 i1 j0 j1
      dsimp only
      repeat (first | go_big_skip | go_step)
      go_meet
      exact ⟨BA, BB, hbl⟩
  case rest =>
  clear BA BB BS hbl
  obtain ⟨BA, BB, hbl⟩ := hcut
  have i0 := BA.cell 0; have i1 := BA.cell 1; have j0 := BB.cell 0; have j1 := BB.cell 1
  simp at i0 i1 j0 j1
  go_upto_region 11 with (fail)
  repeat (first | go_big_skip | go_step)
  refine (cp.out _).mono ?_
  rintro e w5 ⟨rfl, hb5⟩
  have BP := Blk.new w5 #[.int .i64 pN, .int .i64 pD] 24
  replace BA := (BA.after hb5).alloc (.cells #[.int .i64 pN, .int .i64 pD] 24)
  replace BB := (BB.after hb5).alloc (.cells #[.int .i64 pN, .int .i64 pD] 24)
  replace hbl := bl_alloc (bl_then hbl hb5) (.cells #[.int .i64 pN, .int .i64 pD] 24)
  clear i0 i1 j0 j1 hb5
  dsimp only
  go_upto_region 12 with (fail)
  generalize w5.alloc (.cells #[.int .i64 pN, .int .i64 pD] 24) = W5 at BP BA BB hbl ⊢
  go_cut [93] (fun s93 w' => s93 = .bool (pok && (bN != 0)) ∧ w' = W5)
  case first =>
    have j0 := BB.cell 0
    simp at j0
    cases pok
    · repeat (first | go_big_skip | go_step)
      go_meet
      exact ⟨rfl, rfl⟩
    · repeat (first | go_big_skip | go_step)
      go_meet
      exact ⟨by simp, rfl⟩
  case rest =>
  obtain ⟨rfl, rfl⟩ := hcut
  obtain ⟨c, ec⟩ : ∃ c, c = (pok && (bN != 0)) := ⟨_, rfl⟩
  rw [← ec]
  replace ec := hidden ec
  go_upto_if 93 with (fail)
  go_cut [] (fun w' => Blk w' w1.heap.size #[.int .i64 aN, .int .i64 aD] 24 ∧ Below w.heap.size w w')
  case first =>
    cases c
    · repeat (first | go_big_skip | go_step)
      go_meet
      exact ⟨BA, hbl⟩
    · have hc : pok = true ∧ bN ≠ 0 := by simpa using ec.out.symm
      obtain ⟨R, e⟩ := hp.out hc.1
      have ck := hidden (div_y R B.out hc.2 A.out (back_mul e))
      clear e R hc
      have i0 := BP.cell 0; have i1 := BP.cell 1; have j0 := BB.cell 0; have j1 := BB.cell 1
      simp at i0 i1 j0 j1
      repeat (first | go_big_skip | go_step)
      refine (ck.out _).mono ?_
      rintro e w4 ⟨rfl, hb4⟩
      have BK := Blk.new w4 #[.int .i64 aN, .int .i64 aD] 24
      replace BA := (BA.after hb4).alloc (.cells #[.int .i64 aN, .int .i64 aD] 24)
      replace hbl := bl_alloc (bl_then hbl hb4) (.cells #[.int .i64 aN, .int .i64 aD] 24)
      clear i0 i1 j0 j1 hb4
      have i0 := BA.cell 0; have i1 := BA.cell 1; have j0 := BK.cell 0; have j1 := BK.cell 1
      simp at i0 i1 j0 j1
      dsimp only
      repeat (first | go_big_skip | go_step)
      go_meet
      exact ⟨BA, hbl⟩
  case rest =>
  clear BA BB BP hbl
  obtain ⟨BA, hbl⟩ := hcut
  have i0 := BA.cell 0; have i1 := BA.cell 1
  simp at i0 i1
  go_upto_region 16 with (fail)
  repeat (first | go_big_skip | go_step)
  refine (cd.out _).mono ?_
  rintro e w6 ⟨rfl, hb6⟩
  replace BA := (BA.after hb6).alloc (.cells #[.int .i64 0, .int .i64 0] 24)
  replace hbl := bl_alloc (bl_then hbl hb6) (.cells #[.int .i64 0, .int .i64 0] 24)
  clear i0 i1 hb6
  have i0 := BA.cell 0; have i1 := BA.cell 1
  simp at i0 i1
  dsimp only
  repeat (first | go_big_skip | go_step)
  refine (cz.out _).mono ?_
  rintro e w7 ⟨rfl, hb7⟩
  have BZ := Blk.new w7 #[.int .i64 0, .int .i64 1] 24
  replace hbl := bl_alloc (bl_then hbl hb7) (.cells #[.int .i64 0, .int .i64 1] 24)
  clear i0 i1 hb7
  have i0 := BZ.cell 0; have i1 := BZ.cell 1
  simp at i0 i1
  dsimp only
  repeat (first | go_big_skip | go_step)
  simp [bodyPost, results, Try.results11, go_sem]
  exact ⟨rfl, hbl⟩
theorem back_any (x0 x1 y0 y1 : Int) (hx0 : R64 x0) (hx1 : R64 x1) (hy0 : R64 y0) (hy1 : R64 y1) (w : World) :
    Calls Try.prog 11 #[.agg #[.int .i64 x0, .int .i64 x1], .agg #[.int .i64 y0, .int .i64 y1]] w (RetB true w) := by
  obtain ⟨aN, aD, ok, A, a0, ca⟩ := make_c2 hx0 hx1
  obtain ⟨bN, bD, is, B, b0, cb⟩ := make_c2 hy0 hy1
  by_cases h : (ok && is) = true
  · obtain ⟨rfl, rfl⟩ := Bool.and_eq_true_iff.1 h
    exact back_some x0 x1 y0 y1 aN aD bN bD (A rfl) (B rfl) ca cb w
  · exact back_none x0 x1 y0 y1 aN aD bN bD ok is a0 b0 (by simpa using h) ca cb w
end Go.Proofs.Ytpdbiofpoccjeaa
