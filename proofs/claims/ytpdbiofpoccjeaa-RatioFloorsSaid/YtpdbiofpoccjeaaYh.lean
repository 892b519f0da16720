/- RatioFloors: the plain law and the walk. -/
import Derived.Test.YtpdbiofpoccjeaaYg
import Derived.Lib.QuietBelow
namespace Go.Proofs.Ytpdbiofpoccjeaa
open Go.RowKit Go.Sort
theorem floors_law {N D : Int} (R : Rt N D) : ∃ n r : Int, N / D = n ∧ (2 * N + D) / 2 / D = r ∧ -9223372036854775807 ≤ n ∧ n ≤ 9223372036854775807 ∧ sgn (n * D + -N * 1) ≤ 0 ∧ 0 < sgn ((n + 1) * D + -N * 1) ∧ (D = 1 → n = N ∧ r = N) ∧ (r = n ∨ (r = n + 1 ∧ n ≤ 9223372036854775806)) := by
  have hp := R.pos
  have h1 := Int.ediv_mul_le N (b := D) (by omega)
  have h2 := Int.lt_ediv_add_one_mul_self N hp
  obtain ⟨n, en⟩ : ∃ n, N / D = n := ⟨_, rfl⟩
  obtain ⟨r, er⟩ : ∃ r, (2 * N + D) / 2 / D = r := ⟨_, rfl⟩
  have b1 : -9223372036854775807 ≤ N / D := by
    rw [Int.le_ediv_iff_mul_le hp]
    have : -9223372036854775807 * D ≤ -9223372036854775807 * 1 := Int.mul_le_mul_of_nonpos_left (by omega) (by omega)
    have := R.lo
    omega
  have b2 := of_decide_eq_true (div_fits R.n64 hp)
  have r1 : n ≤ r := by
    rw [← er, Int.ediv_ediv_of_nonneg (by omega), Int.le_ediv_iff_mul_le (by omega), ← en]
    have : N / D * (2 * D) = 2 * (N / D * D) := by grind
    omega
  have r2 : r < n + 2 := by
    rw [← er, Int.ediv_ediv_of_nonneg (by omega), Int.ediv_lt_iff_lt_mul (by omega), ← en]
    have e1 : (N / D + 2) * (2 * D) = 2 * ((N / D + 1) * D) + 2 * D := by grind
    omega
  have d1 : D = 1 → n = N ∧ r = N := by
    rintro rfl
    rw [← en, ← er]
    simp
    omega
  rw [en] at h1 h2 b1 b2
  refine ⟨n, r, en, er, b1, b2.2, ?_, ?_, d1, ?_⟩
  · have := sgn_facts (n * D + -N * 1); have := sgn_three (n * D + -N * 1)
    omega
  · have := sgn_facts ((n + 1) * D + -N * 1); have := sgn_three ((n + 1) * D + -N * 1)
    omega
  · by_cases h : r = n
    · exact .inl h
    · refine .inr ⟨by omega, ?_⟩
      by_cases hd : D = 1
      · exact absurd ((d1 hd).2.trans (d1 hd).1.symm) h
      · by_cases hn : n ≤ 9223372036854775806
        · exact hn
        · have hn' : n = 9223372036854775807 := by omega
          have := R.hi
          rw [hn'] at h1
          have : 9223372036854775807 * 2 ≤ 9223372036854775807 * D := Int.mul_le_mul_of_nonneg_left (by omega) (by omega)
          omega
theorem floors_more {N D N' D' : Int} (R : Rt N D) (R' : Rt N' D') (e : N' * (D * 2) = (N * 2 + 1 * D) * D') : N' / D' = (2 * N + D) / 2 / D := by
  have hp := R.pos; have hp' := R'.pos
  rw [Int.ediv_ediv_of_nonneg (by omega)]
  exact div_cross hp' (by omega) (by grind)
theorem floors_none (x0 x1 : Int) (c : ∀ w, Calls Try.prog 14 #[.int .i64 x0, .int .i64 x1] w (RetR 0 0 false w)) (w : World) : Calls Try.prog 9 #[.agg #[.int .i64 x0, .int .i64 x1]] w (RetB true w) := by
  replace c := hidden c
  go_enter Try.func9, Try.ntmps9
  go_wp2_with fail
  refine (shown_any _).mono ?_
  rintro e w0 ⟨rfl, hb0⟩
  have BX : Blk w0 w.heap.size #[.int .i64 x0, .int .i64 x1] 40 := (Blk.new _ _ _).after hb0
  have hbl := bl_then (bl_alloc (bl_refl w) _) hb0
  have i0 := BX.cell 0; have i1 := BX.cell 1
  simp at i0 i1
  dsimp only
  repeat (first | go_big_skip | go_step)
  refine (c.out _).mono ?_
  rintro e w1 ⟨rfl, hb1⟩
  dsimp only
  repeat (first | go_big_skip | go_step)
  simp [bodyPost, results, Try.results9, go_sem]
  exact ⟨rfl, bl_alloc (bl_then hbl hb1) _⟩
set_option maxRecDepth 10000 in
set_option maxHeartbeats 16000000 in
theorem floors_some (x0 x1 N D : Int) (R : Rt N D) (c : ∀ w, Calls Try.prog 14 #[.int .i64 x0, .int .i64 x1] w (RetR N D true w)) (w : World) : Calls Try.prog 9 #[.agg #[.int .i64 x0, .int .i64 x1]] w (RetB true w) := by
  obtain ⟨n, r, en, er, b1, b2, s1, s2, hd1, hr⟩ := floors_law R
  have cf := hidden (floor_to R en)
  have cr := hidden (round_to R er)
  have hn64 : R64 n := ⟨by omega, b2⟩
  have R1 : Rt n 1 := rt_whole b1 b2
  have cw := hidden (make_y hn64 (⟨by omega, by omega⟩ : R64 1) (by omega) R1 (by grind))
  obtain ⟨v1, ev1⟩ : ∃ v, sgn (n * D + -N * 1) = v := ⟨_, rfl⟩
  obtain ⟨v2, ev2⟩ : ∃ v, sgn ((n + 1) * D + -N * 1) = v := ⟨_, rfl⟩
  have c1 := hidden (cmp_y R1 R ev1)
  rw [ev1] at s1
  rw [ev2] at s2
  have t1 : decide (0 < v1) = false := decide_eq_false (by omega)
  have t2 : decide (v2 ≤ 0) = false := decide_eq_false (by omega)
  obtain ⟨mN, mD, mok, hm, cm⟩ := add_c2 R rt_half
  have cfm : Hid (mok = true → ∀ w, Calls Try.prog 24 #[.agg #[.int .i64 mN, .int .i64 mD]] w (RetI r w)) := fun h => by
    obtain ⟨R', e'⟩ := hm h
    exact floor_to R' ((floors_more R R' e').trans er)
  replace c := hidden c; replace cm := hidden cm
  have hwn : n ≤ 9223372036854775806 → wrap64 (n + 1) = n + 1 := fun h => by unfold wrap64; omega
  have cn : Hid (n < 4611686018427387904 → (∀ w, Calls Try.prog 14 #[.int .i64 (n + 1), .int .i64 1] w (RetR (n + 1) 1 true w)) ∧ (∀ w, Calls Try.prog 22 #[.agg #[.int .i64 (n + 1), .int .i64 1], .agg #[.int .i64 N, .int .i64 D]] w (RetI v2 w))) := fun h => by
    have R2 : Rt (n + 1) 1 := rt_whole (by omega) (by omega)
    exact ⟨make_y ⟨by omega, by omega⟩ ⟨by omega, by omega⟩ (by omega) R2 (by grind), cmp_y R2 R ev2⟩
  replace hd1 := hidden hd1; replace hr := hidden hr
  replace hwn := hidden hwn
  have hb63 := hidden b2
  clear ev1 ev2 s1 s2 hm en er b1 b2 hn64 R1 R
  go_enter Try.func9, Try.ntmps9
  go_wp2_with fail
  refine (shown_any _).mono ?_
  rintro e w0 ⟨rfl, hb0⟩
  have BX : Blk w0 w.heap.size #[.int .i64 x0, .int .i64 x1] 40 := (Blk.new _ _ _).after hb0
  have hbl := bl_then (bl_alloc (bl_refl w) _) hb0
  have i0 := BX.cell 0; have i1 := BX.cell 1
  simp at i0 i1
  dsimp only
  repeat (first | go_big_skip | go_step)
  refine (c.out _).mono ?_
  rintro e w1 ⟨rfl, hb1⟩
  have BA := Blk.new w1 #[.int .i64 N, .int .i64 D] 24
  replace hbl := bl_alloc (bl_then hbl hb1) (.cells #[.int .i64 N, .int .i64 D] 24)
  clear i0 i1 hb0 hb1 BX
  have i0 := BA.cell 0; have i1 := BA.cell 1
  simp at i0 i1
  dsimp only
  repeat (first | go_big_skip | go_step)
  refine (cf.out _).mono ?_
  rintro e w2 ⟨rfl, hb2⟩
  replace BA := BA.after hb2; replace hbl := bl_then hbl hb2
  clear i0 i1 hb2
  dsimp only
  repeat (first | go_big_skip | go_step)
  refine (cw.out _).mono ?_
  rintro e w3 ⟨rfl, hb3⟩
  have BW := Blk.new w3 #[.int .i64 n, .int .i64 1] 24
  replace BA := (BA.after hb3).alloc (.cells #[.int .i64 n, .int .i64 1] 24)
  replace hbl := bl_alloc (bl_then hbl hb3) (.cells #[.int .i64 n, .int .i64 1] 24)
  clear hb3
  have i0 := BA.cell 0; have i1 := BA.cell 1; have j0 := BW.cell 0; have j1 := BW.cell 1
  simp at i0 i1 j0 j1
  dsimp only
  repeat (first | go_big_skip | go_step)
  refine (c1.out _).mono ?_
  rintro e w4 ⟨rfl, hb4⟩
  replace BA := BA.after hb4; replace hbl := bl_then hbl hb4
  clear i0 i1 j0 j1 hb4 BW
  dsimp only
  go_upto_if 40 with (fail)
  go_cut [] from 40 to 54 (fun w' => Blk w' w1.heap.size #[.int .i64 N, .int .i64 D] 24 ∧ Below w.heap.size w w')
  case first =>
    by_cases hlt : n < 4611686018427387904
    · have e1 : decide (n < 4611686018427387904) = true := decide_eq_true hlt
      rw [e1]
      have cn1 := hidden (cn.out hlt).1
      have cn2 := hidden (cn.out hlt).2
      have hw := hwn.out (by omega)
      by_cases hgt : -4611686018427387904 < n
      · have e2 : decide (-4611686018427387904 < n) = true := decide_eq_true hgt
        clear hlt hgt
        repeat (first | go_big_skip | go_step)
        refine (cn1.out _).mono ?_
        rintro e w5 ⟨rfl, hb5⟩
        have BN := Blk.new w5 #[.int .i64 (n + 1), .int .i64 1] 24
        replace BA := (BA.after hb5).alloc (.cells #[.int .i64 (n + 1), .int .i64 1] 24)
        replace hbl := bl_alloc (bl_then hbl hb5) (.cells #[.int .i64 (n + 1), .int .i64 1] 24)
        have i0 := BA.cell 0; have i1 := BA.cell 1; have j0 := BN.cell 0; have j1 := BN.cell 1
        simp at i0 i1 j0 j1
        dsimp only
        repeat (first | go_big_skip | go_step)
        refine (cn2.out _).mono ?_
        rintro e w6 ⟨rfl, hb6⟩
        replace BA := BA.after hb6; replace hbl := bl_then hbl hb6
        dsimp only
        repeat (first | go_big_skip | go_step)
        go_meet
        exact ⟨BA, hbl⟩
      · have e2 : decide (-4611686018427387904 < n) = false := decide_eq_false hgt
        clear hlt hgt
        repeat (first | go_big_skip | go_step)
        refine (cn1.out _).mono ?_
        rintro e w5 ⟨rfl, hb5⟩
        replace BA := (BA.after hb5).alloc (.cells #[.int .i64 (n + 1), .int .i64 1] 24)
        replace hbl := bl_alloc (bl_then hbl hb5) (.cells #[.int .i64 (n + 1), .int .i64 1] 24)
        dsimp only
        repeat (first | go_big_skip | go_step)
        go_meet
        exact ⟨BA, hbl⟩
    · have e1 : decide (n < 4611686018427387904) = false := decide_eq_false hlt
      rw [e1]
      clear hlt
      repeat (first | go_big_skip | go_step)
      go_meet
      exact ⟨BA, hbl⟩
  case rest =>
  clear BA hbl
  obtain ⟨BA, hbl⟩ := hcut
  have i0 := BA.cell 0; have i1 := BA.cell 1
  simp at i0 i1
  go_upto_region 13 with (fail)
  repeat (first | go_big_skip | go_step)
  refine (cm.out _).mono ?_
  rintro e w7 ⟨rfl, hb7⟩
  have BM := Blk.new w7 #[.int .i64 mN, .int .i64 mD] 24
  replace BA := (BA.after hb7).alloc (.cells #[.int .i64 mN, .int .i64 mD] 24)
  replace hbl := bl_alloc (bl_then hbl hb7) (.cells #[.int .i64 mN, .int .i64 mD] 24)
  clear i0 i1 hb7
  dsimp only
  go_upto_region 14 with (fail)
  generalize w7.alloc (.cells #[.int .i64 mN, .int .i64 mD] 24) = W0 at BA BM hbl ⊢
  go_cut [68] from 61 to 68 (fun s68 w' => s68 = .bool false ∧ Blk w' w1.heap.size #[.int .i64 N, .int .i64 D] 24 ∧ Below w.heap.size w w')
  case first =>
    have i0 := BA.cell 0; have i1 := BA.cell 1; have j0 := BM.cell 0; have j1 := BM.cell 1
    simp at i0 i1 j0 j1
    have lA := BA.lt; have lM := BM.lt
    cases mok
    · go_quiet (fail)
      repeat (first | go_big_skip | go_step)
      go_meet
      exact ⟨by simp, BA.drewN _, bl_drewN hbl _⟩
    · have cfm' := hidden (cfm.out rfl)
      go_region_held3 (fun w' => ∀ b o, b < W0.heap.size → w'.cell? ⟨b, o, none⟩ = W0.cell? ⟨b, o, none⟩)
        (exact (bcell (by repeat (first | (with_reducible first | assumption | exact bl_refl _ | apply bl_drew | apply bl_alloc)))).1)
        (first
          | (go_at_call 24; refine (cfm'.out _).mono ?_; rintro e w8 ⟨rfl, hb8⟩; have hT : Below W0.heap.size W0 w8 := bl_then (by repeat (first | (with_reducible assumption) | exact bl_refl _ | apply bl_drew)) hb8)
          | (go_at_call 18; refine (cr.out _).mono ?_; rintro e w9 ⟨rfl, hb9⟩; have hT : Below W0.heap.size W0 w9 := bl_then (by repeat (first | (with_reducible assumption) | exact bl_refl _ | apply bl_drew)) hb9))
      all_goals
        replace BA := BA.after hT
        replace hbl := bl_then hbl hT
        repeat (first | go_big_skip | go_step)
        go_meet
        exact ⟨by simp, BA, hbl⟩
  case rest =>
  clear BA BM hbl
  obtain ⟨rfl, BA, hbl⟩ := hcut
  go_upto_region 16 with (fail)
  have i0 := BA.cell 0; have i1 := BA.cell 1
  simp at i0 i1
  have lA := BA.lt
  by_cases hD : D = 1
  · obtain ⟨hn, hr1⟩ := hd1.out hD
    subst hD hn hr1
    clear hd1 hr hwn t1 t2 cn cf cw c1 cfm c cm
    have k0 := cell_regrown i0
    have k1 := cell_regrown i1
    have cR : ∀ d os, Calls Try.prog 18 #[.agg #[.int .i64 r, .int .i64 1]] (grow (redrawn wc d) os) fun e w'' => e = .returned (.int .i64 r) ∧ ∃ p : Regrown, w'' = grow (redrawn wc p.d) p.os := fun d os => Calls.regrown_of (cr.out _)
    refine wp_region_quiet_below (by kernel_rfl) (by kernel_rfl) ?_
    repeat (go_big_quiet_step (exact cR _ _))
    refine wpQuiet_nil ?_
    intro _ hw'
    obtain ⟨⟨dq, osq⟩, hw''⟩ := hw'
    subst hw''
    repeat (first | go_big_skip | go_step)
    simp [bodyPost, results, Try.results9, go_sem]
    exact ⟨rfl, bl_then hbl (below_regrown wc dq osq)⟩
  · have e1 : (D != 1) = true := by simpa using hD
    rcases hr.out with h | ⟨h, h'⟩
    · subst h
      clear hd1 hr hwn t1 t2 cn cf cw c1 cfm c cm hD
      have k0 := cell_regrown i0
      have k1 := cell_regrown i1
      have cR : ∀ d os, Calls Try.prog 18 #[.agg #[.int .i64 N, .int .i64 D]] (grow (redrawn wc d) os) fun e w'' => e = .returned (.int .i64 r) ∧ ∃ p : Regrown, w'' = grow (redrawn wc p.d) p.os := fun d os => Calls.regrown_of (cr.out _)
      refine wp_region_quiet_below (by kernel_rfl) (by kernel_rfl) ?_
      repeat (go_big_quiet_step (exact cR _ _))
      refine wpQuiet_nil ?_
      intro _ hw'
      obtain ⟨⟨dq, osq⟩, hw''⟩ := hw'
      subst hw''
      repeat (first | go_big_skip | go_step)
      simp [bodyPost, results, Try.results9, go_sem]
      exact ⟨rfl, bl_then hbl (below_regrown wc dq osq)⟩
    · have hw := hwn.out h'
      have e2 : (r == n) = false := by rw [h]; simp; omega
      have e3 : (r == n + 1) = true := by rw [h]; simp
      clear hd1 hr hwn t1 t2 cn cf cw c1 cfm c cm hD h h'
      have k0 := cell_regrown i0
      have k1 := cell_regrown i1
      have cR : ∀ d os, Calls Try.prog 18 #[.agg #[.int .i64 N, .int .i64 D]] (grow (redrawn wc d) os) fun e w'' => e = .returned (.int .i64 r) ∧ ∃ p : Regrown, w'' = grow (redrawn wc p.d) p.os := fun d os => Calls.regrown_of (cr.out _)
      refine wp_region_quiet_below (by kernel_rfl) (by kernel_rfl) ?_
      repeat (go_big_quiet_step (exact cR _ _))
      refine wpQuiet_nil ?_
      intro _ hw'
      obtain ⟨⟨dq, osq⟩, hw''⟩ := hw'
      subst hw''
      repeat (first | go_big_skip | go_step)
      simp [bodyPost, results, Try.results9, go_sem]
      exact ⟨rfl, bl_then hbl (below_regrown wc dq osq)⟩
theorem floors_any (x0 x1 : Int) (hx0 : R64 x0) (hx1 : R64 x1) (w : World) : Calls Try.prog 9 #[.agg #[.int .i64 x0, .int .i64 x1]] w (RetB true w) := by
  rcases make_c hx0 hx1 with ⟨N, D, R, _, _, c⟩ | c
  · exact floors_some x0 x1 N D R c w
  · exact floors_none x0 x1 c w
end Go.Proofs.Ytpdbiofpoccjeaa
