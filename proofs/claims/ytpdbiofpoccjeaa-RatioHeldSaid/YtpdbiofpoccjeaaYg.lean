/- RatioOrder: the plain law and the walk. -/
import Derived.Test.YtpdbiofpoccjeaaYf
namespace Go.Proofs.Ytpdbiofpoccjeaa
open Go.RowKit
theorem cmp_y {aN aD bN bD v : Int} (A : Rt aN aD) (B : Rt bN bD) (hv : sgn (aN * bD + -bN * aD) = v) (w : World) :
    Calls Try.prog 22 #[.agg #[.int .i64 aN, .int .i64 aD], .agg #[.int .i64 bN, .int .i64 bD]] w (RetI v w) := by
  have c := cmpr_any aN aD bN bD A.n64 A.d64 B.n64 B.d64 w
  unfold cmpR at c
  simp only [A.right, B.right, Bool.and_self, if_true] at c
  rw [hv] at c
  exact c
theorem sgn_neg (x : Int) : sgn (-x) = - sgn x := by
  unfold sgn
  split <;> split <;> (try split) <;> omega
theorem sgn_three (x : Int) : sgn x = -1 ∨ sgn x = 0 ∨ sgn x = 1 := by
  unfold sgn
  split
  · simp
  · split <;> simp
theorem sgn_facts (x : Int) : (sgn x = -1 ↔ x < 0) ∧ (sgn x = 0 ↔ x = 0) ∧ (sgn x = 1 ↔ 0 < x) := by
  unfold sgn
  split
  · refine ⟨?_, ?_, ?_⟩ <;> constructor <;> intro <;> omega
  · split <;> refine ⟨?_, ?_, ?_⟩ <;> constructor <;> intro <;> omega
/-- The sign of what is multiplied by a number above 0. -/
theorem sgn_mul {x k : Int} (hk : 0 < k) : sgn (x * k) = sgn x := by
  obtain ⟨h1, h2, h3⟩ := sgn_facts x
  obtain ⟨g1, g2, g3⟩ := sgn_facts (x * k)
  rcases Int.lt_trichotomy x 0 with h | h | h
  · rw [h1.2 h, g1.2 (Int.mul_neg_of_neg_of_pos h hk)]
  · rw [h2.2 h, g2.2 (by rw [h, Int.zero_mul])]
  · rw [h3.2 h, g3.2 (Int.mul_pos h hk)]
theorem order_trans {x y z a b c : Int} (ha : 0 < a) (hb : 0 < b) (hc : 0 < c) (e : x * c + y * a = z * b) : (sgn x ≤ 0 → sgn y ≤ 0 → sgn z ≤ 0) ∧ (sgn x < 0 → sgn y < 0 → sgn z < 0) := by
  have h1 := sgn_mul (x := x) hc
  have h2 := sgn_mul (x := y) ha
  have h3 := sgn_mul (x := z) hb
  rw [← h1, ← h2, ← h3]
  generalize x * c = X at *
  generalize y * a = Y at *
  generalize z * b = Z at *
  obtain ⟨p1, p2, p3⟩ := sgn_facts X
  obtain ⟨q1, q2, q3⟩ := sgn_facts Y
  obtain ⟨r1, r2, r3⟩ := sgn_facts Z
  have sx := sgn_three X; have sy := sgn_three Y; have sz := sgn_three Z
  constructor
  · intro a b
    have : X ≤ 0 := by omega
    have : Y ≤ 0 := by omega
    omega
  · intro a b
    have : X < 0 := by omega
    have : Y < 0 := by omega
    omega
theorem order_eq {aN aD bN bD : Int} (A : Rt aN aD) (B : Rt bN bD) : (aN == bN && aD == bD) = (sgn (aN * bD + -bN * aD) == 0) := by
  have h := (sgn_facts (aN * bD + -bN * aD)).2.1
  rw [Bool.eq_iff_iff, Bool.and_eq_true, beq_iff_eq, beq_iff_eq, beq_iff_eq, h]
  constructor
  · rintro ⟨rfl, rfl⟩; grind
  · intro e; exact rt_uniq A B (by grind)
theorem order_sub {aN aD bN bD N D : Int} (A : Rt aN aD) (B : Rt bN bD) (h : Rt N D) (e : N * (aD * bD) = (aN * bD + -bN * aD) * D) : sgn N = sgn (aN * bD + -bN * aD) := by
  rw [← sgn_mul (x := N) (Int.mul_pos A.pos B.pos), e, sgn_mul h.pos]
theorem sub_c2 {aN aD bN bD : Int} (A : Rt aN aD) (B : Rt bN bD) : ∃ (N D : Int) (ok : Bool), (ok = true → sgn N = sgn (aN * bD + -bN * aD)) ∧ ∀ w, Calls Try.prog 27 #[.agg #[.int .i64 aN, .int .i64 aD], .agg #[.int .i64 bN, .int .i64 bD]] w (RetR N D ok w) := by
  rcases sub_c A B with ⟨N, D, R, e, c⟩ | c
  · exact ⟨N, D, true, fun _ => order_sub A B R e, c⟩
  · exact ⟨0, 0, false, by simp, c⟩
set_option maxRecDepth 10000 in
set_option maxHeartbeats 8000000 in
theorem order_with (x0 x1 y0 y1 z0 z1 aN aD bN bD cN cD : Int) (ok is too : Bool) (hok : ok = true → Rt aN aD) (his : is = true → Rt bN bD) (htoo : too = true → Rt cN cD)
    (ca : ∀ w, Calls Try.prog 14 #[.int .i64 x0, .int .i64 x1] w (RetR aN aD ok w)) (cb : ∀ w, Calls Try.prog 14 #[.int .i64 y0, .int .i64 y1] w (RetR bN bD is w)) (cc : ∀ w, Calls Try.prog 14 #[.int .i64 z0, .int .i64 z1] w (RetR cN cD too w)) (w : World) :
    Calls Try.prog 12 #[.agg #[.int .i64 x0, .int .i64 x1], .agg #[.int .i64 y0, .int .i64 y1], .agg #[.int .i64 z0, .int .i64 z1]] w (RetB true w) := by
  replace ca := hidden ca; replace cb := hidden cb; replace cc := hidden cc; replace hok := hidden hok; replace his := hidden his; replace htoo := hidden htoo
  go_enter Try.func12, Try.ntmps12
  go_wp2_with fail
  refine (shown_any _).mono ?_
  rintro e w0 ⟨rfl, hb0⟩
  have BX : Blk w0 w.heap.size #[.int .i64 x0, .int .i64 x1] 40 := (((Blk.new _ _ _).alloc _).alloc _).after hb0
  have BY : Blk w0 (w.heap.size + 1) #[.int .i64 y0, .int .i64 y1] 40 := ((Blk.made _ _ _ _ (by simp)).alloc _).after hb0
  have BZ : Blk w0 (w.heap.size + 1 + 1) #[.int .i64 z0, .int .i64 z1] 40 := (Blk.made _ _ _ _ (by simp)).after hb0
  have hbl := bl_then (bl_alloc (bl_alloc (bl_alloc (bl_refl w) _) _) _) hb0
  have i0 := BX.cell 0; have i1 := BX.cell 1
  simp at i0 i1
  dsimp only
  repeat (first | go_big_skip | go_step)
  refine (ca.out _).mono ?_
  rintro e w1 ⟨rfl, hb1⟩
  have BA := Blk.new w1 #[.int .i64 aN, .int .i64 aD] 24
  replace BY := (BY.after hb1).alloc (.cells #[.int .i64 aN, .int .i64 aD] 24)
  replace BZ := (BZ.after hb1).alloc (.cells #[.int .i64 aN, .int .i64 aD] 24)
  replace hbl := bl_alloc (bl_then hbl hb1) (.cells #[.int .i64 aN, .int .i64 aD] 24)
  clear i0 i1
  have i0 := BY.cell 0; have i1 := BY.cell 1
  simp at i0 i1
  dsimp only
  repeat (first | go_big_skip | go_step)
  refine (cb.out _).mono ?_
  rintro e w2 ⟨rfl, hb2⟩
  have BB := Blk.new w2 #[.int .i64 bN, .int .i64 bD] 24
  replace BA := (BA.after hb2).alloc (.cells #[.int .i64 bN, .int .i64 bD] 24)
  replace BZ := (BZ.after hb2).alloc (.cells #[.int .i64 bN, .int .i64 bD] 24)
  replace hbl := bl_alloc (bl_then hbl hb2) (.cells #[.int .i64 bN, .int .i64 bD] 24)
  clear i0 i1 BX BY hb0 hb1 hb2
  have i0 := BZ.cell 0; have i1 := BZ.cell 1
  simp at i0 i1
  dsimp only
  repeat (first | go_big_skip | go_step)
  refine (cc.out _).mono ?_
  rintro e w3 ⟨rfl, hb3⟩
  have BC := Blk.new w3 #[.int .i64 cN, .int .i64 cD] 24
  replace BA := (BA.after hb3).alloc (.cells #[.int .i64 cN, .int .i64 cD] 24)
  replace BB := (BB.after hb3).alloc (.cells #[.int .i64 cN, .int .i64 cD] 24)
  replace hbl := bl_alloc (bl_then hbl hb3) (.cells #[.int .i64 cN, .int .i64 cD] 24)
  clear i0 i1 BZ hb3
  dsimp only
  go_upto_region 5 with (fail)
  generalize w3.alloc (.cells #[.int .i64 cN, .int .i64 cD] 24) = W3 at BA BB BC hbl ⊢
  go_cut [53] (fun s53 w' => s53 = .bool (!(ok && is && too)) ∧ w' = W3)
  case first =>
    cases ok
    · repeat (first | go_big_skip | go_step)
      go_meet
      exact ⟨by simp, rfl⟩
    · cases is
      · repeat (first | go_big_skip | go_step)
        go_meet
        exact ⟨by simp, rfl⟩
      · cases too
        · repeat (first | go_big_skip | go_step)
          go_meet
          exact ⟨by simp, rfl⟩
        · repeat (first | go_big_skip | go_step)
          go_meet
          exact ⟨by simp, rfl⟩
  case rest =>
  obtain ⟨rfl, rfl⟩ := hcut
  by_cases hall : (ok && is && too) = true
  · rw [hall]
    have h1 : ok = true ∧ is = true ∧ too = true := by simpa [and_assoc] using hall
    have A := hok.out h1.1
    have B := his.out h1.2.1
    have C := htoo.out h1.2.2
    clear hall h1
    obtain ⟨ab, eab⟩ : ∃ ab, sgn (aN * bD + -bN * aD) = ab := ⟨_, rfl⟩
    obtain ⟨bc, ebc⟩ : ∃ bc, sgn (bN * cD + -cN * bD) = bc := ⟨_, rfl⟩
    obtain ⟨ac, eac⟩ : ∃ ac, sgn (aN * cD + -cN * aD) = ac := ⟨_, rfl⟩
    have kab := hidden (cmp_y A B eab)
    have kbc := hidden (cmp_y B C ebc)
    have kac := hidden (cmp_y A C eac)
    have kaa := hidden (cmp_y (v := 0) A A (by rw [show aN * aD + -aN * aD = 0 by grind]; rfl))
    have kba := hidden (cmp_y (v := -ab) B A (by rw [show bN * aD + -aN * bD = -(aN * bD + -bN * aD) by grind, sgn_neg, eab]))
    have htr := order_trans (x := aN * bD + -bN * aD) (y := bN * cD + -cN * bD) (z := aN * cD + -cN * aD) A.pos B.pos C.pos (by grind)
    have heq : ∀ w, (Op.equalIn 10000 24 (.agg #[.int .i64 aN, .int .i64 aD]) (.agg #[.int .i64 bN, .int .i64 bD])).run Try.prog w = .ok (ab == 0) w := fun w => by rw [eq_rat, order_eq A B, eab]
    obtain ⟨dN, dD, told, hd, kd⟩ := sub_c2 A B
    rw [eab] at hd
    have tab := eab ▸ sgn_three (aN * bD + -bN * aD)
    have tbc := ebc ▸ sgn_three (bN * cD + -cN * bD)
    have tac := eac ▸ sgn_three (aN * cD + -cN * aD)
    rw [eab, ebc, eac] at htr
    replace htr := hidden htr; replace tab := hidden tab; replace tbc := hidden tbc; replace tac := hidden tac; replace hd := hidden hd; replace kd := hidden kd
    clear eab ebc eac A B C hok his htoo ca cb cc
    have i0 := BA.cell 0; have i1 := BA.cell 1; have j0 := BB.cell 0; have j1 := BB.cell 1
    simp at i0 i1 j0 j1
    go_upto_region 7 with (fail)
    repeat (first | go_big_skip | go_step)
    refine (kab.out _).mono ?_
    rintro e w4 ⟨rfl, hb4⟩
    replace BA := BA.after hb4; replace BB := BB.after hb4; replace BC := BC.after hb4; replace hbl := bl_then hbl hb4
    clear i0 i1 j0 j1 hb4
    have i0 := BB.cell 0; have i1 := BB.cell 1; have j0 := BC.cell 0; have j1 := BC.cell 1
    simp at i0 i1 j0 j1
    dsimp only
    repeat (first | go_big_skip | go_step)
    refine (kbc.out _).mono ?_
    rintro e w5 ⟨rfl, hb4⟩
    replace BA := BA.after hb4; replace BB := BB.after hb4; replace BC := BC.after hb4; replace hbl := bl_then hbl hb4
    clear i0 i1 j0 j1 hb4
    have i0 := BA.cell 0; have i1 := BA.cell 1; have j0 := BC.cell 0; have j1 := BC.cell 1
    simp at i0 i1 j0 j1
    dsimp only
    repeat (first | go_big_skip | go_step)
    refine (kac.out _).mono ?_
    rintro e w6 ⟨rfl, hb4⟩
    replace BA := BA.after hb4; replace BB := BB.after hb4; replace hbl := bl_then hbl hb4
    clear i0 i1 j0 j1 hb4 BC
    dsimp only
    go_upto_region 10 with (fail)
    go_cut [107] (fun s107 w' => s107 = .bool false ∧ Blk w' w1.heap.size #[.int .i64 aN, .int .i64 aD] 24 ∧ Blk w' w2.heap.size #[.int .i64 bN, .int .i64 bD] 24 ∧ Below w.heap.size w w')
    case first =>
      have i0 := BA.cell 0; have i1 := BA.cell 1
      simp at i0 i1
      repeat (first | go_big_skip | go_step)
      refine (kaa.out _).mono ?_
      rintro e w7 ⟨rfl, hb4⟩
      replace BA := BA.after hb4; replace BB := BB.after hb4; replace hbl := bl_then hbl hb4
      clear i0 i1 hb4
      have i0 := BA.cell 0; have i1 := BA.cell 1; have j0 := BB.cell 0; have j1 := BB.cell 1
      simp at i0 i1 j0 j1
      dsimp only
      repeat (first | go_big_skip | go_step)
      refine (kba.out _).mono ?_
      rintro e w8 ⟨rfl, hb4⟩
      replace BA := BA.after hb4; replace BB := BB.after hb4; replace hbl := bl_then hbl hb4
      clear i0 i1 j0 j1 hb4
      have i0 := BA.cell 0; have i1 := BA.cell 1; have j0 := BB.cell 0; have j1 := BB.cell 1
      simp at i0 i1 j0 j1
      dsimp only
      rcases tab.out with rfl | rfl | rfl
      · rcases tbc.out with rfl | rfl | rfl
        · have a1 : decide (0 ≤ ac) = false := decide_eq_false (by have := htr.out; have := tac.out; omega)
          have a2 : decide (0 < ac) = false := decide_eq_false (by have := htr.out; have := tac.out; omega)
          repeat (first | go_big_skip | go_step)
          go_meet
          exact ⟨by simp, BA, BB, hbl⟩
        · have a2 : decide (0 < ac) = false := decide_eq_false (by have := htr.out; have := tac.out; omega)
          repeat (first | go_big_skip | go_step)
          go_meet
          exact ⟨by simp, BA, BB, hbl⟩
        · repeat (first | go_big_skip | go_step)
          go_meet
          exact ⟨by simp, BA, BB, hbl⟩
      · rcases tbc.out with rfl | rfl | rfl
        · have a2 : decide (0 < ac) = false := decide_eq_false (by have := htr.out; have := tac.out; omega)
          repeat (first | go_big_skip | go_step)
          go_meet
          exact ⟨by simp, BA, BB, hbl⟩
        · have a2 : decide (0 < ac) = false := decide_eq_false (by have := htr.out; have := tac.out; omega)
          repeat (first | go_big_skip | go_step)
          go_meet
          exact ⟨by simp, BA, BB, hbl⟩
        · repeat (first | go_big_skip | go_step)
          go_meet
          exact ⟨by simp, BA, BB, hbl⟩
      · repeat (first | go_big_skip | go_step)
        go_meet
        exact ⟨by simp, BA, BB, hbl⟩
    case rest =>
      clear BA BB hbl
      obtain ⟨rfl, BA, BB, hbl⟩ := hcut
      have i0 := BA.cell 0; have i1 := BA.cell 1; have j0 := BB.cell 0; have j1 := BB.cell 1
      simp at i0 i1 j0 j1
      go_upto_region 12 with (fail)
      repeat (first | go_big_skip | go_step)
      refine (kd.out _).mono ?_
      rintro e w9 ⟨rfl, hb4⟩
      have BD := Blk.new w9 #[.int .i64 dN, .int .i64 dD] 24
      replace hbl := bl_alloc (bl_then hbl hb4) (.cells #[.int .i64 dN, .int .i64 dD] 24)
      clear i0 i1 j0 j1 hb4 BA BB
      have i0 := BD.cell 0
      simp at i0
      dsimp only
      cases told
      · repeat (first | go_big_skip | go_step)
        simp [bodyPost, results, Try.results12, go_sem]
        exact ⟨rfl, hbl⟩
      · have hdn := hd.out rfl
        obtain ⟨g1, g2, g3⟩ := sgn_facts dN
        rcases tab.out with rfl | rfl | rfl
        · have e1 : decide (dN < 0) = true := decide_eq_true (by omega)
          have e2 : decide (0 < dN) = false := decide_eq_false (by omega)
          clear g1 g2 g3 hdn
          repeat (first | go_big_skip | go_step)
          simp [bodyPost, results, Try.results12, go_sem]
          exact ⟨rfl, hbl⟩
        · have e1 : decide (dN < 0) = false := decide_eq_false (by omega)
          have e2 : decide (0 < dN) = false := decide_eq_false (by omega)
          clear g1 g2 g3 hdn
          repeat (first | go_big_skip | go_step)
          simp [bodyPost, results, Try.results12, go_sem]
          exact ⟨rfl, hbl⟩
        · have e1 : decide (dN < 0) = false := decide_eq_false (by omega)
          have e2 : decide (0 < dN) = true := decide_eq_true (by omega)
          clear g1 g2 g3 hdn
          repeat (first | go_big_skip | go_step)
          simp [bodyPost, results, Try.results12, go_sem]
          exact ⟨rfl, hbl⟩
  · have hall' : (ok && is && too) = false := by simpa using hall
    rw [hall']
    repeat (first | go_big_skip | go_step)
    simp [bodyPost, results, Try.results12, go_sem]
    exact ⟨rfl, hbl⟩
theorem order_any (x0 x1 y0 y1 z0 z1 : Int) (hx0 : R64 x0) (hx1 : R64 x1) (hy0 : R64 y0) (hy1 : R64 y1) (hz0 : R64 z0) (hz1 : R64 z1) (w : World) :
    Calls Try.prog 12 #[.agg #[.int .i64 x0, .int .i64 x1], .agg #[.int .i64 y0, .int .i64 y1], .agg #[.int .i64 z0, .int .i64 z1]] w (RetB true w) := by
  obtain ⟨aN, aD, ok, A, _, ca⟩ := make_c2 hx0 hx1
  obtain ⟨bN, bD, is, B, _, cb⟩ := make_c2 hy0 hy1
  obtain ⟨cN, cD, too, C, _, cc⟩ := make_c2 hz0 hz1
  exact order_with x0 x1 y0 y1 z0 z1 aN aD bN bD cN cD ok is too A B C ca cb cc w
end Go.Proofs.Ytpdbiofpoccjeaa
