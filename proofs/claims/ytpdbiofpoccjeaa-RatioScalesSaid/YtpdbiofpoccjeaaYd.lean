/- RatioScaled: the plain law and the walk. -/
import Derived.Test.YtpdbiofpoccjeaaYc
namespace Go.Proofs.Ytpdbiofpoccjeaa
open Go.RowKit
theorem div_cross {X A Y B : Int} (hA : 0 < A) (hB : 0 < B) (e : X * B = Y * A) : X / A = Y / B := by
  have h1 : X * B / (A * B) = X / A := Int.mul_ediv_mul_of_pos_left X A hB
  have h2 : Y * A / (B * A) = Y / B := Int.mul_ediv_mul_of_pos_left Y B hA
  rw [← h1, ← h2, e, Int.mul_comm A B]
theorem half_cross {N D m b : Int} (hD : 0 < D) (hb : 0 < b) (e : N * b = m * D) : (2 * N + D) / 2 / D = (2 * m + b) / 2 / b := by
  rw [Int.ediv_ediv_of_nonneg (by omega), Int.ediv_ediv_of_nonneg (by omega)]
  exact div_cross (by omega) (by omega) (by grind)
theorem half_whole {n b : Int} (hb : 0 < b) : (2 * (n * b) + b) / 2 / b = n := by
  rw [Int.ediv_ediv_of_nonneg (by omega), show 2 * (n * b) + b = (2 * n + 1) * b by grind, Int.mul_ediv_mul_of_pos_left _ _ hb]
  omega
theorem half_small {m b : Int} (hb : 0 < b) (hm : m.natAbs ≤ 4611686018427387904) : fits ((2 * m + b) / 2 / b) = true := by
  have h := half_fits (N := m) (D := b) (by omega) (by omega) hb
  exact h
theorem scale_to {n a b y : Int} (hn : R64 n) (ha : R64 a) (hb : R64 b) (h0 : 0 < b) (hf : fits y = true) (hy : (2 * (n * a) + b) / 2 / b = y) (w : World) : Calls Try.prog 16 #[.int .i64 n, .int .i64 a, .int .i64 b] w (RetSc y true w) := by
  have hx : scX n a b = y := by
    have h1 : ¬ b < 0 := by omega
    have h2 : ((b.natAbs : Nat) : Int) = b := by omega
    unfold scX scV
    rw [if_neg h1, h2]
    exact hy
  have hok : scOk n a b = true := by
    unfold scOk
    rw [hx, hf]
    simp; omega
  have hN : scN n a b = y := by unfold scN; rw [hok, hx]; rfl
  have c := scaler_any n a b hn ha hb w
  rw [hok, hN] at c
  exact c
theorem round_to {N D y : Int} (h : Rt N D) (hy : (2 * N + D) / 2 / D = y) (w : World) : Calls Try.prog 18 #[.agg #[.int .i64 N, .int .i64 D]] w (RetI y w) := by
  have c := roundr_any N D h.n64 h.d64 w
  unfold roundR at c
  rw [h.right, if_pos rfl, hy] at c
  exact c
theorem floor_to {N D y : Int} (h : Rt N D) (hy : N / D = y) (w : World) : Calls Try.prog 24 #[.agg #[.int .i64 N, .int .i64 D]] w (RetI y w) := by
  have c := floorr_any N D h.n64 h.d64 w
  unfold floorR at c
  rw [h.right, if_pos rfl, hy] at c
  exact c
/-- What is scaled, and what is told of it. -/
theorem scaled_law {n a b j : Int} (hn : -1073741824 < n ∧ n < 1073741824) (ha : 0 ≤ a ∧ a < 1073741824) (hb : 0 < b ∧ b ≤ 1073741824) (hj : 0 ≤ j ∧ j < 32768) :
    ∃ s t N D : Int, (2 * (n * a) + b) / 2 / b = s ∧ fits s = true ∧ (2 * ((n + j) * a) + b) / 2 / b = t ∧ fits t = true ∧ s ≤ t ∧ (2 * (n * b) + b) / 2 / b = n ∧ fits n = true ∧ Rt N D ∧ N * b = (n * a) * D ∧ (2 * N + D) / 2 / D = s := by
  have m1 := mul_bound (a := n) (b := a) (x := 1073741824) (y := 1073741824) (by omega) (by omega)
  have m2 := mul_bound (a := n + j) (b := a) (x := 1073774592) (y := 1073741824) (by omega) (by omega)
  have hb0 : b ≠ 0 := by omega
  have o := make_ok (n := n * a) (d := b) hb0 (by omega) (by omega)
  obtain ⟨_, hR, he⟩ := make_is o
  refine ⟨_, _, _, _, rfl, half_small hb.1 (by omega), rfl, half_small hb.1 (by omega), ?_, half_whole hb.1, fits_of (by omega) (by omega), hR, he, half_cross hR.pos hb.1 he⟩
  have h : n * a ≤ (n + j) * a := Int.mul_le_mul_of_nonneg_right (by omega) ha.1
  refine Int.ediv_le_ediv hb.1 (Int.ediv_le_ediv (by omega) (by omega))
set_option maxRecDepth 10000 in
theorem scaled_any (x0 x1 x2 a1 : Int) (_ : R64 x0) (_ : R64 x1) (_ : R64 x2) (_ : R64 a1) (w : World) : Calls Try.prog 6 #[.agg #[.int .i64 x0, .int .i64 x1, .int .i64 x2], .int .i64 a1] w (RetB true w) := by
  obtain ⟨n, en⟩ : ∃ n, x0.tmod 1073741824 = n := ⟨_, rfl⟩
  obtain ⟨a, ea⟩ : ∃ a, bits .and .i64 x1 1073741823 = a := ⟨_, rfl⟩
  obtain ⟨m, em⟩ : ∃ m, bits .and .i64 x2 1073741823 = m := ⟨_, rfl⟩
  obtain ⟨j, ej⟩ : ∃ j, bits .and .i64 a1 32767 = j := ⟨_, rfl⟩
  have hn : -1073741824 < n ∧ n < 1073741824 := en ▸ tmod30 x0
  have ha : 0 ≤ a ∧ a < 1073741824 := by rw [i64_mask30] at ea; omega
  have hm : 0 ≤ m ∧ m < 1073741824 := by rw [i64_mask30] at em; omega
  have hj : 0 ≤ j ∧ j < 32768 := by rw [i64_mask15] at ej; omega
  obtain ⟨b, eb⟩ : ∃ b, 1 + m = b := ⟨_, rfl⟩
  obtain ⟨s, t, N, D, es, fs, et, ft, hst, eu, fu, hR, he, er⟩ := scaled_law (b := b) hn ha ⟨by omega, by omega⟩ hj
  obtain ⟨nj, enj⟩ : ∃ nj, n + j = nj := ⟨_, rfl⟩
  rw [enj] at et
  have hna := mul_bound (a := n) (b := a) (x := 1073741824) (y := 1073741824) (by omega) (by omega)
  replace es := hidden es
  replace et := hidden et
  replace eu := hidden eu
  replace er := hidden er
  obtain ⟨p, ep⟩ : ∃ p, n * a = p := ⟨_, rfl⟩
  rw [ep] at he hna
  have wb : wrap64 b = b := by unfold wrap64; omega
  have wnj : wrap64 nj = nj := by unfold wrap64; omega
  have wp : wrap64 p = p := by unfold wrap64; omega
  have r1 : R64 n := ⟨by omega, by omega⟩
  have r2 : R64 a := ⟨by omega, by omega⟩
  have r3 : R64 b := ⟨by omega, by omega⟩
  have r4 : R64 nj := ⟨by omega, by omega⟩
  have r5 : R64 p := ⟨by omega, by omega⟩
  have b0 : 0 < b := by omega
  have b1 : b ≠ 0 := by omega
  have hle : decide (s ≤ t) = true := decide_eq_true hst
  replace b1 := hidden b1
  replace he := hidden he
  replace fs := hidden fs
  replace ft := hidden ft
  replace fu := hidden fu
  replace b0 := hidden b0
  clear hn ha hm hj hst hna
  go_enter Try.func6, Try.ntmps6
  go_wp2_with fail
  refine (shown_any _).mono ?_
  rintro e w1 ⟨rfl, hb1⟩
  have BX := (Blk.new w #[.int .i64 x0, .int .i64 x1, .int .i64 x2] 31).after hb1
  have hbl := bl_then (bl_alloc (bl_refl w) _) hb1
  have c0 := BX.cell 0; have c1 := BX.cell 1; have c2 := BX.cell 2
  simp at c0 c1 c2
  dsimp only
  repeat (first | go_big_skip | go_step)
  refine (scale_to r1 r2 r3 b0.out fs.out es.out _).mono ?_
  rintro e w2 ⟨rfl, hb2⟩
  replace hbl := bl_then hbl hb2
  dsimp only
  repeat (first | go_big_skip | go_step)
  refine (scale_to r4 r2 r3 b0.out ft.out et.out _).mono ?_
  rintro e w3 ⟨rfl, hb3⟩
  replace hbl := bl_then hbl hb3
  dsimp only
  repeat (first | go_big_skip | go_step)
  refine (scale_to r1 r3 r3 b0.out fu.out eu.out _).mono ?_
  rintro e w4 ⟨rfl, hb4⟩
  replace hbl := bl_then hbl hb4
  dsimp only
  repeat (first | go_big_skip | go_step)
  refine (make_y r5 r3 b1.out hR he.out _).mono ?_
  rintro e w5 ⟨rfl, hb5⟩
  have BA := Blk.new w5 #[.int .i64 N, .int .i64 D] 24
  replace hbl := bl_alloc (bl_then hbl hb5) (.cells #[.int .i64 N, .int .i64 D] 24)
  clear c0 c1 c2
  have d0 := BA.cell 0; have d1 := BA.cell 1
  simp at d0 d1
  dsimp only
  repeat (first | go_big_skip | go_step)
  refine (round_to hR er.out _).mono ?_
  rintro e w6 ⟨rfl, hb6⟩
  replace hbl := bl_then hbl hb6
  dsimp only
  repeat (first | go_big_skip | go_step)
  simp [bodyPost, results, Try.results6, go_sem]
  exact ⟨rfl, hbl⟩
end Go.Proofs.Ytpdbiofpoccjeaa
