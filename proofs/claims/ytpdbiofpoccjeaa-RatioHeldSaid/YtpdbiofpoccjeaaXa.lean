/- The walks over package ratio's Floor, Round, Scale. -/
import Derived.Test.YtpdbiofpoccjeaaWz
namespace Go.Proofs.Ytpdbiofpoccjeaa
open Go.RowKit
def floorR (N D : Int) : Int := if rightB N D then N / D else 0
def roundR (N D : Int) : Int := if rightB N D then (2 * N + D) / 2 / D else 0
theorem right_pos {N D : Int} (h : rightB N D = true) : 0 < D := (of_decide_eq_true h).1
theorem fits_of {x : Int} (h1 : -9223372036854775808 ≤ x) (h2 : x ≤ 9223372036854775807) : fits x = true := decide_eq_true ⟨h1, h2⟩
theorem div_fits {N D : Int} (hN : R64 N) (hD : 0 < D) : fits (N / D) = true := by
  obtain ⟨h1, h2⟩ := hN
  refine fits_of ?_ ?_
  · rw [Int.le_ediv_iff_mul_le hD]
    have : -9223372036854775808 * D ≤ -9223372036854775808 * 1 := Int.mul_le_mul_of_nonpos_left (by omega) (by omega)
    omega
  · have : N / D < 9223372036854775808 := by
      rw [Int.ediv_lt_iff_lt_mul hD]
      have : 9223372036854775808 * 1 ≤ 9223372036854775808 * D := Int.mul_le_mul_of_nonneg_left (by omega) (by omega)
      omega
    omega
theorem half_fits {N D : Int} (hN : -9223372036854775808 < N) (hN2 : N ≤ 9223372036854775807) (hD : 0 < D) : fits ((2 * N + D) / 2 / D) = true := by
  rw [Int.ediv_ediv_of_nonneg (by omega)]
  refine fits_of ?_ ?_
  · rw [Int.le_ediv_iff_mul_le (by omega)]
    have : -9223372036854775808 * D ≤ -9223372036854775808 * 1 := Int.mul_le_mul_of_nonpos_left (by omega) (by omega)
    omega
  · have : (2 * N + D) / (2 * D) < 9223372036854775808 := by
      rw [Int.ediv_lt_iff_lt_mul (by omega)]
      have : 9223372036854775807 * 1 ≤ 9223372036854775807 * D := Int.mul_le_mul_of_nonneg_left (by omega) (by omega)
      omega
    omega
theorem floor_no (N D : Int) (hN : R64 N) (hD : R64 D) (hr : rightB N D = false) (w : World) : Calls Try.prog 24 #[.agg #[.int .i64 N, .int .i64 D]] w (RetI 0 w) := by
  go_enter Try.func24, Try.ntmps24
  go_wp2_with fail
  refine (right_any N D hN hD _).mono ?_
  rw [hr]
  rintro e w1 ⟨rfl, hb1⟩
  have hbl := bl_then (bl_alloc (bl_refl w) _) hb1
  dsimp only
  repeat (first | go_big_skip | go_step)
  simp [bodyPost, results, Try.results24, go_sem]
  exact ⟨rfl, hbl⟩
theorem round_no (N D : Int) (hN : R64 N) (hD : R64 D) (hr : rightB N D = false) (w : World) : Calls Try.prog 18 #[.agg #[.int .i64 N, .int .i64 D]] w (RetI 0 w) := by
  go_enter Try.func18, Try.ntmps18
  go_wp2_with fail
  refine (right_any N D hN hD _).mono ?_
  rw [hr]
  rintro e w1 ⟨rfl, hb1⟩
  have hbl := bl_then (bl_alloc (bl_refl w) _) hb1
  dsimp only
  repeat (first | go_big_skip | go_step)
  simp [bodyPost, results, Try.results18, go_sem]
  exact ⟨rfl, hbl⟩
theorem floor_yes (N D : Int) (hN : R64 N) (hD : R64 D) (hr : rightB N D = true) (w : World) : Calls Try.prog 24 #[.agg #[.int .i64 N, .int .i64 D]] w (RetI (N / D) w) := by
  have hp := right_pos hr
  have hf := hidden (div_fits hN hp)
  obtain ⟨m, rfl⟩ := Int.eq_ofNat_of_zero_le (show 0 ≤ D by omega)
  have a1 := hN.lo; have a2 := hN.hi; have d2 := hD.hi
  have rD : IntKind.u64.wrap (m : Int) = (m : Int) := by simp [IntKind.wrap_u64]; omega
  go_enter Try.func24, Try.ntmps24
  go_wp2_with fail
  refine (right_any N m hN hD _).mono ?_
  rw [hr]
  rintro e W0 ⟨rfl, hb1⟩
  have BA : Blk W0 w.heap.size #[.int .i64 N, .int .i64 (m : Int)] 24 := (Blk.new _ _ _).after hb1
  have hbl := bl_then (bl_alloc (bl_refl w) _) hb1
  clear hb1
  have c0 := BA.cell 0; have c1 := BA.cell 1
  simp at c0 c1
  have lA := BA.lt
  dsimp only
  go_upto_region 3 with (fail)
  go_region_held3 (fun w' => ∀ b o, b < W0.heap.size → w'.cell? ⟨b, o, none⟩ = W0.cell? ⟨b, o, none⟩)
    (exact (bcell (by repeat (first | (with_reducible first | assumption | exact bl_refl _ | apply bl_drew | apply bl_alloc)))).1)
    (first
      | (go_at_call 30; refine (of_any N (by omega) (by omega) _).mono ?_; rintro e w2 ⟨sb, sh, sl, rfl, hs, hb2⟩; have hbl2 : Below W0.heap.size W0 w2 := bl_then (by repeat (first | exact bl_refl _ | apply bl_alloc | apply bl_drew)) hb2)
      | (go_at_call 47; refine (floor_any sb sh sl N m hs (by omega) (by omega) _).mono ?_; rintro e w3 ⟨y, rfl, hy, hb3⟩; have hbl3 : Below W0.heap.size W0 w3 := bl_then (by repeat (first | exact hbl2 | apply bl_alloc | apply bl_drew)) hb3))
  replace hbl := bl_then hbl hbl3
  have hyx := hidden (hy hf.out)
  clear hy c0 c1
  repeat (first | go_big_skip | go_step)
  simp [bodyPost, results, Try.results24, go_sem]
  exact ⟨ret_int hyx.out, hbl⟩
theorem round_yes (N D : Int) (hN : R64 N) (hD : R64 D) (hr : rightB N D = true) (w : World) : Calls Try.prog 18 #[.agg #[.int .i64 N, .int .i64 D]] w (RetI ((2 * N + D) / 2 / D) w) := by
  have hp := right_pos hr
  have hf := hidden (half_fits (right_min hN hr) hN.hi hp)
  have hl := hidden (show N.natAbs ≤ 85070591730234615865843651857942052864 by have := hN.lo; have := hN.hi; omega)
  obtain ⟨m, rfl⟩ := Int.eq_ofNat_of_zero_le (show 0 ≤ D by omega)
  have a1 := hN.lo; have a2 := hN.hi; have d2 := hD.hi
  have rD : IntKind.u64.wrap (m : Int) = (m : Int) := by simp [IntKind.wrap_u64]; omega
  go_enter Try.func18, Try.ntmps18
  go_wp2_with fail
  refine (right_any N m hN hD _).mono ?_
  rw [hr]
  rintro e W0 ⟨rfl, hb1⟩
  have BA : Blk W0 w.heap.size #[.int .i64 N, .int .i64 (m : Int)] 24 := (Blk.new _ _ _).after hb1
  have hbl := bl_then (bl_alloc (bl_refl w) _) hb1
  clear hb1
  have c0 := BA.cell 0; have c1 := BA.cell 1
  simp at c0 c1
  have lA := BA.lt
  dsimp only
  go_upto_region 3 with (fail)
  go_region_held3 (fun w' => ∀ b o, b < W0.heap.size → w'.cell? ⟨b, o, none⟩ = W0.cell? ⟨b, o, none⟩)
    (exact (bcell (by repeat (first | (with_reducible first | assumption | exact bl_refl _ | apply bl_drew | apply bl_alloc)))).1)
    (first
      | (go_at_call 35; refine (mul_any N 1 (by omega) (by omega) (by omega) (by omega) _).mono ?_; rw [Int.mul_one]; rintro e w2 ⟨sb, sh, sl, rfl, hs, hb2⟩; have hbl2 : Below W0.heap.size W0 w2 := bl_then (by repeat (first | exact bl_refl _ | apply bl_alloc | apply bl_drew)) hb2)
      | (go_at_call 36; refine (half_any sb sh sl N m hs hl.out (by omega) (by omega) _).mono ?_; rintro e w3 ⟨y, rfl, hy, hb3⟩; have hbl3 : Below W0.heap.size W0 w3 := bl_then (by repeat (first | exact hbl2 | apply bl_alloc | apply bl_drew)) hb3))
  replace hbl := bl_then hbl hbl3
  have hyx := hidden (hy hf.out)
  clear hy c0 c1
  repeat (first | go_big_skip | go_step)
  simp [bodyPost, results, Try.results18, go_sem]
  exact ⟨ret_int hyx.out, hbl⟩
theorem floorr_any (N D : Int) (hN : R64 N) (hD : R64 D) (w : World) : Calls Try.prog 24 #[.agg #[.int .i64 N, .int .i64 D]] w (RetI (floorR N D) w) := by
  unfold floorR
  cases h : rightB N D
  · exact floor_no N D hN hD h w
  · exact floor_yes N D hN hD h w
theorem roundr_any (N D : Int) (hN : R64 N) (hD : R64 D) (w : World) : Calls Try.prog 18 #[.agg #[.int .i64 N, .int .i64 D]] w (RetI (roundR N D) w) := by
  unfold roundR
  cases h : rightB N D
  · exact round_no N D hN hD h w
  · exact round_yes N D hN hD h w
/-- What Scale hands to half. -/
def scV (n a b : Int) : Int := if b < 0 then -(n * a) else n * a
def scX (n a b : Int) : Int := (2 * scV n a b + (b.natAbs : Int)) / 2 / (b.natAbs : Int)
def scOk (n a b : Int) : Bool := b != 0 && fits (scX n a b)
def scN (n a b : Int) : Int := if scOk n a b then scX n a b else 0
def RetSc (y : Int) (ok : Bool) (w : World) (e : Ending) (w' : World) : Prop := e = .returned (.tuple #[.int .i64 y, .bool ok]) ∧ Below w.heap.size w w'
theorem scale_no (n a : Int) (w : World) : Calls Try.prog 16 #[.int .i64 n, .int .i64 a, .int .i64 0] w (RetSc 0 false w) := by
  go_enter Try.func16, Try.ntmps16
  go_wp2_with fail
  simp [bodyPost, results, Try.results16, go_sem]
  exact ⟨rfl, bl_refl _⟩
theorem sc_turn {b : Bool} {h l n a d : Int} (H : Sg b h l (n * a)) : Sg (!b == decide (d < 0)) h l (scV n a d) := by
  have := sg_turn (c := decide (d < 0)) H
  unfold scV
  by_cases hd : d < 0 <;> simp [hd] at this ⊢ <;> cases b <;> simpa using this
theorem sc_lt {n a b : Int} (hn : R64 n) (ha : R64 a) : (scV n a b).natAbs ≤ 85070591730234615865843651857942052864 := by
  have := mul_lt hn ha
  unfold scV
  split
  · rw [Int.natAbs_neg]; exact this
  · exact this
theorem scale_yes (n a b : Int) (hn : R64 n) (ha : R64 a) (hb : R64 b) (h0 : b ≠ 0) (w : World) : Calls Try.prog 16 #[.int .i64 n, .int .i64 a, .int .i64 b] w (RetSc (scN n a b) (scOk n a b) w) := by
  have eb : (b == 0) = false := by simpa using h0
  have hok : Hid (scOk n a b = fits (scX n a b)) := by show _ = _; simp [scOk, h0]
  have hm : 0 < b.natAbs := by omega
  have a1 := hn.lo; have a2 := hn.hi; have b1 := ha.lo; have b2 := ha.hi; have c1 := hb.lo; have c2 := hb.hi
  have hl := hidden (sc_lt (b := b) hn ha)
  replace h0 := hidden h0
  go_enter Try.func16, Try.ntmps16
  go_wp2_with fail
  refine (mul_any n a (by omega) (by omega) (by omega) (by omega) _).mono ?_
  rintro e w1 ⟨sb, sh, sl, rfl, hs, hb1⟩
  replace hs := hidden (sc_turn (d := b) hs)
  replace hb1 : Below w.heap.size w w1 := hb1
  dsimp only
  go_upto_region 5 with (fail)
  have BX := Blk.new w1 #[.bool (!sb == decide (b < 0)), .int .u64 sh, .int .u64 sl] 49
  have hbl := bl_alloc hb1 (.cells #[.bool (!sb == decide (b < 0)), .int .u64 sh, .int .u64 sl] 49)
  generalize (!sb == decide (b < 0)) = c at BX hbl hs ⊢
  generalize w1.alloc (.cells #[.bool c, .int .u64 sh, .int .u64 sl] 49) = W0 at BX hbl ⊢
  have x0 := BX.cell 0; have x1 := BX.cell 1; have x2 := BX.cell 2
  simp at x0 x1 x2
  have lX := BX.lt
  go_region_held3 (fun w' => ∀ b o, b < W0.heap.size → w'.cell? ⟨b, o, none⟩ = W0.cell? ⟨b, o, none⟩)
    (exact (bcell (by repeat (first | (with_reducible first | assumption | exact bl_refl _ | apply bl_drew | apply bl_alloc)))).1)
    (first
      | (go_at_call 32; refine (mag_any b (by omega) (by omega) _).mono ?_; rintro e w2 ⟨rfl, hb2⟩; have hbl2 : Below W0.heap.size W0 w2 := bl_then (by repeat (first | exact bl_refl _ | apply bl_alloc | apply bl_drew)) hb2)
      | (go_at_call 36; refine (half_any c sh sl _ b.natAbs hs.out hl.out hm (by omega) _).mono ?_; rintro e w3 ⟨y, rfl, hy, hb3⟩; have hbl3 : Below W0.heap.size W0 w3 := bl_then (by repeat (first | exact hbl2 | apply bl_alloc | apply bl_drew)) hb3))
  replace hbl := bl_then hbl hbl3
  clear x0 x1 x2
  have hX : (2 * scV n a b + (b.natAbs : Int)) / 2 / (b.natAbs : Int) = scX n a b := rfl
  rw [hX] at hy ⊢
  clear hX
  obtain ⟨f, ef⟩ : ∃ f, f = fits (scX n a b) := ⟨_, rfl⟩
  rw [← ef] at hy ⊢
  replace ef := hidden ef
  cases f
  · have hz : Hid (scN n a b = 0 ∧ scOk n a b = false) := by
      have := hok.out.trans ef.out.symm
      show _ ∧ _
      simp [scN, this]
    clear hy
    repeat (first | go_big_skip | go_step)
    simp [bodyPost, results, Try.results16, go_sem]
    exact ⟨by rw [hz.out.1, hz.out.2], hbl⟩
  · have hz : Hid (scN n a b = y ∧ scOk n a b = true) := by
      have := hok.out.trans ef.out.symm
      show _ ∧ _
      simp [scN, this, hy rfl]
    clear hy
    repeat (first | go_big_skip | go_step)
    simp [bodyPost, results, Try.results16, go_sem]
    exact ⟨by rw [hz.out.1, hz.out.2], hbl⟩
theorem scaler_any (n a b : Int) (hn : R64 n) (ha : R64 a) (hb : R64 b) (w : World) : Calls Try.prog 16 #[.int .i64 n, .int .i64 a, .int .i64 b] w (RetSc (scN n a b) (scOk n a b) w) := by
  by_cases h0 : b = 0
  · subst h0
    exact scale_no n a w
  · exact scale_yes n a b hn ha hb h0 w
end Go.Proofs.Ytpdbiofpoccjeaa
