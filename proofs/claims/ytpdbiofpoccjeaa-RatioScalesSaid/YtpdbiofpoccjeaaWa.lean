/- The walks over package ratio's numbers of two words: sums, differences, products, held against each other. -/
import Derived.Test.YtpdbiofpoccjeaaKit
import Derived.Test.YtpdbiofpoccjeaaShelf
import Derived.Laws.Externs
namespace Go.Proofs.Ytpdbiofpoccjeaa
open Go.RowKit

/-! ### math/bits.Add64, Sub64: the model's own entries -/
theorem add64 (x y c : Int) (hx : 0 ≤ x) (hy : 0 ≤ y) (hc0 : 0 ≤ c) (hc : c ≤ 1) (w : World) : (callFunc 67 #[.int .u64 x, .int .u64 y, .int .u64 c]).run Try.prog w =
    .ok (.value (.tuple #[.int .u64 ((x + y + c) % 18446744073709551616), .int .u64 ((x + y + c) / 18446744073709551616)])) w := by
  rw [run_callFunc_extern Try.func67 (by kernel_rfl) (by kernel_rfl) (by kernel_rfl) (e := add64Entry) (by kernel_rfl), run_add64 x y c hx hy hc0 hc]
  rfl
theorem add64_0 (x y : Int) (hx : 0 ≤ x) (hy : 0 ≤ y) (w : World) : (callFunc 67 #[.int .u64 x, .int .u64 y, .int .u64 0]).run Try.prog w =
    .ok (.value (.tuple #[.int .u64 ((x + y) % 18446744073709551616), .int .u64 ((x + y) / 18446744073709551616)])) w := by
  simpa using add64 x y 0 hx hy (Int.le_refl 0) (by decide) w

/-- The model's entry for Sub64. -/
def subEntry : Array Value → Sem Value := fun args => do
  let (x, y, b) ← Extern.MathBitsCarry.three "Sub64" args
  pure (Extern.MathBitsCarry.pair ((x + Extern.MathBitsCarry.m64 - y - b) % Extern.MathBitsCarry.m64) (if x < y + b then 1 else 0))
theorem run_sub (x y b : Nat) (hb : b ≤ 1) (w : World) :
    (subEntry #[.int .u64 x, .int .u64 y, .int .u64 b]).run Try.prog w =
      .ok (.tuple #[.int .u64 (((x + 18446744073709551616 - y - b) % 18446744073709551616 : Nat) : Int), .int .u64 ((if x < y + b then 1 else 0 : Nat) : Int)]) w := by
  have : b = 0 ∨ b = 1 := by omega
  rcases this with rfl | rfl <;> rfl
def bor (x y : Int) : Int := if x < y then 1 else 0
theorem sub64 (x y b : Int) (hx : 0 ≤ x) (hy : 0 ≤ y) (hy' : y < 18446744073709551616) (hb0 : 0 ≤ b) (hb : b ≤ 1) (w : World) : (callFunc 70 #[.int .u64 x, .int .u64 y, .int .u64 b]).run Try.prog w =
    .ok (.value (.tuple #[.int .u64 ((x - y - b) % 18446744073709551616), .int .u64 (bor x (y + b))])) w := by
  obtain ⟨x, rfl⟩ := Int.eq_ofNat_of_zero_le hx
  obtain ⟨y, rfl⟩ := Int.eq_ofNat_of_zero_le hy
  obtain ⟨b, rfl⟩ := Int.eq_ofNat_of_zero_le hb0
  have e1 : (((x + 18446744073709551616 - y - b) % 18446744073709551616 : Nat) : Int) = ((x : Int) - y - b) % 18446744073709551616 := by omega
  have e2 : ((if x < y + b then 1 else 0 : Nat) : Int) = bor (x : Int) (y + b) := by unfold bor; split <;> split <;> omega
  rw [← e1, ← e2, run_callFunc_extern Try.func70 (by kernel_rfl) (by kernel_rfl) (by kernel_rfl) (e := subEntry) (by kernel_rfl), run_sub x y b (by omega)]
  rfl
theorem sub64_0 (x y : Int) (hx : 0 ≤ x) (hy : 0 ≤ y) (hy' : y < 18446744073709551616) (w : World) : (callFunc 70 #[.int .u64 x, .int .u64 y, .int .u64 0]).run Try.prog w =
    .ok (.value (.tuple #[.int .u64 ((x - y) % 18446744073709551616), .int .u64 (bor x y)])) w := by
  simpa using sub64 x y 0 hx hy hy' (Int.le_refl 0) (by decide) w
theorem sub64_b (x y a b : Int) (hx : 0 ≤ x) (hy : 0 ≤ y) (hy' : y < 18446744073709551616) (w : World) : (callFunc 70 #[.int .u64 x, .int .u64 y, .int .u64 (bor a b)]).run Try.prog w =
    .ok (.value (.tuple #[.int .u64 ((x - y - bor a b) % 18446744073709551616), .int .u64 (bor x (y + bor a b))])) w := by
  exact sub64 x y _ hx hy hy' (by unfold bor; split <;> decide) (by unfold bor; split <;> decide) w

/-! ### wide.plus, wide.less, wide.cmp, times -/
theorem plus_any (ah al bh bl : Int) (a b : Nat) (ha : Wd ah al a) (hb : Wd bh bl b) (hs : a + b < 340282366920938463463374607431768211456) (w : World) :
    Calls Try.prog 56 #[.agg #[.int .u64 ah, .int .u64 al], .agg #[.int .u64 bh, .int .u64 bl]] w (RetW (a + b) w) := by
  have a1 := ha.h0; have b1 := ha.l0; have c1 := hb.h0; have d1 := hb.l0
  have a2 := ha.h1; have b2 := ha.l1; have c2 := hb.h1; have d2 := hb.l1
  have k0 : 0 ≤ (al + bl) / 18446744073709551616 := by omega
  have k1 : (al + bl) / 18446744073709551616 ≤ 1 := by omega
  go_enter Try.func56, Try.ntmps56
  go_wp2_with (first | simp only [add64_0 al bl b1 d1] | simp only [add64 ah bh _ a1 c1 k0 k1])
  simp [bodyPost, results, Try.results56, go_sem]
  refine ⟨_, _, rfl, ?_, ?_⟩
  · have e1 := ha.eq; have e2 := hb.eq
    constructor <;> omega
  · repeat (first | exact bl_refl _ | apply bl_alloc | apply bl_drew)

theorem less_any (ah al bh bl : Int) (a b : Nat) (ha : Wd ah al a) (hb : Wd bh bl b) (hs : b ≤ a) (w : World) :
    Calls Try.prog 61 #[.agg #[.int .u64 ah, .int .u64 al], .agg #[.int .u64 bh, .int .u64 bl]] w (RetW (a - b) w) := by
  have a1 := ha.h0; have b1 := ha.l0; have c1 := hb.h0; have d1 := hb.l0
  have a2 := ha.h1; have b2 := ha.l1; have c2 := hb.h1; have d2 := hb.l1
  go_enter Try.func61, Try.ntmps61
  go_wp2_with (first | simp only [sub64_0 al bl b1 d1 d2] | simp only [sub64_b ah bh _ _ a1 c1 c2])
  simp [bodyPost, results, Try.results61, go_sem]
  refine ⟨_, _, rfl, ?_, ?_⟩
  · have e1 := ha.eq; have e2 := hb.eq
    constructor <;> (try unfold bor) <;> (try split) <;> omega
  · repeat (first | exact bl_refl _ | apply bl_alloc | apply bl_drew)

def cmpZ (a b : Int) : Int := if a < b then -1 else if b < a then 1 else 0
theorem cmp_compare (a b : Int) (w : World) :
    Calls Try.prog 69 #[.int .u64 a, .int .u64 b] w (RetI (cmpZ a b) w) := by
  have n1 : (a != a) = false := by simp
  have n2 : (b != b) = false := by simp
  by_cases h : a < b
  · go_enter Try.func69, Try.ntmps69
    go_wp2
    repeat (go_quiet (fail); try go_wp2)
    go_ret
    exact ⟨ret_int (by unfold cmpZ; split <;> omega), by repeat (first | exact bl_refl _ | apply bl_alloc | apply bl_drewN | apply bl_drew)⟩
  · by_cases h2 : b < a
    · go_enter Try.func69, Try.ntmps69
      go_wp2
      repeat (go_quiet (fail); try go_wp2)
      go_ret
      exact ⟨ret_int (by unfold cmpZ; (repeat' split) <;> omega), by repeat (first | exact bl_refl _ | apply bl_alloc | apply bl_drewN | apply bl_drew)⟩
    · go_enter Try.func69, Try.ntmps69
      go_wp2
      repeat (go_quiet (fail); try go_wp2)
      go_ret
      exact ⟨ret_int (by unfold cmpZ; (repeat' split) <;> omega), by repeat (first | exact bl_refl _ | apply bl_alloc | apply bl_drewN | apply bl_drew)⟩
theorem cmp_any (ah al bh bl : Int) (a b : Nat) (ha : Wd ah al a) (hb : Wd bh bl b) (w : World) :
    Calls Try.prog 60 #[.agg #[.int .u64 ah, .int .u64 al], .agg #[.int .u64 bh, .int .u64 bl]] w (RetI (cmpZ a b) w) := by
  have a1 := ha.h0; have b1 := ha.l0; have c1 := hb.h0; have d1 := hb.l0
  have a2 := ha.h1; have b2 := ha.l1; have c2 := hb.h1; have d2 := hb.l1
  have e1 := hidden ha.eq; have e2 := hidden hb.eq
  by_cases h : ah = bh
  · subst h
    go_enter Try.func60, Try.ntmps60
    go_wp2_with fail
    refine (cmp_compare _ _ _).mono ?_
    rintro e w1 ⟨rfl, hb1⟩
    go_wp2
    go_ret
    exact ⟨ret_int (by have := e1.out; have := e2.out; unfold cmpZ; split <;> split <;> (try split) <;> (try split) <;> first | rfl | omega), bl_then (by repeat (first | exact bl_refl _ | apply bl_alloc | apply bl_drew)) hb1⟩
  · have H0 : (ah != bh) = true := by simpa using h
    go_enter Try.func60, Try.ntmps60
    go_wp2_with fail
    refine (cmp_compare _ _ _).mono ?_
    rintro e w1 ⟨rfl, hb1⟩
    go_wp2
    go_ret
    exact ⟨ret_int (by have := e1.out; have := e2.out; unfold cmpZ; split <;> split <;> (try split) <;> (try split) <;> first | rfl | omega), bl_then (by repeat (first | exact bl_refl _ | apply bl_alloc | apply bl_drew)) hb1⟩

theorem mag_any (n : Int) (h : -9223372036854775808 ≤ n) (h' : n ≤ 9223372036854775807) (w : World) :
    Calls Try.prog 32 #[.int .i64 n] w (RetU n.natAbs w) := by
  by_cases hn : n < 0
  · have c2b0 : decide (n < 0) = true := decide_eq_true hn
    go_enter Try.func32, Try.ntmps32
    go_wp2
    go_ret
    exact ⟨ret_int (by have e := IntKind.wrap_u64; simp only [e]; omega), by repeat (first | exact bl_refl _ | apply bl_alloc | apply bl_drewN | apply bl_drew)⟩
  · have c2b0 : decide (n < 0) = false := decide_eq_false hn
    go_enter Try.func32, Try.ntmps32
    go_wp2
    go_ret
    exact ⟨ret_int (by first | omega | (simp only [IntKind.wrap_u64]; omega)), by repeat (first | exact bl_refl _ | apply bl_alloc | apply bl_drewN | apply bl_drew)⟩
theorem of_any (n : Int) (h : -9223372036854775808 ≤ n) (h' : n ≤ 9223372036854775807) (w : World) :
    Calls Try.prog 30 #[.int .i64 n] w (RetS n w) := by
  go_enter Try.func30, Try.ntmps30
  go_wp2_with fail
  refine (mag_any n h h' _).mono ?_
  rintro e w1 ⟨rfl, hb1⟩
  obtain ⟨hc, hf⟩ := bcell hb1
  have hz : w.heap.size < w1.heap.size := by have := hb1.size; simp at this; omega
  go_wp2
  simp [bodyPost, results, Try.results30, go_sem, hc]
  refine ⟨_, _, _, rfl, ⟨Wd.small _ (by omega), fun h => ?_, fun h => ?_⟩, ?_⟩
  · have := of_decide_eq_true h; omega
  · have := of_decide_eq_false h; omega
  · repeat (first | exact bl_refl _ | exact bl_then (bl_alloc (bl_refl _) _) hb1 | refine bl_set ?_ _ _ (Nat.le_refl _) _)

theorem times_any (x y : Int) (m n : Nat) (hx : Wd 0 x m) (hy : Wd 0 y n) (w : World) :
    Calls Try.prog 55 #[.int .u64 x, .int .u64 y] w (RetW (m * n) w) := by
  obtain rfl : x = (m : Int) := by have := hx.eq; omega
  obtain rfl : y = (n : Int) := by have := hy.eq; omega
  have bx := hx.l1; have by1 := hy.l1
  go_enter Try.func55, Try.ntmps55
  go_wp2_with fail
  refine (Try.bits_Mul64 m n (by omega) (by omega) _).mono ?_
  rintro e w1 ⟨rfl, rfl⟩
  go_wp2
  simp [bodyPost, results, Try.results55, go_sem]
  have hp : m * n ≤ 18446744073709551615 * 18446744073709551615 := Nat.mul_le_mul (by omega) (by omega)
  rw [← Int.natCast_mul]
  generalize m * n = p at hp ⊢
  exact ⟨_, _, rfl, ⟨by omega, by omega, by omega, by omega, by omega⟩, by repeat (first | exact bl_refl _ | apply bl_alloc | apply bl_drew)⟩
theorem mul_sign (a b : Int) : ((decide (a < 0) != decide (b < 0)) = true → a * b ≤ 0) ∧ ((decide (a < 0) != decide (b < 0)) = false → 0 ≤ a * b) := by
  by_cases ha : a < 0 <;> by_cases hb : b < 0
  · simp [ha, hb]; exact Int.mul_nonneg_of_nonpos_of_nonpos (by omega) (by omega)
  · simp [ha, hb]; exact Int.mul_nonpos_of_nonpos_of_nonneg (by omega) (by omega)
  · simp [ha, hb]; exact Int.mul_nonpos_of_nonneg_of_nonpos (by omega) (by omega)
  · simp [ha, hb]; exact Int.mul_nonneg (by omega) (by omega)
theorem mul_any (a b : Int) (ha : -9223372036854775808 ≤ a) (ha' : a ≤ 9223372036854775807) (hb : -9223372036854775808 ≤ b) (hb' : b ≤ 9223372036854775807) (w : World) :
    Calls Try.prog 35 #[.int .i64 a, .int .i64 b] w (RetS (a * b) w) := by
  have hs := hidden (mul_sign a b)
  go_enter Try.func35, Try.ntmps35
  go_wp2_with fail
  refine (mag_any a ha ha' _).mono ?_
  rintro e w1 ⟨rfl, hb1⟩
  go_wp2_with fail
  refine (mag_any b hb hb' _).mono ?_
  rintro e w2 ⟨rfl, hb2⟩
  go_wp2_with fail
  refine (times_any _ _ a.natAbs b.natAbs (Wd.small _ (by omega)) (Wd.small _ (by omega)) _).mono ?_
  rintro e w3 ⟨rh, rl, rfl, hw, hb3⟩
  have hb4 := bl_then (bl_then hb1 hb2) hb3
  obtain ⟨hc, hf⟩ := bcell hb4
  have hz : w.heap.size < w3.heap.size := by have := hb4.size; simp at this; omega
  go_wp2
  simp [bodyPost, results, Try.results35, go_sem, hc]
  refine ⟨_, _, _, rfl, ⟨by rw [Int.natAbs_mul]; exact hw, hs.out.1, hs.out.2⟩, ?_⟩
  repeat (first | exact bl_refl _ | exact bl_then (bl_alloc (bl_refl _) _) hb4 | refine bl_set ?_ _ _ (Nat.le_refl _) _)
end Go.Proofs.Ytpdbiofpoccjeaa
