/- The arithmetic under math/bits.Div64: one digit of a quotient, guessed and put right. No program in sight. -/
namespace Go.Proofs.Ytpdbiofpoccjeaa

/-- The divisor's two halves, its upper one great; a number below 2^32 times it. -/
structure Dig (u u1 v v0 : Nat) : Prop where
  v1 : 2147483648 ≤ v
  v2 : v < 4294967296
  z : v0 < 4294967296
  u2 : u < v * 4294967296 + v0
  w : u1 < 4294967296
def digQ (u u1 v v0 : Nat) : Nat := (u * 4294967296 + u1) / (v * 4294967296 + v0)
/-- A guess that is not too low, and what is left of u by it. -/
structure Gs (u u1 v v0 q r : Nat) : Prop where
  eq : q * v + r = u
  le : digQ u u1 v v0 ≤ q
  hi : q ≤ 4294967297

theorem digQ_lt {u u1 v v0 : Nat} (h : Dig u u1 v v0) : digQ u u1 v v0 < 4294967296 := by
  obtain ⟨a, b, c, d, e⟩ := h
  unfold digQ
  rw [Nat.div_lt_iff_lt_mul (by omega)]
  omega
theorem dig_first {u u1 v v0 : Nat} (h : Dig u u1 v v0) : Gs u u1 v v0 (u / v) (u % v) := by
  obtain ⟨a, b, c, d, e⟩ := h
  refine ⟨by rw [Nat.mul_comm]; exact Nat.div_add_mod u v, ?_, ?_⟩
  · unfold digQ
    rw [Nat.le_div_iff_mul_le (by omega)]
    have h1 := Nat.div_mul_le_self (u * 4294967296 + u1) (v * 4294967296 + v0)
    generalize (u * 4294967296 + u1) / (v * 4294967296 + v0) = Q at *
    rw [Nat.mul_add, ← Nat.mul_assoc] at h1
    generalize Q * v = p at *
    generalize Q * v0 = p0 at *
    omega
  · have : u / v < 4294967298 := by
      rw [Nat.div_lt_iff_lt_mul (by omega)]
      omega
    omega
theorem dig_mod_lt {u u1 v v0 : Nat} (h : Dig u u1 v v0) : u % v < 4294967296 := by
  have := Nat.mod_lt u (show 0 < v by have := h.v1; omega)
  have := h.v2
  omega
/-- Not too high either: it is the digit. -/
theorem dig_done {u u1 v v0 q r : Nat} (h : Dig u u1 v v0) (g : Gs u u1 v v0 q r) (hm : q * v0 ≤ 4294967296 * r + u1) : q = digQ u u1 v v0 := by
  obtain ⟨a, b, c, d, e⟩ := h
  obtain ⟨g1, g2, g3⟩ := g
  refine Nat.le_antisymm ?_ g2
  unfold digQ
  rw [Nat.le_div_iff_mul_le (by omega), Nat.mul_add, ← Nat.mul_assoc]
  generalize q * v = p at *
  generalize q * v0 = p0 at *
  omega
theorem dig_over {u u1 v v0 q r : Nat} (h : Dig u u1 v v0) (g : Gs u u1 v v0 q r) (hr : 4294967296 ≤ r) (hq : q ≤ 4294967296) : q = digQ u u1 v v0 := by
  refine dig_done h g ?_
  have := Nat.mul_le_mul hq (show v0 ≤ 4294967295 by have := h.z; omega)
  omega
theorem dig_next {u u1 v v0 q r : Nat} (h : Dig u u1 v v0) (g : Gs u u1 v v0 q r) (hm : 4294967296 ≤ q ∨ 4294967296 * r + u1 < q * v0) : 1 ≤ q ∧ Gs u u1 v v0 (q - 1) (r + v) := by
  have hQ := digQ_lt h
  obtain ⟨a, b, c, d, e⟩ := h
  obtain ⟨g1, g2, g3⟩ := g
  have hlt : digQ u u1 v v0 < q := by
    rcases hm with hm | hm
    · omega
    · unfold digQ
      rw [Nat.div_lt_iff_lt_mul (by omega), Nat.mul_add, ← Nat.mul_assoc]
      generalize q * v = p at *
      generalize q * v0 = p0 at *
      omega
  refine ⟨by omega, ?_, by omega, by omega⟩
  have : q * v = (q - 1) * v + v := by
    rw [← Nat.succ_mul]
    congr 1
    omega
  omega
theorem left_int (N D : Nat) : (N : Int) - ((N / D : Nat) : Int) * (D : Int) = ((N % D : Nat) : Int) := by
  have h := Nat.div_add_mod N D
  have h2 : ((D * (N / D) + N % D : Nat) : Int) = N := by rw [h]
  rw [Int.natCast_add, Int.natCast_mul, Int.mul_comm] at h2
  omega
/-- What is left behind a digit. -/
theorem dig_left {u u1 v v0 : Nat} (h : Dig u u1 v v0) :
    ((u : Int) * 4294967296 + u1 - (digQ u u1 v v0 : Int) * ((v * 4294967296 + v0 : Nat) : Int)) = (((u * 4294967296 + u1) % (v * 4294967296 + v0) : Nat) : Int) ∧
      (u * 4294967296 + u1) % (v * 4294967296 + v0) < v * 4294967296 + v0 := by
  have hp : 0 < v * 4294967296 + v0 := by have := h.v1; omega
  refine ⟨?_, Nat.mod_lt _ hp⟩
  have key := left_int (u * 4294967296 + u1) (v * 4294967296 + v0)
  have e : ((u * 4294967296 + u1 : Nat) : Int) = (u : Int) * 4294967296 + u1 := by omega
  unfold digQ
  rw [← e]
  exact key
/-- Two digits, of a divisor that was brought up by s. -/
theorem dig_two (N A y s Y u0 K : Nat) (hY : Y = y * 2 ^ s) (hy : 0 < y) (hN : N * 2 ^ s = A * K + u0) :
    (A / Y) * K + ((A % Y) * K + u0) / Y = N / y ∧ (((A % Y) * K + u0) % Y) / 2 ^ s = N % y := by
  have hp := Nat.two_pow_pos s
  have hYp : 0 < Y := by rw [hY]; exact Nat.mul_pos hy hp
  have e1 : A = Y * (A / Y) + A % Y := (Nat.div_add_mod A Y).symm
  have e2 : A * K + u0 = Y * (A / Y * K) + (A % Y * K + u0) := by
    have : A * K = Y * (A / Y * K) + A % Y * K := by
      rw [← Nat.mul_assoc, ← Nat.add_mul, ← e1]
    omega
  have e3 : (A * K + u0) / Y = A / Y * K + (A % Y * K + u0) / Y := by
    rw [e2, Nat.mul_add_div hYp]
  have e4 : (A * K + u0) % Y = (A % Y * K + u0) % Y := by
    rw [e2, Nat.mul_add_mod]
  rw [← e3, ← e4, ← hN, hY]
  exact ⟨Nat.mul_div_mul_right N y hp, by rw [Nat.mul_mod_mul_right]; exact Nat.mul_div_cancel _ hp⟩
theorem or_low (a b s : Nat) (hb : b < 2 ^ s) : (a * 2 ^ s) ||| b = a * 2 ^ s + b := by
  rw [Nat.mul_comm, ← Nat.two_pow_add_eq_or_of_lt hb]
theorem up_gen (hi lo s t M : Nat) (e : 2 ^ s * 2 ^ t = M) (hl : lo < M) : lo / 2 ^ t < 2 ^ s ∧
    (hi * M + lo) * 2 ^ s = (hi * 2 ^ s + lo / 2 ^ t) * M + lo * 2 ^ s % M := by
  have hp := Nat.two_pow_pos s
  have hq := Nat.two_pow_pos t
  constructor
  · rw [Nat.div_lt_iff_lt_mul hq, e]; exact hl
  · have h1 : lo * 2 ^ s / M = lo / 2 ^ t := by
      rw [← e, Nat.mul_comm (2 ^ s), Nat.mul_div_mul_right _ _ hp]
    have h2 := Nat.div_add_mod (lo * 2 ^ s) M
    rw [h1] at h2
    rw [Nat.add_mul, Nat.add_mul, Nat.mul_right_comm, Nat.mul_comm (lo / 2 ^ t) M]
    omega
/-- The upper word of a number that is brought up by s. -/
theorem up_word (hi lo s : Nat) (hs : s ≤ 63) (hl : lo < 18446744073709551616) : lo / 2 ^ (64 - s) < 2 ^ s ∧
    (hi * 18446744073709551616 + lo) * 2 ^ s = (hi * 2 ^ s + lo / 2 ^ (64 - s)) * 18446744073709551616 + lo * 2 ^ s % 18446744073709551616 :=
  up_gen hi lo s (64 - s) _ (by rw [← Nat.pow_add, show s + (64 - s) = 64 by omega]) hl
end Go.Proofs.Ytpdbiofpoccjeaa
