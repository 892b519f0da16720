/- Plain laws: ratios in their least numbers. -/
import Derived.Test.YtpdbiofpoccjeaaXb
namespace Go.Proofs.Ytpdbiofpoccjeaa
open Go.RowKit
theorem i64_mask15 (n : Int) : bits .and .i64 n 32767 = n % 32768 := by
  have h127 : (BitVec.ofInt 64 32767).toNat = 2 ^ 15 - 1 := by decide
  have key : (BitVec.ofInt 64 n &&& BitVec.ofInt 64 32767).toNat = (n % ((2 ^ 64 : Nat) : Int)).toNat % 2 ^ 15 := by
    rw [BitVec.toNat_and, BitVec.toNat_ofInt, h127, Nat.and_two_pow_sub_one_eq_mod]
  show IntKind.i64.wrap ((BitVec.ofInt 64 n &&& BitVec.ofInt 64 32767).toNat : Nat) = n % 32768
  rw [key, IntKind.wrap_i64]
  omega
theorem i64_mask30 (n : Int) : bits .and .i64 n 1073741823 = n % 1073741824 := by
  have h127 : (BitVec.ofInt 64 1073741823).toNat = 2 ^ 30 - 1 := by decide
  have key : (BitVec.ofInt 64 n &&& BitVec.ofInt 64 1073741823).toNat = (n % ((2 ^ 64 : Nat) : Int)).toNat % 2 ^ 30 := by
    rw [BitVec.toNat_and, BitVec.toNat_ofInt, h127, Nat.and_two_pow_sub_one_eq_mod]
  show IntKind.i64.wrap ((BitVec.ofInt 64 n &&& BitVec.ofInt 64 1073741823).toNat : Nat) = n % 1073741824
  rw [key, IntKind.wrap_i64]
  omega
/-- A ratio that may be. -/
structure Rt (N D : Int) : Prop where
  pos : 0 < D
  cop : Nat.gcd N.natAbs D.natAbs = 1
  lo : -9223372036854775807 ≤ N
  hi : N ≤ 9223372036854775807
  top : D ≤ 9223372036854775807
theorem Rt.right {N D : Int} (h : Rt N D) : rightB N D = true := decide_eq_true ⟨h.pos, by have := h.lo; omega, h.cop⟩
theorem Rt.n64 {N D : Int} (h : Rt N D) : R64 N := ⟨by have := h.lo; omega, h.hi⟩
theorem Rt.d64 {N D : Int} (h : Rt N D) : R64 D := ⟨by have := h.pos; omega, h.top⟩
theorem Rt.of_right {N D : Int} (hN : R64 N) (hD : R64 D) (h : rightB N D = true) : Rt N D := by
  obtain ⟨h1, h2, h3⟩ := of_decide_eq_true h
  have := hN.lo; have := hN.hi; have := hD.hi
  exact ⟨h1, h3, by omega, by omega, by omega⟩
/-- Two that are in the same ratio have the same least numbers. -/
theorem nat_low {a d a' d' : Nat} (hd : 0 < d) (hd' : 0 < d') (e : a * d' = a' * d) :
    a / Nat.gcd a d = a' / Nat.gcd a' d' ∧ d / Nat.gcd a d = d' / Nat.gcd a' d' := by
  have hg := Nat.gcd_pos_of_pos_right a hd
  have hg' := Nat.gcd_pos_of_pos_right a' hd'
  have c1 : Nat.Coprime (a / Nat.gcd a d) (d / Nat.gcd a d) := Nat.coprime_div_gcd_div_gcd hg
  have c2 : Nat.Coprime (a' / Nat.gcd a' d') (d' / Nat.gcd a' d') := Nat.coprime_div_gcd_div_gcd hg'
  have ea := Nat.div_mul_cancel (Nat.gcd_dvd_left a d)
  have ed := Nat.div_mul_cancel (Nat.gcd_dvd_right a d)
  have ea' := Nat.div_mul_cancel (Nat.gcd_dvd_left a' d')
  have ed' := Nat.div_mul_cancel (Nat.gcd_dvd_right a' d')
  generalize Nat.gcd a d = g at *
  generalize Nat.gcd a' d' = g' at *
  generalize a / g = x at *
  generalize d / g = y at *
  generalize a' / g' = x' at *
  generalize d' / g' = y' at *
  subst ea ed ea' ed'
  have key : x * y' = x' * y := by
    have h : (x * y') * (g * g') = (x' * y) * (g * g') := by grind
    exact Nat.eq_of_mul_eq_mul_right (Nat.mul_pos hg hg') h
  have y0 : 0 < y := by rcases Nat.eq_zero_or_pos y with h | h; (rw [h] at hd; omega); exact h
  have y0' : 0 < y' := by rcases Nat.eq_zero_or_pos y' with h | h; (rw [h] at hd'; omega); exact h
  have d1 : y ∣ y' := (Nat.Coprime.symm c1).dvd_of_dvd_mul_left ⟨x', by rw [key, Nat.mul_comm]⟩
  have d2 : y' ∣ y := (Nat.Coprime.symm c2).dvd_of_dvd_mul_left ⟨x, by rw [← key, Nat.mul_comm]⟩
  have ey : y = y' := Nat.dvd_antisymm d1 d2
  subst ey
  exact ⟨Nat.eq_of_mul_eq_mul_right y0 key, rfl⟩
theorem num_low {n : Int} {d : Nat} : n / (Nat.gcd n.natAbs d : Int) = if n < 0 then -((n.natAbs / Nat.gcd n.natAbs d : Nat) : Int) else ((n.natAbs / Nat.gcd n.natAbs d : Nat) : Int) := by
  by_cases h : n < 0
  · rw [if_pos h, Int.natCast_ediv]
    have e : (n.natAbs : Int) = -n := by omega
    have dv : (Nat.gcd n.natAbs d : Int) ∣ -n := by rw [← e]; exact Int.natCast_dvd_natCast.2 (Nat.gcd_dvd_left _ _)
    have dv' : (Nat.gcd n.natAbs d : Int) ∣ n := Int.dvd_neg.1 dv
    rw [e, Int.neg_ediv_of_dvd dv', Int.neg_neg]
  · rw [if_neg h, Int.natCast_ediv]
    have e : (n.natAbs : Int) = n := by omega
    rw [e]
theorem sign_low {n n' : Int} {d d' : Nat} (hd : 0 < d) (hd' : 0 < d') (e : n * d' = n' * d) : (n < 0) ↔ (n' < 0) := by
  have h1 : (0 : Int) < d := by omega
  have h2 : (0 : Int) < d' := by omega
  constructor
  · intro h
    have : n * d' < 0 := Int.mul_neg_of_neg_of_pos h h2
    rw [e] at this
    exact Int.neg_of_mul_neg_left this (by omega)
  · intro h
    have : n' * d < 0 := Int.mul_neg_of_neg_of_pos h h1
    rw [← e] at this
    exact Int.neg_of_mul_neg_left this (by omega)
theorem told_cross {n n' : Int} {d d' : Nat} (hd : 0 < d) (hd' : 0 < d') (e : n * d' = n' * d) : toldOk n d = toldOk n' d' ∧ toldN n d = toldN n' d' ∧ toldD n d = toldD n' d' := by
  have en : n.natAbs * d' = n'.natAbs * d := by
    have := congrArg Int.natAbs e
    rwa [Int.natAbs_mul, Int.natAbs_mul, Int.natAbs_natCast, Int.natAbs_natCast] at this
  obtain ⟨h1, h2⟩ := nat_low hd hd' en
  have hs := sign_low hd hd' e
  have ho : toldOk n d = toldOk n' d' := by
    unfold toldOk
    rw [h1, h2]
    have e1 : d ≠ 0 := by omega
    have e2 : d' ≠ 0 := by omega
    simp [e1, e2]
  refine ⟨ho, ?_, ?_⟩
  · unfold toldN
    rw [ho, num_low, num_low, h1]
    simp only [hs]
  · unfold toldD
    rw [ho, h2]
theorem told_self {N D : Int} (h : Rt N D) : toldOk N D.natAbs = true ∧ toldN N D.natAbs = N ∧ toldD N D.natAbs = D := by
  obtain ⟨h1, h2, h3, h4, h5⟩ := h
  have := toldOk_yes (n := N) (d := D.natAbs) (by omega) (by rw [h2, Nat.div_one]; omega) (by rw [h2, Nat.div_one]; omega)
  rw [h2] at this
  refine ⟨this.1, by rw [this.2.1]; simp, by rw [this.2.2]; simp; omega⟩
/-- Where there is a ratio, it is told. -/
theorem told_of {n N D : Int} {d : Nat} (hd : 0 < d) (h : Rt N D) (e : N * d = n * D) : toldOk n d = true ∧ toldN n d = N ∧ toldD n d = D := by
  have hp := h.pos
  have hc := told_cross (n := n) (n' := N) (d := d) (d' := D.natAbs) hd (by omega) (by rw [show ((D.natAbs : Nat) : Int) = D by omega]; exact e.symm)
  have hs := told_self h
  exact ⟨hc.1.trans hs.1, hc.2.1.trans hs.2.1, hc.2.2.trans hs.2.2⟩
/-- What is told is a ratio that may be, and it is the ratio. -/
theorem told_is {n : Int} {d : Nat} (h : toldOk n d = true) : 0 < d ∧ Rt (toldN n d) (toldD n d) ∧ toldN n d * d = n * toldD n d := by
  obtain ⟨h0, h1, h2⟩ := of_decide_eq_true h
  have hd : 0 < d := by omega
  obtain ⟨_, e1, e2⟩ := toldOk_yes hd h1 h2
  have hg := Nat.gcd_pos_of_pos_right n.natAbs hd
  have c1 : Nat.Coprime (n.natAbs / Nat.gcd n.natAbs d) (d / Nat.gcd n.natAbs d) := Nat.coprime_div_gcd_div_gcd hg
  have en := Nat.div_mul_cancel (Nat.gcd_dvd_left n.natAbs d)
  have ed := Nat.div_mul_cancel (Nat.gcd_dvd_right n.natAbs d)
  rw [e1, e2, num_low]
  generalize Nat.gcd n.natAbs d = g at *
  generalize n.natAbs / g = x at *
  generalize d / g = y at *
  have y0 : 0 < y := by rcases Nat.eq_zero_or_pos y with h | h; (rw [h] at ed; omega); exact h
  have ex : (if n < 0 then -(x : Int) else (x : Int)).natAbs = x := by split <;> simp
  refine ⟨hd, ⟨by omega, by rw [ex, Int.natAbs_natCast]; exact c1, by split <;> omega, by split <;> omega, by omega⟩, ?_⟩
  have enI : n = (if n < 0 then -(x : Int) else (x : Int)) * (g : Int) := by
    split
    · have : ((x * g : Nat) : Int) = (n.natAbs : Int) := by rw [en]
      rw [Int.natCast_mul] at this
      rw [Int.neg_mul, this]; omega
    · have : ((x * g : Nat) : Int) = (n.natAbs : Int) := by rw [en]
      rw [Int.natCast_mul] at this
      rw [this]; omega
  have edI : (d : Int) = (y : Int) * (g : Int) := by rw [← Int.natCast_mul, ed]
  rw [edI]
  generalize (if n < 0 then -(x : Int) else (x : Int)) = X at *
  rw [enI]
  grind
theorem toldOk_small {n : Int} {d : Nat} (hd : 0 < d) (h1 : n.natAbs ≤ 9223372036854775807) (h2 : d ≤ 9223372036854775807) : toldOk n d = true :=
  decide_eq_true ⟨by omega, Nat.le_trans (Nat.div_le_self _ _) h1, Nat.le_trans (Nat.div_le_self _ _) h2⟩
theorem told_small {n : Int} {d : Nat} : (toldN n d).natAbs ≤ n.natAbs ∧ (toldD n d).natAbs ≤ d := by
  cases h : toldOk n d
  · simp [toldN, toldD, h]
  · obtain ⟨h0, h1, h2⟩ := of_decide_eq_true h
    obtain ⟨_, e1, e2⟩ := toldOk_yes (by omega) h1 h2
    rw [e1, e2, num_low]
    have a := Nat.div_le_self n.natAbs (Nat.gcd n.natAbs d)
    have b := Nat.div_le_self d (Nat.gcd n.natAbs d)
    refine ⟨?_, by rw [Int.natAbs_natCast]; exact b⟩
    generalize n.natAbs / Nat.gcd n.natAbs d = x at a
    split
    · rw [Int.natAbs_neg, Int.natAbs_natCast]; exact a
    · rw [Int.natAbs_natCast]; exact a
theorem told_bad {n : Int} {d : Nat} (h : toldOk n d = false) : toldN n d = 0 ∧ toldD n d = 0 := by simp [toldN, toldD, h]
theorem told_r64 (n : Int) (d : Nat) : R64 (toldN n d) ∧ R64 (toldD n d) := by
  cases h : toldOk n d
  · obtain ⟨a, b⟩ := told_bad h
    rw [a, b]
    exact ⟨⟨by omega, by omega⟩, ⟨by omega, by omega⟩⟩
  · obtain ⟨_, r, _⟩ := told_is h
    exact ⟨r.n64, r.d64⟩
theorem makeV_abs (n d : Int) : (makeV n d).natAbs = n.natAbs := by unfold makeV; split <;> simp
theorem makeV_eq (n d : Int) : makeV n d * d = n * (d.natAbs : Int) := by
  unfold makeV
  split
  · have e : (d.natAbs : Int) = -d := by omega
    rw [e]; grind
  · have e : (d.natAbs : Int) = d := by omega
    rw [e]
end Go.Proofs.Ytpdbiofpoccjeaa
