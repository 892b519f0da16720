/- The walks over package ratio's numbers of two words: parted by one word, and by another such number; the greatest divisor in common. -/
import Derived.Test.YtpdbiofpoccjeaaWc
import Derived.Test.YtpdbiofpoccjeaaWb
namespace Go.Proofs.Ytpdbiofpoccjeaa
open Go.RowKit
theorem by_num (h l d M : Nat) (hd : 0 < d) : (h * M + l) / d = (h / d) * M + ((h % d) * M + l) / d ∧ (h * M + l) % d = ((h % d) * M + l) % d := by
  have e : h * M + l = d * (h / d * M) + ((h % d) * M + l) := by
    have : h * M = d * (h / d * M) + (h % d) * M := by
      rw [← Nat.mul_assoc, ← Nat.add_mul, Nat.div_add_mod]
    omega
  rw [e, Nat.mul_add_div hd, Nat.mul_add_mod]
  exact ⟨rfl, rfl⟩
theorem wd_nat {h l : Int} {n : Nat} (H : Wd h l n) : ∃ h' l' : Nat, h = h' ∧ l = l' ∧ h' < 18446744073709551616 ∧ l' < 18446744073709551616 ∧ n = h' * 18446744073709551616 + l' := by
  obtain ⟨a, b, c, d, e⟩ := H
  obtain ⟨x, rfl⟩ := Int.eq_ofNat_of_zero_le a
  obtain ⟨y, rfl⟩ := Int.eq_ofNat_of_zero_le c
  exact ⟨x, y, rfl, rfl, by omega, by omega, by omega⟩
set_option maxRecDepth 10000 in
theorem by_any (ah al : Int) (a d : Nat) (ha : Wd ah al a) (hd : 0 < d) (hd' : d < 18446744073709551616) (w : World) :
    Calls Try.prog 57 #[.agg #[.int .u64 ah, .int .u64 al], .int .u64 (d : Int)] w (RetWU a d w) := by
  obtain ⟨h, l, rfl, rfl, h1, l1, rfl⟩ := wd_nat ha
  clear ha
  have hm := Nat.mod_lt h hd
  have hq := Nat.div_le_self h d
  have N := by_num h l d 18446744073709551616 hd
  obtain ⟨q, eq⟩ : ∃ q, h / d = q := ⟨_, rfl⟩
  obtain ⟨r, er⟩ : ∃ r, h % d = r := ⟨_, rfl⟩
  rw [eq, er] at N
  rw [er] at hm
  rw [eq] at hq
  replace N := hidden N
  have rq : (h : Int) / (d : Int) = (q : Int) := by rw [← eq]; exact (Int.natCast_ediv h d).symm
  have rr : (h : Int) % (d : Int) = (r : Int) := by rw [← er]; exact (Int.natCast_emod h d).symm
  have rq' : IntKind.u64.wrap (q : Int) = (q : Int) := wrap_small _ (by omega)
  have d0 : ((d : Int) == 0) = false := by simpa using (by omega : ¬ d = 0)
  have d1 : (1 : Int) ≤ (d : Int) := by omega
  clear eq er
  go_enter Try.func57, Try.ntmps57
  go_wp2_with fail
  go_quiet (fail)
  go_wp2_with fail
  refine (div64_any r l d l1 hm hd' _).mono ?_
  rintro e w1 ⟨x, y, rfl, hx, hy, hb⟩
  replace hx := hidden hx
  replace hy := hidden hy
  obtain ⟨hc, hf⟩ := bcell hb
  have hz : w.heap.size + 1 < w1.heap.size := by have := hb.size; simp at this; omega
  go_wp2_with fail
  simp [bodyPost, results, Try.results57, go_sem, hc]
  have lt : (r * 18446744073709551616 + l) / d < 18446744073709551616 := by
    rw [Nat.div_lt_iff_lt_mul hd]
    omega
  obtain ⟨X, eX⟩ : ∃ X, (r * 18446744073709551616 + l) / d = X := ⟨_, rfl⟩
  have hx := hx.out
  have hy := hy.out
  have N1 := N.out.1
  have N2 := N.out.2
  rw [eX] at N1 lt hx
  rw [← N2] at hy
  refine ⟨_, _, _, rfl, ?_, hy, ?_⟩
  · rw [N1]
    exact ⟨by omega, by omega, by omega, by omega, by omega⟩
  · repeat (first | exact bl_refl _ | exact bl_then (by repeat (first | exact bl_refl _ | apply bl_alloc | apply bl_drewN)) hb | refine bl_set ?_ _ _ (by omega) _)
theorem rem_any (ah al : Int) (a d : Nat) (ha : Wd ah al a) (hd : 0 < d) (hd' : d < 18446744073709551616) (w : World) :
    Calls Try.prog 71 #[.agg #[.int .u64 ah, .int .u64 al], .int .u64 (d : Int)] w (RetU (a % d) w) := by
  go_enter Try.func71, Try.ntmps71
  go_wp2_with fail
  refine (by_any ah al a d ha hd hd' _).mono ?_
  rintro e w1 ⟨qh, ql, r, rfl, hq, hr, hb⟩
  replace hr := hidden hr
  go_wp2_with fail
  go_ret
  exact ⟨ret_int hr.out, by repeat (first | exact bl_refl _ | exact bl_then (by repeat (first | exact bl_refl _ | apply bl_alloc | apply bl_drewN)) hb | refine bl_set ?_ _ _ (by omega) _ | apply bl_alloc)⟩

/-! ### A number of two words, doubled -/
theorem or_int (x y : Nat) (hx : x < 9223372036854775808) (hy : y < 2) : bits .or .u64 ((x : Int) * 2) (y : Int) = (x : Int) * 2 + y := by
  have h := bits_or_u64_nat (x * 2) y (by omega) (by omega)
  have e := or_low x y 1 (by omega)
  simp only [Nat.pow_one] at e
  rw [e] at h
  simpa using h
/-- What stands in the walk when a number is doubled: (ch, cl) becomes (dh, dl). -/
structure Dbl (ch cl dh dl : Int) (n : Nat) : Prop where
  wd : Wd dh dl (n * 2 % 340282366920938463463374607431768211456)
  r1 : bits .or .u64 (IntKind.u64.wrap (ch * 2)) (cl / 9223372036854775808) = dh
  r2 : ch < 9223372036854775808 → bits .or .u64 (ch * 2) (cl / 9223372036854775808) = dh
  r3 : IntKind.u64.wrap (cl * 2) = dl
theorem dbl_made {ch cl : Int} {n : Nat} (h : Wd ch cl n) : ∃ dh dl, Dbl ch cl dh dl n := by
  obtain ⟨x, y, rfl, rfl, hx, hy, rfl⟩ := wd_nat h
  have e1 : IntKind.u64.wrap ((x : Int) * 2) = ((x % 9223372036854775808 : Nat) : Int) * 2 := by rw [IntKind.wrap_u64]; omega
  have e2 : (y : Int) / 9223372036854775808 = ((y / 9223372036854775808 : Nat) : Int) := by omega
  have o := or_int (x % 9223372036854775808) (y / 9223372036854775808) (by omega) (by omega)
  refine ⟨((x % 9223372036854775808 : Nat) : Int) * 2 + ((y / 9223372036854775808 : Nat) : Int), IntKind.u64.wrap ((y : Int) * 2), ?_, ?_, ?_, rfl⟩
  · rw [IntKind.wrap_u64]
    exact ⟨by omega, by omega, by omega, by omega, by omega⟩
  · rw [e1, e2]; exact o
  · intro hlt
    rw [show (x : Int) * 2 = ((x % 9223372036854775808 : Nat) : Int) * 2 by omega, e2]; exact o
end Go.Proofs.Ytpdbiofpoccjeaa
