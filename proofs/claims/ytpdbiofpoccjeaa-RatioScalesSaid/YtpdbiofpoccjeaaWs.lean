/- The walks over package ratio's gcd, right, Make. -/
import Derived.Test.YtpdbiofpoccjeaaWr
namespace Go.Proofs.Ytpdbiofpoccjeaa
open Go.RowKit
/-- An int64. -/
structure R64 (x : Int) : Prop where
  lo : -9223372036854775808 ≤ x
  hi : x ≤ 9223372036854775807
theorem gcd_any (a b : Nat) (ha : a < 18446744073709551616) (hb : b < 18446744073709551616) (w : World) :
    Calls Try.prog 59 #[.int .u64 (a : Int), .int .u64 (b : Int)] w (RetU (Nat.gcd a b) w) := by
  go_enter Try.func59, Try.ntmps59
  go_wp2_with fail
  go_loopg [0, 1] b (fun k s0 s1 wr => ∃ x y : Nat, s0 = .int .u64 (x : Int) ∧ s1 = .int .u64 (y : Int) ∧ x < 18446744073709551616 ∧ y < 18446744073709551616 ∧ Hid (Nat.gcd x y = Nat.gcd a b ∧ y = k) ∧ Below w.heap.size w wr)
  case atStart => exact ⟨a, b, rfl, rfl, ha, hb, ⟨rfl, rfl⟩, bl_refl _⟩
  case round =>
    obtain ⟨x, y, rfl, rfl, hx, hy, hg, hbl⟩ := hrel
    by_cases hy0 : y = 0
    · have h0 : ((y : Int) != 0) = false := by simpa using hy0
      go_wp2_with fail
      go_ret
      exact ⟨ret_int (by rw [← hg.out.1, hy0, Nat.gcd_zero_right]), hbl⟩
    · have h0 : ((y : Int) != 0) = true := by simpa using hy0
      have hym : ((y : Int) == 0) = false := by simpa using hy0
      have hy1 : (1 : Int) ≤ (y : Int) := by omega
      have hm := Nat.mod_lt x (show 0 < y by omega)
      obtain ⟨m, em⟩ : ∃ m, x % y = m := ⟨_, rfl⟩
      have rm : (x : Int) % (y : Int) = (m : Int) := by rw [← em]; exact (Int.natCast_emod x y).symm
      rw [em] at hm
      replace em := hidden em
      replace hy0 := hidden hy0
      go_wp2_with fail
      go_quiet (fail)
      go_wp2_with fail
      go_roundg m
      case measure => rw [← hg.out.2]; exact hm
      case rel =>
        refine ⟨y, m, rfl, by first | rfl | rw [rm], hy, by omega, ⟨?_, rfl⟩, bl_drewN hbl _⟩
        rw [← hg.out.1, ← em.out, Nat.gcd_comm x y, Nat.gcd_rec y x, Nat.gcd_comm]
/-- May a ratio be? -/
def rightB (N D : Int) : Bool := decide (0 < D ∧ N ≠ -9223372036854775808 ∧ Nat.gcd N.natAbs D.natAbs = 1)
theorem right_is {N D : Int} {b : Bool} (h1 : 0 < D) (h2 : ¬ N = -9223372036854775808) (hb : b = (((Nat.gcd N.natAbs D.natAbs : Nat) : Int) == 1)) : Ending.returned (.bool b) = .returned (.bool (rightB N D)) := by
  have : b = rightB N D := by
    rw [hb]
    unfold rightB
    by_cases h : Nat.gcd N.natAbs D.natAbs = 1
    · simp [h, h1, h2]
    · have h' : ¬ ((Nat.gcd N.natAbs D.natAbs : Nat) : Int) = 1 := by omega
      simp [h, h']
  rw [this]
theorem right_any (N D : Int) (hN : R64 N) (hD : R64 D) (w : World) :
    Calls Try.prog 40 #[.agg #[.int .i64 N, .int .i64 D]] w (RetB (rightB N D) w) := by
  by_cases h1 : 0 < D
  · have e1 : decide (0 < D) = true := decide_eq_true h1
    by_cases h2 : N = -9223372036854775808
    · have e2 : (N != -9223372036854775808) = false := by simpa using h2
      have hr : rightB N D = false := decide_eq_false (fun h => h.2.1 h2)
      rw [hr]
      clear h2
      go_enter Try.func40, Try.ntmps40
      go_wp2_with fail
      go_quiet (fail)
      go_wp2_with fail
      go_ret
      exact ⟨rfl, by repeat (first | exact bl_refl _ | apply bl_alloc | apply bl_drewN)⟩
    · have e2 : (N != -9223372036854775808) = true := by simpa using h2
      have lo := hN.lo; have hi := hN.hi; have dlo := hD.lo; have dhi := hD.hi
      have cD : IntKind.u64.wrap D = (D.natAbs : Int) := by rw [IntKind.wrap_u64]; omega
      go_enter Try.func40, Try.ntmps40
      go_wp2_with fail
      go_region_held3 (fun w' => w'.cell? ⟨w.heap.size, 0, none⟩ = some (.int .i64 N) ∧ w'.cell? ⟨w.heap.size, 1, none⟩ = some (.int .i64 D))
        (first | (simp [go_sem]; done) | exact ⟨B1.cell 0, B1.cell 1⟩ | exact ⟨B2.cell 0, B2.cell 1⟩ | fail)
        (first
          | (go_at_call 32; refine (mag_any N lo hi _).mono ?_; rintro e w1 ⟨rfl, hb1⟩; have B1 := (Blk.new w #[.int .i64 N, .int .i64 D] 24).drew.after hb1)
          | (go_at_call 59; refine (gcd_any N.natAbs D.natAbs (by omega) (by omega) _).mono ?_; rintro e w2 ⟨rfl, hb2⟩; have B2 := B1.after hb2))
      go_wp2_with fail
      go_ret
      exact ⟨right_is h1 h2 rfl, bl_then (bl_then (bl_drew (bl_alloc (bl_refl _) _)) hb1) hb2⟩
  · have e1 : decide (0 < D) = false := decide_eq_false h1
    have hr : rightB N D = false := decide_eq_false (fun h => h1 h.1)
    rw [hr]
    go_enter Try.func40, Try.ntmps40
    go_wp2_with fail
    go_quiet (fail)
    go_wp2_with fail
    go_ret
    exact ⟨rfl, by repeat (first | exact bl_refl _ | apply bl_alloc | apply bl_drewN)⟩
end Go.Proofs.Ytpdbiofpoccjeaa
