/- Sums, differences, products, quotients of ratios that may be: what they tell. -/
import Derived.Test.YtpdbiofpoccjeaaYb
namespace Go.Proofs.Ytpdbiofpoccjeaa
open Go.RowKit
theorem rt_uniq {N D N' D' : Int} (h : Rt N D) (h' : Rt N' D') (e : N * D' = N' * D) : N = N' ∧ D = D' := by
  have hp := h.pos; have hp' := h'.pos
  have t := told_of (n := N') (d := D'.natAbs) (by omega) h (by rw [show ((D'.natAbs : Nat) : Int) = D' by omega]; exact e)
  have s := told_self h'
  exact ⟨t.2.1.symm.trans s.2.1, t.2.2.symm.trans s.2.2⟩
theorem op_yes {aN aD bN bD v N D : Int} {m : Nat} (A : Rt aN aD) (B : Rt bN bD) (hm : 0 < m) (h : Rt N D) (e : N * m = v * D) :
    opOk aN aD bN bD v m = true ∧ opN aN aD bN bD v m = N ∧ opD aN aD bN bD v m = D := by
  have t := told_of hm h e
  unfold opOk opN opD
  simp only [A.right, B.right, Bool.true_and, if_true]
  exact t
theorem op_is {aN aD bN bD v : Int} {m : Nat} (A : Rt aN aD) (B : Rt bN bD) (h : opOk aN aD bN bD v m = true) :
    0 < m ∧ Rt (opN aN aD bN bD v m) (opD aN aD bN bD v m) ∧ opN aN aD bN bD v m * m = v * opD aN aD bN bD v m := by
  unfold opOk at h
  unfold opN opD
  simp only [A.right, B.right, Bool.true_and, if_true] at h ⊢
  exact told_is h
theorem op_no {aN aD bN bD v : Int} {m : Nat} (h : opOk aN aD bN bD v m = false) : opN aN aD bN bD v m = 0 ∧ opD aN aD bN bD v m = 0 := by
  unfold opOk at h
  unfold opN opD
  cases h1 : (rightB aN aD && rightB bN bD)
  · simp
  · rw [h1, Bool.true_and] at h
    simp [told_bad h]
theorem op_small {aN aD bN bD v : Int} {m : Nat} (A : Rt aN aD) (B : Rt bN bD) (hm : 0 < m) (h1 : v.natAbs ≤ 9223372036854775807) (h2 : m ≤ 9223372036854775807) :
    opOk aN aD bN bD v m = true ∧ (opN aN aD bN bD v m).natAbs ≤ v.natAbs ∧ (opD aN aD bN bD v m).natAbs ≤ m := by
  have t := told_small (n := v) (d := m)
  unfold opOk opN opD
  simp only [A.right, B.right, Bool.true_and, if_true]
  exact ⟨toldOk_small hm h1 h2, t⟩
theorem add_y {aN aD bN bD N D : Int} (A : Rt aN aD) (B : Rt bN bD) (h : Rt N D) (e : N * (aD * bD) = (aN * bD + bN * aD) * D) (w : World) :
    Calls Try.prog 20 #[.agg #[.int .i64 aN, .int .i64 aD], .agg #[.int .i64 bN, .int .i64 bD]] w (RetR N D true w) := by
  have hp := Int.mul_pos A.pos B.pos
  obtain ⟨h1, h2, h3⟩ := op_yes (v := aN * bD + bN * aD) (m := (aD * bD).natAbs) A B (by omega) h (by rw [show (((aD * bD).natAbs : Nat) : Int) = aD * bD by omega]; exact e)
  have c := add_any aN aD bN bD A.n64 A.d64 B.n64 B.d64 w
  unfold RetOp at c
  rw [h1, h2, h3] at c
  exact c
theorem sub_y {aN aD bN bD N D : Int} (A : Rt aN aD) (B : Rt bN bD) (h : Rt N D) (e : N * (aD * bD) = (aN * bD + -bN * aD) * D) (w : World) :
    Calls Try.prog 27 #[.agg #[.int .i64 aN, .int .i64 aD], .agg #[.int .i64 bN, .int .i64 bD]] w (RetR N D true w) := by
  have hp := Int.mul_pos A.pos B.pos
  obtain ⟨h1, h2, h3⟩ := op_yes (v := aN * bD + -bN * aD) (m := (aD * bD).natAbs) A B (by omega) h (by rw [show (((aD * bD).natAbs : Nat) : Int) = aD * bD by omega]; exact e)
  have c := sub_any aN aD bN bD A.n64 A.d64 B.n64 B.d64 w
  unfold RetOp at c
  rw [h1, h2, h3] at c
  exact c
theorem mul_y {aN aD bN bD N D : Int} (A : Rt aN aD) (B : Rt bN bD) (h : Rt N D) (e : N * (aD * bD) = (aN * bN) * D) (w : World) :
    Calls Try.prog 21 #[.agg #[.int .i64 aN, .int .i64 aD], .agg #[.int .i64 bN, .int .i64 bD]] w (RetR N D true w) := by
  have hp := Int.mul_pos A.pos B.pos
  obtain ⟨h1, h2, h3⟩ := op_yes (v := aN * bN) (m := (aD * bD).natAbs) A B (by omega) h (by rw [show (((aD * bD).natAbs : Nat) : Int) = aD * bD by omega]; exact e)
  have c := mulr_any aN aD bN bD A.n64 A.d64 B.n64 B.d64 w
  unfold RetOp at c
  rw [h1, h2, h3] at c
  exact c
theorem div_y {aN aD bN bD N D : Int} (A : Rt aN aD) (B : Rt bN bD) (hb : bN ≠ 0) (h : Rt N D) (e : N * (aD * bN) = (aN * bD) * D) (w : World) :
    Calls Try.prog 28 #[.agg #[.int .i64 aN, .int .i64 aD], .agg #[.int .i64 bN, .int .i64 bD]] w (RetR N D true w) := by
  have hp := A.pos
  have hn : aD * bN ≠ 0 := Int.mul_ne_zero (by omega) hb
  have e' : N * (((aD * bN).natAbs : Nat) : Int) = divV aN aD bN bD * D := by
    unfold divV
    split
    · rw [show (((aD * bN).natAbs : Nat) : Int) = -(aD * bN) by omega]; grind
    · rw [show (((aD * bN).natAbs : Nat) : Int) = aD * bN by omega]; exact e
  obtain ⟨h1, h2, h3⟩ := op_yes (v := divV aN aD bN bD) (m := (aD * bN).natAbs) A B (by omega) h e'
  have c := divr_any aN aD bN bD A.n64 A.d64 B.n64 B.d64 w
  unfold RetOp at c
  rw [h1, h2, h3] at c
  exact c
theorem div_0 {aN aD bD : Int} (A : Rt aN aD) (B : Rt 0 bD) (w : World) :
    Calls Try.prog 28 #[.agg #[.int .i64 aN, .int .i64 aD], .agg #[.int .i64 0, .int .i64 bD]] w (RetR 0 0 false w) := by
  have c := divr_any aN aD 0 bD A.n64 A.d64 B.n64 B.d64 w
  have h0 : opOk aN aD 0 bD (divV aN aD 0 bD) ((aD * 0).natAbs) = false := by
    unfold opOk
    simp only [A.right, B.right, Bool.true_and]
    exact (toldOk_no (by simp)).1
  obtain ⟨h1, h2⟩ := op_no h0
  unfold RetOp at c
  rw [h0, h1, h2] at c
  exact c
/-- A sum is told, or it is not. -/
theorem add_c {aN aD bN bD : Int} (A : Rt aN aD) (B : Rt bN bD) : (∃ N D, Rt N D ∧ N * (aD * bD) = (aN * bD + bN * aD) * D ∧ (N.natAbs ≤ (aN * bD + bN * aD).natAbs ∧ D.natAbs ≤ (aD * bD).natAbs) ∧ ∀ w, Calls Try.prog 20 #[.agg #[.int .i64 aN, .int .i64 aD], .agg #[.int .i64 bN, .int .i64 bD]] w (RetR N D true w)) ∨
    (((aN * bD + bN * aD).natAbs ≤ 9223372036854775807 → (aD * bD).natAbs ≤ 9223372036854775807 → False) ∧ ∀ w, Calls Try.prog 20 #[.agg #[.int .i64 aN, .int .i64 aD], .agg #[.int .i64 bN, .int .i64 bD]] w (RetR 0 0 false w)) := by
  have hp := Int.mul_pos A.pos B.pos
  have c := add_any aN aD bN bD A.n64 A.d64 B.n64 B.d64
  unfold RetOp at c
  have t := told_small (n := aN * bD + bN * aD) (d := (aD * bD).natAbs)
  cases h : opOk aN aD bN bD (aN * bD + bN * aD) ((aD * bD).natAbs)
  · obtain ⟨h1, h2⟩ := op_no h
    rw [h, h1, h2] at c
    refine .inr ⟨fun x y => ?_, c⟩
    have := (op_small (v := aN * bD + bN * aD) (m := (aD * bD).natAbs) A B (by omega) x y).1
    rw [h] at this
    cases this
  · obtain ⟨_, h1, h2⟩ := op_is A B h
    rw [show (((aD * bD).natAbs : Nat) : Int) = aD * bD by omega] at h2
    rw [h] at c
    refine .inl ⟨_, _, h1, h2, ?_, c⟩
    unfold opN opD
    simp only [A.right, B.right, Bool.true_and, if_true]
    exact t
theorem sub_c {aN aD bN bD : Int} (A : Rt aN aD) (B : Rt bN bD) : (∃ N D, Rt N D ∧ N * (aD * bD) = (aN * bD + -bN * aD) * D ∧ ∀ w, Calls Try.prog 27 #[.agg #[.int .i64 aN, .int .i64 aD], .agg #[.int .i64 bN, .int .i64 bD]] w (RetR N D true w)) ∨
    (∀ w, Calls Try.prog 27 #[.agg #[.int .i64 aN, .int .i64 aD], .agg #[.int .i64 bN, .int .i64 bD]] w (RetR 0 0 false w)) := by
  have hp := Int.mul_pos A.pos B.pos
  have c := sub_any aN aD bN bD A.n64 A.d64 B.n64 B.d64
  unfold RetOp at c
  cases h : opOk aN aD bN bD (aN * bD + -bN * aD) ((aD * bD).natAbs)
  · obtain ⟨h1, h2⟩ := op_no h
    rw [h, h1, h2] at c
    exact .inr c
  · obtain ⟨_, h1, h2⟩ := op_is A B h
    rw [show (((aD * bD).natAbs : Nat) : Int) = aD * bD by omega] at h2
    rw [h] at c
    exact .inl ⟨_, _, h1, h2, c⟩
theorem mul_c {aN aD bN bD : Int} (A : Rt aN aD) (B : Rt bN bD) : (∃ N D, Rt N D ∧ N * (aD * bD) = (aN * bN) * D ∧ (N.natAbs ≤ (aN * bN).natAbs ∧ D.natAbs ≤ (aD * bD).natAbs) ∧ ∀ w, Calls Try.prog 21 #[.agg #[.int .i64 aN, .int .i64 aD], .agg #[.int .i64 bN, .int .i64 bD]] w (RetR N D true w)) ∨
    (((aN * bN).natAbs ≤ 9223372036854775807 → (aD * bD).natAbs ≤ 9223372036854775807 → False) ∧ ∀ w, Calls Try.prog 21 #[.agg #[.int .i64 aN, .int .i64 aD], .agg #[.int .i64 bN, .int .i64 bD]] w (RetR 0 0 false w)) := by
  have hp := Int.mul_pos A.pos B.pos
  have c := mulr_any aN aD bN bD A.n64 A.d64 B.n64 B.d64
  unfold RetOp at c
  have t := told_small (n := aN * bN) (d := (aD * bD).natAbs)
  cases h : opOk aN aD bN bD (aN * bN) ((aD * bD).natAbs)
  · obtain ⟨h1, h2⟩ := op_no h
    rw [h, h1, h2] at c
    refine .inr ⟨fun x y => ?_, c⟩
    have := (op_small (v := aN * bN) (m := (aD * bD).natAbs) A B (by omega) x y).1
    rw [h] at this
    cases this
  · obtain ⟨_, h1, h2⟩ := op_is A B h
    rw [show (((aD * bD).natAbs : Nat) : Int) = aD * bD by omega] at h2
    rw [h] at c
    refine .inl ⟨_, _, h1, h2, ?_, c⟩
    unfold opN opD
    simp only [A.right, B.right, Bool.true_and, if_true]
    exact t
/-- Make tells the ratio, or there is none. -/
theorem make_c {n d : Int} (hn : R64 n) (hd : R64 d) : (∃ N D, Rt N D ∧ d ≠ 0 ∧ N * d = n * D ∧ ∀ w, Calls Try.prog 14 #[.int .i64 n, .int .i64 d] w (RetR N D true w)) ∨ (∀ w, Calls Try.prog 14 #[.int .i64 n, .int .i64 d] w (RetR 0 0 false w)) := by
  have c := make_any n d hn hd
  unfold RetT at c
  cases h : toldOk (makeV n d) d.natAbs
  · obtain ⟨h1, h2⟩ := told_bad h
    rw [h, h1, h2] at c
    exact .inr c
  · obtain ⟨h0, h1, h2⟩ := make_is h
    rw [h] at c
    exact .inl ⟨_, _, h1, h0, h2, c⟩
theorem make_y {n d N D : Int} (hn : R64 n) (hd : R64 d) (h0 : d ≠ 0) (h : Rt N D) (e : N * d = n * D) (w : World) : Calls Try.prog 14 #[.int .i64 n, .int .i64 d] w (RetR N D true w) := by
  have e1 := makeV_eq n d
  have e2 : N * (d.natAbs : Int) = makeV n d * D := by
    have hx : (N * (d.natAbs : Int)) * d = (makeV n d * D) * d := by grind
    exact Int.eq_of_mul_eq_mul_right h0 hx
  have t := told_of (n := makeV n d) (d := d.natAbs) (by omega) h e2
  exact make_to hn hd t w
theorem rt_zero : Rt 0 1 := ⟨by omega, by decide, by omega, by omega, by omega⟩
theorem rt_one : Rt 1 1 := ⟨by omega, by decide, by omega, by omega, by omega⟩
theorem rt_half : Rt 1 2 := ⟨by omega, by decide, by omega, by omega, by omega⟩
theorem rt_whole {n : Int} (h1 : -9223372036854775807 ≤ n) (h2 : n ≤ 9223372036854775807) : Rt n 1 := ⟨by omega, by simp, h1, h2, by omega⟩
end Go.Proofs.Ytpdbiofpoccjeaa
