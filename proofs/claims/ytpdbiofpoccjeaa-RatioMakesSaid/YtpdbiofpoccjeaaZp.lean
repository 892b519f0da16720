/- The reference's numbers: rows of digits to base 65536, the lowest one first: plain laws. -/
namespace Go.Proofs.Ytpdbiofpoccjeaa.Ref
/-- What a row of digits comes to. -/
def val : List Nat → Nat
  | [] => 0
  | d :: l => d + 65536 * val l
def Dgs (l : List Nat) : Prop := ∀ d ∈ l, d < 65536
theorem val_append (a b : List Nat) : val (a ++ b) = val a + 65536 ^ a.length * val b := by
  induction a with
  | nil => simp [val]
  | cons d a ih => simp only [List.cons_append, val, ih, List.length_cons, Nat.pow_succ]; grind
theorem val_snoc (a : List Nat) (d : Nat) : val (a ++ [d]) = val a + 65536 ^ a.length * d := by rw [val_append]; simp [val]
theorem val_lt (a : List Nat) (h : Dgs a) : val a < 65536 ^ a.length := by
  induction a with
  | nil => simp [val]
  | cons d a ih =>
    have h1 := h d (by simp)
    have h2 := ih (fun x hx => h x (by simp [hx]))
    simp only [val, List.length_cons, Nat.pow_succ]
    omega
theorem val_take_succ (l : List Nat) (k : Nat) (h : k < l.length) : val (l.take (k + 1)) = val (l.take k) + 65536 ^ k * l.getD k 0 := by
  rw [List.take_succ_eq_append_getElem h, val_snoc]
  simp [List.length_take, Nat.min_eq_left (Nat.le_of_lt h), h]
/-- Nothing but the digits counts: beyond them 0. -/
theorem val_take_ext (l : List Nat) (k : Nat) : val (l.take (k + 1)) = val (l.take k) + 65536 ^ k * l.getD k 0 := by
  by_cases h : k < l.length
  · exact val_take_succ l k h
  · simp [List.take_of_length_le (show l.length ≤ k by omega), List.take_of_length_le (show l.length ≤ k + 1 by omega), List.getElem?_eq_none (show l.length ≤ k by omega)]
theorem Dgs.take {l : List Nat} (h : Dgs l) (k : Nat) : Dgs (l.take k) := fun d hd => h d (List.mem_of_mem_take hd)
theorem Dgs.getD {l : List Nat} (h : Dgs l) (k : Nat) : l.getD k 0 < 65536 := by
  by_cases hk : k < l.length
  · simp only [List.getD_eq_getElem?_getD, List.getElem?_eq_getElem hk, Option.getD_some]
    exact h _ (List.getElem_mem _)
  · simp [List.getElem?_eq_none (show l.length ≤ k by omega)]
theorem Dgs.snoc {l : List Nat} (h : Dgs l) {d : Nat} (hd : d < 65536) : Dgs (l ++ [d]) := fun x hx => by
  rcases List.mem_append.1 hx with hx | hx
  · exact h x hx
  · simp at hx; omega
/-- A number: below, its digits without noughts ahead. -/
structure Nm (b : Bool) (l : List Nat) (n : Int) : Prop where
  dg : Dgs l
  top : ∀ k, l.length = k + 1 → l.getD k 0 ≠ 0
  val : val l = n.natAbs
  sg : b = decide (n < 0)
theorem Nm.low {b : Bool} {l : List Nat} {n : Int} (h : Nm b l n) {k : Nat} (hk : l.length = k + 1) : 65536 ^ k ≤ n.natAbs := by
  have h1 := h.top k hk
  have h2 := val_take_ext l k
  rw [List.take_of_length_le (by omega), h.val] at h2
  have : 65536 ^ k * 1 ≤ 65536 ^ k * l.getD k 0 := Nat.mul_le_mul_left _ (by omega)
  omega
theorem Nm.len {b : Bool} {l : List Nat} {n : Int} (h : Nm b l n) {k : Nat} (hk : n.natAbs < 65536 ^ k) : l.length ≤ k := by
  by_cases h0 : l.length ≤ k
  · exact h0
  · exfalso
    have h1 := h.low (k := l.length - 1) (by omega)
    have h2 : 65536 ^ k ≤ 65536 ^ (l.length - 1) := Nat.pow_le_pow_right (by omega) (by omega)
    omega
theorem Nm.zero {b : Bool} {l : List Nat} {n : Int} (h : Nm b l n) : l.length = 0 ↔ n = 0 := by
  constructor
  · intro h0
    have := h.val
    rw [List.eq_nil_of_length_eq_zero h0] at this
    simp [Proofs.Ytpdbiofpoccjeaa.Ref.val] at this
    omega
  · rintro rfl
    have := h.len (k := 0) (by simp)
    omega
theorem Nm.hi {b : Bool} {l : List Nat} {n : Int} (h : Nm b l n) : n.natAbs < 65536 ^ l.length := by rw [← h.val]; exact val_lt l h.dg
/-- A row of digits with its sign. -/
def sgd (b : Bool) (m : Nat) : Int := if b then -(m : Int) else (m : Int)
theorem sgd_abs (b : Bool) (m : Nat) : (sgd b m).natAbs = m := by unfold sgd; split <;> omega
/-- 'whole': noughts ahead away. -/
theorem nm_whole (b : Bool) (l : List Nat) (k : Nat) (hd : Dgs l) (hk : k ≤ l.length) (hv : val (l.take k) = val l) (ht : ∀ m, k = m + 1 → l.getD m 0 ≠ 0) : Nm (b && decide (0 < k)) (l.take k) (sgd b (val l)) := by
  have hlen : (l.take k).length = k := by simp; omega
  refine ⟨hd.take k, ?_, by rw [sgd_abs, hv], ?_⟩
  · intro m hm
    have h := ht m (by omega)
    simpa [List.getD_eq_getElem?_getD, List.getElem?_take, show m < k by omega] using h
  · have h0 : 0 < k ↔ 0 < val l := by
      constructor
      · intro h
        have h1 := val_take_ext l (k - 1)
        rw [show k - 1 + 1 = k by omega, hv] at h1
        have h2 := ht (k - 1) (by omega)
        have : 65536 ^ (k - 1) * 1 ≤ 65536 ^ (k - 1) * l.getD (k - 1) 0 := Nat.mul_le_mul_left _ (by omega)
        have : 0 < 65536 ^ (k - 1) := Nat.pow_pos (by omega)
        omega
      · intro h
        rcases Nat.eq_zero_or_pos k with rfl | h1
        · simp [val] at hv; omega
        · exact h1
    cases b
    · simp [sgd]
    · simp only [sgd, Bool.true_and, if_true]
      by_cases h : 0 < k
      · have := h0.1 h
        rw [decide_eq_true h, decide_eq_true (by omega)]
      · have : ¬ 0 < val l := fun x => h (h0.2 x)
        rw [decide_eq_false h, decide_eq_false (by omega)]
end Go.Proofs.Ytpdbiofpoccjeaa.Ref
