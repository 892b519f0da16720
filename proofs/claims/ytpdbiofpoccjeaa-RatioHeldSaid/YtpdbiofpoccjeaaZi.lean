/- The walk over the reference's Times. -/
import Derived.Test.YtpdbiofpoccjeaaZh
namespace Go.Proofs.Ytpdbiofpoccjeaa.Ref
open Go.RowKit
theorem val_set (l : List Nat) (j d : Nat) (h : j < l.length) : val (l.set j d) + 65536 ^ j * l.getD j 0 = val l + 65536 ^ j * d := by
  induction l generalizing j with
  | nil => simp at h
  | cons x l ih =>
    cases j with
    | zero => simp [val]; omega
    | succ j =>
      have := ih j (by simpa using h)
      simp only [List.set_cons_succ, val, List.getD_cons_succ, Nat.pow_succ]
      have e1 : 65536 ^ j * 65536 * l.getD j 0 = 65536 * (65536 ^ j * l.getD j 0) := by rw [Nat.mul_comm (65536 ^ j) 65536, Nat.mul_assoc]
      have e2 : 65536 ^ j * 65536 * d = 65536 * (65536 ^ j * d) := by rw [Nat.mul_comm (65536 ^ j) 65536, Nat.mul_assoc]
      omega
theorem Dgs.set {l : List Nat} (h : Dgs l) (j : Nat) {d : Nat} (hd : d < 65536) : Dgs (l.set j d) := fun x hx => by
  rcases List.mem_or_eq_of_mem_set hx with hx | hx
  · exact h x hx
  · omega
/-- What holds of the digits in the midst of a round. -/
def Mid (a b out : List Nat) (i k c : Nat) : Prop := out.length = a.length + b.length + 1 ∧ Dgs out ∧ c < 65536 ∧ val out + 65536 ^ (i + k) * c = V a i * val b + 65536 ^ i * (a.getD i 0 * V b k)
theorem mid_step {a b out : List Nat} {i k c : Nat} (h : Mid a b out i k c) (hj : i + k < out.length) (ha : Dgs a) (hb : Dgs b) :
    Mid a b (out.set (i + k) ((out.getD (i + k) 0 + a.getD i 0 * b.getD k 0 + c) % 65536)) i (k + 1) ((out.getD (i + k) 0 + a.getD i 0 * b.getD k 0 + c) / 65536) := by
  obtain ⟨h1, h2, h3, h4⟩ := h
  obtain ⟨x, hx⟩ : ∃ x, out.getD (i + k) 0 + a.getD i 0 * b.getD k 0 + c = x := ⟨_, rfl⟩
  have o1 := h2.getD (i + k)
  have a1 := ha.getD i
  have b1 := hb.getD k
  have hp : a.getD i 0 * b.getD k 0 ≤ 65535 * 65535 := Nat.mul_le_mul (by omega) (by omega)
  refine ⟨by simpa using h1, h2.set _ (Nat.mod_lt _ (by omega)), by omega, ?_⟩
  have hs := val_set out (i + k) (x % 65536) hj
  rw [hx]
  have e1 : 65536 ^ (i + k) * (x % 65536) + 65536 ^ (i + (k + 1)) * (x / 65536) = 65536 ^ (i + k) * x := by
    rw [← Nat.add_assoc, Nat.pow_succ, Nat.mul_assoc, ← Nat.mul_add, Nat.mod_add_div]
  have e2 : 65536 ^ (i + k) * x = 65536 ^ (i + k) * out.getD (i + k) 0 + 65536 ^ (i + k) * (a.getD i 0 * b.getD k 0) + 65536 ^ (i + k) * c := by rw [← hx, Nat.mul_add, Nat.mul_add]
  have e3 : 65536 ^ i * (a.getD i 0 * V b (k + 1)) = 65536 ^ i * (a.getD i 0 * V b k) + 65536 ^ (i + k) * (a.getD i 0 * b.getD k 0) := by
    rw [V_succ, Nat.pow_add]; grind
  rw [e3]
  omega
theorem mid_lt {a b out : List Nat} {i k c : Nat} (h : Mid a b out i k c) (hi : i < a.length) (ha : Dgs a) (hb : Dgs b) (hc : 0 < c) : i + k < a.length + b.length := by
  obtain ⟨h1, h2, h3, h4⟩ := h
  have v1 : V b k ≤ val b := by obtain ⟨r, hr⟩ := V_rest b k; omega
  have v2 : V a (i + 1) * val b = V a i * val b + 65536 ^ i * (a.getD i 0 * val b) := by rw [V_succ, Nat.add_mul, Nat.mul_assoc]
  have v3 : 65536 ^ i * (a.getD i 0 * V b k) ≤ 65536 ^ i * (a.getD i 0 * val b) := Nat.mul_le_mul_left _ (Nat.mul_le_mul_left _ v1)
  have v4 := V_lt a ha (i + 1)
  have v5 := val_lt b hb
  have v6 : 65536 ^ (i + 1) ≤ 65536 ^ a.length := Nat.pow_le_pow_right (by omega) hi
  have v7 : V a (i + 1) * val b < 65536 ^ a.length * 65536 ^ b.length := Nat.mul_lt_mul'' (by omega) v5
  rw [← Nat.pow_add] at v7
  have v8 : 65536 ^ (i + k) * 1 ≤ 65536 ^ (i + k) * c := Nat.mul_le_mul_left _ hc
  have v9 : 65536 ^ (i + k) < 65536 ^ (a.length + b.length) := by omega
  exact (Nat.pow_lt_pow_iff_right (by omega)).1 v9
/-- A round begins, and ends. -/
def Out (a b out : List Nat) (i : Nat) : Prop := out.length = a.length + b.length + 1 ∧ Dgs out ∧ val out = V a i * val b
theorem mid_first {a b out : List Nat} {i : Nat} (h : Out a b out i) : Mid a b out i 0 0 := ⟨h.1, h.2.1, by omega, by rw [V_zero, h.2.2]; simp⟩
theorem mid_last {a b out : List Nat} {i k : Nat} (h : Mid a b out i k 0) (hk : b.length ≤ k) : Out a b out (i + 1) := by
  refine ⟨h.1, h.2.1, ?_⟩
  have := h.2.2.2
  rw [V_all b k hk] at this
  rw [V_succ, Nat.add_mul, Nat.mul_assoc]
  omega
theorem val_zeros (n : Nat) : val (List.replicate n 0) = 0 := by
  induction n with
  | zero => rfl
  | succ n ih => simp [List.replicate_succ, val, ih]
theorem out_first (a b : List Nat) : Out a b (List.replicate (a.length + b.length + 1) 0) 0 :=
  ⟨by simp, fun d hd => by have := (List.mem_replicate.1 hd).2; omega, by rw [val_zeros, V_zero]; simp⟩
theorem sgd_mul {p q : Bool} {a b out : List Nat} {x y : Int} (hx : Nm p a x) (hy : Nm q b y) (h : val out = val a * val b) : sgd (p != q) (val out) = x * y := by
  rw [← hx.sg_eq, ← hy.sg_eq, h]
  unfold sgd
  cases p <;> cases q <;> simp [Int.mul_neg, Int.neg_mul]
/-! ### The row in memory -/
theorem row_cell {w : World} {g : Nat} {l : List Nat} (h : Blk w g (nv l).toArray 3) (j : Nat) (hj : j < l.length) : w.cell? ⟨g, j, none⟩ = some (.int .i64 (dg l j)) := by
  rw [h.cell j, List.getElem?_toArray]
  exact nv_get l j hj
theorem row_set {w : World} {g : Nat} {l : List Nat} (h : Blk w g (nv l).toArray 3) (j d : Nat) : Blk (w.setCell ⟨g, j, none⟩ (.int .i64 (d : Int))) g (nv (l.set j d)).toArray 3 := by
  have := h.set j (.int .i64 (d : Int))
  rwa [show (nv l).toArray.setIfInBounds j (.int .i64 (d : Int)) = (nv (l.set j d)).toArray by simp [nv, List.map_set]] at this
theorem row_rd {w : World} {g n : Nat} {l : List Nat} (h : Blk w g (nv l).toArray 3) (hn : l.length = n) (hm : n ≤ 1000000) : Rd w (.slice (some ⟨g, 0, none⟩) n n) l := by
  subst hn
  exact ⟨by simp [nv], .inr ⟨g, l.length, _, rfl, Nat.zero_le _, h, Nat.le_refl _, by simp only [maxLen]; omega, by simp [nv], List.take_of_length_le (by simp [nv])⟩⟩
theorem row_made (w : World) (n g : Nat) (hg : w.heap.size = g) : Blk (w.alloc (.cells (madeCells #[.int .i64 0] n) 3)) g (nv (List.replicate n 0)).toArray 3 := by
  subst hg
  have h := Blk.new w (madeCells #[.int .i64 0] n) 3
  have e : madeCells #[.int .i64 0] n = (nv (List.replicate n 0)).toArray := by
    apply Array.ext
    · simp [nv, size_madeCells]
    · intro i h1 h2
      simp [madeCells, nv, Nat.mod_one]
  show _ = _
  unfold Blk at h
  rw [h, e]
end Go.Proofs.Ytpdbiofpoccjeaa.Ref
