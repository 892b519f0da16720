/- RatioLeast: the walk and the plain law. -/
import Derived.Test.YtpdbiofpoccjeaaYa
namespace Go.Proofs.Ytpdbiofpoccjeaa
open Go.RowKit
theorem tmod30 (n : Int) : -1073741824 < n.tmod 1073741824 ∧ n.tmod 1073741824 < 1073741824 := by
  have h1 := Int.tmod_lt_of_pos n (b := 1073741824) (by omega)
  have h2 := Int.lt_tmod_of_pos n (b := 1073741824) (by omega)
  omega
theorem make_ok {n d : Int} (hd : d ≠ 0) (h1 : n.natAbs ≤ 9223372036854775807) (h2 : d.natAbs ≤ 9223372036854775807) : toldOk (makeV n d) d.natAbs = true :=
  toldOk_small (by omega) (by rw [makeV_abs]; exact h1) h2
theorem make_same {n d n' d' : Int} (hd : d ≠ 0) (hd' : d' ≠ 0) (e : n * d' = n' * d) : toldN (makeV n' d') d'.natAbs = toldN (makeV n d) d.natAbs ∧ toldD (makeV n' d') d'.natAbs = toldD (makeV n d) d.natAbs := by
  have h1 := makeV_eq n d
  have h2 := makeV_eq n' d'
  have e0 : makeV n d * (d'.natAbs : Int) = makeV n' d' * (d.natAbs : Int) := by
    have h : (makeV n d * (d'.natAbs : Int)) * (d * d') = (makeV n' d' * (d.natAbs : Int)) * (d * d') := by grind
    exact Int.eq_of_mul_eq_mul_right (Int.mul_ne_zero hd hd') h
  obtain ⟨_, h3, h4⟩ := told_cross (by omega) (by omega) e0
  exact ⟨h3.symm, h4.symm⟩
/-- What Make tells is the ratio of the two, whatever their signs. -/
theorem make_is {n d : Int} (h : toldOk (makeV n d) d.natAbs = true) : d ≠ 0 ∧ Rt (toldN (makeV n d) d.natAbs) (toldD (makeV n d) d.natAbs) ∧ toldN (makeV n d) d.natAbs * d = n * toldD (makeV n d) d.natAbs := by
  obtain ⟨h0, h1, h2⟩ := told_is h
  refine ⟨by omega, h1, ?_⟩
  have e := makeV_eq n d
  generalize toldN (makeV n d) d.natAbs = N at *
  generalize toldD (makeV n d) d.natAbs = D at *
  have hx : (N * d) * (d.natAbs : Int) = (n * D) * (d.natAbs : Int) := by grind
  exact Int.eq_of_mul_eq_mul_right (by omega) hx
theorem make_none (n : Int) : toldOk (makeV n 0) (0 : Int).natAbs = false ∧ toldN (makeV n 0) (0 : Int).natAbs = 0 ∧ toldD (makeV n 0) (0 : Int).natAbs = 0 :=
  toldOk_no (by simp)
theorem least_whole {n d N D : Int} (hd : d ≠ 0) (h : Rt N D) (e : N * d = n * D) : (D == 1) = (n.tmod d == 0) := by
  have h1 : (D = 1) ↔ n.tmod d = 0 := by
    rw [← Int.dvd_iff_tmod_eq_zero]
    constructor
    · rintro rfl
      exact ⟨N, by grind⟩
    · rintro ⟨q, rfl⟩
      have e2 : N = q * D := by
        have : N * d = (q * D) * d := by grind
        exact Int.eq_of_mul_eq_mul_right hd this
      have hc := h.cop
      have hp := h.pos
      rw [e2, Int.natAbs_mul, Nat.gcd_mul_left_left] at hc
      omega
  rw [Bool.eq_iff_iff, beq_iff_eq, beq_iff_eq]
  exact h1
theorem mul_bound {a b : Int} {x y : Nat} (ha : a.natAbs ≤ x) (hb : b.natAbs ≤ y) : (a * b).natAbs ≤ x * y := by
  rw [Int.natAbs_mul]
  exact Nat.mul_le_mul ha hb
theorem make_to {n d N D : Int} {ok : Bool} (hn : R64 n) (hd : R64 d) (h : toldOk (makeV n d) d.natAbs = ok ∧ toldN (makeV n d) d.natAbs = N ∧ toldD (makeV n d) d.natAbs = D) (w : World) :
    Calls Try.prog 14 #[.int .i64 n, .int .i64 d] w (RetR N D ok w) := by
  obtain ⟨rfl, rfl, rfl⟩ := h
  exact make_any n d hn hd w
/-- Three ratios told, of the same least numbers. -/
theorem least_law {n d k : Int} (hn : -1073741824 < n ∧ n < 1073741824) (hd : -1073741824 < d ∧ d < 1073741824) (hk : 0 < k ∧ k ≤ 32768) (h0 : d ≠ 0) :
    ∃ N D : Int, (toldOk (makeV n d) d.natAbs = true ∧ toldN (makeV n d) d.natAbs = N ∧ toldD (makeV n d) d.natAbs = D) ∧
      (toldOk (makeV (n * k) (d * k)) (d * k).natAbs = true ∧ toldN (makeV (n * k) (d * k)) (d * k).natAbs = N ∧ toldD (makeV (n * k) (d * k)) (d * k).natAbs = D) ∧
      (toldOk (makeV (-n) (-d)) (-d).natAbs = true ∧ toldN (makeV (-n) (-d)) (-d).natAbs = N ∧ toldD (makeV (-n) (-d)) (-d).natAbs = D) ∧
      0 < D ∧ (D == 1) = (n.tmod d == 0) ∧ N * d = n * D ∧ N.natAbs ≤ 1073741824 ∧ D.natAbs ≤ 1073741824 := by
  have b1 := mul_bound (a := n) (b := k) (x := 1073741824) (y := 32768) (by omega) (by omega)
  have b2 := mul_bound (a := d) (b := k) (x := 1073741824) (y := 32768) (by omega) (by omega)
  have hdk : d * k ≠ 0 := Int.mul_ne_zero h0 (by omega)
  have o1 := make_ok (n := n) h0 (by omega) (by omega)
  have o2 := make_ok (n := n * k) hdk (by omega) (by omega)
  have o3 := make_ok (n := -n) (d := -d) (by omega) (by omega) (by omega)
  have s2 := make_same (n := n) (n' := n * k) h0 hdk (by grind)
  have s3 := make_same (n := n) (n' := -n) (d' := -d) h0 (by omega) (by grind)
  obtain ⟨_, hR, he⟩ := make_is o1
  have hs := told_small (n := makeV n d) (d := d.natAbs)
  rw [makeV_abs] at hs
  exact ⟨_, _, ⟨o1, rfl, rfl⟩, ⟨o2, s2⟩, ⟨o3, s3⟩, hR.pos, least_whole h0 hR he, he, by omega, by omega⟩
set_option maxRecDepth 10000 in
theorem least_none (a0 a1 a2 : Int) (hd : a1.tmod 1073741824 = 0) (w : World) : Calls Try.prog 5 #[.int .i64 a0, .int .i64 a1, .int .i64 a2] w (RetB true w) := by
  obtain ⟨n, en⟩ : ∃ n, a0.tmod 1073741824 = n := ⟨_, rfl⟩
  obtain ⟨m, em⟩ : ∃ m, bits .and .i64 a2 32767 = m := ⟨_, rfl⟩
  have hn : -1073741824 < n ∧ n < 1073741824 := en ▸ tmod30 a0
  have hm : 0 ≤ m ∧ m < 32768 := by rw [i64_mask15] at em; omega
  obtain ⟨k, ek⟩ : ∃ k, 1 + m = k := ⟨_, rfl⟩
  have wk : wrap64 k = k := by unfold wrap64; omega
  have hnk := hidden (mul_bound (a := n) (b := k) (x := 1073741824) (y := 32768) (by omega) (by omega))
  obtain ⟨p, ep⟩ : ∃ p, n * k = p := ⟨_, rfl⟩
  rw [ep] at hnk
  have wp : wrap64 p = p := by have := hnk.out; unfold wrap64; omega
  have wn : wrap64 (-n) = -n := by unfold wrap64; omega
  have r1 : R64 n := ⟨by omega, by omega⟩
  have r2 : R64 p := by have := hnk.out; exact ⟨by omega, by omega⟩
  have r3 : R64 (-n) := ⟨by omega, by omega⟩
  have r4 : R64 0 := ⟨by omega, by omega⟩
  clear hn hm
  go_enter Try.func5, Try.ntmps5
  go_wp2_with fail
  refine (shown_any _).mono ?_
  rintro e w1 ⟨rfl, hb1⟩
  dsimp only
  repeat (first | go_big_skip | go_step)
  refine (make_to r1 r4 (make_none n) _).mono ?_
  rintro e w2 ⟨rfl, hb2⟩
  dsimp only
  repeat (first | go_big_skip | go_step)
  refine (make_to r2 r4 (make_none p) _).mono ?_
  rintro e w3 ⟨rfl, hb3⟩
  dsimp only
  repeat (first | go_big_skip | go_step)
  refine (make_to r3 r4 (make_none (-n)) _).mono ?_
  rintro e w4 ⟨rfl, hb4⟩
  dsimp only
  repeat (first | go_big_skip | go_step)
  simp [bodyPost, results, Try.results5, go_sem]
  exact ⟨rfl, bl_alloc (bl_then (bl_alloc (bl_then (bl_alloc (bl_then hb1 hb2) _) hb3) _) hb4) _⟩
set_option maxRecDepth 10000 in
theorem least_some (a0 a1 a2 : Int) (hd0 : a1.tmod 1073741824 ≠ 0) (w : World) : Calls Try.prog 5 #[.int .i64 a0, .int .i64 a1, .int .i64 a2] w (RetB true w) := by
  obtain ⟨n, en⟩ : ∃ n, a0.tmod 1073741824 = n := ⟨_, rfl⟩
  obtain ⟨d, ed⟩ : ∃ d, a1.tmod 1073741824 = d := ⟨_, rfl⟩
  obtain ⟨m, em⟩ : ∃ m, bits .and .i64 a2 32767 = m := ⟨_, rfl⟩
  have hn : -1073741824 < n ∧ n < 1073741824 := en ▸ tmod30 a0
  have hd : -1073741824 < d ∧ d < 1073741824 := ed ▸ tmod30 a1
  have hm : 0 ≤ m ∧ m < 32768 := by rw [i64_mask15] at em; omega
  rw [ed] at hd0
  obtain ⟨k, ek⟩ : ∃ k, 1 + m = k := ⟨_, rfl⟩
  have wk : wrap64 k = k := by unfold wrap64; omega
  have hnk := hidden (mul_bound (a := n) (b := k) (x := 1073741824) (y := 32768) (by omega) (by omega))
  have hdk := hidden (mul_bound (a := d) (b := k) (x := 1073741824) (y := 32768) (by omega) (by omega))
  obtain ⟨N, D, t1, t2, t3, hD, hw, he, bN, bD⟩ := least_law (k := k) hn hd ⟨by omega, by omega⟩ hd0
  have hNd := hidden (mul_bound (a := N) (b := d) (x := 1073741824) (y := 1073741824) (by omega) (by omega))
  replace t1 := hidden t1
  replace t2 := hidden t2
  replace t3 := hidden t3
  obtain ⟨p, ep⟩ : ∃ p, n * k = p := ⟨_, rfl⟩
  obtain ⟨q, eq⟩ : ∃ q, d * k = q := ⟨_, rfl⟩
  obtain ⟨z, ez⟩ : ∃ z, N * d = z := ⟨_, rfl⟩
  rw [ep] at hnk t2
  rw [eq] at hdk t2
  rw [ez] at hNd he
  have he2 : n * D = z := he.symm
  have wp : wrap64 p = p := by have := hnk.out; unfold wrap64; omega
  have wq : wrap64 q = q := by have := hdk.out; unfold wrap64; omega
  have wz : wrap64 z = z := by have := hNd.out; unfold wrap64; omega
  have wn : wrap64 (-n) = -n := by unfold wrap64; omega
  have wd : wrap64 (-d) = -d := by unfold wrap64; omega
  have r1 : R64 n := ⟨by omega, by omega⟩
  have r1' : R64 d := ⟨by omega, by omega⟩
  have r2 : R64 p := by have := hnk.out; exact ⟨by omega, by omega⟩
  have r2' : R64 q := by have := hdk.out; exact ⟨by omega, by omega⟩
  have r3 : R64 (-n) := ⟨by omega, by omega⟩
  have r3' : R64 (-d) := ⟨by omega, by omega⟩
  have d0 : (d == 0) = false := by simpa using hd0
  have D0 : decide (0 < D) = true := decide_eq_true hD
  obtain ⟨t, et⟩ : ∃ t, n.tmod d = t := ⟨_, rfl⟩
  rw [et] at hw
  have heq := eq_rat
  clear hn hm hd hD bN bD he
  have hd1 : ¬ d = 0 := hd0
  clear hd0
  go_enter Try.func5, Try.ntmps5
  go_wp2_with fail
  refine (shown_any _).mono ?_
  rintro e w1 ⟨rfl, hb1⟩
  dsimp only
  repeat (first | go_big_skip | go_step)
  refine (make_to r1 r1' t1.out _).mono ?_
  rintro e w2 ⟨rfl, hb2⟩
  have BA := Blk.new w2 #[.int .i64 N, .int .i64 D] 24
  have hbl := bl_alloc (bl_then hb1 hb2) (.cells #[.int .i64 N, .int .i64 D] 24)
  dsimp only
  repeat (first | go_big_skip | go_step)
  refine (make_to r2 r2' t2.out _).mono ?_
  rintro e w3 ⟨rfl, hb3⟩
  replace BA := (BA.after hb3).alloc (.cells #[.int .i64 N, .int .i64 D] 24)
  have BB := Blk.new w3 #[.int .i64 N, .int .i64 D] 24
  replace hbl := bl_alloc (bl_then hbl hb3) (.cells #[.int .i64 N, .int .i64 D] 24)
  dsimp only
  repeat (first | go_big_skip | go_step)
  refine (make_to r3 r3' t3.out _).mono ?_
  rintro e w4 ⟨rfl, hb4⟩
  replace BA := (BA.after hb4).alloc (.cells #[.int .i64 N, .int .i64 D] 24)
  replace BB := (BB.after hb4).alloc (.cells #[.int .i64 N, .int .i64 D] 24)
  have BC := Blk.new w4 #[.int .i64 N, .int .i64 D] 24
  replace hbl := bl_alloc (bl_then hbl hb4) (.cells #[.int .i64 N, .int .i64 D] 24)
  have x0 := BA.cell 0; have x1 := BA.cell 1; have y0 := BB.cell 0; have y1 := BB.cell 1; have z0 := BC.cell 0; have z1 := BC.cell 1
  simp at x0 x1 y0 y1 z0 z1
  clear hb1 hb2 hb3 hb4
  dsimp only
  repeat (first | go_big_skip | go_step)
  simp [bodyPost, results, Try.results5, go_sem]
  exact ⟨rfl, hbl⟩
theorem least_any (a0 a1 a2 : Int) (_ : R64 a0) (_ : R64 a1) (_ : R64 a2) (w : World) : Calls Try.prog 5 #[.int .i64 a0, .int .i64 a1, .int .i64 a2] w (RetB true w) := by
  by_cases h : a1.tmod 1073741824 = 0
  · exact least_none a0 a1 a2 h w
  · exact least_some a0 a1 a2 h w
end Go.Proofs.Ytpdbiofpoccjeaa
