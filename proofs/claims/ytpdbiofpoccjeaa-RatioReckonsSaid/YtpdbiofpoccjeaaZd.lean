/- The walks over the reference's compare, plus, less. -/
import Derived.Test.YtpdbiofpoccjeaaZc
namespace Go.Proofs.Ytpdbiofpoccjeaa.Ref
open Go.RowKit
/-- The lower k digits. -/
def V (l : List Nat) (k : Nat) : Nat := val (l.take k)
theorem V_zero (l : List Nat) : V l 0 = 0 := by simp [V, val]
theorem V_succ (l : List Nat) (k : Nat) : V l (k + 1) = V l k + 65536 ^ k * l.getD k 0 := val_take_ext l k
theorem V_all (l : List Nat) (k : Nat) (h : l.length ≤ k) : V l k = val l := by unfold V; rw [List.take_of_length_le h]
theorem V_lt (l : List Nat) (h : Dgs l) (k : Nat) : V l k < 65536 ^ k := by
  induction k with
  | zero => simp [V_zero]
  | succ k ih =>
    rw [V_succ, Nat.pow_succ]
    have h1 := h.getD k
    have : 65536 ^ k * l.getD k 0 ≤ 65536 ^ k * 65535 := Nat.mul_le_mul_left _ (by omega)
    omega
theorem V_high (a b : List Nat) (k n : Nat) (h : ∀ j, k ≤ j → a.getD j 0 = b.getD j 0) (hn : k ≤ n) : V a n + V b k = V b n + V a k := by
  induction n with
  | zero => obtain rfl : k = 0 := by omega
            omega
  | succ n ih =>
    by_cases hk : k = n + 1
    · subst hk; omega
    · rw [V_succ, V_succ, h n (by omega)]
      have := ih (by omega)
      omega
theorem cmp_gt (a b : List Nat) (m : Nat) (hb : Dgs b) (h : ∀ j, m + 1 ≤ j → a.getD j 0 = b.getD j 0) (hg : b.getD m 0 < a.getD m 0) : val b < val a := by
  have h1 := V_high a b (m + 1) (m + 1 + a.length + b.length) h (by omega)
  rw [V_all a (m + 1 + a.length + b.length) (by omega), V_all b (m + 1 + a.length + b.length) (by omega), V_succ a, V_succ b] at h1
  have h2 := V_lt b hb m
  have : 65536 ^ m * (b.getD m 0 + 1) ≤ 65536 ^ m * a.getD m 0 := Nat.mul_le_mul_left _ hg
  rw [Nat.mul_add] at this
  omega
theorem cmp_eq (a b : List Nat) (h : ∀ j, a.getD j 0 = b.getD j 0) : val a = val b := by
  have h1 := V_high a b 0 (a.length + b.length) (fun j _ => h j) (by omega)
  rw [V_all a (a.length + b.length) (by omega), V_all b (a.length + b.length) (by omega), V_zero a, V_zero b] at h1
  omega
theorem max_len (ats : Array TypeId) (ty : TypeId) (k k' : IntKind) (x y : Nat) : Builtin.max_ ats ty #[.int k (x : Int), .int k' (y : Int)] = pure (.int k ((max x y : Nat) : Int)) := by
  simp only [Builtin.max_, List.foldlM_cons, List.foldlM_nil, Builtin.max2]
  by_cases h : y ≤ x
  · simp [Nat.max_eq_left h, show ¬ ((x : Int) < (y : Int)) by omega]
  · simp [Nat.max_eq_right (show x ≤ y by omega), show ((x : Int) < (y : Int)) by omega]
attribute [local go_sem ↓] max_len
def Less (m : Nat) (n : Nat) (w : World) (e : Ending) (w' : World) : Prop := ∃ c : Int, e = .returned (.int .i64 c) ∧ (0 ≤ c ↔ n ≤ m) ∧ w = w'
theorem dg_bd {l : List Nat} (h : Dgs l) (k : Nat) : 0 ≤ dg l k ∧ dg l k < 65536 := by have := h.getD k; unfold dg; omega
theorem dg_ne {a b : List Nat} {k : Nat} : dg a k = dg b k ↔ a.getD k 0 = b.getD k 0 := by unfold dg; omega
theorem compare_any (v u : Value) (a b : List Nat) (w : World) (ha : Dgs a) (hb : Dgs b) (la : a.length ≤ 1000000) (lb : b.length ≤ 1000000) (ra : Rd w v a) (rb : Rd w u b) :
    Calls Try.prog 63 #[v, u] w (Less (val a) (val b) w) := by
  obtain ⟨A, c, rfl⟩ := ra.sl
  obtain ⟨B, c', rfl⟩ := rb.sl
  have HA := hidden ha; have HB := hidden hb; have RA := hidden ra; have RB := hidden rb
  clear ha hb ra rb
  go_enter Try.func63, Try.ntmps63
  go_wp2_with fail
  go_loop [5] (fun i => ∃ k : Nat, k ≤ 1000000 ∧ i = .int .i64 ((k : Int) - 1) ∧ Hid (∀ j, k ≤ j → a.getD j 0 = b.getD j 0)) (fun i => (intOf i + 1).toNat)
  case atStart =>
    refine ⟨max a.length b.length, by omega, by go_num, fun j hj => ?_⟩
    rw [List.getD_eq_getElem?_getD, List.getD_eq_getElem?_getD, List.getElem?_eq_none (by omega), List.getElem?_eq_none (by omega)]
  case round =>
    obtain ⟨k, hk, rfl, hv⟩ := hrel
    rcases k with _ | m
    · have hfin : Hid (val a = val b) := cmp_eq a b (fun j => hv.out j (by omega))
      go_wp2
      go_ret
      exact ⟨0, rfl, by rw [hfin.out]; simp, rfl⟩
    · rw [show (((m + 1 : Nat) : Int) - 1) = (m : Int) by omega]
      have e0 : (0 : Int) ≤ (m : Int) := by omega
      obtain ⟨a0, a1⟩ := dg_bd HA.out m
      obtain ⟨b0, b1⟩ := dg_bd HB.out m
      by_cases he : dg a m = dg b m
      · have he' : (dg a m != dg b m) = false := by simp [he]
        have hv' : Hid (∀ j, m ≤ j → a.getD j 0 = b.getD j 0) := fun j hj => by
          by_cases h : j = m
          · rw [h]; exact dg_ne.1 he
          · exact hv.out j (by omega)
        clear he hv
        go_wp2_with fail
        refine (digit_any _ a m _ la RA.out).mono ?_
        rintro e w' ⟨rfl, rfl⟩
        go_wp2_with fail
        refine (digit_any _ b m _ lb RB.out).mono ?_
        rintro e w' ⟨rfl, rfl⟩
        go_wp2_with fail
        go_round
        case rel => exact ⟨m, by omega, rfl, hv'⟩
        case measure => simp [intOf]
      · have he' : (dg a m != dg b m) = true := by simp [he]
        have hfin : Hid (0 ≤ dg a m - dg b m ↔ val b ≤ val a) := by
          show _ ↔ _
          by_cases hlt : b.getD m 0 < a.getD m 0
          · have := cmp_gt a b m HB.out hv.out hlt
            unfold dg
            omega
          · have := cmp_gt b a m HA.out (fun j hj => (hv.out j hj).symm) (by have := mt dg_ne.2 he; omega)
            have hne := mt dg_ne.2 he
            unfold dg
            omega
        clear he hv
        go_wp2_with fail
        refine (digit_any _ a m _ la RA.out).mono ?_
        rintro e w' ⟨rfl, rfl⟩
        go_wp2_with fail
        refine (digit_any _ b m _ lb RB.out).mono ?_
        rintro e w' ⟨rfl, rfl⟩
        go_wp2_with fail
        refine (digit_any _ a m _ la RA.out).mono ?_
        rintro e w' ⟨rfl, rfl⟩
        go_wp2_with fail
        refine (digit_any _ b m _ lb RB.out).mono ?_
        rintro e w' ⟨rfl, rfl⟩
        go_wp2_with fail
        go_ret
        exact ⟨_, rfl, hfin.out, rfl⟩

/-! ### plus -/
theorem plus_step {a b out : List Nat} {k cy : Nat} (h : val out + 65536 ^ k * cy = V a k + V b k) (hl : out.length = k) :
    val (out ++ [(a.getD k 0 + b.getD k 0 + cy) % 65536]) + 65536 ^ (k + 1) * ((a.getD k 0 + b.getD k 0 + cy) / 65536) = V a (k + 1) + V b (k + 1) := by
  rw [val_snoc, hl, V_succ, V_succ, Nat.pow_succ]
  have h1 : 65536 ^ k * ((a.getD k 0 + b.getD k 0 + cy) % 65536) + 65536 ^ k * 65536 * ((a.getD k 0 + b.getD k 0 + cy) / 65536) = 65536 ^ k * (a.getD k 0 + b.getD k 0 + cy) := by
    rw [Nat.mul_assoc, ← Nat.mul_add, Nat.mod_add_div]
  rw [Nat.mul_add, Nat.mul_add] at h1
  omega
theorem plus_end {a b out : List Nat} {k cy : Nat} (h : val out + 65536 ^ (k + 1) * cy = V a (k + 1) + V b (k + 1)) (ha : Dgs a) (hb : Dgs b) (la : a.length ≤ k) (lb : b.length ≤ k) : val out = val a + val b := by
  have h1 := val_lt a ha
  have h2 := val_lt b hb
  have h3 : 65536 ^ a.length ≤ 65536 ^ k := Nat.pow_le_pow_right (by omega) la
  have h4 : 65536 ^ b.length ≤ 65536 ^ k := Nat.pow_le_pow_right (by omega) lb
  rw [V_all a _ (by omega), V_all b _ (by omega), Nat.pow_succ] at h
  rcases Nat.eq_zero_or_pos cy with rfl | hc
  · simpa using h
  · have : 65536 ^ k * 65536 * 1 ≤ 65536 ^ k * 65536 * cy := Nat.mul_le_mul_left _ hc
    omega
theorem dg_sum (a b : List Nat) (k : Nat) (cy : Nat) : dg a k + dg b k + (cy : Int) = ((a.getD k 0 + b.getD k 0 + cy : Nat) : Int) := by unfold dg; omega
theorem plus_any (v u : Value) (a b : List Nat) (w : World) (ha : Dgs a) (hb : Dgs b) (la : a.length ≤ 100000) (lb : b.length ≤ 100000) (ra : Rd w v a) (rb : Rd w u b) :
    Calls Try.prog 62 #[v, u] w (RetD (fun l => Dgs l ∧ l.length ≤ 100001 ∧ val l = val a + val b) w) := by
  obtain ⟨A, c, rfl⟩ := ra.sl
  obtain ⟨B, c', rfl⟩ := rb.sl
  have HA := hidden ha; have HB := hidden hb; have RA := hidden ra; have RB := hidden rb
  clear ha hb ra rb
  have hM := Nat.le_max_left a.length b.length
  have hN := Nat.le_max_right a.length b.length
  have hX : max a.length b.length ≤ 100000 := by omega
  have ho := ow_empty (w := w) (B := w.heap.size) (Nat.le_refl _)
  have hb0 := bl_alloc (bl_refl w) (.cells #[] 3)
  replace ho := hidden ho
  replace hM := hidden hM; replace hN := hidden hN
  go_enter Try.func62, Try.ntmps62
  go_wp2_with fail
  go_loopw [5, 6, 7] (fun o cy i wr => ∃ (k q : Nat) (out : List Nat), k ≤ 100001 ∧ k ≤ max a.length b.length + 1 ∧ i = .int .i64 (k : Int) ∧ cy = .int .i64 (q : Int) ∧ q ≤ 1 ∧ Hid (Ow wr w.heap.size o out) ∧ Hid (out.length = k ∧ Dgs out ∧ val out + 65536 ^ k * q = V a k + V b k) ∧ Below w.heap.size w wr) (fun _ _ i _ => 100001 - (intOf i).toNat)
  case atStart =>
    exact ⟨0, 0, [], by omega, by omega, rfl, rfl, by omega, ho, ⟨rfl, fun _ h => by simp at h, by simp [V_zero, val]⟩, hb0⟩
  case round =>
    obtain ⟨k, q, out, hk, hk', rfl, rfl, hq, hO, hv, hbl⟩ := hrel
    obtain ⟨A1, c1, rfl⟩ := hO.out.rd.sl
    have hlk := hidden hv.out.1
    have hsz := hbl.size
    by_cases hend : k = max a.length b.length + 1
    · have hfin : Hid (Dgs out ∧ out.length ≤ 100001 ∧ val out = val a + val b) := by
        refine ⟨hv.out.2.1, by rw [hlk.out]; omega, ?_⟩
        have := hv.out.2.2
        subst hend
        exact plus_end this HA.out HB.out hM.out hN.out
      have e1 : decide (k ≤ max a.length b.length) = false := by simp; omega
      clear hend hk'
      go_wp2
      go_ret
      exact ⟨_, out, rfl, hO.out.rd, hfin.out, hbl⟩
    · have e1 : decide (k ≤ max a.length b.length) = true := by simp; omega
      obtain ⟨a0, a1⟩ := dg_bd HA.out k
      obtain ⟨b0, b1⟩ := dg_bd HB.out k
      have hs := hidden (dg_sum a b k q)
      have hstep := hidden (plus_step hv.out.2.2 hv.out.1)
      have hdn := hidden (hv.out.2.1.snoc (Nat.mod_lt (a.getD k 0 + b.getD k 0 + q) (show 0 < 65536 by omega)))
      have hlen : k < 100001 := by omega
      have hkm : k ≤ max a.length b.length := by omega
      have hbw := bl_refl wr
      clear hend hv hk'
      go_wp2_with fail
      refine (digit_any _ a k _ (by omega) (RA.out.after hbl)).mono ?_
      rintro e w' ⟨rfl, rfl⟩
      go_wp2_with fail
      refine (digit_any _ b k _ (by omega) (RB.out.after hbl)).mono ?_
      rintro e w' ⟨rfl, rfl⟩
      go_wp2_with (at_builtin; go_loud ((refine wpList_push (w0 := w) w.heap.size rfl (.tmp 28) (.tmp 31) 54 3 8 rfl Try.underlying54 info3 rfl rfl (.slice A1 out.length c1) out _ ((a.getD k 0 + b.getD k 0 + q) % 65536) (by rw [hs.out]; exact (Int.natCast_emod _ _).symm) rfl rfl hO.out hbl hsz (by rw [hlk.out]; omega) ?_; intro v1 w1 ho1 hb1 _; replace ho1 := hidden ho1)))
      go_roundw
      case rel =>
        refine ⟨k + 1, (a.getD k 0 + b.getD k 0 + q) / 65536, _, by omega, by omega, by go_num, ?_, ?_, ho1, ⟨by simp [hlk.out], hdn.out, hstep.out⟩, hb1⟩
        · rw [hs.out]; exact congrArg _ (Int.natCast_ediv _ _).symm
        · have h1 := HA.out.getD k; have h2 := HB.out.getD k; omega
      case measure => simp [intOf]; omega
end Go.Proofs.Ytpdbiofpoccjeaa.Ref
