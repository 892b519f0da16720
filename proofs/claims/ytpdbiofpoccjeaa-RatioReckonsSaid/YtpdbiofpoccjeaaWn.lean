/- The walk over package ratio's (wide).mod: what is left of a number of two words, parted by another one. -/
import Derived.Test.YtpdbiofpoccjeaaWm
namespace Go.Proofs.Ytpdbiofpoccjeaa
open Go.RowKit
theorem mod_small (ah al bl : Int) (a b : Nat) (ha : Wd ah al a) (hb : Wd 0 bl b) (hb0 : 0 < b) (w : World) :
    Calls Try.prog 65 #[.agg #[.int .u64 ah, .int .u64 al], .agg #[.int .u64 0, .int .u64 bl]] w (RetW (a % b) w) := by
  obtain rfl : bl = (b : Int) := by have := hb.eq; omega
  have hb1 : b < 18446744073709551616 := by have := hb.l1; omega
  go_enter Try.func65, Try.ntmps65
  go_wp2_with fail
  refine (rem_any ah al a b ha hb0 hb1 _).mono ?_
  rintro e w1 ⟨rfl, hbl⟩
  obtain ⟨hc, hf⟩ := bcell hbl
  have hz : w.heap.size + 1 + 1 < w1.heap.size := by have := hbl.size; simp at this; omega
  go_wp2_with fail
  simp [bodyPost, results, Try.results65, go_sem, hc]
  have hlt := Nat.mod_lt a hb0
  refine ⟨_, _, rfl, by rw [← Int.natCast_emod]; exact Wd.small _ (by omega), ?_⟩
  repeat (first | exact bl_refl _ | exact bl_then (by repeat (first | exact bl_refl _ | apply bl_alloc | apply bl_drewN)) hbl | refine bl_set ?_ _ _ (by omega) _)
/-- How far b may be brought up: below 2^128 it stays, and a is below its double. -/
structure Up (a b k : Nat) : Prop where
  fits : b * 2 ^ k < 340282366920938463463374607431768211456
  over : a < b * 2 ^ (k + 1)
theorem up_lt {b k : Nat} (hb : 18446744073709551616 ≤ b) (h : b * 2 ^ k < 340282366920938463463374607431768211456) : k < 64 := by
  by_cases hk : k < 64
  · exact hk
  · have h1 : 2 ^ 64 ≤ 2 ^ k := Nat.pow_le_pow_right (by omega) (by omega)
    have h2 := Nat.mul_le_mul hb h1
    omega
theorem cmpZ_le {a b : Int} (h : a ≤ b) : decide (cmpZ a b ≤ 0) = true := by unfold cmpZ; (repeat' split) <;> simp <;> omega
theorem cmpZ_gt {a b : Int} (h : b < a) : decide (cmpZ a b ≤ 0) = false := by unfold cmpZ; (repeat' split) <;> simp <;> omega
theorem up_top {ch cl : Int} {a b k : Nat} (h : Wd ch cl (b * 2 ^ k)) (top : 9223372036854775808 ≤ ch) (ha : a < 340282366920938463463374607431768211456) : a < b * 2 ^ (k + 1) := by
  have e := h.eq; have l := h.l0
  rw [Nat.pow_succ, ← Nat.mul_assoc]
  omega
theorem mod_step {a b m n p : Nat} (hn : n = b * 2 ^ p) (hnm : n ≤ m) (h : m % b = a % b ∧ m < b * 2 ^ (p + 1)) : (m - n) % b = a % b ∧ m - n < b * 2 ^ (p + 1 - 1) := by
  obtain ⟨h1, h2⟩ := h
  rw [show p + 1 - 1 = p by omega, ← hn]
  rw [Nat.pow_succ, ← Nat.mul_assoc, ← hn] at h2
  refine ⟨?_, by omega⟩
  rw [← h1]
  have e : m = (m - n) + b * 2 ^ p := by omega
  have := Nat.add_mul_mod_self_left (m - n) b (2 ^ p)
  rw [← e] at this
  exact this.symm
set_option maxRecDepth 10000 in
set_option maxHeartbeats 1000000 in
theorem mod_wide (ah al bh bl : Int) (a b : Nat) (ha : Wd ah al a) (hb : Wd bh bl b) (hb0 : (bh == 0) = false) (w : World) :
    Calls Try.prog 65 #[.agg #[.int .u64 ah, .int .u64 al], .agg #[.int .u64 bh, .int .u64 bl]] w (RetW (a % b) w) := by
  have hb64 : 18446744073709551616 ≤ b := by
    have := hb.eq; have := hb.h0; have := hb.l0
    have : ¬ bh = 0 := by simpa using hb0
    omega
  have hal := ha.lt
  replace ha := hidden ha
  replace hb := hidden hb
  go_enter Try.func65, Try.ntmps65
  go_upto_block 0 with (fail)
  go_cut [5] (fun s wr => ∃ k : Nat, s = .int .i64 (k : Int) ∧ Hid (Up a b k) ∧ Blk wr w.heap.size #[.int .u64 ah, .int .u64 al] 47 ∧ Blk wr (w.heap.size + 1) #[.int .u64 bh, .int .u64 bl] 47 ∧ Blk wr (w.heap.size + 1 + 1) #[.int .u64 0, .int .u64 0] 47 ∧ Below w.heap.size w wr)
  case first =>
    have hk0 : b * 2 ^ 0 = b := by simp
    go_wp2_with fail
    go_loopg [5, 6] 64 (fun kk s5 s6 wr => ∃ (k B n : Nat) (ch cl : Int), s5 = .int .i64 (k : Int) ∧ s6 = .pointer (some ⟨B, 0, none⟩) ∧ w.heap.size + 1 + 1 < B ∧ Blk wr B #[.int .u64 ch, .int .u64 cl] 47 ∧ Hid (Wd ch cl n) ∧ Hid (n = b * 2 ^ k) ∧ Hid (kk + k = 64) ∧ Blk wr w.heap.size #[.int .u64 ah, .int .u64 al] 47 ∧ Blk wr (w.heap.size + 1) #[.int .u64 bh, .int .u64 bl] 47 ∧ Blk wr (w.heap.size + 1 + 1) #[.int .u64 0, .int .u64 0] 47 ∧ Below w.heap.size w wr)
    case atStart =>
      refine ⟨0, _, b, _, _, rfl, rfl, by simp, Blk.made _ _ _ _ (by simp), hb, hk0.symm, rfl, ?_, ?_, ?_, ?_⟩
      · exact (((Blk.new _ _ _).alloc _).alloc _).alloc _
      · exact ((Blk.made _ _ _ _ (by simp)).alloc _).alloc _
      · exact (Blk.made _ _ _ _ (by simp)).alloc _
      · repeat (first | exact bl_refl _ | apply bl_alloc)
    case round =>
      obtain ⟨k, B, n, ch, cl, rfl, rfl, hB, BC, hc, hn, hk, BA, BB, BR, hbl⟩ := hrel
      have cA0 := BA.cell 0; have cA1 := BA.cell 1; have cC0 := BC.cell 0; have cC1 := BC.cell 1; have fC0 := BC.frozen 0; have fC1 := BC.frozen 1
      simp at cA0 cA1 cC0 cC1
      have hc0 := hc.out.h0; have hc1 := hc.out.h1; have hl0 := hc.out.l0; have hl1 := hc.out.l1
      have k64 : k < 64 := up_lt hb64 (by rw [← hn.out]; exact hc.out.lt)
      by_cases top : 9223372036854775808 ≤ ch
      · have t1 : (ch / 9223372036854775808 == 0) = false := by simp; omega
        repeat (first | go_big_skip | go_step)
        go_meet
        exact ⟨k, rfl, ⟨by rw [← hn.out]; exact hc.out.lt, up_top (by rw [← hn.out]; exact hc.out) top hal⟩, BA, BB, BR, hbl⟩
      · have t1 : (ch / 9223372036854775808 == 0) = true := by simp; omega
        repeat (first | go_big_skip | go_step)
        refine (cmp_any ch cl ah al n a hc.out ha.out _).mono ?_
        rintro e w1 ⟨rfl, hb1⟩
        replace BA := BA.after hb1
        replace BB := BB.after hb1
        replace BR := BR.after hb1
        replace BC := BC.after hb1
        replace hbl := bl_then hbl hb1
        clear hb1 cA0 cA1 cC0 cC1 fC0 fC1
        by_cases hle : n ≤ a
        · have t2 := cmpZ_le (a := (n : Int)) (b := (a : Int)) (by omega)
          have cC0 := BC.cell 0; have cC1 := BC.cell 1; have fC0 := BC.frozen 0; have fC1 := BC.frozen 1
          simp at cC0 cC1
          obtain ⟨dh, dl, D⟩ := dbl_made hc.out
          have r2 := D.r2 (by omega)
          have r3 := D.r3
          have DW := hidden D.wd
          clear D
          dsimp only
          repeat (first | go_big_skip | go_step)
          have n0 : w.heap.size ≠ B := by omega
          have n1 : w.heap.size + 1 ≠ B := by omega
          have n2 : w.heap.size + 1 + 1 ≠ B := by omega
          have nlt : n * 2 < 340282366920938463463374607431768211456 := by have := hc.out.eq; omega
          have wlt := hbl.size
          go_roundg (gk - 1)
          case measure => have := hk.out; omega
          case rel =>
            refine ⟨k + 1, _, n * 2, dh, dl, by go_num, rfl, ?_, Blk.made _ _ _ _ (by simp [World.setCell]), ?_, ?_, ?_, ?_, ?_, ?_, ?_⟩
            · have := BR.lt; omega
            · have := DW.out; rwa [Nat.mod_eq_of_lt nlt] at this
            · show n * 2 = b * 2 ^ (k + 1)
              rw [Nat.pow_succ, ← Nat.mul_assoc, ← hn.out]
            · have := hk.out; show gk - 1 + (k + 1) = 64; omega
            · exact ((BA.far B 0 n0 _).far B 1 n0 _).alloc _
            · exact ((BB.far B 0 n1 _).far B 1 n1 _).alloc _
            · exact ((BR.far B 0 n2 _).far B 1 n2 _).alloc _
            · exact bl_alloc (bl_set (bl_set hbl _ _ (by omega) _) _ _ (by omega) _) _
        · have t2 := cmpZ_gt (a := (n : Int)) (b := (a : Int)) (by omega)
          dsimp only
          repeat (first | go_big_skip | go_step)
          go_meet
          exact ⟨k, rfl, ⟨by rw [← hn.out]; exact hc.out.lt, by rw [Nat.pow_succ, ← Nat.mul_assoc, ← hn.out]; omega⟩, BA, BB, BR, hbl⟩
  case rest =>
    obtain ⟨k, rfl, hu, BA, BB, BR, hbl⟩ := hcut
    have k63 : k < 64 := up_lt hb64 hu.out.fits
    go_wp2_with fail
    go_loopg [5] (k + 1) (fun j s5 wr => ∃ (i xh xl : Int) (m : Nat), s5 = .int .i64 i ∧ -1 ≤ i ∧ i ≤ 63 ∧ Hid (i + 1 = (j : Int)) ∧ j ≤ k + 1 ∧ Blk wr w.heap.size #[.int .u64 xh, .int .u64 xl] 47 ∧ Hid (Wd xh xl m) ∧ Hid (m % b = a % b ∧ m < b * 2 ^ j) ∧ Blk wr (w.heap.size + 1) #[.int .u64 bh, .int .u64 bl] 47 ∧ Blk wr (w.heap.size + 1 + 1) #[.int .u64 0, .int .u64 0] 47 ∧ Below w.heap.size w wr)
    case atStart => exact ⟨k, ah, al, a, rfl, by omega, by omega, by show (k : Int) + 1 = ((k + 1 : Nat) : Int); omega, Nat.le_refl _, BA, ha, ⟨rfl, hu.out.over⟩, BB, BR, hbl⟩
    case round =>
      clear BA BB BR hbl
      obtain ⟨jo, hjo⟩ : ∃ jo, jo = gk := ⟨_, rfl⟩
      subst hjo
      obtain ⟨i, xh, xl, m, rfl, hi0, hi1, hij, hjk, BA, hm, hmod, BB, BR, hbl⟩ := hrel
      have cA0 := BA.cell 0; have cA1 := BA.cell 1; have cB0 := BB.cell 0; have cB1 := BB.cell 1
      simp at cA0 cA1 cB0 cB1
      by_cases hi : 0 ≤ i
      · have t1 : decide (0 ≤ i) = true := by simpa using hi
        repeat (first | go_big_skip | go_step)
        have hwr := hbl.size
        have lR := BR.lt
        obtain ⟨e, he⟩ := Int.eq_ofNat_of_zero_le hi
        subst he
        have hbe : b * 2 ^ e < 340282366920938463463374607431768211456 := Nat.lt_of_le_of_lt (Nat.mul_le_mul_left b (Nat.pow_le_pow_right (by omega) (by have := hij.out; omega))) hu.out.fits
        replace hbe := hidden hbe
        have hb00 : b * 2 ^ 0 = b := by simp
        replace hb00 := hidden hb00
        obtain ⟨C0, hC0⟩ : ∃ C0, C0 = wr.heap.size := ⟨_, rfl⟩
        replace BA := BA.alloc (.cells #[.int .u64 bh, .int .u64 bl] 47)
        replace BB := BB.alloc (.cells #[.int .u64 bh, .int .u64 bl] 47)
        replace BR := BR.alloc (.cells #[.int .u64 bh, .int .u64 bl] 47)
        replace hbl := bl_alloc hbl (.cells #[.int .u64 bh, .int .u64 bl] 47)
        have BC := Blk.made wr C0 #[.int .u64 bh, .int .u64 bl] 47 hC0.symm
        rw [← hC0]
        have n0 : w.heap.size ≠ C0 := by omega
        have n1 : w.heap.size + 1 ≠ C0 := by omega
        have n2 : w.heap.size + 1 + 1 ≠ C0 := by omega
        have n3 : w.heap.size ≤ C0 := by omega
        replace hC0 := hidden hC0
        clear cA0 cA1 cB0 cB1 t1
        go_loopg [47] e (fun jj s47 wx => ∃ (p n : Nat) (ch cl : Int), s47 = .int .i64 (p : Int) ∧ p ≤ e ∧ Hid (jj + p = e) ∧ Blk wx C0 #[.int .u64 ch, .int .u64 cl] 47 ∧ Hid (Wd ch cl n) ∧ Hid (n = b * 2 ^ p) ∧ Blk wx w.heap.size #[.int .u64 xh, .int .u64 xl] 47 ∧ Blk wx (w.heap.size + 1) #[.int .u64 bh, .int .u64 bl] 47 ∧ Blk wx (w.heap.size + 1 + 1) #[.int .u64 0, .int .u64 0] 47 ∧ Below w.heap.size w wx)
        case atStart => exact ⟨0, b, bh, bl, rfl, Nat.zero_le _, rfl, BC, hb, hb00.out.symm, BA, BB, BR, hbl⟩
        case round =>
          clear BA BB BR hbl BC hC0
          obtain ⟨p, n, ch, cl, rfl, hp, hjp, BC, hc, hn, BA, BB, BR, hbl⟩ := hrel
          have cC0 := BC.cell 0; have cC1 := BC.cell 1; have fC0 := BC.frozen 0; have fC1 := BC.frozen 1
          have cA0 := BA.cell 0; have cA1 := BA.cell 1
          simp at cC0 cC1 cA0 cA1
          have hc0 := hc.out.h0; have hc1 := hc.out.h1; have hl0 := hc.out.l0; have hl1 := hc.out.l1
          by_cases hpe : p < e
          · have t1 : decide ((p : Int) < (e : Int)) = true := by simpa using hpe
            have nlt : n * 2 < 340282366920938463463374607431768211456 := by
              have h1 : b * 2 ^ (p + 1) ≤ b * 2 ^ e := Nat.mul_le_mul_left b (Nat.pow_le_pow_right (by omega) hpe)
              rw [Nat.pow_succ, ← Nat.mul_assoc, ← hn.out] at h1
              have := hbe.out
              omega
            have top : ch < 9223372036854775808 := by have := hc.out.eq; omega
            obtain ⟨dh, dl, D⟩ := dbl_made hc.out
            have r2 := D.r2 top
            have r3 := D.r3
            have DW := hidden D.wd
            clear D
            repeat (first | go_big_skip | go_step)
            go_roundg (gk - 1)
            case measure => have := hjp.out; omega
            case rel =>
              refine ⟨p + 1, n * 2, dh, dl, by go_num, hpe, ?_, ?_, ?_, ?_, ?_, ?_, ?_, ?_⟩
              · have := hjp.out; show gk - 1 + (p + 1) = e; omega
              · exact (BC.set 0 (.int .u64 dh)).set 1 (.int .u64 dl)
              · have := DW.out; rwa [Nat.mod_eq_of_lt nlt] at this
              · show n * 2 = b * 2 ^ (p + 1)
                rw [Nat.pow_succ, ← Nat.mul_assoc, ← hn.out]
              · exact (BA.far C0 0 n0 _).far C0 1 n0 _
              · exact (BB.far C0 0 n1 _).far C0 1 n1 _
              · exact (BR.far C0 0 n2 _).far C0 1 n2 _
              · exact bl_set (bl_set hbl _ _ n3 _) _ _ n3 _
          · obtain rfl : p = e := by omega
            have t1 : decide ((p : Int) < (p : Int)) = false := by simp
            repeat (first | go_big_skip | go_step)
            refine (cmp_any xh xl ch cl m n hm.out hc.out _).mono ?_
            rintro e w1 ⟨rfl, hb1⟩
            replace BA := BA.after hb1
            replace BB := BB.after hb1
            replace BR := BR.after hb1
            replace BC := BC.after hb1
            replace hbl := bl_then hbl hb1
            clear hb1 cA0 cA1 cC0 cC1 fC0 fC1
            have cA0 := BA.cell 0; have cA1 := BA.cell 1; have fA0 := BA.frozen 0; have fA1 := BA.frozen 1
            have cC0 := BC.cell 0; have cC1 := BC.cell 1
            simp at cC0 cC1 cA0 cA1
            by_cases hnm : n ≤ m
            · have t2 := cmpZ_ge (a := (m : Int)) (b := (n : Int)) (by omega)
              dsimp only
              repeat (first | go_big_skip | go_step)
              refine (less_any xh xl ch cl m n hm.out hc.out hnm _).mono ?_
              rintro e w2 ⟨rh, rl, rfl, hw, hb2⟩
              replace BA := BA.after hb2
              replace BB := BB.after hb2
              replace BR := BR.after hb2
              replace BC := BC.after hb2
              replace hbl := bl_then hbl hb2
              clear hb2 cA0 cA1 cC0 cC1 fA0 fA1
              have cA0 := BA.cell 0; have cA1 := BA.cell 1; have fA0 := BA.frozen 0; have fA1 := BA.frozen 1
              simp at cA0 cA1
              dsimp only
              repeat (first | go_big_skip | go_step)
              go_roundg (jo - 1)
              case measure => have := hij.out; omega
              case rel =>
                have j0 := hij.out
                refine ⟨(p : Int) - 1, rh, rl, m - n, rfl, by omega, by omega, ?_, by omega, ?_, hw, ?_, ?_, ?_, ?_⟩
                · show (p : Int) - 1 + 1 = ((jo - 1 : Nat) : Int); omega
                · exact (BA.set 0 (.int .u64 rh)).set 1 (.int .u64 rl)
                · obtain rfl : jo = p + 1 := by omega
                  exact mod_step hn.out hnm hmod.out
                · exact (BB.far _ 0 (by omega) _).far _ 1 (by omega) _
                · exact (BR.far _ 0 (by omega) _).far _ 1 (by omega) _
                · exact bl_set (bl_set hbl _ _ (Nat.le_refl _) _) _ _ (Nat.le_refl _) _
            · have t2 := cmpZ_lt (a := (m : Int)) (b := (n : Int)) (by omega)
              dsimp only
              repeat (first | go_big_skip | go_step)
              go_roundg (jo - 1)
              case measure => have := hij.out; omega
              case rel =>
                have j0 := hij.out
                refine ⟨(p : Int) - 1, xh, xl, m, rfl, by omega, by omega, ?_, by omega, BA, hm, ?_, BB, BR, hbl⟩
                · show (p : Int) - 1 + 1 = ((jo - 1 : Nat) : Int); omega
                · obtain rfl : jo = p + 1 := by omega
                  refine ⟨hmod.out.1, ?_⟩
                  rw [show p + 1 - 1 = p by omega, ← hn.out]
                  omega
      · have t1 : decide (0 ≤ i) = false := by simpa using hi
        have cR0 := BR.cell 0; have cR1 := BR.cell 1; have fR0 := BR.frozen 0; have fR1 := BR.frozen 1
        simp at cR0 cR1
        repeat (first | go_big_skip | go_step)
        simp [bodyPost, results, Try.results65, go_sem, cR0, cR1]
        have j0 := hij.out
        obtain rfl : jo = 0 := by omega
        have hmb := hmod.out
        refine ⟨_, _, rfl, ?_, bl_set (bl_set hbl _ _ (by omega) _) _ _ (by omega) _⟩
        rw [← hmb.1, Nat.mod_eq_of_lt (by simpa using hmb.2)]
        exact hm.out
theorem mod_any (ah al bh bl : Int) (a b : Nat) (ha : Wd ah al a) (hb : Wd bh bl b) (hb0 : 0 < b) (w : World) :
    Calls Try.prog 65 #[.agg #[.int .u64 ah, .int .u64 al], .agg #[.int .u64 bh, .int .u64 bl]] w (RetW (a % b) w) := by
  by_cases h : bh = 0
  · subst h
    exact mod_small ah al bl a b ha hb hb0 w
  · exact mod_wide ah al bh bl a b ha hb (by simpa using h) w
end Go.Proofs.Ytpdbiofpoccjeaa
