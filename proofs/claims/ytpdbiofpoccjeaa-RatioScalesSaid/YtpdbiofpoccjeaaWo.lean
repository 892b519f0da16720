/- The walk over package ratio's (wide).div: the quotient of two numbers of two words. -/
import Derived.Test.YtpdbiofpoccjeaaWn
namespace Go.Proofs.Ytpdbiofpoccjeaa
open Go.RowKit
theorem div_small (ah al bl : Int) (a b : Nat) (ha : Wd ah al a) (hb : Wd 0 bl b) (hb0 : 0 < b) (w : World) :
    Calls Try.prog 53 #[.agg #[.int .u64 ah, .int .u64 al], .agg #[.int .u64 0, .int .u64 bl]] w (RetW (a / b) w) := by
  obtain rfl : bl = (b : Int) := by have := hb.eq; omega
  have hb1 : b < 18446744073709551616 := by have := hb.l1; omega
  go_enter Try.func53, Try.ntmps53
  go_wp2_with fail
  refine (by_any ah al a b ha hb0 hb1 _).mono ?_
  rintro e w1 ⟨qh, ql, r, rfl, hq, hr, hbl⟩
  replace hr := hidden hr
  have BR : Blk w1 (w.heap.size + 1 + 1) #[.int .u64 0, .int .u64 0] 47 := (Blk.made _ _ _ _ (by simp)).after hbl
  have c0 := BR.cell 0; have c1 := BR.cell 1; have f0 := BR.frozen 0; have f1 := BR.frozen 1
  simp at c0 c1
  have hz := BR.lt
  have E := ((BR.set 0 (.int .u64 qh)).set 1 (.int .u64 ql)).alloc (.cells #[.int .u64 qh, .int .u64 ql] 47)
  have e0 := E.cell 0; have e1 := E.cell 1
  simp at e0 e1
  go_wp2_with fail
  simp [bodyPost, results, Try.results53, go_sem, e0, e1]
  refine ⟨_, _, rfl, hq, ?_⟩
  repeat (first | exact bl_refl _ | exact bl_then (by repeat (first | exact bl_refl _ | apply bl_alloc | apply bl_drewN)) hbl | refine bl_set ?_ _ _ (by omega) _ | apply bl_alloc)
/-- How far the quotient is known: m is left, the bits from j on are found. -/
structure Qt (a b j m Q : Nat) : Prop where
  eq : a = m + b * Q
  lt : m < b * 2 ^ j
  dv : ∃ c, Q = c * 2 ^ j
theorem qt_first {a b : Nat} (ha : a < 340282366920938463463374607431768211456) (hb : 18446744073709551616 ≤ b) : Qt a b 64 a 0 := by
  refine ⟨by simp, ?_, ⟨0, by simp⟩⟩
  have := Nat.mul_le_mul_right (2 ^ 64) hb
  omega
theorem qt_no {a b e m Q : Nat} (h : Qt a b (e + 1) m Q) (hm : m < b * 2 ^ e) : Qt a b e m Q := by
  obtain ⟨h1, h2, c, h3⟩ := h
  exact ⟨h1, hm, ⟨c * 2, by rw [h3, Nat.pow_succ, Nat.mul_assoc, Nat.mul_comm 2]⟩⟩
theorem qt_yes {a b e m n Q : Nat} (h : Qt a b (e + 1) m Q) (hn : n = b * 2 ^ e) (hm : n ≤ m) : Qt a b e (m - n) (Q + 2 ^ e) ∧ Q ||| 2 ^ e = Q + 2 ^ e := by
  obtain ⟨h1, h2, c, h3⟩ := h
  rw [Nat.pow_succ, ← Nat.mul_assoc, ← hn] at h2
  refine ⟨⟨?_, by rw [← hn]; omega, ⟨c * 2 + 1, ?_⟩⟩, ?_⟩
  · rw [Nat.mul_add, ← hn]; omega
  · rw [Nat.add_mul, Nat.one_mul, h3, Nat.pow_succ, Nat.mul_assoc, Nat.mul_comm 2]
  · rw [h3]
    exact or_low c (2 ^ e) (e + 1) (Nat.pow_lt_pow_right (by omega) (by omega))
theorem qt_lt {a b j m Q : Nat} (h : Qt a b j m Q) (ha : a < 340282366920938463463374607431768211456) (hb : 18446744073709551616 ≤ b) : Q < 18446744073709551616 := by
  have h1 := h.eq
  by_cases hQ : Q < 18446744073709551616
  · exact hQ
  · have := Nat.mul_le_mul hb (show 18446744073709551616 ≤ Q by omega)
    omega
theorem qt_done {a b m Q : Nat} (h : Qt a b 0 m Q) : a / b = Q := by
  have h1 := h.eq
  have h2 := h.lt
  simp at h2
  rw [h1, Nat.add_mul_div_left _ _ (by omega), Nat.div_eq_of_lt h2]
  omega
theorem or_bit' (Q e : Nat) (hQ : Q < 18446744073709551616) (he : e ≤ 63) : bits .or .u64 (Q : Int) (IntKind.u64.wrap (2 ^ e)) = ((Q ||| 2 ^ e : Nat) : Int) := by
  have h1 : 2 ^ e < 18446744073709551616 := Nat.lt_of_le_of_lt (Nat.pow_le_pow_right (by omega) he) (by decide)
  have h2 : (2 : Int) ^ e = ((2 ^ e : Nat) : Int) := by simp
  rw [h2, wrap_small _ h1, bits_or_u64_nat Q (2 ^ e) hQ h1]
theorem or_bit (Q e : Nat) (hQ : Q < 18446744073709551616) (he : e ≤ 63) : bits .or .u64 (Q : Int) (2 ^ e) = ((Q ||| 2 ^ e : Nat) : Int) := by
  have h1 : 2 ^ e < 18446744073709551616 := Nat.lt_of_le_of_lt (Nat.pow_le_pow_right (by omega) he) (by decide)
  have := bits_or_u64_nat Q (2 ^ e) hQ h1
  rw [← this]
  simp
set_option maxRecDepth 10000 in
set_option maxHeartbeats 2000000 in
theorem div_wide (ah al bh bl : Int) (a b : Nat) (ha : Wd ah al a) (hb : Wd bh bl b) (hb0 : (bh == 0) = false) (w : World) :
    Calls Try.prog 53 #[.agg #[.int .u64 ah, .int .u64 al], .agg #[.int .u64 bh, .int .u64 bl]] w (RetW (a / b) w) := by
  have hb64 : 18446744073709551616 ≤ b := by
    have := hb.eq; have := hb.h0; have := hb.l0
    have : ¬ bh = 0 := by simpa using hb0
    omega
  have hal := ha.lt
  have hbl0 := hb.lt
  replace ha := hidden ha
  replace hb := hidden hb
  go_enter Try.func53, Try.ntmps53
  go_wp2_with fail
  go_loopg [8] 64 (fun j s8 wr => ∃ (i xh xl : Int) (m Q : Nat), s8 = .int .i64 i ∧ -1 ≤ i ∧ i ≤ 63 ∧ Hid (i + 1 = (j : Int)) ∧ Blk wr w.heap.size #[.int .u64 xh, .int .u64 xl] 47 ∧ Hid (Wd xh xl m) ∧ Hid (Qt a b j m Q) ∧ Blk wr (w.heap.size + 1) #[.int .u64 bh, .int .u64 bl] 47 ∧ Blk wr (w.heap.size + 1 + 1) #[.int .u64 0, .int .u64 0] 47 ∧ Blk wr (w.heap.size + 1 + 1 + 1) #[.int .u64 0, .int .u64 (Q : Int)] 47 ∧ Below w.heap.size w wr)
  case atStart =>
    refine ⟨63, ah, al, a, 0, rfl, by omega, by omega, rfl, ?_, ha, qt_first hal hb64, ?_, ?_, ?_, ?_⟩
    · exact (((Blk.new _ _ _).alloc _).alloc _).alloc _
    · exact ((Blk.made _ _ _ _ (by simp)).alloc _).alloc _
    · exact (Blk.made _ _ _ _ (by simp)).alloc _
    · exact Blk.made _ _ _ _ (by simp)
    · repeat (first | exact bl_refl _ | apply bl_alloc)
  case round =>
    obtain ⟨jo, hjo⟩ : ∃ jo, jo = gk := ⟨_, rfl⟩
    subst hjo
    obtain ⟨i, xh, xl, m, Q, rfl, hi0, hi1, hij, BA, hm, hmod, BB, BR, BQ, hbl⟩ := hrel
    have cA0 := BA.cell 0; have cA1 := BA.cell 1; have cB0 := BB.cell 0; have cB1 := BB.cell 1
    simp at cA0 cA1 cB0 cB1
    by_cases hi : 0 ≤ i
    · have t1 : decide (0 ≤ i) = true := by simpa using hi
      repeat (first | go_big_skip | go_step)
      have hwr := hbl.size
      have lR := BQ.lt
      obtain ⟨e, he⟩ := Int.eq_ofNat_of_zero_le hi
      subst he
      have hb00 : b = b * 2 ^ 0 % 340282366920938463463374607431768211456 := by rw [Nat.pow_zero, Nat.mul_one, Nat.mod_eq_of_lt hbl0]
      have hf0 : true = decide (b * 2 ^ 0 < 340282366920938463463374607431768211456) := by rw [Nat.pow_zero, Nat.mul_one]; exact (decide_eq_true hbl0).symm
      replace hb00 := hidden hb00
      replace hf0 := hidden hf0
      obtain ⟨C0, hC0⟩ : ∃ C0, C0 = wr.heap.size := ⟨_, rfl⟩
      replace BA := BA.alloc (.cells #[.int .u64 bh, .int .u64 bl] 47)
      replace BB := BB.alloc (.cells #[.int .u64 bh, .int .u64 bl] 47)
      replace BR := BR.alloc (.cells #[.int .u64 bh, .int .u64 bl] 47)
      replace BQ := BQ.alloc (.cells #[.int .u64 bh, .int .u64 bl] 47)
      replace hbl := bl_alloc hbl (.cells #[.int .u64 bh, .int .u64 bl] 47)
      have BC := Blk.made wr C0 #[.int .u64 bh, .int .u64 bl] 47 hC0.symm
      rw [← hC0]
      have n0 : w.heap.size ≠ C0 := by omega
      have n1 : w.heap.size + 1 ≠ C0 := by omega
      have n2 : w.heap.size + 1 + 1 ≠ C0 := by omega
      have n4 : w.heap.size + 1 + 1 + 1 ≠ C0 := by omega
      have n3 : w.heap.size ≤ C0 := by omega
      replace hC0 := hidden hC0
      clear cA0 cA1 cB0 cB1 t1
      go_loopg [28, 10] e (fun jj s28 s10 wx => ∃ (p n : Nat) (f : Bool) (ch cl : Int), s28 = .int .i64 (p : Int) ∧ s10 = .bool f ∧ p ≤ e ∧ Hid (jj + p = e) ∧ Blk wx C0 #[.int .u64 ch, .int .u64 cl] 47 ∧ Hid (Wd ch cl n) ∧ Hid (n = b * 2 ^ p % 340282366920938463463374607431768211456) ∧ Hid (f = decide (b * 2 ^ p < 340282366920938463463374607431768211456)) ∧ Blk wx w.heap.size #[.int .u64 xh, .int .u64 xl] 47 ∧ Blk wx (w.heap.size + 1) #[.int .u64 bh, .int .u64 bl] 47 ∧ Blk wx (w.heap.size + 1 + 1) #[.int .u64 0, .int .u64 0] 47 ∧ Blk wx (w.heap.size + 1 + 1 + 1) #[.int .u64 0, .int .u64 (Q : Int)] 47 ∧ Below w.heap.size w wx)
      case atStart => exact ⟨0, b, true, bh, bl, rfl, rfl, Nat.zero_le _, rfl, BC, hb, hb00.out, hf0.out, BA, BB, BR, BQ, hbl⟩
      case round =>
        clear BA BB BR BQ hbl BC hC0
        obtain ⟨p, n, f, ch, cl, rfl, rfl, hp, hjp, BC, hc, hn, hf, BA, BB, BR, BQ, hbl⟩ := hrel
        have cC0 := BC.cell 0; have cC1 := BC.cell 1; have fC0 := BC.frozen 0; have fC1 := BC.frozen 1
        have cA0 := BA.cell 0; have cA1 := BA.cell 1
        simp at cC0 cC1 cA0 cA1
        have hc0 := hc.out.h0; have hc1 := hc.out.h1; have hl0 := hc.out.l0; have hl1 := hc.out.l1
        by_cases hpe : p < e
        · have t1 : decide ((p : Int) < (e : Int)) = true := by simpa using hpe
          obtain ⟨dh, dl, D⟩ := dbl_made hc.out
          have r1 := D.r1
          have r3 := D.r3
          have DW := hidden D.wd
          have hn2 : n * 2 % 340282366920938463463374607431768211456 = b * 2 ^ (p + 1) % 340282366920938463463374607431768211456 := by
            have := hn.out
            rw [Nat.pow_succ, ← Nat.mul_assoc]
            omega
          replace hn2 := hidden hn2
          cases f with
          | true =>
            have hlt : b * 2 ^ p < 340282366920938463463374607431768211456 := of_decide_eq_true hf.out.symm
            by_cases top : 9223372036854775808 ≤ ch
            · have t2 : (ch / 9223372036854775808 == 0) = false := by simp; omega
              have hf' : false = decide (b * 2 ^ (p + 1) < 340282366920938463463374607431768211456) := by
                refine (decide_eq_false ?_).symm
                have := hn.out
                have := hc.out.eq
                rw [Nat.pow_succ, ← Nat.mul_assoc]
                omega
              replace hf' := hidden hf'
              clear D
              replace hlt := hidden hlt
              repeat (first | go_big_skip | go_step)
              go_roundg (gk - 1)
              case measure => have := hjp.out; omega
              case rel =>
                refine ⟨p + 1, _, false, dh, dl, by go_num, rfl, hpe, ?_, ?_, DW.out, hn2.out, hf'.out, ?_, ?_, ?_, ?_, ?_⟩
                · have := hjp.out; show gk - 1 + (p + 1) = e; omega
                · exact (BC.set 0 (.int .u64 dh)).set 1 (.int .u64 dl)
                · exact (BA.far C0 0 n0 _).far C0 1 n0 _
                · exact (BB.far C0 0 n1 _).far C0 1 n1 _
                · exact (BR.far C0 0 n2 _).far C0 1 n2 _
                · exact (BQ.far C0 0 n4 _).far C0 1 n4 _
                · exact bl_set (bl_set hbl _ _ n3 _) _ _ n3 _
            · have t2 : (ch / 9223372036854775808 == 0) = true := by simp; omega
              have r2 := D.r2 (by omega)
              have hf' : true = decide (b * 2 ^ (p + 1) < 340282366920938463463374607431768211456) := by
                refine (decide_eq_true ?_).symm
                have := hn.out
                have := hc.out.eq
                rw [Nat.pow_succ, ← Nat.mul_assoc]
                omega
              replace hf' := hidden hf'
              clear D
              replace hlt := hidden hlt
              repeat (first | go_big_skip | go_step)
              go_roundg (gk - 1)
              case measure => have := hjp.out; omega
              case rel =>
                refine ⟨p + 1, _, true, dh, dl, by go_num, rfl, hpe, ?_, ?_, DW.out, hn2.out, hf'.out, ?_, ?_, ?_, ?_, ?_⟩
                · have := hjp.out; show gk - 1 + (p + 1) = e; omega
                · exact (BC.set 0 (.int .u64 dh)).set 1 (.int .u64 dl)
                · exact (BA.far C0 0 n0 _).far C0 1 n0 _
                · exact (BB.far C0 0 n1 _).far C0 1 n1 _
                · exact (BR.far C0 0 n2 _).far C0 1 n2 _
                · exact (BQ.far C0 0 n4 _).far C0 1 n4 _
                · exact bl_set (bl_set hbl _ _ n3 _) _ _ n3 _
          | false =>
            have hf' : false = decide (b * 2 ^ (p + 1) < 340282366920938463463374607431768211456) := by
              refine (decide_eq_false ?_).symm
              have := of_decide_eq_false hf.out.symm
              rw [Nat.pow_succ, ← Nat.mul_assoc]
              omega
            replace hf' := hidden hf'
            clear D
            repeat (first | go_big_skip | go_step)
            go_roundg (gk - 1)
            case measure => have := hjp.out; omega
            case rel =>
              refine ⟨p + 1, _, false, dh, dl, by go_num, rfl, hpe, ?_, ?_, DW.out, hn2.out, hf'.out, ?_, ?_, ?_, ?_, ?_⟩
              · have := hjp.out; show gk - 1 + (p + 1) = e; omega
              · exact (BC.set 0 (.int .u64 dh)).set 1 (.int .u64 dl)
              · exact (BA.far C0 0 n0 _).far C0 1 n0 _
              · exact (BB.far C0 0 n1 _).far C0 1 n1 _
              · exact (BR.far C0 0 n2 _).far C0 1 n2 _
              · exact (BQ.far C0 0 n4 _).far C0 1 n4 _
              · exact bl_set (bl_set hbl _ _ n3 _) _ _ n3 _
        · obtain rfl : p = e := by omega
          have t1 : decide ((p : Int) < (p : Int)) = false := by simp
          cases f with
          | false =>
            have hge := of_decide_eq_false hf.out.symm
            have hml := hm.out.lt
            repeat (first | go_big_skip | go_step)
            go_roundg (jo - 1)
            case measure => have := hij.out; omega
            case rel =>
              have j0 := hij.out
              refine ⟨(p : Int) - 1, xh, xl, m, Q, rfl, by omega, by omega, ?_, BA, hm, ?_, BB, BR, BQ, hbl⟩
              · show (p : Int) - 1 + 1 = ((jo - 1 : Nat) : Int); omega
              · obtain rfl : jo = p + 1 := by omega
                exact qt_no (e := p) hmod.out (by omega)
          | true =>
            have hlt : b * 2 ^ p < 340282366920938463463374607431768211456 := of_decide_eq_true hf.out.symm
            have hn' : n = b * 2 ^ p := by rw [← Nat.mod_eq_of_lt hlt]; exact hn.out
            replace hn' := hidden hn'
            clear hn hf hlt
            repeat (first | go_big_skip | go_step)
            refine (cmp_any xh xl ch cl m n hm.out hc.out _).mono ?_
            rintro e w1 ⟨rfl, hb1⟩
            replace BA := BA.after hb1
            replace BB := BB.after hb1
            replace BR := BR.after hb1
            replace BC := BC.after hb1
            replace BQ := BQ.after hb1
            replace hbl := bl_then hbl hb1
            clear hb1 cA0 cA1 cC0 cC1 fC0 fC1
            by_cases hnm : n ≤ m
            · have t2 := cmpZ_ge (a := (m : Int)) (b := (n : Int)) (by omega)
              have cA0 := BA.cell 0; have cA1 := BA.cell 1
              have cC0 := BC.cell 0; have cC1 := BC.cell 1
              simp at cC0 cC1 cA0 cA1
              dsimp only
              repeat (first | go_big_skip | go_step)
              refine (less_any xh xl ch cl m n hm.out hc.out hnm _).mono ?_
              rintro e w2 ⟨rh, rl, rfl, hw, hb2⟩
              replace BA := BA.after hb2
              replace BB := BB.after hb2
              replace BR := BR.after hb2
              replace BC := BC.after hb2
              replace BQ := BQ.after hb2
              replace hbl := bl_then hbl hb2
              clear hb2 cA0 cA1 cC0 cC1
              have cA0 := BA.cell 0; have cA1 := BA.cell 1; have fA0 := BA.frozen 0; have fA1 := BA.frozen 1
              simp at cA0 cA1
              have rO := or_bit' Q p (qt_lt hmod.out hal hb64) (by omega)
              dsimp only
              go_upto_region 16 with (fail)
              have DA := (BA.set 0 (.int .u64 rh)).set 1 (.int .u64 rl)
              have DB := (BB.far w.heap.size 0 (by omega) (.int .u64 rh)).far w.heap.size 1 (by omega) (.int .u64 rl)
              have DR := (BR.far w.heap.size 0 (by omega) (.int .u64 rh)).far w.heap.size 1 (by omega) (.int .u64 rl)
              have DQ := (BQ.far w.heap.size 0 (by omega) (.int .u64 rh)).far w.heap.size 1 (by omega) (.int .u64 rl)
              have dbl := bl_set (bl_set hbl w.heap.size 0 (Nat.le_refl _) (.int .u64 rh)) w.heap.size 1 (Nat.le_refl _) (.int .u64 rl)
              clear BA BB BR BQ BC hbl cA0 cA1 fA0 fA1
              generalize (w2.setCell ⟨w.heap.size, 0, none⟩ (.int .u64 rh)).setCell ⟨w.heap.size, 1, none⟩ (.int .u64 rl) = w3 at DA DB DR DQ dbl ⊢
              have cQ1 := DQ.cell 1; have fQ1 := DQ.frozen 1
              simp at cQ1
              go_region
              repeat (first | go_big_skip | go_step)
              go_roundg (jo - 1)
              case measure => have := hij.out; omega
              case rel =>
                have j0 := hij.out
                obtain rfl : jo = p + 1 := by omega
                obtain ⟨y1, y2⟩ := qt_yes (e := p) hmod.out hn'.out hnm
                refine ⟨(p : Int) - 1, rh, rl, m - n, Q + 2 ^ p, rfl, by omega, by omega, ?_, ?_, hw, y1, ?_, ?_, ?_, ?_⟩
                · show (p : Int) - 1 + 1 = ((p + 1 - 1 : Nat) : Int); omega
                · exact (DA.far _ 1 (by omega) _).drew
                · exact (DB.far _ 1 (by omega) _).drew
                · exact (DR.far _ 1 (by omega) _).drew
                · rw [← y2]
                  first | exact (DQ.set 1 _).drew | (rw [rO]; exact (DQ.set 1 _).drew)
                · exact bl_drew (bl_set dbl _ _ (by omega) _)
            · have t2 := cmpZ_lt (a := (m : Int)) (b := (n : Int)) (by omega)
              dsimp only
              repeat (first | go_big_skip | go_step)
              go_roundg (jo - 1)
              case measure => have := hij.out; omega
              case rel =>
                have j0 := hij.out
                refine ⟨(p : Int) - 1, xh, xl, m, Q, rfl, by omega, by omega, ?_, BA, hm, ?_, BB, BR, BQ, hbl⟩
                · show (p : Int) - 1 + 1 = ((jo - 1 : Nat) : Int); omega
                · obtain rfl : jo = p + 1 := by omega
                  exact qt_no (e := p) hmod.out (by have := hn'.out; omega)
    · have t1 : decide (0 ≤ i) = false := by simpa using hi
      have cR0 := BR.cell 0; have cR1 := BR.cell 1; have fR0 := BR.frozen 0; have fR1 := BR.frozen 1
      have cQ0 := BQ.cell 0; have cQ1 := BQ.cell 1
      simp at cR0 cR1 cQ0 cQ1
      repeat (first | go_big_skip | go_step)
      simp [bodyPost, results, Try.results53, go_sem, cR0, cR1]
      have j0 := hij.out
      obtain rfl : jo = 0 := by omega
      refine ⟨_, _, rfl, ?_, bl_set (bl_set hbl _ _ (by omega) _) _ _ (by omega) _⟩
      rw [qt_done hmod.out]
      exact Wd.small _ (qt_lt hmod.out hal hb64)
theorem div_any (ah al bh bl : Int) (a b : Nat) (ha : Wd ah al a) (hb : Wd bh bl b) (hb0 : 0 < b) (w : World) :
    Calls Try.prog 53 #[.agg #[.int .u64 ah, .int .u64 al], .agg #[.int .u64 bh, .int .u64 bl]] w (RetW (a / b) w) := by
  by_cases h : bh = 0
  · subst h
    exact div_small ah al bl a b ha hb hb0 w
  · exact div_wide ah al bh bl a b ha hb (by simpa using h) w
end Go.Proofs.Ytpdbiofpoccjeaa
