/- The walks over package ratio's floor, half. -/
import Derived.Test.YtpdbiofpoccjeaaWx
namespace Go.Proofs.Ytpdbiofpoccjeaa
open Go.RowKit
/-- Is it an int64? -/
def fits (x : Int) : Bool := decide (-9223372036854775808 ≤ x ∧ x ≤ 9223372036854775807)
/-- What floor hands back: the number where it fits. -/
def RetFl (x : Int) (w : World) (e : Ending) (w' : World) : Prop := ∃ y, e = .returned (.tuple #[.int .i64 y, .bool (fits x)]) ∧ (fits x = true → y = x) ∧ Below w.heap.size w w'
theorem ret_fl {x y : Int} {ok : Bool} {w w' : World} (h : ok = fits x) (hy : fits x = true → y = x) (hb : Below w.heap.size w w') : RetFl x w (.returned (.tuple #[.int .i64 y, .bool ok])) w' := ⟨y, by rw [h], hy, hb⟩
/-- A number by another one, cut downwards, with its sign. -/
theorem fl_pos {b : Bool} {h l v : Int} {d : Nat} (hs : Sg b h l v) (hb : b = false) : (v / (d : Int)).natAbs = v.natAbs / d ∧ 0 ≤ v / (d : Int) := by
  have h0 := hs.hi hb
  obtain ⟨m, rfl⟩ := Int.eq_ofNat_of_zero_le h0
  have e : ((m : Int) / (d : Int)) = ((m / d : Nat) : Int) := (Int.natCast_ediv m d).symm
  refine ⟨?_, by rw [e]; exact Int.natCast_nonneg _⟩
  rw [e]
  simp only [Int.natAbs_natCast]
theorem fl_neg0 {b : Bool} {h l v : Int} {d : Nat} (hs : Sg b h l v) (hb : b = true) (hd : 0 < d) (hr : v.natAbs % d = 0) : (v / (d : Int)).natAbs = v.natAbs / d ∧ v / (d : Int) ≤ 0 := by
  have h0 := hs.lo hb
  obtain ⟨m, rfl⟩ : ∃ m : Nat, v = -(m : Int) := ⟨v.natAbs, by omega⟩
  simp only [Int.natAbs_neg, Int.natAbs_natCast] at hr ⊢
  obtain ⟨q, rfl⟩ := Nat.dvd_of_mod_eq_zero hr
  have e : (-((d * q : Nat) : Int)) / (d : Int) = -(q : Int) := by
    rw [show (-((d * q : Nat) : Int)) = (d : Int) * (-(q : Int)) by rw [Int.natCast_mul, Int.mul_neg]]
    exact Int.mul_ediv_cancel_left _ (by omega)
  rw [e, Nat.mul_div_cancel_left _ hd]
  refine ⟨by simp, by omega⟩
theorem fl_neg1 {b : Bool} {h l v : Int} {d : Nat} (hs : Sg b h l v) (hb : b = true) (hd : 0 < d) (hr : v.natAbs % d ≠ 0) : (v / (d : Int)).natAbs = v.natAbs / d + 1 ∧ v / (d : Int) ≤ 0 := by
  have h0 := hs.lo hb
  obtain ⟨m, rfl⟩ : ∃ m : Nat, v = -(m : Int) := ⟨v.natAbs, by omega⟩
  simp only [Int.natAbs_neg, Int.natAbs_natCast] at hr ⊢
  have hm := Nat.div_add_mod m d
  have hlt := Nat.mod_lt m hd
  have e : (-(m : Int)) / (d : Int) = -((m / d : Nat) : Int) - 1 := by
    have : -(m : Int) = ((d - m % d : Nat) : Int) + (d : Int) * (-((m / d : Nat) : Int) - 1) := by
      have h1 : (m : Int) = (d : Int) * ((m / d : Nat) : Int) + ((m % d : Nat) : Int) := by rw [← Int.natCast_mul, ← Int.natCast_add, hm]
      have h2 : ((d - m % d : Nat) : Int) = (d : Int) - ((m % d : Nat) : Int) := by omega
      rw [h2, Int.mul_sub, Int.mul_neg]
      omega
    rw [this, Int.add_mul_ediv_left _ _ (by omega), Int.ediv_eq_zero_of_lt (by omega) (by omega)]
    omega
  rw [e]
  generalize m / d = q
  omega
set_option maxRecDepth 10000 in
theorem floor_any (b : Bool) (h l v : Int) (d : Nat) (hs : Sg b h l v) (hd : 0 < d) (hd' : d < 18446744073709551616) (w : World) :
    Calls Try.prog 47 #[.agg #[.bool b, .int .u64 h, .int .u64 l], .int .u64 (d : Int)] w (RetFl (v / (d : Int)) w) := by
  have hwd := hidden hs.wd
  have hsH := hidden hs
  clear hs
  go_enter Try.func47, Try.ntmps47
  go_wp2_with fail
  refine (by_any h l v.natAbs d hwd.out hd hd' _).mono ?_
  rintro e w1 ⟨qh, ql, r, rfl, hq, hr, hb1⟩
  have BN : Blk w1 w.heap.size #[.bool b, .int .u64 h, .int .u64 l] 49 := (Blk.new _ _ _).after hb1
  have hbl := bl_then (bl_alloc (bl_refl w) _) hb1
  have lN := BN.lt
  replace hr := hidden hr
  have n0 := BN.cell 0
  simp at n0
  dsimp only
  go_upto_region 2 with (fail)
  have BQ := Blk.new w1 #[.int .u64 qh, .int .u64 ql] 47
  replace BN := BN.alloc (.cells #[.int .u64 qh, .int .u64 ql] 47)
  replace hbl := bl_alloc hbl (.cells #[.int .u64 qh, .int .u64 ql] 47)
  generalize w1.alloc (.cells #[.int .u64 qh, .int .u64 ql] 47) = W0 at BQ BN hbl ⊢
  clear n0 hb1
  go_cut [20] (fun s20 w' => s20 = .bool (b && (r != 0)) ∧ w' = W0)
  case first =>
    have n0 := BN.cell 0
    simp at n0
    cases b with
    | false =>
      repeat (first | go_big_skip | go_step)
      go_meet
      exact ⟨rfl, rfl⟩
    | true =>
      repeat (first | go_big_skip | go_step)
      go_meet
      exact ⟨by simp, rfl⟩
  case rest =>
  obtain ⟨rfl, rfl⟩ := hcut
  obtain ⟨c, ec⟩ : ∃ c, c = (b && (r != 0)) := ⟨_, rfl⟩
  rw [← ec]
  replace ec := hidden ec
  go_upto_if 20 with (fail)
  go_cut [] (fun w' => ∃ (ph pl : Int), Blk w' w1.heap.size #[.int .u64 ph, .int .u64 pl] 47 ∧ Blk w' w.heap.size #[.bool b, .int .u64 h, .int .u64 l] 49 ∧ Hid (Wd ph pl (v / (d : Int)).natAbs ∧ (b = true → v / (d : Int) ≤ 0) ∧ (b = false → 0 ≤ v / (d : Int))) ∧ Below w.heap.size w w')
  case first =>
    have hs := hsH.out
    cases b with
    | false =>
      have hf := fl_pos (d := d) hs rfl
      replace hs := hidden hs
      replace hf := hidden hf
      have ec0 : c = false := by simpa using ec.out
      subst ec0
      repeat (first | go_big_skip | go_step)
      go_meet
      exact ⟨qh, ql, BQ, BN, ⟨by rw [hf.out.1]; exact hq, by simp, fun _ => hf.out.2⟩, hbl⟩
    | true =>
      by_cases h0 : v.natAbs % d = 0
      · have hf := fl_neg0 (d := d) hs rfl hd h0
        have e0 : (r != 0) = false := by simp [hr.out, h0]
        replace hs := hidden hs
        replace hf := hidden hf
        replace h0 := hidden h0
        have ec0 : c = false := by simpa [e0] using ec.out
        subst ec0
        repeat (first | go_big_skip | go_step)
        go_meet
        exact ⟨qh, ql, BQ, BN, ⟨by rw [hf.out.1]; exact hq, fun _ => hf.out.2, by simp⟩, hbl⟩
      · have hf := fl_neg1 (d := d) hs rfl hd h0
        have e0 : (r != 0) = true := by simp [hr.out]; omega
        have hlt : Hid (v.natAbs / d + 1 < 340282366920938463463374607431768211456) := by
          have h1 := hwd.out.lt
          have h2 : d ≠ 1 := by rintro rfl; exact h0 (Nat.mod_one _)
          have h3 := Nat.div_le_div_left (c := 2) (a := v.natAbs) (b := d) (by omega) (by omega)
          show _ < _
          omega
        replace hs := hidden hs
        replace hf := hidden hf
        replace h0 := hidden h0
        have ec0 : c = true := by simpa [e0] using ec.out
        subst ec0
        have q0 := BQ.cell 0; have q1 := BQ.cell 1
        simp at q0 q1
        repeat (first | go_big_skip | go_step)
        refine (plus_any qh ql 0 1 _ 1 hq (Wd.small 1 (by omega)) hlt.out _).mono ?_
        rintro e w2 ⟨ph, pl, rfl, hp, hb2⟩
        replace BQ := BQ.after hb2
        replace BN := BN.after hb2
        replace hbl := bl_then hbl hb2
        clear q0 q1 hb2
        have q0 := BQ.cell 0; have q1 := BQ.cell 1; have g0 := BQ.frozen 0; have g1 := BQ.frozen 1
        simp at q0 q1
        dsimp only
        repeat (first | go_big_skip | go_step)
        go_meet
        exact ⟨ph, pl, BQ.set2 _ _, BN.far2 _ (by omega) _ _, ⟨by rw [hf.out.1]; exact hp, fun _ => hf.out.2, by simp⟩, by repeat (first | exact hbl | refine bl_set ?_ _ _ (by omega) _)⟩
  case rest =>
    clear BQ BN hbl hq hr hwd hsH
    obtain ⟨ph, pl, BQ, BN, hp, hbl⟩ := hcut
    have q0 := BQ.cell 0; have q1 := BQ.cell 1; have n0 := BN.cell 0
    simp at q0 q1 n0
    obtain ⟨x, ex⟩ : ∃ x, x = v / (d : Int) := ⟨_, rfl⟩
    rw [← ex] at hp
    replace ex := hidden ex
    have l0 := hp.out.1.l0; have l1 := hp.out.1.l1
    by_cases hh : ph = 0
    · subst hh
      cases b with
      | true =>
        by_cases hle : pl ≤ 9223372036854775808
        · have e1 : decide (pl ≤ 9223372036854775808) = true := decide_eq_true hle
          have hfit : fits x = true := by have := hp.out.1.eq; have := hp.out.2.1 rfl; exact decide_eq_true (by omega)
          have hx : x = -pl := by have := hp.out.1.eq; have := hp.out.2.1 rfl; omega
          replace hfit := hidden hfit
          replace hx := hidden hx
          replace hp := hidden hp.out.1.l0
          clear hle l0 l1
          repeat (first | go_big_skip | go_step)
          simp [bodyPost, results, Try.results47, go_sem]
          refine ret_fl (by rw [← ex.out, hfit.out]) (fun _ => ?_) hbl
          rw [← ex.out, hx.out]
          simp [wrap64, IntKind.wrap_u64]
          have := of_decide_eq_true e1
          have := hp.out
          omega
        · have e1 : decide (pl ≤ 9223372036854775808) = false := decide_eq_false hle
          have e2 : decide (pl ≤ 9223372036854775807) = false := decide_eq_false (by omega)
          have hfit : fits x = false := by have := hp.out.1.eq; have := hp.out.2.1 rfl; exact decide_eq_false (by omega)
          replace hfit := hidden hfit
          clear hle l0 l1
          replace hp := hidden hp.out.1.l0
          repeat (first | go_big_skip | go_step)
          go_quiet (fail)
          repeat (first | go_big_skip | go_step)
          simp [bodyPost, results, Try.results47, go_sem]
          refine ret_fl (by rw [← ex.out, hfit.out]) (fun hc => ?_) (bl_drewN hbl _)
          rw [← ex.out, hfit.out] at hc
          cases hc
      | false =>
        by_cases hle : pl ≤ 9223372036854775807
        · have e1 : decide (pl ≤ 9223372036854775807) = true := decide_eq_true hle
          have hfit : fits x = true := by have := hp.out.1.eq; have := hp.out.2.2 rfl; exact decide_eq_true (by omega)
          have hx : x = pl := by have := hp.out.1.eq; have := hp.out.2.2 rfl; omega
          replace hfit := hidden hfit
          replace hx := hidden hx
          replace hp := hidden hp.out.1.l0
          have rw1 : IntKind.i64.wrap pl = pl := by simp [IntKind.wrap_i64]; omega
          clear hle l0 l1
          repeat (first | go_big_skip | go_step)
          go_quiet (fail)
          repeat (first | go_big_skip | go_step)
          simp [bodyPost, results, Try.results47, go_sem]
          refine ret_fl (by rw [← ex.out, hfit.out]) (fun hc => ?_) (bl_drewN hbl _)
          rw [← ex.out, hx.out]
        · have e2 : decide (pl ≤ 9223372036854775807) = false := decide_eq_false hle
          have hfit : fits x = false := by have := hp.out.1.eq; have := hp.out.2.2 rfl; exact decide_eq_false (by omega)
          replace hfit := hidden hfit
          clear hle l0 l1
          replace hp := hidden hp.out.1.l0
          repeat (first | go_big_skip | go_step)
          go_quiet (fail)
          repeat (first | go_big_skip | go_step)
          simp [bodyPost, results, Try.results47, go_sem]
          refine ret_fl (by rw [← ex.out, hfit.out]) (fun hc => ?_) (bl_drewN hbl _)
          rw [← ex.out, hfit.out] at hc
          cases hc
    · have eh : (ph != 0) = true := by simpa using hh
      have hfit : fits x = false := by have h0 := hp.out.1.h0; have := hp.out.1.eq; exact decide_eq_false (by omega)
      replace hfit := hidden hfit
      replace hh := hidden hh
      replace hp := hidden hp.out.1.l0
      clear l0 l1
      repeat (first | go_big_skip | go_step)
      simp [bodyPost, results, Try.results47, go_sem]
      refine ret_fl (by rw [← ex.out, hfit.out]) (fun hc => ?_) hbl
      rw [← ex.out, hfit.out] at hc
      cases hc
/-- A half, and what is to be rounded. -/
def halfV (v : Int) (d : Nat) : Int := (2 * v + d) / (2 * (d : Int))
end Go.Proofs.Ytpdbiofpoccjeaa
