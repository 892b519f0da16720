/- The walk over package ratio's half. -/
import Derived.Test.YtpdbiofpoccjeaaWy
namespace Go.Proofs.Ytpdbiofpoccjeaa
open Go.RowKit
theorem sg_twice {b : Bool} {h l h' l' v : Int} (H : Sg b h l v) (W : Wd h' l' (v.natAbs + v.natAbs)) : Sg b h' l' (2 * v) := by
  obtain ⟨h1, h2, h3⟩ := H
  refine ⟨?_, fun hb => by have := h2 hb; omega, fun hb => by have := h3 hb; omega⟩
  rw [show (2 * v).natAbs = v.natAbs + v.natAbs by omega]
  exact W
theorem fl_sg {b : Bool} {ph pl x : Int} (h : Wd ph pl x.natAbs ∧ (b = true → x ≤ 0) ∧ (b = false → 0 ≤ x)) : Sg b ph pl x := ⟨h.1, h.2.1, h.2.2⟩
set_option maxRecDepth 10000 in
theorem half_any (b : Bool) (h l v : Int) (d : Nat) (hs : Sg b h l v) (hv : v.natAbs ≤ 85070591730234615865843651857942052864) (hd : 0 < d) (hd' : d < 18446744073709551616) (w : World) :
    Calls Try.prog 36 #[.agg #[.bool b, .int .u64 h, .int .u64 l], .int .u64 (d : Int)] w (RetFl ((2 * v + (d : Int)) / 2 / (d : Int)) w) := by
  have hv2 := hidden (show v.natAbs + v.natAbs < 340282366920938463463374607431768211456 by omega)
  have hv3 := hidden (show (2 * v).natAbs + (d : Int).natAbs < 340282366920938463463374607431768211456 by omega)
  have hsd := hidden (show Sg false 0 (d : Int) (d : Int) from ⟨Wd.small d hd', by simp, by intro; omega⟩)
  replace hv := hidden hv
  replace hs := hidden hs
  have hfw := field_w
  go_enter Try.func36, Try.ntmps36
  go_upto_region 1 with (fail)
  have BN := Blk.new w #[.bool b, .int .u64 h, .int .u64 l] 49
  have hbl := bl_alloc (bl_refl w) (.cells #[.bool b, .int .u64 h, .int .u64 l] 49)
  generalize w.alloc (.cells #[.bool b, .int .u64 h, .int .u64 l] 49) = W0 at BN hbl ⊢
  go_cut [6] (fun s6 w' => ∃ (X : Nat) (sb : Bool) (sh sl : Int), s6 = .pointer (some ⟨X, 0, none⟩) ∧ Blk w' X #[.bool sb, .int .u64 sh, .int .u64 sl] 49 ∧ w.heap.size < X ∧ Hid (Sg sb sh sl (2 * v + (d : Int))) ∧ Below w.heap.size w w')
  case first =>
    have n0 := BN.cell 0; have n1 := BN.cell 1; have n2 := BN.cell 2
    simp at n0 n1 n2
    have lN := BN.lt
    go_region_held3 (fun w' => ∀ b o, b < W0.heap.size → w'.cell? ⟨b, o, none⟩ = W0.cell? ⟨b, o, none⟩)
      (exact (bcell (by repeat (first | (with_reducible first | assumption | exact bl_refl _ | apply bl_drew | apply bl_alloc) | (with_reducible refine bl_set ?_ _ _ (by omega) _)))).1)
      (first
        | (go_at_call 56; refine (plus_any _ _ _ _ _ _ hs.out.wd hs.out.wd hv2.out _).mono ?_; rintro e w2 ⟨th, tl, rfl, ht, hb2⟩; have hts := hidden (sg_twice hs.out ht); clear ht; have hbl2 : Below W0.heap.size W0 w2 := bl_then (by repeat (first | exact bl_refl _ | apply bl_alloc | apply bl_drew)) hb2; have lV := hbl2.size; (try (have BU : Blk w2 W0.heap.size #[.bool false, .int .u64 0, .int .u64 0] 49 := ((Blk.new W0.drew _ _).after hb2))))
        | (go_at_call 43; refine (sadd_any _ _ _ _ _ _ _ _ hts.out hsd.out hv3.out _).mono ?_; rintro e w4 ⟨sb, sh, sl, rfl, hs4, hb4⟩; have hbl4 : Below W0.heap.size W0 w4 := bl_then (by repeat (first | exact hbl2 | apply bl_alloc)) hb4; have lW4 := hbl4.size; (try (have BX : Blk w4 W0.heap.size #[.bool false, .int .u64 0, .int .u64 0] 49 := BU.after hb4; have x0 := BX.cell 0; have x1 := BX.cell 1; have x5 := BX.cell 2; have x2 := BX.frozen 0; have x3 := BX.frozen 1; have x6 := BX.frozen 2; have x4 := BX.lt; simp at x0 x1 x5)); (try (have BX : Blk w4 w2.heap.size #[.bool false, .int .u64 0, .int .u64 0] 49 := (Blk.new w2 _ _).after hb4; have x0 := BX.cell 0; have x1 := BX.cell 1; have x5 := BX.cell 2; have x2 := BX.frozen 0; have x3 := BX.frozen 1; have x6 := BX.frozen 2; have x4 := BX.lt; simp at x0 x1 x5))))
    all_goals
      have hblw := bl_then hbl hbl4
      have lw := hbl.size
      clear n0 n1 n2
      repeat (first | go_big_skip | go_step)
      go_meet
      refine ⟨_, sb, sh, sl, rfl, ?_, ?_, hs4, ?_⟩
      · (repeat (first | (with_reducible first | assumption | exact Blk.new _ _ _) | (with_reducible refine Blk.set3 (a := .bool false) (b := .int .u64 0) (c := .int .u64 0) ?_ _ _ _)))
      · omega
      · repeat (first | (with_reducible first | exact hblw | apply bl_alloc) | (with_reducible refine bl_set ?_ _ _ (by omega) _))
  case rest =>
  clear BN hbl hfw hv hv2 hv3 hsd hs
  obtain ⟨X, sb, sh, sl, rfl, BN, hX, hs, hbl⟩ := hcut
  have x1 := BN.cell 1; have x2 := BN.cell 2
  simp at x1 x2
  go_upto_region 2 with (fail)
  repeat (first | go_big_skip | go_step)
  refine (by_any sh sl _ 2 hs.out.wd (by omega) (by omega) _).mono ?_
  rintro e w1 ⟨qh, ql, r, rfl, hq, hr, hb1⟩
  replace BN := BN.after hb1
  replace hbl := bl_then hbl hb1
  have lN := BN.lt
  replace hr := hidden hr
  replace hq := hidden hq
  clear x1 x2
  have n0 := BN.cell 0
  simp at n0
  dsimp only
  go_upto_region 3 with (fail)
  have BQ := Blk.new w1 #[.int .u64 qh, .int .u64 ql] 47
  replace BN := BN.alloc (.cells #[.int .u64 qh, .int .u64 ql] 47)
  replace hbl := bl_alloc hbl (.cells #[.int .u64 qh, .int .u64 ql] 47)
  generalize w1.alloc (.cells #[.int .u64 qh, .int .u64 ql] 47) = W0 at BQ BN hbl ⊢
  clear n0 hb1
  go_cut [32] (fun s20 w' => s20 = .bool (sb && (r != 0)) ∧ w' = W0)
  case first =>
    have n0 := BN.cell 0
    simp at n0
    cases sb with
    | false =>
      repeat (first | go_big_skip | go_step)
      go_meet
      exact ⟨rfl, rfl⟩
    | true =>
      repeat (first | go_big_skip | go_step)
      go_meet
      exact ⟨by simp, rfl⟩
  case rest =>
  obtain ⟨rfl, rfl⟩ := hcut
  obtain ⟨c, ec⟩ : ∃ c, c = (sb && (r != 0)) := ⟨_, rfl⟩
  rw [← ec]
  replace ec := hidden ec
  go_upto_if 32 with (fail)
  go_cut [] (fun w' => ∃ (ph pl : Int), Blk w' w1.heap.size #[.int .u64 ph, .int .u64 pl] 47 ∧ Blk w' X #[.bool sb, .int .u64 sh, .int .u64 sl] 49 ∧ Hid (Wd ph pl ((2 * v + (d : Int)) / 2).natAbs ∧ (sb = true → (2 * v + (d : Int)) / 2 ≤ 0) ∧ (sb = false → 0 ≤ (2 * v + (d : Int)) / 2)) ∧ Below w.heap.size w w')
  case first =>
    replace hs := hs.out
    cases sb with
    | false =>
      have hf := fl_pos (d := 2) hs rfl
      replace hs := hidden hs
      replace hf := hidden hf
      have ec0 : c = false := by simpa using ec.out
      subst ec0
      repeat (first | go_big_skip | go_step)
      go_meet
      exact ⟨qh, ql, BQ, BN, ⟨by have h1 := hf.out.1; simp only [Int.cast_ofNat_Int] at h1; rw [h1]; exact hq.out, by simp, fun _ => hf.out.2⟩, hbl⟩
    | true =>
      by_cases h0 : (2 * v + (d : Int)).natAbs % 2 = 0
      · have hf := fl_neg0 (d := 2) hs rfl (by omega) h0
        have e0 : (r != 0) = false := by simp [hr.out]; omega
        replace hs := hidden hs
        replace hf := hidden hf
        replace h0 := hidden h0
        have ec0 : c = false := by simpa [e0] using ec.out
        subst ec0
        repeat (first | go_big_skip | go_step)
        go_meet
        exact ⟨qh, ql, BQ, BN, ⟨by have h1 := hf.out.1; simp only [Int.cast_ofNat_Int] at h1; rw [h1]; exact hq.out, fun _ => hf.out.2, by simp⟩, hbl⟩
      · have hf := fl_neg1 (d := 2) hs rfl (by omega) h0
        have e0 : (r != 0) = true := by simp [hr.out]; omega
        have hlt : Hid ((2 * v + (d : Int)).natAbs / 2 + 1 < 340282366920938463463374607431768211456) := by
          have h1 := hs.wd.lt
          show _ < _
          omega
        replace hs := hidden hs
        replace hf := hidden hf
        replace h0 := hidden h0
        have ec0 : c = true := by simpa [e0] using ec.out
        subst ec0
        have q0 := BQ.cell 0; have q1 := BQ.cell 1
        simp at q0 q1
        repeat (first | go_big_skip | go_step)
        refine (plus_any qh ql 0 1 _ 1 hq.out (Wd.small 1 (by omega)) hlt.out _).mono ?_
        rintro e w2 ⟨ph, pl, rfl, hp, hb2⟩
        replace BQ := BQ.after hb2
        replace BN := BN.after hb2
        replace hbl := bl_then hbl hb2
        have lw1 := BQ.lt
        clear q0 q1 hb2
        have q0 := BQ.cell 0; have q1 := BQ.cell 1; have g0 := BQ.frozen 0; have g1 := BQ.frozen 1
        simp at q0 q1
        dsimp only
        repeat (first | go_big_skip | go_step)
        go_meet
        exact ⟨ph, pl, BQ.set2 _ _, BN.far2 _ (by omega) _ _, ⟨by have h1 := hf.out.1; simp only [Int.cast_ofNat_Int] at h1; rw [h1]; exact hp, fun _ => hf.out.2, by simp⟩, by repeat (first | exact hbl | refine bl_set ?_ _ _ (by omega) _)⟩
  case rest =>
    clear BQ BN hbl hq hr hs
    obtain ⟨ph, pl, BQ, BN, hp, hbl⟩ := hcut
    have q0 := BQ.cell 0; have q1 := BQ.cell 1; have n0 := BN.cell 0
    simp at q0 q1 n0
    repeat (first | go_big_skip | go_step)
    refine (floor_any sb ph pl _ d (fl_sg hp.out) hd hd' _).mono ?_
    rintro e w3 ⟨y, rfl, hy, hb3⟩
    replace hbl := bl_then hbl hb3
    replace hy := hidden hy
    dsimp only
    repeat (first | go_big_skip | go_step)
    simp [bodyPost, results, Try.results36, go_sem]
    exact ret_fl rfl hy.out hbl
end Go.Proofs.Ytpdbiofpoccjeaa
