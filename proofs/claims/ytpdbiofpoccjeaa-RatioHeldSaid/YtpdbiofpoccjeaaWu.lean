/- The walk over what Div hands to both. -/
import Derived.Test.YtpdbiofpoccjeaaWt
namespace Go.Proofs.Ytpdbiofpoccjeaa
open Go.RowKit
/-- What Div's closure hands back: the sign of what is parted by goes over (either one, where that is 0). -/
def RetDiv (aN aD bN bD : Int) (w : World) (e : Ending) (w' : World) : Prop := ∃ c : Bool, (c = true → aD * bN ≤ 0) ∧ (c = false → 0 ≤ aD * bN) ∧ RetSW (if c then -(aN * bD) else aN * bD) (aD * bN).natAbs w e w'
theorem sg_turn {b c : Bool} {h l x : Int} (H : Sg b h l x) : Sg (b != c) h l (if c then -x else x) := by
  obtain ⟨h1, h2, h3⟩ := H
  cases c
  · simpa using (⟨h1, h2, h3⟩ : Sg b h l x)
  · cases b
    · refine ⟨by simpa using h1, fun _ => ?_, fun h => by simp at h⟩
      have := h3 rfl
      simp; omega
    · refine ⟨by simpa using h1, fun h => by simp at h, fun _ => ?_⟩
      have := h2 rfl
      simp; omega
set_option maxRecDepth 10000 in
set_option maxHeartbeats 4000000 in
theorem div_clo (pa pb : Nat) (aN aD bN bD : Int) (hA : R64 aN) (hB : R64 aD) (hC : R64 bN) (hD : R64 bD) (w : World) (BA : Blk w pa #[.int .i64 aN, .int .i64 aD] 24) (BB : Blk w pb #[.int .i64 bN, .int .i64 bD] 24) :
    Calls Try.prog 51 #[.pointer (some ⟨pa, 0, none⟩), .pointer (some ⟨pb, 0, none⟩)] w (RetDiv aN aD bN bD w) := by
  have la := BA.lt; have lb := BB.lt
  have a1 := hA.lo; have a2 := hA.hi; have b1 := hB.lo; have b2 := hB.hi; have c1 := hC.lo; have c2 := hC.hi; have d1 := hD.lo; have d2 := hD.hi
  have BR : Blk ((w.alloc (.cells #[.bool false, .int .u64 0, .int .u64 0] 49)).alloc (.cells #[.int .u64 0, .int .u64 0] 47)) w.heap.size #[.bool false, .int .u64 0, .int .u64 0] 49 := (Blk.new _ _ _).alloc _
  have BS : Blk ((w.alloc (.cells #[.bool false, .int .u64 0, .int .u64 0] 49)).alloc (.cells #[.int .u64 0, .int .u64 0] 47)) (w.heap.size + 1) #[.int .u64 0, .int .u64 0] 47 := Blk.second _ _ _ _
  replace BA := (BA.alloc (.cells #[.bool false, .int .u64 0, .int .u64 0] 49)).alloc (.cells #[.int .u64 0, .int .u64 0] 47)
  replace BB := (BB.alloc (.cells #[.bool false, .int .u64 0, .int .u64 0] 49)).alloc (.cells #[.int .u64 0, .int .u64 0] 47)
  go_enter Try.func51, Try.ntmps51
  go_upto_region 1 with (fail)
  have hbl : Below w.heap.size w ((w.alloc (.cells #[.bool false, .int .u64 0, .int .u64 0] 49)).alloc (.cells #[.int .u64 0, .int .u64 0] 47)) := bl_alloc (bl_alloc (bl_refl _) _) _
  generalize (w.alloc (.cells #[.bool false, .int .u64 0, .int .u64 0] 49)).alloc (.cells #[.int .u64 0, .int .u64 0] 47) = W0 at BR BS BA BB hbl ⊢
  go_cut [4, 5] (fun s4 s5 w' => ∃ (X Y : Nat) (sb1 sb2 : Bool) (sh1 sl1 sh2 sl2 : Int), s4 = .pointer (some ⟨X, 0, none⟩) ∧ s5 = .pointer (some ⟨Y, 0, none⟩) ∧ w.heap.size + 1 < X ∧ w.heap.size + 1 < Y ∧ X ≠ Y ∧ Blk w' X #[.bool sb1, .int .u64 sh1, .int .u64 sl1] 49 ∧ Blk w' Y #[.bool sb2, .int .u64 sh2, .int .u64 sl2] 49 ∧ Hid (Sg sb1 sh1 sl1 (aN * bD)) ∧ Hid (Sg sb2 sh2 sl2 (aD * bN)) ∧ Blk w' w.heap.size #[.bool false, .int .u64 0, .int .u64 0] 49 ∧ Blk w' (w.heap.size + 1) #[.int .u64 0, .int .u64 0] 47 ∧ Below w.heap.size w w')
  case first =>
    have ca0 := BA.cell 0; have ca1 := BA.cell 1; have cb0 := BB.cell 0; have cb1 := BB.cell 1
    simp at ca0 ca1 cb0 cb1
    have lA := BA.lt; have lB := BB.lt; have lR := BR.lt; have lS := BS.lt
    go_region_held3 (fun w' => ∀ b o, b < W0.heap.size → w'.cell? ⟨b, o, none⟩ = W0.cell? ⟨b, o, none⟩)
      (exact (bcell (by repeat (first | (with_reducible first | assumption | exact bl_refl _ | apply bl_drew | apply bl_alloc) | (with_reducible refine bl_set ?_ _ _ (by omega) _)))).1)
      (first
        | (go_at_call_of 35 (Value.int .i64 aN); refine (mul_any _ _ (by omega) (by omega) (by omega) (by omega) _).mono ?_; rintro e w2 ⟨sb1, sh1, sl1, rfl, hs1, hb2⟩; have hbl2 : Below W0.heap.size W0 w2 := bl_then (by repeat (first | exact bl_refl _ | apply bl_alloc | apply bl_drew)) hb2; have lV := hbl2.size; (try (have BU : Blk w2 W0.heap.size #[.bool false, .int .u64 0, .int .u64 0] 49 := (by first | exact (Blk.new W0.drew _ _).after hb2 | exact ((Blk.new W0.drew _ _).alloc _).after hb2))); (try (have u0 := BU.cell 0; have u1 := BU.cell 1; have u5 := BU.cell 2; have u2 := BU.frozen 0; have u3 := BU.frozen 1; have u6 := BU.frozen 2; have u4 := BU.lt; simp at u0 u1 u5)); (try (have BV : Blk w2 (W0.heap.size + 1) #[.bool false, .int .u64 0, .int .u64 0] 49 := (Blk.second W0.drew _ _ _).after hb2)); (try (have v0 := BV.cell 0; have v1 := BV.cell 1; have v5 := BV.cell 2; have v2 := BV.frozen 0; have v3 := BV.frozen 1; have v6 := BV.frozen 2; have v4 := BV.lt; simp at v0 v1 v5)))
        | (go_at_call_of 35 (Value.int .i64 aD); refine (mul_any _ _ (by omega) (by omega) (by omega) (by omega) _).mono ?_; rintro e w3 ⟨sb2, sh2, sl2, rfl, hs2, hb3⟩; have hbl3 : Below W0.heap.size W0 w3 := bl_then (by repeat (first | exact hbl2 | apply bl_alloc)) hb3; have lW := hbl2.size; have lW3 := hbl3.size; (try (have BP : Blk w3 W0.heap.size #[.bool false, .int .u64 0, .int .u64 0] 49 := (by first | exact BU.after hb3 | exact (BU.alloc _).after hb3))); (try (have p0 := BP.cell 0; have p1 := BP.cell 1; have p5 := BP.cell 2; have p2 := BP.frozen 0; have p3 := BP.frozen 1; have p6 := BP.frozen 2; have p4 := BP.lt; simp at p0 p1 p5)); (try (have BQ : Blk w3 (W0.heap.size + 1) #[.bool false, .int .u64 0, .int .u64 0] 49 := BV.after hb3)); (try (have q0 := BQ.cell 0; have q1 := BQ.cell 1; have q5 := BQ.cell 2; have q2 := BQ.frozen 0; have q3 := BQ.frozen 1; have q6 := BQ.frozen 2; have q4 := BQ.lt; simp at q0 q1 q5)); (try (have BX : Blk w3 w2.heap.size #[.bool false, .int .u64 0, .int .u64 0] 49 := (by first | exact (Blk.new w2 _ _).after hb3 | exact ((Blk.new w2 _ _).alloc _).after hb3))); (try (have x0 := BX.cell 0; have x1 := BX.cell 1; have x5 := BX.cell 2; have x2 := BX.frozen 0; have x3 := BX.frozen 1; have x6 := BX.frozen 2; have x4 := BX.lt; simp at x0 x1 x5)); (try (have BY : Blk w3 (w2.heap.size + 1) #[.bool false, .int .u64 0, .int .u64 0] 49 := (Blk.second w2 _ _ _).after hb3)); (try (have y0 := BY.cell 0; have y1 := BY.cell 1; have y5 := BY.cell 2; have y2 := BY.frozen 0; have y3 := BY.frozen 1; have y6 := BY.frozen 2; have y4 := BY.lt; simp at y0 y1 y5))))
    all_goals
      have FN := BR.after hbl3
      have FR := BS.after hbl3
      have hblw := bl_then hbl hbl3
      have lw := hbl.size
      have lV := hbl2.size
      have lW3 := hbl3.size
      clear ca0 ca1 cb0 cb1
      repeat (first | go_big_skip | go_step)
      go_meet
      refine ⟨_, _, sb1, sb2, sh1, sl1, sh2, sl2, rfl, rfl, ?_, ?_, ?_, ?_, ?_, hs1, hs2, ?_, ?_, ?_⟩
      · first | omega | (simp; omega)
      · first | omega | (simp; omega)
      · first | omega | (simp; done) | (simp; omega)
      · (repeat (first | (with_reducible first | assumption | exact Blk.new _ _ _ | exact Blk.second _ _ _ _) | (with_reducible (refine Blk.made _ _ _ _ ?_); (simp [World.setCell]; done)) | (with_reducible first | apply Blk.alloc | refine Blk.set3 (a := .bool false) (b := .int .u64 0) (c := .int .u64 0) ?_ _ _ _) | (with_reducible refine Blk.far3 ?_ _ (by omega) _ _ _)))
      · (repeat (first | (with_reducible first | assumption | exact Blk.new _ _ _ | exact Blk.second _ _ _ _) | (with_reducible (refine Blk.made _ _ _ _ ?_); (simp [World.setCell]; done)) | (with_reducible first | apply Blk.alloc | refine Blk.set3 (a := .bool false) (b := .int .u64 0) (c := .int .u64 0) ?_ _ _ _) | (with_reducible refine Blk.far3 ?_ _ (by omega) _ _ _)))
      · (repeat (first | (with_reducible first | assumption | exact Blk.new _ _ _ | exact Blk.second _ _ _ _) | (with_reducible (refine Blk.made _ _ _ _ ?_); (simp [World.setCell]; done)) | (with_reducible first | apply Blk.alloc | refine Blk.set3 (a := .bool false) (b := .int .u64 0) (c := .int .u64 0) ?_ _ _ _) | (with_reducible refine Blk.far3 ?_ _ (by omega) _ _ _)))
      · (repeat (first | (with_reducible first | assumption | exact Blk.new _ _ _ | exact Blk.second _ _ _ _) | (with_reducible (refine Blk.made _ _ _ _ ?_); (simp [World.setCell]; done)) | (with_reducible first | apply Blk.alloc | refine Blk.set3 (a := .bool false) (b := .int .u64 0) (c := .int .u64 0) ?_ _ _ _) | (with_reducible refine Blk.far3 ?_ _ (by omega) _ _ _)))
      · repeat (first | (with_reducible first | exact hblw | apply bl_alloc) | (with_reducible refine bl_set ?_ _ _ (by omega) _))
  case rest =>
    clear BA BB BR BS hbl
    obtain ⟨X, Y, sb1, sb2, sh1, sl1, sh2, sl2, rfl, rfl, hX, hY, hXY, BX, BY, hs1, hs2, BR, BS, hbl⟩ := hcut
    have x0 := BX.cell 0; have x1 := BX.cell 1; have x2 := BX.cell 2; have y0 := BY.cell 0; have y1 := BY.cell 1; have y2 := BY.cell 2
    have f0 := BX.frozen 0; have f1 := BX.frozen 1; have f2 := BX.frozen 2
    simp at x0 x1 x2 y0 y1 y2
    go_upto_region 3 with (fail)
    replace BX := BX.set 0 (.bool (!sb1 == sb2))
    replace BY := BY.far X 0 (Ne.symm hXY) (.bool (!sb1 == sb2))
    replace BR := BR.far X 0 (by omega) (.bool (!sb1 == sb2))
    replace BS := BS.far X 0 (by omega) (.bool (!sb1 == sb2))
    replace hbl := bl_set hbl X 0 (by omega) (.bool (!sb1 == sb2))
    generalize wc.setCell ⟨X, 0, none⟩ (.bool (!sb1 == sb2)) = w4 at BX BY BR BS hbl ⊢
    clear x0 x1 x2 y0 y1 y2 f0 f1 f2
    have x0 := BX.cell 0; have x1 := BX.cell 1; have x2 := BX.cell 2; have y0 := BY.cell 0; have y1 := BY.cell 1; have y2 := BY.cell 2
    have r0 := BR.cell 0; have r1 := BR.cell 1; have r2 := BR.cell 2; have t0 := BS.cell 0; have t1 := BS.cell 1
    have g0 := BR.frozen 0; have g1 := BR.frozen 1; have g2 := BR.frozen 2; have g3 := BS.frozen 0; have g4 := BS.frozen 1
    simp at x0 x1 x2 y0 y1 y2 r0 r1 r2 t0 t1
    have nX : w.heap.size ≠ X := by omega
    have nY : w.heap.size ≠ Y := by omega
    have nX1 : w.heap.size + 1 ≠ X := by omega
    have nY1 : w.heap.size + 1 ≠ Y := by omega
    go_region
    all_goals go_wp2_with fail
    have FX := ((BR.set3 (.bool (!sb1 == sb2)) (.int .u64 sh1) (.int .u64 sl1)).far2 (w.heap.size + 1) (by omega) (.int .u64 sh2) (.int .u64 sl2)).drew
    have FY := ((BS.far3 w.heap.size (by omega) (.bool (!sb1 == sb2)) (.int .u64 sh1) (.int .u64 sl1)).set2 (.int .u64 sh2) (.int .u64 sl2)).drew
    have z0 := FX.cell 0; have z1 := FX.cell 1; have z2 := FX.cell 2; have z3 := FY.cell 0; have z4 := FY.cell 1
    simp at z0 z1 z2 z3 z4
    simp [bodyPost, results, Try.results51, go_sem, z0, z1, z2, z3, z4]
    exact ⟨sb2, hs2.out.lo, hs2.out.hi, _, _, _, _, _, rfl, sg_turn (c := sb2) hs1.out, hs2.out.wd, by repeat (first | exact hbl | apply bl_drew | refine bl_set ?_ _ _ (by omega) _)⟩
end Go.Proofs.Ytpdbiofpoccjeaa
