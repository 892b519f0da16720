/- The walks over what Add, Sub, Mul, Div hand to both: the closures. -/
import Derived.Test.YtpdbiofpoccjeaaWs
namespace Go.Proofs.Ytpdbiofpoccjeaa
open Go.RowKit
/-- A number with its sign, and a wide one. -/
def RetSW (v : Int) (m : Nat) (w : World) (e : Ending) (w' : World) : Prop := ∃ b h l dh dl, e = .returned (.tuple #[.agg #[.bool b, .int .u64 h, .int .u64 l], .agg #[.int .u64 dh, .int .u64 dl]]) ∧ Sg b h l v ∧ Wd dh dl m ∧ Below w.heap.size w w'
theorem mul_lt {a b : Int} (ha : R64 a) (hb : R64 b) : (a * b).natAbs ≤ 85070591730234615865843651857942052864 := by
  obtain ⟨a1, a2⟩ := ha
  obtain ⟨b1, b2⟩ := hb
  rw [Int.natAbs_mul]
  exact Nat.mul_le_mul (by omega : a.natAbs ≤ 9223372036854775808) (by omega : b.natAbs ≤ 9223372036854775808)
theorem field_w (b : Bool) (h l : Int) (w : World) : (Instr.field 49 (.agg #[.bool b, .int .u64 h, .int .u64 l]) 1).run Try.prog w = .ok (.agg #[.int .u64 h, .int .u64 l]) w := by kernel_rfl
theorem Blk.set3 {w : World} {g : Nat} {a b c : Value} {t : TypeId} (h : Blk w g #[a, b, c] t) (u v x : Value) : Blk (((w.setCell ⟨g, 0, none⟩ u).setCell ⟨g, 1, none⟩ v).setCell ⟨g, 2, none⟩ x) g #[u, v, x] t := ((h.set 0 u).set 1 v).set 2 x
theorem Blk.far3 {w : World} {g : Nat} {cs : Array Value} {t : TypeId} (h : Blk w g cs t) (b : Nat) (hb : g ≠ b) (u v x : Value) : Blk (((w.setCell ⟨b, 0, none⟩ u).setCell ⟨b, 1, none⟩ v).setCell ⟨b, 2, none⟩ x) g cs t := ((h.far b 0 hb u).far b 1 hb v).far b 2 hb x
set_option maxHeartbeats 1000000 in
theorem add_clo (pa pb : Nat) (aN aD bN bD : Int) (hA : R64 aN) (hB : R64 aD) (hC : R64 bN) (hD : R64 bD) (w : World) (BA : Blk w pa #[.int .i64 aN, .int .i64 aD] 24) (BB : Blk w pb #[.int .i64 bN, .int .i64 bD] 24) :
    Calls Try.prog 42 #[.pointer (some ⟨pa, 0, none⟩), .pointer (some ⟨pb, 0, none⟩)] w (RetSW (aN * bD + bN * aD) ((aD * bD).natAbs) w) := by
  have ca0 := BA.cell 0; have ca1 := BA.cell 1; have cb0 := BB.cell 0; have cb1 := BB.cell 1
  simp at ca0 ca1 cb0 cb1
  have la := BA.lt; have lb := BB.lt
  have a1 := hA.lo; have a2 := hA.hi; have b1 := hB.lo; have b2 := hB.hi; have c1 := hC.lo; have c2 := hC.hi; have d1 := hD.lo; have d2 := hD.hi
  have HL := hidden (show (aN * bD).natAbs + (bN * aD).natAbs < 340282366920938463463374607431768211456 by have := mul_lt hA hD; have := mul_lt hC hB; omega)
  have BX : Blk ((w.alloc (.cells #[.bool false, .int .u64 0, .int .u64 0] 49)).alloc (.cells #[.int .u64 0, .int .u64 0] 47)) w.heap.size #[.bool false, .int .u64 0, .int .u64 0] 49 := (Blk.new _ _ _).alloc _
  have BY : Blk ((w.alloc (.cells #[.bool false, .int .u64 0, .int .u64 0] 49)).alloc (.cells #[.int .u64 0, .int .u64 0] 47)) (w.heap.size + 1) #[.int .u64 0, .int .u64 0] 47 := Blk.second _ _ _ _
  have hfw := field_w
  go_enter Try.func42, Try.ntmps42
  go_upto_region 1 with (fail)
  have hbl : Below w.heap.size w ((w.alloc (.cells #[.bool false, .int .u64 0, .int .u64 0] 49)).alloc (.cells #[.int .u64 0, .int .u64 0] 47)) := bl_alloc (bl_alloc (bl_refl _) _) _
  generalize (w.alloc (.cells #[.bool false, .int .u64 0, .int .u64 0] 49)).alloc (.cells #[.int .u64 0, .int .u64 0] 47) = W0 at BX BY hbl ⊢
  go_region_held3 (fun w' => ∀ b o, b < w.heap.size → w'.cell? ⟨b, o, none⟩ = w.cell? ⟨b, o, none⟩)
    (exact (bcell (by repeat (first | (with_reducible first | assumption | exact bl_refl _ | apply bl_drew | apply bl_alloc) | (with_reducible refine bl_set ?_ _ _ (by omega) _)))).1)
    (first
      | (go_at_call_of 35 (Value.int .i64 aN); refine (mul_any _ _ (by omega) (by omega) (by omega) (by omega) _).mono ?_; rintro e w1 ⟨sb1, sh1, sl1, rfl, hs1, hb⟩; have hT : Below W0.heap.size W0 w1 := bl_then (by repeat (first | (with_reducible assumption) | exact bl_refl _ | apply bl_drew)) hb; have hbl1 := bl_then hbl hT; have EX := BX.after hT; have EY := BY.after hT; have x0 := EX.cell 0; have x1 := EX.cell 1; have x2 := EX.cell 2; have y0 := EY.cell 0; have y1 := EY.cell 1; have f0 := EX.frozen 0; have f1 := EX.frozen 1; have f2 := EX.frozen 2; have g0 := EY.frozen 0; have g1 := EY.frozen 1; simp at x0 x1 x2 y0 y1)
      | (go_at_call_of 35 (Value.int .i64 bN); refine (mul_any _ _ (by omega) (by omega) (by omega) (by omega) _).mono ?_; rintro e w1 ⟨sb2, sh2, sl2, rfl, hs2, hb⟩; have hT : Below W0.heap.size W0 w1 := bl_then (by repeat (first | (with_reducible assumption) | exact bl_refl _ | apply bl_drew)) hb; have hbl1 := bl_then hbl hT; have EX := BX.after hT; have EY := BY.after hT; have x0 := EX.cell 0; have x1 := EX.cell 1; have x2 := EX.cell 2; have y0 := EY.cell 0; have y1 := EY.cell 1; have f0 := EX.frozen 0; have f1 := EX.frozen 1; have f2 := EX.frozen 2; have g0 := EY.frozen 0; have g1 := EY.frozen 1; simp at x0 x1 x2 y0 y1)
      | (go_at_call 43; refine (sadd_any _ _ _ _ _ _ _ _ hs1 hs2 HL.out _).mono ?_; rintro e w1 ⟨sb3, sh3, sl3, rfl, hs3, hb⟩; have hT : Below W0.heap.size W0 w1 := bl_then (by repeat (first | (with_reducible assumption) | exact bl_refl _ | apply bl_drew)) hb; have hbl1 := bl_then hbl hT; have EX := BX.after hT; have EY := BY.after hT; have x0 := EX.cell 0; have x1 := EX.cell 1; have x2 := EX.cell 2; have y0 := EY.cell 0; have y1 := EY.cell 1; have f0 := EX.frozen 0; have f1 := EX.frozen 1; have f2 := EX.frozen 2; have g0 := EY.frozen 0; have g1 := EY.frozen 1; simp at x0 x1 x2 y0 y1)
      | (go_at_call 35; refine (mul_any _ _ (by omega) (by omega) (by omega) (by omega) _).mono ?_; rintro e w1 ⟨sb4, sh4, sl4, rfl, hs4, hb⟩; have hT : Below W0.heap.size W0 w1 := bl_then (by repeat (first | (with_reducible assumption) | exact bl_refl _ | apply bl_drew)) hb; have hbl1 := bl_then hbl hT; have EX := BX.after hT; have EY := BY.after hT; have x0 := EX.cell 0; have x1 := EX.cell 1; have x2 := EX.cell 2; have y0 := EY.cell 0; have y1 := EY.cell 1; have f0 := EX.frozen 0; have f1 := EX.frozen 1; have f2 := EX.frozen 2; have g0 := EY.frozen 0; have g1 := EY.frozen 1; simp at x0 x1 x2 y0 y1))
  go_wp2_with fail
  have FX := (EX.set3 (.bool sb3) (.int .u64 sh3) (.int .u64 sl3)).far2 (w.heap.size + 1) (by omega) (.int .u64 sh4) (.int .u64 sl4)
  have FY := (EY.far3 w.heap.size (by omega) (.bool sb3) (.int .u64 sh3) (.int .u64 sl3)).set2 (.int .u64 sh4) (.int .u64 sl4)
  have z0 := FX.cell 0; have z1 := FX.cell 1; have z2 := FX.cell 2; have z3 := FY.cell 0; have z4 := FY.cell 1
  simp at z0 z1 z2 z3 z4
  clear hfw x0 x1 x2 y0 y1
  simp [bodyPost, results, Try.results42, go_sem, z0, z1, z2, z3, z4]
  exact ⟨_, _, _, _, _, rfl, hs3, hs4.wd, by repeat (first | exact hbl1 | refine bl_set ?_ _ _ (by omega) _)⟩
set_option maxHeartbeats 1000000 in
theorem sub_clo (pa pb : Nat) (aN aD bN bD : Int) (hA : R64 aN) (hB : R64 aD) (hC : R64 bN) (hD : R64 bD) (hne : -9223372036854775808 < bN) (w : World) (BA : Blk w pa #[.int .i64 aN, .int .i64 aD] 24) (BB : Blk w pb #[.int .i64 bN, .int .i64 bD] 24) :
    Calls Try.prog 50 #[.pointer (some ⟨pa, 0, none⟩), .pointer (some ⟨pb, 0, none⟩)] w (RetSW (aN * bD + -bN * aD) ((aD * bD).natAbs) w) := by
  have ca0 := BA.cell 0; have ca1 := BA.cell 1; have cb0 := BB.cell 0; have cb1 := BB.cell 1
  simp at ca0 ca1 cb0 cb1
  have la := BA.lt; have lb := BB.lt
  have a1 := hA.lo; have a2 := hA.hi; have b1 := hB.lo; have b2 := hB.hi; have c1 := hC.lo; have c2 := hC.hi; have d1 := hD.lo; have d2 := hD.hi
  have HL := hidden (show (aN * bD).natAbs + (-bN * aD).natAbs < 340282366920938463463374607431768211456 by have := mul_lt hA hD; have := mul_lt (⟨by omega, by omega⟩ : R64 (-bN)) hB; omega)
  have BX : Blk ((w.alloc (.cells #[.bool false, .int .u64 0, .int .u64 0] 49)).alloc (.cells #[.int .u64 0, .int .u64 0] 47)) w.heap.size #[.bool false, .int .u64 0, .int .u64 0] 49 := (Blk.new _ _ _).alloc _
  have BY : Blk ((w.alloc (.cells #[.bool false, .int .u64 0, .int .u64 0] 49)).alloc (.cells #[.int .u64 0, .int .u64 0] 47)) (w.heap.size + 1) #[.int .u64 0, .int .u64 0] 47 := Blk.second _ _ _ _
  have rN : IntKind.i64.wrap (-bN) = -bN := by simp [IntKind.wrap_i64]; omega
  have hfw := field_w
  go_enter Try.func50, Try.ntmps50
  go_upto_region 1 with (fail)
  have hbl : Below w.heap.size w ((w.alloc (.cells #[.bool false, .int .u64 0, .int .u64 0] 49)).alloc (.cells #[.int .u64 0, .int .u64 0] 47)) := bl_alloc (bl_alloc (bl_refl _) _) _
  generalize (w.alloc (.cells #[.bool false, .int .u64 0, .int .u64 0] 49)).alloc (.cells #[.int .u64 0, .int .u64 0] 47) = W0 at BX BY hbl ⊢
  go_region_held3 (fun w' => ∀ b o, b < w.heap.size → w'.cell? ⟨b, o, none⟩ = w.cell? ⟨b, o, none⟩)
    (exact (bcell (by repeat (first | (with_reducible first | assumption | exact bl_refl _ | apply bl_drew | apply bl_alloc) | (with_reducible refine bl_set ?_ _ _ (by omega) _)))).1)
    (first
      | (go_at_call_of 35 (Value.int .i64 aN); refine (mul_any _ _ (by omega) (by omega) (by omega) (by omega) _).mono ?_; rintro e w1 ⟨sb1, sh1, sl1, rfl, hs1, hb⟩; have hT : Below W0.heap.size W0 w1 := bl_then (by repeat (first | (with_reducible assumption) | exact bl_refl _ | apply bl_drew)) hb; have hbl1 := bl_then hbl hT; have EX := BX.after hT; have EY := BY.after hT; have x0 := EX.cell 0; have x1 := EX.cell 1; have x2 := EX.cell 2; have y0 := EY.cell 0; have y1 := EY.cell 1; have f0 := EX.frozen 0; have f1 := EX.frozen 1; have f2 := EX.frozen 2; have g0 := EY.frozen 0; have g1 := EY.frozen 1; simp at x0 x1 x2 y0 y1)
      | (go_at_call_of 35 (Value.int .i64 (-bN)); refine (mul_any _ _ (by omega) (by omega) (by omega) (by omega) _).mono ?_; rintro e w1 ⟨sb2, sh2, sl2, rfl, hs2, hb⟩; have hT : Below W0.heap.size W0 w1 := bl_then (by repeat (first | (with_reducible assumption) | exact bl_refl _ | apply bl_drew)) hb; have hbl1 := bl_then hbl hT; have EX := BX.after hT; have EY := BY.after hT; have x0 := EX.cell 0; have x1 := EX.cell 1; have x2 := EX.cell 2; have y0 := EY.cell 0; have y1 := EY.cell 1; have f0 := EX.frozen 0; have f1 := EX.frozen 1; have f2 := EX.frozen 2; have g0 := EY.frozen 0; have g1 := EY.frozen 1; simp at x0 x1 x2 y0 y1)
      | (go_at_call 43; refine (sadd_any _ _ _ _ _ _ _ _ hs1 hs2 HL.out _).mono ?_; rintro e w1 ⟨sb3, sh3, sl3, rfl, hs3, hb⟩; have hT : Below W0.heap.size W0 w1 := bl_then (by repeat (first | (with_reducible assumption) | exact bl_refl _ | apply bl_drew)) hb; have hbl1 := bl_then hbl hT; have EX := BX.after hT; have EY := BY.after hT; have x0 := EX.cell 0; have x1 := EX.cell 1; have x2 := EX.cell 2; have y0 := EY.cell 0; have y1 := EY.cell 1; have f0 := EX.frozen 0; have f1 := EX.frozen 1; have f2 := EX.frozen 2; have g0 := EY.frozen 0; have g1 := EY.frozen 1; simp at x0 x1 x2 y0 y1)
      | (go_at_call 35; refine (mul_any _ _ (by omega) (by omega) (by omega) (by omega) _).mono ?_; rintro e w1 ⟨sb4, sh4, sl4, rfl, hs4, hb⟩; have hT : Below W0.heap.size W0 w1 := bl_then (by repeat (first | (with_reducible assumption) | exact bl_refl _ | apply bl_drew)) hb; have hbl1 := bl_then hbl hT; have EX := BX.after hT; have EY := BY.after hT; have x0 := EX.cell 0; have x1 := EX.cell 1; have x2 := EX.cell 2; have y0 := EY.cell 0; have y1 := EY.cell 1; have f0 := EX.frozen 0; have f1 := EX.frozen 1; have f2 := EX.frozen 2; have g0 := EY.frozen 0; have g1 := EY.frozen 1; simp at x0 x1 x2 y0 y1))
  go_wp2_with fail
  have FX := (EX.set3 (.bool sb3) (.int .u64 sh3) (.int .u64 sl3)).far2 (w.heap.size + 1) (by omega) (.int .u64 sh4) (.int .u64 sl4)
  have FY := (EY.far3 w.heap.size (by omega) (.bool sb3) (.int .u64 sh3) (.int .u64 sl3)).set2 (.int .u64 sh4) (.int .u64 sl4)
  have z0 := FX.cell 0; have z1 := FX.cell 1; have z2 := FX.cell 2; have z3 := FY.cell 0; have z4 := FY.cell 1
  simp at z0 z1 z2 z3 z4
  clear hfw x0 x1 x2 y0 y1
  simp [bodyPost, results, Try.results50, go_sem, z0, z1, z2, z3, z4]
  exact ⟨_, _, _, _, _, rfl, hs3, hs4.wd, by repeat (first | exact hbl1 | refine bl_set ?_ _ _ (by omega) _)⟩
set_option maxHeartbeats 1000000 in
theorem mul_clo (pa pb : Nat) (aN aD bN bD : Int) (hA : R64 aN) (hB : R64 aD) (hC : R64 bN) (hD : R64 bD) (w : World) (BA : Blk w pa #[.int .i64 aN, .int .i64 aD] 24) (BB : Blk w pb #[.int .i64 bN, .int .i64 bD] 24) :
    Calls Try.prog 44 #[.pointer (some ⟨pa, 0, none⟩), .pointer (some ⟨pb, 0, none⟩)] w (RetSW (aN * bN) ((aD * bD).natAbs) w) := by
  have ca0 := BA.cell 0; have ca1 := BA.cell 1; have cb0 := BB.cell 0; have cb1 := BB.cell 1
  simp at ca0 ca1 cb0 cb1
  have la := BA.lt; have lb := BB.lt
  have a1 := hA.lo; have a2 := hA.hi; have b1 := hB.lo; have b2 := hB.hi; have c1 := hC.lo; have c2 := hC.hi; have d1 := hD.lo; have d2 := hD.hi
  have BX : Blk ((w.alloc (.cells #[.bool false, .int .u64 0, .int .u64 0] 49)).alloc (.cells #[.int .u64 0, .int .u64 0] 47)) w.heap.size #[.bool false, .int .u64 0, .int .u64 0] 49 := (Blk.new _ _ _).alloc _
  have BY : Blk ((w.alloc (.cells #[.bool false, .int .u64 0, .int .u64 0] 49)).alloc (.cells #[.int .u64 0, .int .u64 0] 47)) (w.heap.size + 1) #[.int .u64 0, .int .u64 0] 47 := Blk.second _ _ _ _
  have hfw := field_w
  go_enter Try.func44, Try.ntmps44
  go_upto_region 1 with (fail)
  have hbl : Below w.heap.size w ((w.alloc (.cells #[.bool false, .int .u64 0, .int .u64 0] 49)).alloc (.cells #[.int .u64 0, .int .u64 0] 47)) := bl_alloc (bl_alloc (bl_refl _) _) _
  generalize (w.alloc (.cells #[.bool false, .int .u64 0, .int .u64 0] 49)).alloc (.cells #[.int .u64 0, .int .u64 0] 47) = W0 at BX BY hbl ⊢
  go_region_held3 (fun w' => ∀ b o, b < w.heap.size → w'.cell? ⟨b, o, none⟩ = w.cell? ⟨b, o, none⟩)
    (exact (bcell (by repeat (first | (with_reducible first | assumption | exact bl_refl _ | apply bl_drew | apply bl_alloc) | (with_reducible refine bl_set ?_ _ _ (by omega) _)))).1)
    (first
      | (go_at_call_of 35 (Value.int .i64 aN); refine (mul_any _ _ (by omega) (by omega) (by omega) (by omega) _).mono ?_; rintro e w1 ⟨sb1, sh1, sl1, rfl, hs1, hb⟩; have hT : Below W0.heap.size W0 w1 := bl_then (by repeat (first | (with_reducible assumption) | exact bl_refl _ | apply bl_drew)) hb; have hbl1 := bl_then hbl hT; have EX := BX.after hT; have EY := BY.after hT; have x0 := EX.cell 0; have x1 := EX.cell 1; have x2 := EX.cell 2; have y0 := EY.cell 0; have y1 := EY.cell 1; have f0 := EX.frozen 0; have f1 := EX.frozen 1; have f2 := EX.frozen 2; have g0 := EY.frozen 0; have g1 := EY.frozen 1; simp at x0 x1 x2 y0 y1)
      | (go_at_call_of 35 (Value.int .i64 aD); refine (mul_any _ _ (by omega) (by omega) (by omega) (by omega) _).mono ?_; rintro e w1 ⟨sb2, sh2, sl2, rfl, hs2, hb⟩; have hT : Below W0.heap.size W0 w1 := bl_then (by repeat (first | (with_reducible assumption) | exact bl_refl _ | apply bl_drew)) hb; have hbl1 := bl_then hbl hT; have EX := BX.after hT; have EY := BY.after hT; have x0 := EX.cell 0; have x1 := EX.cell 1; have x2 := EX.cell 2; have y0 := EY.cell 0; have y1 := EY.cell 1; have f0 := EX.frozen 0; have f1 := EX.frozen 1; have f2 := EX.frozen 2; have g0 := EY.frozen 0; have g1 := EY.frozen 1; simp at x0 x1 x2 y0 y1))
  go_wp2_with fail
  have FX := (EX.set3 (.bool sb1) (.int .u64 sh1) (.int .u64 sl1)).far2 (w.heap.size + 1) (by omega) (.int .u64 sh2) (.int .u64 sl2)
  have FY := (EY.far3 w.heap.size (by omega) (.bool sb1) (.int .u64 sh1) (.int .u64 sl1)).set2 (.int .u64 sh2) (.int .u64 sl2)
  have z0 := FX.cell 0; have z1 := FX.cell 1; have z2 := FX.cell 2; have z3 := FY.cell 0; have z4 := FY.cell 1
  simp at z0 z1 z2 z3 z4
  clear hfw x0 x1 x2 y0 y1
  simp [bodyPost, results, Try.results44, go_sem, z0, z1, z2, z3, z4]
  exact ⟨_, _, _, _, _, rfl, hs1, hs2.wd, by repeat (first | exact hbl1 | refine bl_set ?_ _ _ (by omega) _)⟩
end Go.Proofs.Ytpdbiofpoccjeaa
