/- The walk over package ratio's sum of numbers with a sign. -/
import Derived.Test.YtpdbiofpoccjeaaWa
namespace Go.Proofs.Ytpdbiofpoccjeaa
open Go.RowKit
theorem sg_same {b : Bool} {ah al bh bl rh rl x y : Int} (ha : Sg b ah al x) (hb : Sg b bh bl y) (h : Wd rh rl (x.natAbs + y.natAbs)) : Sg b rh rl (x + y) := by
  have a1 := ha.lo; have a2 := ha.hi; have b1 := hb.lo; have b2 := hb.hi
  cases b
  · have := a2 rfl; have := b2 rfl
    refine ⟨?_, (fun h => by cases h), fun _ => by omega⟩
    rwa [show (x + y).natAbs = x.natAbs + y.natAbs by omega]
  · have := a1 rfl; have := b1 rfl
    refine ⟨?_, fun _ => by omega, (fun h => by cases h)⟩
    rwa [show (x + y).natAbs = x.natAbs + y.natAbs by omega]
theorem sg_diff {b c : Bool} {ah al bh bl rh rl x y : Int} (ha : Sg b ah al x) (hb : Sg c bh bl y) (hbc : b ≠ c) (hxy : y.natAbs ≤ x.natAbs) (h : Wd rh rl (x.natAbs - y.natAbs)) : Sg b rh rl (x + y) := by
  have a1 := ha.lo; have a2 := ha.hi; have b1 := hb.lo; have b2 := hb.hi
  cases b <;> cases c
  · exact absurd rfl hbc
  · have := a2 rfl; have := b1 rfl
    refine ⟨?_, (fun h => by cases h), fun _ => by omega⟩
    rwa [show (x + y).natAbs = x.natAbs - y.natAbs by omega]
  · have := a1 rfl; have := b2 rfl
    refine ⟨?_, fun _ => by omega, (fun h => by cases h)⟩
    rwa [show (x + y).natAbs = x.natAbs - y.natAbs by omega]
  · exact absurd rfl hbc
theorem sadd_same (ab : Bool) (ah al bh bl : Int) (a b : Int) (ha : Sg ab ah al a) (hb : Sg ab bh bl b) (hs : a.natAbs + b.natAbs < 340282366920938463463374607431768211456) (w : World) :
    Calls Try.prog 43 #[.agg #[.bool ab, .int .u64 ah, .int .u64 al], .agg #[.bool ab, .int .u64 bh, .int .u64 bl]] w (RetS (a + b) w) := by
  have h0 : (ab == ab) = true := by simp
  have f0 : w.heap.size ≠ w.heap.size + 1 + 1 := by omega
  have f1 : w.heap.size + 1 ≠ w.heap.size + 1 + 1 := by omega
  go_enter Try.func43, Try.ntmps43
  go_wp2_with fail
  go_region_held3 (fun w' => w'.cell? ⟨w.heap.size, 0, none⟩ = some (.bool ab) ∧ w'.cell? ⟨w.heap.size, 1, none⟩ = some (.int .u64 ah) ∧ w'.cell? ⟨w.heap.size, 2, none⟩ = some (.int .u64 al) ∧ w'.cell? ⟨w.heap.size + 1, 0, none⟩ = some (.bool ab) ∧ w'.cell? ⟨w.heap.size + 1, 1, none⟩ = some (.int .u64 bh) ∧ w'.cell? ⟨w.heap.size + 1, 2, none⟩ = some (.int .u64 bl))
    (first | (simp [go_sem, World.cell?_alloc_past]; done) | (simp [cell_far f0, cell_far f1, hc, go_sem, World.cell?_alloc_past]; done))
    (first
      | (go_at_call 56; refine (plus_any ah al bh bl _ _ ha.wd hb.wd hs _).mono ?_; rintro e w1 ⟨rh, rl, rfl, hw, hb1⟩; obtain ⟨hc, hf⟩ := bcell hb1))
  have hz : w.heap.size + 1 + 1 < w1.heap.size := by have := hb1.size; simp at this; omega
  go_wp2
  simp [bodyPost, results, Try.results43, go_sem, hc]
  exact ⟨_, _, _, rfl, sg_same ha hb hw, by repeat (first | exact bl_refl _ | exact bl_then (by repeat (first | exact bl_refl _ | apply bl_alloc | apply bl_drew)) hb1 | refine bl_set ?_ _ _ (by omega) _ | apply bl_alloc | apply bl_drew)⟩
theorem cmpZ_ge {a b : Int} (h : b ≤ a) : decide (0 ≤ cmpZ a b) = true := by unfold cmpZ; (repeat' split) <;> simp <;> omega
theorem cmpZ_lt {a b : Int} (h : a < b) : decide (0 ≤ cmpZ a b) = false := by unfold cmpZ; (repeat' split) <;> simp <;> omega
theorem sadd_ge (ab bb : Bool) (ah al bh bl : Int) (a b : Int) (hne : (ab == bb) = false) (ha : Sg ab ah al a) (hb : Sg bb bh bl b) (hs : b.natAbs ≤ a.natAbs) (w : World) :
    Calls Try.prog 43 #[.agg #[.bool ab, .int .u64 ah, .int .u64 al], .agg #[.bool bb, .int .u64 bh, .int .u64 bl]] w (RetS (a + b) w) := by
  have f0 : w.heap.size ≠ w.heap.size + 1 + 1 := by omega
  have f1 : w.heap.size + 1 ≠ w.heap.size + 1 + 1 := by omega
  have H := cmpZ_ge (a := (a.natAbs : Int)) (b := (b.natAbs : Int)) (by omega)
  go_enter Try.func43, Try.ntmps43
  go_wp2_with fail
  refine (cmp_any ah al bh bl _ _ ha.wd hb.wd _).mono ?_
  rintro e w1 ⟨rfl, hb1⟩
  have B0 : Blk w1 w.heap.size #[.bool ab, .int .u64 ah, .int .u64 al] 49 := (((Blk.new _ _ _).alloc _).alloc _).after hb1
  have B1 : Blk w1 (w.heap.size + 1) #[.bool bb, .int .u64 bh, .int .u64 bl] 49 := ((Blk.made _ _ _ _ (by simp)).alloc _).after hb1
  have B2 : Blk w1 (w.heap.size + 1 + 1) #[.bool false, .int .u64 0, .int .u64 0] 49 := (Blk.made _ _ _ _ (by simp)).after hb1
  have hb1' := bl_then (bl_alloc (bl_alloc (bl_alloc (bl_refl w) _) _) _) hb1
  clear hb1
  go_wp2_with fail
  go_region_held3 (fun w' => w'.cell? ⟨w.heap.size, 0, none⟩ = some (.bool ab) ∧ w'.cell? ⟨w.heap.size, 1, none⟩ = some (.int .u64 ah) ∧ w'.cell? ⟨w.heap.size, 2, none⟩ = some (.int .u64 al) ∧ w'.cell? ⟨w.heap.size + 1, 0, none⟩ = some (.bool bb) ∧ w'.cell? ⟨w.heap.size + 1, 1, none⟩ = some (.int .u64 bh) ∧ w'.cell? ⟨w.heap.size + 1, 2, none⟩ = some (.int .u64 bl))
    (first
      | exact ⟨B0.cell 0, B0.cell 1, B0.cell 2, B1.cell 0, B1.cell 1, B1.cell 2⟩
      | exact ⟨C0.cell 0, C0.cell 1, C0.cell 2, C1.cell 0, C1.cell 1, C1.cell 2⟩
      | (have D0 := ((C0.far _ 0 f0 (.bool ab)).far _ 1 f0 (.int .u64 rh)).far _ 2 f0 (.int .u64 rl)
         have D1 := ((C1.far _ 0 f1 (.bool ab)).far _ 1 f1 (.int .u64 rh)).far _ 2 f1 (.int .u64 rl)
         exact ⟨D0.cell 0, D0.cell 1, D0.cell 2, D1.cell 0, D1.cell 1, D1.cell 2⟩))
    (first
      | (go_at_call 61; refine (less_any ah al bh bl _ _ ha.wd hb.wd (by omega) _).mono ?_; rintro e w2 ⟨rh, rl, rfl, hw, hb2⟩; have C0 := B0.drew.after hb2; have C1 := B1.drew.after hb2; have C2 := B2.drew.after hb2; have c20 := C2.cell 0; have c21 := C2.cell 1; have c22 := C2.cell 2; have f20 := C2.frozen 0; have f21 := C2.frozen 1; have f22 := C2.frozen 2))
  go_wp2
  have E2 := ((C2.set 0 (.bool ab)).set 1 (.int .u64 rh)).set 2 (.int .u64 rl)
  have e0 := E2.cell 0; have e1 := E2.cell 1; have e2 := E2.cell 2
  simp at e0 e1 e2
  simp [bodyPost, results, Try.results43, go_sem, e0, e1, e2]
  exact ⟨_, _, _, rfl, sg_diff ha hb (by simpa using hne) hs hw, by repeat (first | exact bl_then (bl_drew hb1') hb2 | refine bl_set ?_ _ _ (by omega) _)⟩
theorem sadd_lt (ab bb : Bool) (ah al bh bl : Int) (a b : Int) (hne : (ab == bb) = false) (ha : Sg ab ah al a) (hb : Sg bb bh bl b) (hs : a.natAbs < b.natAbs) (w : World) :
    Calls Try.prog 43 #[.agg #[.bool ab, .int .u64 ah, .int .u64 al], .agg #[.bool bb, .int .u64 bh, .int .u64 bl]] w (RetS (a + b) w) := by
  have f0 : w.heap.size ≠ w.heap.size + 1 + 1 := by omega
  have f1 : w.heap.size + 1 ≠ w.heap.size + 1 + 1 := by omega
  have H := cmpZ_lt (a := (a.natAbs : Int)) (b := (b.natAbs : Int)) (by omega)
  go_enter Try.func43, Try.ntmps43
  go_wp2_with fail
  refine (cmp_any ah al bh bl _ _ ha.wd hb.wd _).mono ?_
  rintro e w1 ⟨rfl, hb1⟩
  have B0 : Blk w1 w.heap.size #[.bool ab, .int .u64 ah, .int .u64 al] 49 := (((Blk.new _ _ _).alloc _).alloc _).after hb1
  have B1 : Blk w1 (w.heap.size + 1) #[.bool bb, .int .u64 bh, .int .u64 bl] 49 := ((Blk.made _ _ _ _ (by simp)).alloc _).after hb1
  have B2 : Blk w1 (w.heap.size + 1 + 1) #[.bool false, .int .u64 0, .int .u64 0] 49 := (Blk.made _ _ _ _ (by simp)).after hb1
  have hb1' := bl_then (bl_alloc (bl_alloc (bl_alloc (bl_refl w) _) _) _) hb1
  clear hb1
  go_wp2_with fail
  go_region_held3 (fun w' => w'.cell? ⟨w.heap.size, 0, none⟩ = some (.bool ab) ∧ w'.cell? ⟨w.heap.size, 1, none⟩ = some (.int .u64 ah) ∧ w'.cell? ⟨w.heap.size, 2, none⟩ = some (.int .u64 al) ∧ w'.cell? ⟨w.heap.size + 1, 0, none⟩ = some (.bool bb) ∧ w'.cell? ⟨w.heap.size + 1, 1, none⟩ = some (.int .u64 bh) ∧ w'.cell? ⟨w.heap.size + 1, 2, none⟩ = some (.int .u64 bl))
    (first
      | exact ⟨B0.cell 0, B0.cell 1, B0.cell 2, B1.cell 0, B1.cell 1, B1.cell 2⟩
      | exact ⟨C0.cell 0, C0.cell 1, C0.cell 2, C1.cell 0, C1.cell 1, C1.cell 2⟩
      | (have D0 := ((C0.far _ 0 f0 (.bool bb)).far _ 1 f0 (.int .u64 rh)).far _ 2 f0 (.int .u64 rl)
         have D1 := ((C1.far _ 0 f1 (.bool bb)).far _ 1 f1 (.int .u64 rh)).far _ 2 f1 (.int .u64 rl)
         exact ⟨D0.cell 0, D0.cell 1, D0.cell 2, D1.cell 0, D1.cell 1, D1.cell 2⟩))
    (first
      | (go_at_call 61; refine (less_any bh bl ah al _ _ hb.wd ha.wd (by omega) _).mono ?_; rintro e w2 ⟨rh, rl, rfl, hw, hb2⟩; have C0 := B0.drew.after hb2; have C1 := B1.drew.after hb2; have C2 := B2.drew.after hb2; have c20 := C2.cell 0; have c21 := C2.cell 1; have c22 := C2.cell 2; have f20 := C2.frozen 0; have f21 := C2.frozen 1; have f22 := C2.frozen 2))
  go_wp2
  have E2 := ((C2.set 0 (.bool bb)).set 1 (.int .u64 rh)).set 2 (.int .u64 rl)
  have e0 := E2.cell 0; have e1 := E2.cell 1; have e2 := E2.cell 2
  simp at e0 e1 e2
  simp [bodyPost, results, Try.results43, go_sem, e0, e1, e2]
  exact ⟨_, _, _, rfl, (Int.add_comm b a) ▸ sg_diff hb ha (by simpa using fun h => (by simpa using hne : ¬ ab = bb) h.symm) (by omega) hw, by repeat (first | exact bl_then (bl_drew hb1') hb2 | refine bl_set ?_ _ _ (by omega) _)⟩
theorem sadd_any (ab bb : Bool) (ah al bh bl : Int) (a b : Int) (ha : Sg ab ah al a) (hb : Sg bb bh bl b) (hs : a.natAbs + b.natAbs < 340282366920938463463374607431768211456) (w : World) :
    Calls Try.prog 43 #[.agg #[.bool ab, .int .u64 ah, .int .u64 al], .agg #[.bool bb, .int .u64 bh, .int .u64 bl]] w (RetS (a + b) w) := by
  by_cases h : ab = bb
  · subst h
    exact sadd_same ab ah al bh bl a b ha hb hs w
  · have h' : (ab == bb) = false := by simpa using h
    by_cases h2 : b.natAbs ≤ a.natAbs
    · exact sadd_ge ab bb ah al bh bl a b h' ha hb h2 w
    · exact sadd_lt ab bb ah al bh bl a b h' ha hb (by omega) w
end Go.Proofs.Ytpdbiofpoccjeaa
