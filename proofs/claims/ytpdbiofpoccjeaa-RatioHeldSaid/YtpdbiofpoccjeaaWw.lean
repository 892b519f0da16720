/- The walks over package ratio's Make, Cmp. -/
import Derived.Test.YtpdbiofpoccjeaaWv
namespace Go.Proofs.Ytpdbiofpoccjeaa
open Go.RowKit
/-- The number that Make hands to told: the second one's sign goes over. -/
def makeV (n d : Int) : Int := if d < 0 then -n else n
theorem make_sg {b : Bool} {h l n d : Int} (H : Sg b h l n) : Sg (!decide (n < 0) == decide (d < 0)) h l (makeV n d) := by
  obtain ⟨h1, h2, h3⟩ := H
  unfold makeV
  by_cases hd : d < 0 <;> by_cases hn : n < 0 <;> simp [hd, hn]
  all_goals refine ⟨by simpa using h1, fun h => ?_, fun h => ?_⟩ <;> first | omega | (simp at h)
set_option maxRecDepth 10000 in
theorem make_any (n d : Int) (hn : R64 n) (hd : R64 d) (w : World) : Calls Try.prog 14 #[.int .i64 n, .int .i64 d] w (RetT (makeV n d) d.natAbs w) := by
  go_enter Try.func14, Try.ntmps14
  go_wp2_with fail
  refine (of_any n hn.lo hn.hi _).mono ?_
  rintro e w1 ⟨b, h, l, rfl, hs, hb1⟩
  replace hs := hidden hs
  have BR : Blk w1 w.heap.size #[.int .i64 0, .int .i64 0] 24 := (Blk.new _ _ _).after hb1
  have hbl := bl_then (bl_alloc (bl_refl w) _) hb1
  have lt1 := BR.lt
  have BX : Blk (w1.alloc (.cells #[.bool (!decide (n < 0) == decide (d < 0)), .int .u64 h, .int .u64 l] 49)) w1.heap.size #[.bool (!decide (n < 0) == decide (d < 0)), .int .u64 h, .int .u64 l] 49 := Blk.new _ _ _
  replace BR := BR.alloc (.cells #[.bool (!decide (n < 0) == decide (d < 0)), .int .u64 h, .int .u64 l] 49)
  replace hbl := bl_alloc hbl (.cells #[.bool (!decide (n < 0) == decide (d < 0)), .int .u64 h, .int .u64 l] 49)
  have hs' := hidden (make_sg (d := d) hs.out)
  clear hs hb1
  have d1 := hd.lo; have d2 := hd.hi
  dsimp only
  go_upto_region 3 with (fail)
  generalize (!decide (n < 0) == decide (d < 0)) = c at BX BR hbl hs' ⊢
  generalize w1.alloc (.cells #[.bool c, .int .u64 h, .int .u64 l] 49) = W0 at BX BR hbl ⊢
  have x0 := BX.cell 0; have x1 := BX.cell 1; have x2 := BX.cell 2
  simp at x0 x1 x2
  have lX := BX.lt
  go_region_held3 (fun w' => ∀ o, w'.cell? ⟨w1.heap.size, o, none⟩ = W0.cell? ⟨w1.heap.size, o, none⟩)
    (exact fun o => by repeat (first | (with_reducible rfl) | (rw [cell_far (by omega)]) | exact (bcell (by repeat (first | (with_reducible first | assumption | exact bl_refl _ | apply bl_drew | apply bl_alloc)))).1 _ o (by omega)))
    (first
      | (go_at_call 32; refine (mag_any _ (by omega) (by omega) _).mono ?_; rintro e w2 ⟨rfl, hb2⟩; have hT : Below W0.heap.size W0 w2 := bl_then (by repeat (first | (with_reducible assumption) | exact bl_refl _ | apply bl_drew)) hb2)
      | (go_at_call 31; refine (told_any _ _ _ _ _ _ d.natAbs hs'.out (Wd.small _ (by omega)) _).mono ?_; rintro e w3 ⟨rfl, hb3⟩; have hT3 : Below W0.heap.size W0 w3 := bl_then (by repeat (first | (with_reducible assumption) | exact bl_refl _ | apply bl_drew)) hb3; have ER := BR.after hT3; have hbl3 := bl_then hbl hT3; have r0 := ER.cell 0; have r1 := ER.cell 1; have f0 := ER.frozen 0; have f1 := ER.frozen 1; simp at r0 r1))
  go_wp2_with fail
  have E := ER.set2 (.int .i64 (toldN (makeV n d) d.natAbs)) (.int .i64 (toldD (makeV n d) d.natAbs))
  have e0 := E.cell 0; have e1 := E.cell 1
  simp at e0 e1
  simp [bodyPost, results, Try.results14, go_sem, e0, e1]
  exact ⟨rfl, by repeat (first | exact hbl3 | refine bl_set ?_ _ _ (by omega) _)⟩
/-- Which of two is the lesser. -/
def sgn (x : Int) : Int := if x = 0 then 0 else if x < 0 then -1 else 1
def cmpR (aN aD bN bD : Int) : Int := if rightB aN aD && rightB bN bD then sgn (aN * bD + -bN * aD) else 0
theorem cmp_no (aN aD bN bD : Int) (hA : R64 aN) (hB : R64 aD) (hC : R64 bN) (hD : R64 bD) (hr : (rightB aN aD && rightB bN bD) = false) (w : World) :
    Calls Try.prog 22 #[.agg #[.int .i64 aN, .int .i64 aD], .agg #[.int .i64 bN, .int .i64 bD]] w (RetI 0 w) := by
  cases ha : rightB aN aD with
  | false =>
    go_enter Try.func22, Try.ntmps22
    go_wp2_with fail
    refine (right_any aN aD hA hB _).mono ?_
    rw [ha]
    rintro e w1 ⟨rfl, hb1⟩
    have hbl := bl_then (bl_alloc (bl_alloc (bl_refl w) _) _) hb1
    dsimp only
    repeat (first | go_big_skip | go_step)
    simp [bodyPost, results, Try.results22, go_sem]
    exact ⟨rfl, hbl⟩
  | true =>
    have hb : rightB bN bD = false := by simpa [ha] using hr
    go_enter Try.func22, Try.ntmps22
    go_wp2_with fail
    refine (right_any aN aD hA hB _).mono ?_
    rw [ha]
    rintro e w1 ⟨rfl, hb1⟩
    have BB : Blk w1 (w.heap.size + 1) #[.int .i64 bN, .int .i64 bD] 24 := (Blk.made _ _ _ _ (by simp)).after hb1
    have hbl := bl_then (bl_alloc (bl_alloc (bl_refl w) _) _) hb1
    have d0 := BB.cell 0; have d1 := BB.cell 1
    simp at d0 d1
    dsimp only
    repeat (first | go_big_skip | go_step)
    refine (right_any bN bD hC hD _).mono ?_
    rw [hb]
    rintro e w2 ⟨rfl, hb2⟩
    replace hbl := bl_then hbl hb2
    dsimp only
    repeat (first | go_big_skip | go_step)
    simp [bodyPost, results, Try.results22, go_sem]
    exact ⟨rfl, hbl⟩
end Go.Proofs.Ytpdbiofpoccjeaa
