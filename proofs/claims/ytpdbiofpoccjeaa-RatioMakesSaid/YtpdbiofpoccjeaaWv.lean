/- The walks over package ratio's both, Add, Sub, Mul, Div. -/
import Derived.Test.YtpdbiofpoccjeaaWu
namespace Go.Proofs.Ytpdbiofpoccjeaa
open Go.RowKit
/-- What a closure hands to told: the number matters only where there is something to part it by. -/
def RetSX (v : Int) (m : Nat) (w : World) (e : Ending) (w' : World) : Prop := ∃ v', (m ≠ 0 → v' = v) ∧ RetSW v' m w e w'
theorem told_zero (v v' : Int) : toldN v 0 = toldN v' 0 ∧ toldD v 0 = toldD v' 0 ∧ toldOk v 0 = toldOk v' 0 := by
  have h := toldOk_no (n := v) (d := 0) (by simp)
  have h' := toldOk_no (n := v') (d := 0) (by simp)
  exact ⟨by rw [h.2.1, h'.2.1], by rw [h.2.2, h'.2.2], by rw [h.1, h'.1]⟩
theorem told_same {v v' : Int} {m : Nat} (h : m ≠ 0 → v' = v) : toldN v' m = toldN v m ∧ toldD v' m = toldD v m ∧ toldOk v' m = toldOk v m := by
  by_cases hm : m = 0
  · subst hm; exact told_zero v' v
  · rw [h hm]; exact ⟨rfl, rfl, rfl⟩
theorem right_min {N D : Int} (hN : R64 N) (h : rightB N D = true) : -9223372036854775808 < N := by
  have h1 := (of_decide_eq_true h).2.1
  have := hN.lo
  omega
theorem both_no (k : FuncId) (cap : Array Value) (aN aD bN bD : Int) (hA : R64 aN) (hB : R64 aD) (hC : R64 bN) (hD : R64 bD) (hr : (rightB aN aD && rightB bN bD) = false) (w : World) :
    Calls Try.prog 41 #[.agg #[.int .i64 aN, .int .i64 aD], .agg #[.int .i64 bN, .int .i64 bD], .func (.func k) #[] cap] w (RetR 0 0 false w) := by
  cases ha : rightB aN aD with
  | false =>
    go_enter Try.func41, Try.ntmps41
    go_wp2_with fail
    refine (right_any aN aD hA hB _).mono ?_
    rw [ha]
    rintro e w1 ⟨rfl, hb1⟩
    have BR : Blk w1 (w.heap.size + 1 + 1) #[.int .i64 0, .int .i64 0] 24 := (Blk.made _ _ _ _ (by simp)).after hb1
    have hbl := bl_then (bl_alloc (bl_alloc (bl_alloc (bl_refl w) _) _) _) hb1
    have c0 := BR.cell 0; have c1 := BR.cell 1; have f0 := BR.frozen 0; have f1 := BR.frozen 1
    simp at c0 c1
    have E := BR.set2 (.int .i64 0) (.int .i64 0)
    have e0 := E.cell 0; have e1 := E.cell 1
    simp at e0 e1
    dsimp only
    repeat (first | go_big_skip | go_step)
    simp [bodyPost, results, Try.results41, go_sem, e0, e1]
    exact ⟨rfl, by repeat (first | exact hbl | refine bl_set ?_ _ _ (by omega) _)⟩
  | true =>
    have hb : rightB bN bD = false := by simpa [ha] using hr
    go_enter Try.func41, Try.ntmps41
    go_wp2_with fail
    refine (right_any aN aD hA hB _).mono ?_
    rw [ha]
    rintro e w1 ⟨rfl, hb1⟩
    have BB : Blk w1 (w.heap.size + 1) #[.int .i64 bN, .int .i64 bD] 24 := ((Blk.made _ _ _ _ (by simp)).alloc _).after hb1
    have BR : Blk w1 (w.heap.size + 1 + 1) #[.int .i64 0, .int .i64 0] 24 := (Blk.made _ _ _ _ (by simp)).after hb1
    have hbl := bl_then (bl_alloc (bl_alloc (bl_alloc (bl_refl w) _) _) _) hb1
    have d0 := BB.cell 0; have d1 := BB.cell 1
    simp at d0 d1
    dsimp only
    repeat (first | go_big_skip | go_step)
    refine (right_any bN bD hC hD _).mono ?_
    rw [hb]
    rintro e w2 ⟨rfl, hb2⟩
    replace BR := BR.after hb2
    replace hbl := bl_then hbl hb2
    have c0 := BR.cell 0; have c1 := BR.cell 1; have f0 := BR.frozen 0; have f1 := BR.frozen 1
    simp at c0 c1
    have E := BR.set2 (.int .i64 0) (.int .i64 0)
    have e0 := E.cell 0; have e1 := E.cell 1
    simp at e0 e1
    dsimp only
    repeat (first | go_big_skip | go_step)
    simp [bodyPost, results, Try.results41, go_sem, e0, e1]
    exact ⟨rfl, by repeat (first | exact hbl | refine bl_set ?_ _ _ (by omega) _)⟩
theorem both_yes (k : FuncId) (cap : Array Value) (aN aD bN bD v : Int) (m : Nat) (hA : R64 aN) (hB : R64 aD) (hC : R64 bN) (hD : R64 bD) (ha : rightB aN aD = true) (hb : rightB bN bD = true) (w : World)
    (hk : ∀ W, (callFunc k cap).run Try.prog W = .ok (.enter k cap) W) (hclo : ∀ W, Below w.heap.size w W → Calls Try.prog k cap W (RetSX v m W)) :
    Calls Try.prog 41 #[.agg #[.int .i64 aN, .int .i64 aD], .agg #[.int .i64 bN, .int .i64 bD], .func (.func k) #[] cap] w (RetT v m w) := by
  replace hclo := hidden hclo
  go_enter Try.func41, Try.ntmps41
  go_wp2_with fail
  refine (right_any aN aD hA hB _).mono ?_
  rw [ha]
  rintro e w1 ⟨rfl, hb1⟩
  have BB : Blk w1 (w.heap.size + 1) #[.int .i64 bN, .int .i64 bD] 24 := ((Blk.made _ _ _ _ (by simp)).alloc _).after hb1
  have BR : Blk w1 (w.heap.size + 1 + 1) #[.int .i64 0, .int .i64 0] 24 := (Blk.made _ _ _ _ (by simp)).after hb1
  have hbl := bl_then (bl_alloc (bl_alloc (bl_alloc (bl_refl w) _) _) _) hb1
  have d0 := BB.cell 0; have d1 := BB.cell 1
  simp at d0 d1
  dsimp only
  repeat (first | go_big_skip | go_step)
  refine (right_any bN bD hC hD _).mono ?_
  rw [hb]
  rintro e w2 ⟨rfl, hb2⟩
  replace BR := BR.after hb2
  replace hbl := bl_then hbl hb2
  clear hb1 hb2 BB d0 d1
  dsimp only
  repeat (first | go_big_skip | go_step)
  refine (hclo.out _ hbl).mono ?_
  rintro e w3 ⟨v', hv, sb, sh, sl, dh, dl, rfl, hs, hd, hb3⟩
  replace hv := hidden (told_same hv)
  replace BR := BR.after hb3
  replace hbl := bl_then hbl hb3
  clear hb3
  dsimp only
  repeat (first | go_big_skip | go_step)
  refine (told_any sb sh sl dh dl v' m hs hd _).mono ?_
  rintro e w4 ⟨rfl, hb4⟩
  replace BR := BR.after hb4
  replace hbl := bl_then hbl hb4
  clear hb4
  have c0 := BR.cell 0; have c1 := BR.cell 1; have f0 := BR.frozen 0; have f1 := BR.frozen 1
  simp at c0 c1
  have E := BR.set2 (.int .i64 (toldN v' m)) (.int .i64 (toldD v' m))
  have e0 := E.cell 0; have e1 := E.cell 1
  simp at e0 e1
  dsimp only
  repeat (first | go_big_skip | go_step)
  simp [bodyPost, results, Try.results41, go_sem, e0, e1]
  unfold RetT
  rw [← hv.out.1, ← hv.out.2.1, ← hv.out.2.2]
  exact ⟨rfl, by repeat (first | exact hbl | refine bl_set ?_ _ _ (by omega) _)⟩
/-- A ratio, or none, by two that must be right. -/
def opOk (aN aD bN bD v : Int) (m : Nat) : Bool := rightB aN aD && rightB bN bD && toldOk v m
def opN (aN aD bN bD v : Int) (m : Nat) : Int := if rightB aN aD && rightB bN bD then toldN v m else 0
def opD (aN aD bN bD v : Int) (m : Nat) : Int := if rightB aN aD && rightB bN bD then toldD v m else 0
def RetOp (aN aD bN bD v : Int) (m : Nat) (w : World) (e : Ending) (w' : World) : Prop := RetR (opN aN aD bN bD v m) (opD aN aD bN bD v m) (opOk aN aD bN bD v m) w e w'
theorem both_any (k : FuncId) (cap : Array Value) (aN aD bN bD v : Int) (m : Nat) (hA : R64 aN) (hB : R64 aD) (hC : R64 bN) (hD : R64 bD) (w : World)
    (hk : ∀ W, (callFunc k cap).run Try.prog W = .ok (.enter k cap) W) (hclo : rightB aN aD = true → rightB bN bD = true → ∀ W, Below w.heap.size w W → Calls Try.prog k cap W (RetSX v m W)) :
    Calls Try.prog 41 #[.agg #[.int .i64 aN, .int .i64 aD], .agg #[.int .i64 bN, .int .i64 bD], .func (.func k) #[] cap] w (RetOp aN aD bN bD v m w) := by
  by_cases h : (rightB aN aD && rightB bN bD) = true
  · obtain ⟨ha, hb⟩ := Bool.and_eq_true_iff.1 h
    unfold RetOp opN opD opOk
    simp only [h, if_true, Bool.true_and]
    exact both_yes k cap aN aD bN bD v m hA hB hC hD ha hb w hk (hclo ha hb)
  · have h' : (rightB aN aD && rightB bN bD) = false := by simpa using h
    unfold RetOp opN opD opOk
    simp only [h', Bool.false_eq_true, if_false, Bool.false_and]
    exact both_no k cap aN aD bN bD hA hB hC hD h' w
theorem add_any (aN aD bN bD : Int) (hA : R64 aN) (hB : R64 aD) (hC : R64 bN) (hD : R64 bD) (w : World) :
    Calls Try.prog 20 #[.agg #[.int .i64 aN, .int .i64 aD], .agg #[.int .i64 bN, .int .i64 bD]] w (RetOp aN aD bN bD (aN * bD + bN * aD) ((aD * bD).natAbs) w) := by
  have hmf : ∀ (fn : Fn) (first cap : Array Value) (w : World), (Instr.makeFunc fn first cap).run Try.prog w = .ok (.func fn first cap) w := fun _ _ _ _ => rfl
  have BA : Blk (((w.alloc (.cells #[.int .i64 aN, .int .i64 aD] 24)).alloc (.cells #[.int .i64 bN, .int .i64 bD] 24)).alloc (.cells #[.int .i64 0, .int .i64 0] 24)) w.heap.size #[.int .i64 aN, .int .i64 aD] 24 := ((Blk.new _ _ _).alloc _).alloc _
  have BB : Blk (((w.alloc (.cells #[.int .i64 aN, .int .i64 aD] 24)).alloc (.cells #[.int .i64 bN, .int .i64 bD] 24)).alloc (.cells #[.int .i64 0, .int .i64 0] 24)) (w.heap.size + 1) #[.int .i64 bN, .int .i64 bD] 24 := (Blk.second _ _ _ _).alloc _
  go_enter Try.func20, Try.ntmps20
  go_wp2_with fail
  refine (both_any 42 _ aN aD bN bD (aN * bD + bN * aD) ((aD * bD).natAbs) hA hB hC hD _ (fun W => enters_of Try.func42 (by kernel_rfl) rfl _ W) (fun ha hb W hW => ?clo)).mono ?_
  case clo => exact (add_clo _ _ aN aD bN bD hA hB hC hD W (BA.after hW) (BB.after hW)).mono fun _ _ h => ⟨_, fun _ => rfl, h⟩
  rintro e w1 ⟨rfl, hb1⟩
  have BR : Blk w1 (w.heap.size + 1 + 1) #[.int .i64 0, .int .i64 0] 24 := (Blk.made _ _ _ _ (by simp)).after hb1
  have hbl := bl_then (bl_alloc (bl_alloc (bl_alloc (bl_refl w) _) _) _) hb1
  clear hb1 BA BB hmf
  have c0 := BR.cell 0; have c1 := BR.cell 1; have f0 := BR.frozen 0; have f1 := BR.frozen 1
  simp at c0 c1
  have E := BR.set2 (.int .i64 (opN aN aD bN bD (aN * bD + bN * aD) ((aD * bD).natAbs))) (.int .i64 (opD aN aD bN bD (aN * bD + bN * aD) ((aD * bD).natAbs)))
  have e0 := E.cell 0; have e1 := E.cell 1
  simp at e0 e1
  dsimp only
  repeat (first | go_big_skip | go_step)
  simp [bodyPost, results, Try.results20, go_sem, e0, e1]
  exact ⟨rfl, by repeat (first | exact hbl | refine bl_set ?_ _ _ (by omega) _)⟩
theorem sub_any (aN aD bN bD : Int) (hA : R64 aN) (hB : R64 aD) (hC : R64 bN) (hD : R64 bD) (w : World) :
    Calls Try.prog 27 #[.agg #[.int .i64 aN, .int .i64 aD], .agg #[.int .i64 bN, .int .i64 bD]] w (RetOp aN aD bN bD (aN * bD + -bN * aD) ((aD * bD).natAbs) w) := by
  have hmf : ∀ (fn : Fn) (first cap : Array Value) (w : World), (Instr.makeFunc fn first cap).run Try.prog w = .ok (.func fn first cap) w := fun _ _ _ _ => rfl
  have BA : Blk (((w.alloc (.cells #[.int .i64 aN, .int .i64 aD] 24)).alloc (.cells #[.int .i64 bN, .int .i64 bD] 24)).alloc (.cells #[.int .i64 0, .int .i64 0] 24)) w.heap.size #[.int .i64 aN, .int .i64 aD] 24 := ((Blk.new _ _ _).alloc _).alloc _
  have BB : Blk (((w.alloc (.cells #[.int .i64 aN, .int .i64 aD] 24)).alloc (.cells #[.int .i64 bN, .int .i64 bD] 24)).alloc (.cells #[.int .i64 0, .int .i64 0] 24)) (w.heap.size + 1) #[.int .i64 bN, .int .i64 bD] 24 := (Blk.second _ _ _ _).alloc _
  go_enter Try.func27, Try.ntmps27
  go_wp2_with fail
  refine (both_any 50 _ aN aD bN bD (aN * bD + -bN * aD) ((aD * bD).natAbs) hA hB hC hD _ (fun W => enters_of Try.func50 (by kernel_rfl) rfl _ W) (fun ha hb W hW => ?clo)).mono ?_
  case clo => exact (sub_clo _ _ aN aD bN bD hA hB hC hD (right_min hC hb) W (BA.after hW) (BB.after hW)).mono fun _ _ h => ⟨_, fun _ => rfl, h⟩
  rintro e w1 ⟨rfl, hb1⟩
  have BR : Blk w1 (w.heap.size + 1 + 1) #[.int .i64 0, .int .i64 0] 24 := (Blk.made _ _ _ _ (by simp)).after hb1
  have hbl := bl_then (bl_alloc (bl_alloc (bl_alloc (bl_refl w) _) _) _) hb1
  clear hb1 BA BB hmf
  have c0 := BR.cell 0; have c1 := BR.cell 1; have f0 := BR.frozen 0; have f1 := BR.frozen 1
  simp at c0 c1
  have E := BR.set2 (.int .i64 (opN aN aD bN bD (aN * bD + -bN * aD) ((aD * bD).natAbs))) (.int .i64 (opD aN aD bN bD (aN * bD + -bN * aD) ((aD * bD).natAbs)))
  have e0 := E.cell 0; have e1 := E.cell 1
  simp at e0 e1
  dsimp only
  repeat (first | go_big_skip | go_step)
  simp [bodyPost, results, Try.results27, go_sem, e0, e1]
  exact ⟨rfl, by repeat (first | exact hbl | refine bl_set ?_ _ _ (by omega) _)⟩
theorem mulr_any (aN aD bN bD : Int) (hA : R64 aN) (hB : R64 aD) (hC : R64 bN) (hD : R64 bD) (w : World) :
    Calls Try.prog 21 #[.agg #[.int .i64 aN, .int .i64 aD], .agg #[.int .i64 bN, .int .i64 bD]] w (RetOp aN aD bN bD (aN * bN) ((aD * bD).natAbs) w) := by
  have hmf : ∀ (fn : Fn) (first cap : Array Value) (w : World), (Instr.makeFunc fn first cap).run Try.prog w = .ok (.func fn first cap) w := fun _ _ _ _ => rfl
  have BA : Blk (((w.alloc (.cells #[.int .i64 aN, .int .i64 aD] 24)).alloc (.cells #[.int .i64 bN, .int .i64 bD] 24)).alloc (.cells #[.int .i64 0, .int .i64 0] 24)) w.heap.size #[.int .i64 aN, .int .i64 aD] 24 := ((Blk.new _ _ _).alloc _).alloc _
  have BB : Blk (((w.alloc (.cells #[.int .i64 aN, .int .i64 aD] 24)).alloc (.cells #[.int .i64 bN, .int .i64 bD] 24)).alloc (.cells #[.int .i64 0, .int .i64 0] 24)) (w.heap.size + 1) #[.int .i64 bN, .int .i64 bD] 24 := (Blk.second _ _ _ _).alloc _
  go_enter Try.func21, Try.ntmps21
  go_wp2_with fail
  refine (both_any 44 _ aN aD bN bD (aN * bN) ((aD * bD).natAbs) hA hB hC hD _ (fun W => enters_of Try.func44 (by kernel_rfl) rfl _ W) (fun ha hb W hW => ?clo)).mono ?_
  case clo => exact (mul_clo _ _ aN aD bN bD hA hB hC hD W (BA.after hW) (BB.after hW)).mono fun _ _ h => ⟨_, fun _ => rfl, h⟩
  rintro e w1 ⟨rfl, hb1⟩
  have BR : Blk w1 (w.heap.size + 1 + 1) #[.int .i64 0, .int .i64 0] 24 := (Blk.made _ _ _ _ (by simp)).after hb1
  have hbl := bl_then (bl_alloc (bl_alloc (bl_alloc (bl_refl w) _) _) _) hb1
  clear hb1 BA BB hmf
  have c0 := BR.cell 0; have c1 := BR.cell 1; have f0 := BR.frozen 0; have f1 := BR.frozen 1
  simp at c0 c1
  have E := BR.set2 (.int .i64 (opN aN aD bN bD (aN * bN) ((aD * bD).natAbs))) (.int .i64 (opD aN aD bN bD (aN * bN) ((aD * bD).natAbs)))
  have e0 := E.cell 0; have e1 := E.cell 1
  simp at e0 e1
  dsimp only
  repeat (first | go_big_skip | go_step)
  simp [bodyPost, results, Try.results21, go_sem, e0, e1]
  exact ⟨rfl, by repeat (first | exact hbl | refine bl_set ?_ _ _ (by omega) _)⟩
/-- The number that Div parts. -/
def divV (aN aD bN bD : Int) : Int := if aD * bN < 0 then -(aN * bD) else aN * bD
theorem div_same {aN aD bN bD : Int} {c : Bool} (h1 : c = true → aD * bN ≤ 0) (h2 : c = false → 0 ≤ aD * bN) : (aD * bN).natAbs ≠ 0 → (if c then -(aN * bD) else aN * bD) = divV aN aD bN bD := by
  intro h
  unfold divV
  cases c
  · have := h2 rfl
    simp [show ¬ aD * bN < 0 by omega]
  · have := h1 rfl
    have h' : aD * bN < 0 := by omega
    simp [h']
theorem divr_any (aN aD bN bD : Int) (hA : R64 aN) (hB : R64 aD) (hC : R64 bN) (hD : R64 bD) (w : World) :
    Calls Try.prog 28 #[.agg #[.int .i64 aN, .int .i64 aD], .agg #[.int .i64 bN, .int .i64 bD]] w (RetOp aN aD bN bD (divV aN aD bN bD) ((aD * bN).natAbs) w) := by
  have hmf : ∀ (fn : Fn) (first cap : Array Value) (w : World), (Instr.makeFunc fn first cap).run Try.prog w = .ok (.func fn first cap) w := fun _ _ _ _ => rfl
  have BA : Blk (((w.alloc (.cells #[.int .i64 aN, .int .i64 aD] 24)).alloc (.cells #[.int .i64 bN, .int .i64 bD] 24)).alloc (.cells #[.int .i64 0, .int .i64 0] 24)) w.heap.size #[.int .i64 aN, .int .i64 aD] 24 := ((Blk.new _ _ _).alloc _).alloc _
  have BB : Blk (((w.alloc (.cells #[.int .i64 aN, .int .i64 aD] 24)).alloc (.cells #[.int .i64 bN, .int .i64 bD] 24)).alloc (.cells #[.int .i64 0, .int .i64 0] 24)) (w.heap.size + 1) #[.int .i64 bN, .int .i64 bD] 24 := (Blk.second _ _ _ _).alloc _
  go_enter Try.func28, Try.ntmps28
  go_wp2_with fail
  refine (both_any 51 _ aN aD bN bD (divV aN aD bN bD) ((aD * bN).natAbs) hA hB hC hD _ (fun W => enters_of Try.func51 (by kernel_rfl) rfl _ W) (fun ha hb W hW => ?clo)).mono ?_
  case clo => exact (div_clo _ _ aN aD bN bD hA hB hC hD W (BA.after hW) (BB.after hW)).mono fun _ _ ⟨c, h1, h2, h⟩ => ⟨_, div_same h1 h2, h⟩
  rintro e w1 ⟨rfl, hb1⟩
  have BR : Blk w1 (w.heap.size + 1 + 1) #[.int .i64 0, .int .i64 0] 24 := (Blk.made _ _ _ _ (by simp)).after hb1
  have hbl := bl_then (bl_alloc (bl_alloc (bl_alloc (bl_refl w) _) _) _) hb1
  clear hb1 BA BB hmf
  have c0 := BR.cell 0; have c1 := BR.cell 1; have f0 := BR.frozen 0; have f1 := BR.frozen 1
  simp at c0 c1
  have E := BR.set2 (.int .i64 (opN aN aD bN bD (divV aN aD bN bD) ((aD * bN).natAbs))) (.int .i64 (opD aN aD bN bD (divV aN aD bN bD) ((aD * bN).natAbs)))
  have e0 := E.cell 0; have e1 := E.cell 1
  simp at e0 e1
  dsimp only
  repeat (first | go_big_skip | go_step)
  simp [bodyPost, results, Try.results28, go_sem, e0, e1]
  exact ⟨rfl, by repeat (first | exact hbl | refine bl_set ?_ _ _ (by omega) _)⟩
end Go.Proofs.Ytpdbiofpoccjeaa
