/- The walks over the reference's Of, Neg, Plus. -/
import Derived.Test.YtpdbiofpoccjeaaZe
namespace Go.Proofs.Ytpdbiofpoccjeaa.Ref
open Go.RowKit
theorem Nm.sg_eq {b : Bool} {l : List Nat} {n : Int} (h : Nm b l n) : Proofs.Ytpdbiofpoccjeaa.Ref.sgd b (Proofs.Ytpdbiofpoccjeaa.Ref.val l) = n := by
  have h1 := h.val; have h2 := h.sg
  unfold Proofs.Ytpdbiofpoccjeaa.Ref.sgd
  by_cases hn : n < 0
  · simp [h2, hn]; omega
  · simp [h2, hn]; omega
theorem Nm.neg {b : Bool} {l : List Nat} {n : Int} (h : Nm b l n) : Proofs.Ytpdbiofpoccjeaa.Ref.sgd (!b) (Proofs.Ytpdbiofpoccjeaa.Ref.val l) = -n := by
  rw [← h.sg_eq]
  unfold Proofs.Ytpdbiofpoccjeaa.Ref.sgd
  cases b <;> simp
theorem RetN.to {n m : Int} (h : n = m) {w : World} {e : Ending} {w' : World} (r : RetN n w e w') : RetN m w e w' := h ▸ r
theorem neg_any (b : Bool) (v : Value) (l : List Nat) (n : Int) (w : World) (hl : l.length ≤ 100000) (h : Rd w v l) (hn : Nm b l n) :
    Calls Try.prog 38 #[.agg #[.bool b, v]] w (RetN (-n) w) := by
  obtain ⟨A, c, rfl⟩ := h.sl
  have HR := hidden h; have HN := hidden hn
  clear h hn
  go_enter Try.func38, Try.ntmps38
  go_wp2_with fail
  refine (whole_any (!b) _ l _ (by omega) HN.out.dg ((HR.out.alloc _).alloc _)).mono ?_
  rintro e w1 ⟨b1, v1, l1, rfl, hr1, hn1, hb1⟩
  obtain ⟨A1, c1, rfl⟩ := hr1.sl
  have BR : Blk w1 (w.heap.size + 1) #[.bool false, .slice none 0 0] 56 := (Blk.made _ _ _ _ (by simp)).after hb1
  have hbl := bl_then (bl_alloc (bl_alloc (bl_refl w) _) _) hb1
  have r0 := BR.cell 0; have r1 := BR.cell 1; have f0 := BR.frozen 0; have f1 := BR.frozen 1
  simp at r0 r1
  replace hr1 := hidden hr1; replace hn1 := hidden hn1
  clear hb1
  go_wp2
  simp [bodyPost, results, Try.results38, go_sem, r0, r1]
  exact ⟨_, _, _, rfl, hr1.out.set2 BR (by decide) _ _, HN.out.neg ▸ hn1.out, bl_set (bl_set hbl _ _ (by omega) _) _ _ (by omega) _⟩
/-! ### Plus -/
theorem plus_same {b : Bool} {l k o : List Nat} {x y : Int} (hx : Nm b l x) (hy : Nm b k y) (h : val o = val l + val k) : sgd b (val o) = x + y := by
  rw [← hx.sg_eq, ← hy.sg_eq, h]
  unfold sgd
  cases b <;> simp <;> omega
theorem plus_diff {b c : Bool} {l k o : List Nat} {x y : Int} (hx : Nm b l x) (hy : Nm c k y) (hbc : (b == c) = false) (h : val o + val k = val l) : sgd b (val o) = x + y := by
  rw [← hx.sg_eq, ← hy.sg_eq]
  unfold sgd
  cases b <;> cases c <;> simp at hbc ⊢ <;> omega
theorem plus_flip {b c : Bool} {l k o : List Nat} {x y : Int} (hx : Nm b l x) (hy : Nm c k y) (hbc : (b == c) = false) (h : val o + val l = val k) : sgd c (val o) = x + y := by
  rw [Int.add_comm]
  exact plus_diff hy hx (by cases b <;> cases c <;> simp_all) h
set_option maxHeartbeats 1000000 in
theorem Plus_same (b : Bool) (v u : Value) (l k : List Nat) (x y : Int) (w : World) (hl : l.length ≤ 100000) (hk : k.length ≤ 100000) (rv : Rd w v l) (ru : Rd w u k) (hx : Nm b l x) (hy : Nm b k y) :
    Calls Try.prog 46 #[.agg #[.bool b, v], .agg #[.bool b, u]] w (RetN (x + y) w) := by
  obtain ⟨A, c, rfl⟩ := rv.sl
  obtain ⟨B, d, rfl⟩ := ru.sl
  have RV := hidden rv; have RU := hidden ru; have HX := hidden hx; have HY := hidden hy
  clear rv ru hx hy
  have h0 : (b == b) = true := by simp
  go_enter Try.func46, Try.ntmps46
  go_wp2_with fail
  have g0 : w.heap.size ≠ w.heap.size + 1 + 1 := by omega
  have g1 : w.heap.size + 1 ≠ w.heap.size + 1 + 1 := by omega
  go_region_held3 (fun w' => w'.cell? ⟨w.heap.size, 0, none⟩ = some (.bool b) ∧ w'.cell? ⟨w.heap.size, 1, none⟩ = some (.slice A l.length c) ∧ w'.cell? ⟨w.heap.size + 1, 0, none⟩ = some (.bool b) ∧ w'.cell? ⟨w.heap.size + 1, 1, none⟩ = some (.slice B k.length d))
    (first
      | (simp [go_sem, World.cell?_alloc_past]; done)
      | exact ⟨(D0.far2 _ g0 _ _).cell 0, (D0.far2 _ g0 _ _).cell 1, (D1.far2 _ g1 _ _).cell 0, (D1.far2 _ g1 _ _).cell 1⟩
      | exact ⟨D0.cell 0, D0.cell 1, D1.cell 0, D1.cell 1⟩
      | exact ⟨C0.cell 0, C0.cell 1, C1.cell 0, C1.cell 1⟩)
    (first
      | (go_at_call 62; refine (plus_any _ _ l k _ HX.out.dg HY.out.dg hl hk ((((RV.out.alloc _).alloc _).alloc _).drew) ((((RU.out.alloc _).alloc _).alloc _).drew)).mono ?_; rintro e w1 ⟨v1, l1, rfl, hr1, hl1, hb1⟩; obtain ⟨A1, c1, rfl⟩ := hr1.sl; have hbl := bl_then (bl_drew (bl_alloc (bl_alloc (bl_alloc (bl_refl w) _) _) _)) hb1; have C0 : Blk w1 w.heap.size #[.bool b, .slice A l.length c] 56 := (((Blk.new _ _ _).alloc _).alloc _).drew.after hb1; have C1 : Blk w1 (w.heap.size + 1) #[.bool b, .slice B k.length d] 56 := ((Blk.made _ _ _ _ (by simp)).alloc _).drew.after hb1; have C2 : Blk w1 (w.heap.size + 1 + 1) #[.bool false, .slice none 0 0] 56 := (Blk.made _ _ _ _ (by simp)).drew.after hb1; replace hr1 := hidden hr1; replace hl1 := hidden hl1; clear hb1)
      | (go_at_call 54; refine (whole_any _ _ l1 _ (by have := hl1.out.2.1; omega) hl1.out.1 hr1.out).mono ?_; rintro e w2 ⟨b2, v2, l2, rfl, hr2, hn2, hb2⟩; obtain ⟨A2, c2, rfl⟩ := hr2.sl; have hbl2 := bl_then hbl hb2; have D0 := C0.after hb2; have D1 := C1.after hb2; have D2 := C2.after hb2; have r0 := D2.cell 0; have r1 := D2.cell 1; have f0 := D2.frozen 0; have f1 := D2.frozen 1; simp at r0 r1; replace hr2 := hidden hr2; replace hn2 := hidden hn2; clear hb2))
  all_goals
    go_wp2
    simp [bodyPost, results, Try.results46, go_sem, r0, r1]
    exact ⟨_, _, _, rfl, hr2.out.set2 D2 (by decide) _ _, plus_same HX.out HY.out hl1.out.2.2 ▸ hn2.out, bl_set (bl_set hbl2 _ _ (by omega) _) _ _ (by omega) _⟩

set_option maxHeartbeats 1000000 in
theorem Plus_ge (a b : Bool) (v u : Value) (l k : List Nat) (x y : Int) (w : World) (hl : l.length ≤ 100000) (hk : k.length ≤ 100000) (rv : Rd w v l) (ru : Rd w u k) (hx : Nm a l x) (hy : Nm b k y) (hne : (a == b) = false) (hle : val k ≤ val l) :
    Calls Try.prog 46 #[.agg #[.bool a, v], .agg #[.bool b, u]] w (RetN (x + y) w) := by
  obtain ⟨A, c, rfl⟩ := rv.sl
  obtain ⟨B, d, rfl⟩ := ru.sl
  have RV := hidden rv; have RU := hidden ru; have HX := hidden hx; have HY := hidden hy
  clear rv ru hx hy
  have g0 : w.heap.size ≠ w.heap.size + 1 + 1 := by omega
  have g1 : w.heap.size + 1 ≠ w.heap.size + 1 + 1 := by omega
  go_enter Try.func46, Try.ntmps46
  go_wp2_with fail
  refine (compare_any _ _ l k _ HX.out.dg HY.out.dg (by omega) (by omega) (((RV.out.alloc _).alloc _).alloc _) (((RU.out.alloc _).alloc _).alloc _)).mono ?_
  rintro e w' ⟨q, rfl, hq, rfl⟩
  have eq : decide (0 ≤ q) = true := by simp; omega
  clear hq
  go_wp2_with fail
  go_region_held3 (fun w' => w'.cell? ⟨w.heap.size, 0, none⟩ = some (.bool a) ∧ w'.cell? ⟨w.heap.size, 1, none⟩ = some (.slice A l.length c) ∧ w'.cell? ⟨w.heap.size + 1, 0, none⟩ = some (.bool b) ∧ w'.cell? ⟨w.heap.size + 1, 1, none⟩ = some (.slice B k.length d))
    (first
      | (simp [go_sem, World.cell?_alloc_past]; done)
      | exact ⟨(D0.far2 _ g0 _ _).cell 0, (D0.far2 _ g0 _ _).cell 1, (D1.far2 _ g1 _ _).cell 0, (D1.far2 _ g1 _ _).cell 1⟩
      | exact ⟨D0.cell 0, D0.cell 1, D1.cell 0, D1.cell 1⟩
      | exact ⟨C0.cell 0, C0.cell 1, C1.cell 0, C1.cell 1⟩)
    (first
      | (go_at_call 64; refine (less_any _ _ l k _ HX.out.dg HY.out.dg (by omega) (by omega) (by omega) ((((RV.out.alloc _).alloc _).alloc _).drew) ((((RU.out.alloc _).alloc _).alloc _).drew)).mono ?_; rintro e w1 ⟨v1, l1, rfl, hr1, hl1, hb1⟩; obtain ⟨A1, c1, rfl⟩ := hr1.sl; have hbl := bl_then (bl_drew (bl_alloc (bl_alloc (bl_alloc (bl_refl w) _) _) _)) hb1; have C0 : Blk w1 w.heap.size #[.bool a, .slice A l.length c] 56 := (((Blk.new _ _ _).alloc _).alloc _).drew.after hb1; have C1 : Blk w1 (w.heap.size + 1) #[.bool b, .slice B k.length d] 56 := ((Blk.made _ _ _ _ (by simp)).alloc _).drew.after hb1; have C2 : Blk w1 (w.heap.size + 1 + 1) #[.bool false, .slice none 0 0] 56 := (Blk.made _ _ _ _ (by simp)).drew.after hb1; replace hr1 := hidden hr1; replace hl1 := hidden hl1; clear hb1)
      | (go_at_call 54; refine (whole_any _ _ l1 _ (by have := hl1.out.2.1; omega) hl1.out.1 hr1.out).mono ?_; rintro e w2 ⟨b2, v2, l2, rfl, hr2, hn2, hb2⟩; obtain ⟨A2, c2, rfl⟩ := hr2.sl; have hbl2 := bl_then hbl hb2; have D0 := C0.after hb2; have D1 := C1.after hb2; have D2 := C2.after hb2; have r0 := D2.cell 0; have r1 := D2.cell 1; have f0 := D2.frozen 0; have f1 := D2.frozen 1; simp at r0 r1; replace hr2 := hidden hr2; replace hn2 := hidden hn2; clear hb2))
  all_goals
    go_wp2
    simp [bodyPost, results, Try.results46, go_sem, r0, r1]
    exact ⟨_, _, _, rfl, hr2.out.set2 D2 (by decide) _ _, plus_diff HX.out HY.out hne hl1.out.2.2 ▸ hn2.out, bl_set (bl_set hbl2 _ _ (by omega) _) _ _ (by omega) _⟩

set_option maxHeartbeats 1000000 in
theorem Plus_lt (a b : Bool) (v u : Value) (l k : List Nat) (x y : Int) (w : World) (hl : l.length ≤ 100000) (hk : k.length ≤ 100000) (rv : Rd w v l) (ru : Rd w u k) (hx : Nm a l x) (hy : Nm b k y) (hne : (a == b) = false) (hle : val l < val k) :
    Calls Try.prog 46 #[.agg #[.bool a, v], .agg #[.bool b, u]] w (RetN (x + y) w) := by
  obtain ⟨A, c, rfl⟩ := rv.sl
  obtain ⟨B, d, rfl⟩ := ru.sl
  have RV := hidden rv; have RU := hidden ru; have HX := hidden hx; have HY := hidden hy
  clear rv ru hx hy
  have g0 : w.heap.size ≠ w.heap.size + 1 + 1 := by omega
  have g1 : w.heap.size + 1 ≠ w.heap.size + 1 + 1 := by omega
  go_enter Try.func46, Try.ntmps46
  go_wp2_with fail
  refine (compare_any _ _ l k _ HX.out.dg HY.out.dg (by omega) (by omega) (((RV.out.alloc _).alloc _).alloc _) (((RU.out.alloc _).alloc _).alloc _)).mono ?_
  rintro e w' ⟨q, rfl, hq, rfl⟩
  have eq : decide (0 ≤ q) = false := by simp; omega
  clear hq
  go_wp2_with fail
  go_region_held3 (fun w' => w'.cell? ⟨w.heap.size, 0, none⟩ = some (.bool a) ∧ w'.cell? ⟨w.heap.size, 1, none⟩ = some (.slice A l.length c) ∧ w'.cell? ⟨w.heap.size + 1, 0, none⟩ = some (.bool b) ∧ w'.cell? ⟨w.heap.size + 1, 1, none⟩ = some (.slice B k.length d))
    (first
      | (simp [go_sem, World.cell?_alloc_past]; done)
      | exact ⟨(D0.far2 _ g0 _ _).cell 0, (D0.far2 _ g0 _ _).cell 1, (D1.far2 _ g1 _ _).cell 0, (D1.far2 _ g1 _ _).cell 1⟩
      | exact ⟨D0.cell 0, D0.cell 1, D1.cell 0, D1.cell 1⟩
      | exact ⟨C0.cell 0, C0.cell 1, C1.cell 0, C1.cell 1⟩)
    (first
      | (go_at_call 64; refine (less_any _ _ k l _ HY.out.dg HX.out.dg (by omega) (by omega) (by omega) ((((RU.out.alloc _).alloc _).alloc _).drew) ((((RV.out.alloc _).alloc _).alloc _).drew)).mono ?_; rintro e w1 ⟨v1, l1, rfl, hr1, hl1, hb1⟩; obtain ⟨A1, c1, rfl⟩ := hr1.sl; have hbl := bl_then (bl_drew (bl_alloc (bl_alloc (bl_alloc (bl_refl w) _) _) _)) hb1; have C0 : Blk w1 w.heap.size #[.bool a, .slice A l.length c] 56 := (((Blk.new _ _ _).alloc _).alloc _).drew.after hb1; have C1 : Blk w1 (w.heap.size + 1) #[.bool b, .slice B k.length d] 56 := ((Blk.made _ _ _ _ (by simp)).alloc _).drew.after hb1; have C2 : Blk w1 (w.heap.size + 1 + 1) #[.bool false, .slice none 0 0] 56 := (Blk.made _ _ _ _ (by simp)).drew.after hb1; replace hr1 := hidden hr1; replace hl1 := hidden hl1; clear hb1)
      | (go_at_call 54; refine (whole_any _ _ l1 _ (by have := hl1.out.2.1; omega) hl1.out.1 hr1.out).mono ?_; rintro e w2 ⟨b2, v2, l2, rfl, hr2, hn2, hb2⟩; obtain ⟨A2, c2, rfl⟩ := hr2.sl; have hbl2 := bl_then hbl hb2; have D0 := C0.after hb2; have D1 := C1.after hb2; have D2 := C2.after hb2; have r0 := D2.cell 0; have r1 := D2.cell 1; have f0 := D2.frozen 0; have f1 := D2.frozen 1; simp at r0 r1; replace hr2 := hidden hr2; replace hn2 := hidden hn2; clear hb2))
  all_goals
    go_wp2
    simp [bodyPost, results, Try.results46, go_sem, r0, r1]
    exact ⟨_, _, _, rfl, hr2.out.set2 D2 (by decide) _ _, plus_flip HX.out HY.out hne hl1.out.2.2 ▸ hn2.out, bl_set (bl_set hbl2 _ _ (by omega) _) _ _ (by omega) _⟩

/-- The reference's sum. -/
theorem Plus_any (a b : Bool) (v u : Value) (l k : List Nat) (x y : Int) (w : World) (hl : l.length ≤ 100000) (hk : k.length ≤ 100000) (rv : Rd w v l) (ru : Rd w u k) (hx : Nm a l x) (hy : Nm b k y) :
    Calls Try.prog 46 #[.agg #[.bool a, v], .agg #[.bool b, u]] w (RetN (x + y) w) := by
  by_cases h : a = b
  · subst h
    exact Plus_same a v u l k x y w hl hk rv ru hx hy
  · have h' : (a == b) = false := by simpa using h
    by_cases h2 : val k ≤ val l
    · exact Plus_ge a b v u l k x y w hl hk rv ru hx hy h' h2
    · exact Plus_lt a b v u l k x y w hl hk rv ru hx hy h' (by omega)
end Go.Proofs.Ytpdbiofpoccjeaa.Ref
