/- The walk over the reference's Parts. -/
import Derived.Test.YtpdbiofpoccjeaaZk
namespace Go.Proofs.Ytpdbiofpoccjeaa.Ref
open Go.RowKit
theorem Blk2.c0 {w : World} {g : Nat} {a b : Value} {t : TypeId} (h : Blk w g #[a, b] t) : w.cell? ⟨g, 0, none⟩ = some a := h.cell 0
theorem Blk2.c1 {w : World} {g : Nat} {a b : Value} {t : TypeId} (h : Blk w g #[a, b] t) : w.cell? ⟨g, 1, none⟩ = some b := h.cell 1
/-- A number not below 0, in a block of its own. -/
structure Cn (w wr : World) (g : Nat) (v : Value) (l : List Nat) (n : Nat) : Prop where
  blk : Blk wr g #[.bool false, v] 56
  rd : Rd wr v l
  nm : Nm false l (n : Int)
theorem Cn.after {w wr w1 : World} {g : Nat} {v : Value} {l : List Nat} {n : Nat} (h : Cn w wr g v l n) (hb : Below wr.heap.size wr w1) : Cn w w1 g v l n := ⟨h.blk.after hb, h.rd.after hb, h.nm⟩
theorem Cn.far {w wr : World} {g g' : Nat} {v u : Value} {l : List Nat} {n : Nat} (h : Cn w wr g v l n) (h' : Blk wr g' #[.bool false, u] 56) (hne : g ≠ g') (u0 u1 : Value) : Cn w ((wr.setCell ⟨g', 0, none⟩ u0).setCell ⟨g', 1, none⟩ u1) g v l n :=
  ⟨h.blk.far2 g' hne u0 u1, h.rd.set2 h' (by decide) u0 u1, h.nm⟩
theorem Cn.set {w wr : World} {g : Nat} {v u : Value} {l : List Nat} {n : Nat} (h : Blk wr g #[.bool false, u] 56) (hr : Rd wr v l) (hn : Nm false l (n : Int)) : Cn w ((wr.setCell ⟨g, 0, none⟩ (.bool false)).setCell ⟨g, 1, none⟩ v) g v l n :=
  ⟨h.set2 _ _, hr.set2 h (by decide) _ _, hn⟩
/-- What lies in memory in the midst of Parts. -/
structure PW (w wr : World) (p : Bool) (sa sb : Value) (G : Nat) (qv rv ov : Value) (lq lr lo : List Nat) (q r : Nat) : Prop where
  b0 : Blk wr w.heap.size #[.bool p, sa] 56
  b1 : Blk wr (w.heap.size + 1) #[.bool false, sb] 56
  b2 : Blk wr (w.heap.size + 1 + 1) #[.bool false, .slice none 0 0] 56
  b3 : Blk wr (w.heap.size + 1 + 1 + 1) #[.bool false, .slice none 0 0] 56
  cq : Cn w wr (w.heap.size + 1 + 1 + 1 + 1) qv lq q
  cr : Cn w wr (w.heap.size + 1 + 1 + 1 + 1 + 1) rv lr r
  co : Cn w wr G ov lo 1
  hG : w.heap.size + 1 + 1 + 1 + 1 + 1 < G
  bl : Below w.heap.size w wr
theorem PW.after {w wr w1 : World} {p : Bool} {sa sb : Value} {G : Nat} {qv rv ov : Value} {lq lr lo : List Nat} {q r : Nat} (h : PW w wr p sa sb G qv rv ov lq lr lo q r) (hb : Below wr.heap.size wr w1) : PW w w1 p sa sb G qv rv ov lq lr lo q r :=
  ⟨h.b0.after hb, h.b1.after hb, h.b2.after hb, h.b3.after hb, h.cq.after hb, h.cr.after hb, h.co.after hb, h.hG, bl_then h.bl hb⟩
theorem PW.setq {w wr : World} {p : Bool} {sa sb : Value} {G : Nat} {qv rv ov : Value} {lq lr lo : List Nat} {q r : Nat} (h : PW w wr p sa sb G qv rv ov lq lr lo q r) {v : Value} {l : List Nat} {n : Nat} (hr : Rd wr v l) (hn : Nm false l (n : Int)) :
    PW w ((wr.setCell ⟨w.heap.size + 1 + 1 + 1 + 1, 0, none⟩ (.bool false)).setCell ⟨w.heap.size + 1 + 1 + 1 + 1, 1, none⟩ v) p sa sb G v rv ov l lr lo n r :=
  ⟨h.b0.far2 _ (by omega) _ _, h.b1.far2 _ (by omega) _ _, h.b2.far2 _ (by omega) _ _, h.b3.far2 _ (by omega) _ _, Cn.set h.cq.blk hr hn, h.cr.far h.cq.blk (by omega) _ _, h.co.far h.cq.blk (by have := h.hG; omega) _ _, h.hG, bl_set (bl_set h.bl _ _ (by omega) _) _ _ (by omega) _⟩
theorem PW.setr {w wr : World} {p : Bool} {sa sb : Value} {G : Nat} {qv rv ov : Value} {lq lr lo : List Nat} {q r : Nat} (h : PW w wr p sa sb G qv rv ov lq lr lo q r) {v : Value} {l : List Nat} {n : Nat} (hr : Rd wr v l) (hn : Nm false l (n : Int)) :
    PW w ((wr.setCell ⟨w.heap.size + 1 + 1 + 1 + 1 + 1, 0, none⟩ (.bool false)).setCell ⟨w.heap.size + 1 + 1 + 1 + 1 + 1, 1, none⟩ v) p sa sb G qv v ov lq l lo q n :=
  ⟨h.b0.far2 _ (by omega) _ _, h.b1.far2 _ (by omega) _ _, h.b2.far2 _ (by omega) _ _, h.b3.far2 _ (by omega) _ _, h.cq.far h.cr.blk (by omega) _ _, Cn.set h.cr.blk hr hn, h.co.far h.cr.blk (by have := h.hG; omega) _ _, h.hG, bl_set (bl_set h.bl _ _ (by omega) _) _ _ (by omega) _⟩
theorem Nm.pos {b : Bool} {l : List Nat} {n : Int} {m : Nat} (h : Nm b l n) (hn : n = m) : b = false ∧ Nm false l (m : Int) := by
  subst hn
  have hb : b = false := by rw [h.sg]; simp
  subst hb
  exact ⟨rfl, h⟩
/-- A quotient, rounded down, and what is left. -/
def RetP (x : Int) (y : Nat) (w : World) (e : Ending) (w' : World) : Prop := ∃ b1 v1 l1 b2 v2 l2, e = .returned (.tuple #[.agg #[.bool b1, v1], .agg #[.bool b2, v2]]) ∧ Rd w' v1 l1 ∧ Nm b1 l1 (x / (y : Int)) ∧ Rd w' v2 l2 ∧ Nm b2 l2 (x % (y : Int)) ∧ Below w.heap.size w w'
set_option maxRecDepth 100000 in
set_option maxHeartbeats 8000000 in
theorem parts_any (p : Bool) (v u : Value) (a b : List Nat) (x : Int) (y : Nat) (w : World) (la : a.length ≤ 1000) (lb : b.length ≤ 1000) (rv : Rd w v a) (ru : Rd w u b) (hx : Nm p a x) (hy : Nm false b (y : Int)) (hy0 : 0 < y)
    :
    Calls Try.prog 48 #[.agg #[.bool p, v], .agg #[.bool false, u]] w (RetP x y w) := by
  obtain ⟨A, c, rfl⟩ := rv.sl
  obtain ⟨B, d, rfl⟩ := ru.sl
  have RV := hidden rv; have RU := hidden ru; have HX := hidden hx; have HY := hidden hy
  clear rv ru hx hy
  go_enter Try.func48, Try.ntmps48
  go_wp2_with fail
  refine (ofn_any 1 _ ⟨by omega, by omega⟩).mono ?_
  rintro e w1 ⟨b1, v1, lo, rfl, hr1, hn1, hb1⟩
  obtain ⟨rfl, hn1⟩ := hn1.pos (m := 1) rfl
  obtain ⟨Ao, co, rfl⟩ := hr1.sl
  have T : PW w (w1.alloc (.cells #[.bool false, .slice Ao lo.length co] 56)) p (.slice A a.length c) (.slice B b.length d) w1.heap.size (.slice none 0 0) (.slice none 0 0) (.slice Ao lo.length co) [] [] lo 0 0 := by
    have hz := hb1.size
    simp at hz
    have nil : ∀ W : World, Rd W (.slice none 0 0) [] := fun W => ⟨by simp [nv], .inl ⟨rfl, rfl⟩⟩
    have nm0 : Nm false [] ((0 : Nat) : Int) := ⟨fun _ h => by simp at h, fun k h => by simp at h, rfl, by simp⟩
    refine ⟨Blk.alloc (Blk.after ?_ hb1) _, Blk.alloc (Blk.after ?_ hb1) _, Blk.alloc (Blk.after ?_ hb1) _, Blk.alloc (Blk.after ?_ hb1) _, ⟨Blk.alloc (Blk.after ?_ hb1) _, nil _, nm0⟩, ⟨Blk.alloc (Blk.after ?_ hb1) _, nil _, nm0⟩, ⟨Blk.new _ _ _, hr1.alloc _, hn1⟩, by omega, bl_alloc (bl_then ?_ hb1) _⟩
    · exact (((((Blk.new _ _ _).alloc _).alloc _).alloc _).alloc _).alloc _
    · exact ((((Blk.made _ _ _ _ (by simp)).alloc _).alloc _).alloc _).alloc _
    · exact (((Blk.made _ _ _ _ (by simp)).alloc _).alloc _).alloc _
    · exact ((Blk.made _ _ _ _ (by simp)).alloc _).alloc _
    · exact (Blk.made _ _ _ _ (by simp)).alloc _
    · exact Blk.made _ _ _ _ (by simp)
    · exact bl_alloc (bl_alloc (bl_alloc (bl_alloc (bl_alloc (bl_alloc (bl_refl w) _) _) _) _) _) _
  clear hr1 hn1
  have hz1 := T.cq.blk.lt
  go_upto_region 4 with (fail)
  generalize w1.alloc (.cells #[.bool false, .slice Ao lo.length co] 56) = W0 at T ⊢
  generalize w1.heap.size = G at T ⊢
  clear hb1 hz1
  have c01 := T.b0.cell 1
  simp at c01
  have hyv : val b = y := by have := HY.out.val; simpa using this
  have hsz : W0.heap.size = W0.heap.size := rfl
  replace hyv := hidden hyv
  clear hsz
  go_wp2_with fail
  go_loopg [9] (16 * a.length) (fun kk i wr => ∃ (k : Nat) (qv rv ov : Value) (lq lr lo : List Nat) (q r : Nat), k ≤ 16 * a.length ∧ i = .int .i64 ((k : Int) - 1) ∧ Hid (kk = k) ∧ Hid (Pt (val a) y k q r) ∧ PW w wr p (.slice A a.length c) (.slice B b.length d) G qv rv ov lq lr lo q r) 
  case atStart =>
    refine ⟨_, _, _, _, _, _, _, _, _, Nat.le_refl _, by go_num, rfl, pt_first _ _ _ hy0 ?_, T⟩
    have := val_lt a HX.out.dg
    rwa [show (65536 : Nat) = 2 ^ 16 by rfl, ← Nat.pow_mul] at this
  case round =>
    obtain ⟨k, qv, rv, ov, lq, lr, lo, q, r, hk, rfl, hkk, hP, T⟩ := hrel
    clear c01
    obtain ⟨Aq, cq, rfl⟩ := T.cq.rd.sl
    obtain ⟨Ar, cr, rfl⟩ := T.cr.rd.sl
    obtain ⟨Ao, co, rfl⟩ := T.co.rd.sl
    rcases k with _ | m
    · obtain ⟨hq, hr⟩ := pt_last hP.out
      have hxa := HX.out.val
      have hsg := HX.out.sg
      rw [hxa] at hq hr
      have q0 := T.cq.blk.cell 0; have q1 := T.cq.blk.cell 1; have r0 := T.cr.blk.cell 0; have r1 := T.cr.blk.cell 1; have s00 := T.b2.cell 0; have s01 := T.b2.cell 1; have s10 := T.b3.cell 0; have s11 := T.b3.cell 1; have a0 := T.b0.cell 0
      have f00 := T.b2.frozen 0; have f01 := T.b2.frozen 1; have f10 := T.b3.frozen 0; have f11 := T.b3.frozen 1
      simp at q0 q1 r0 r1 s00 s01 s10 s11 a0
      replace hq := hidden hq; replace hr := hidden hr; replace hxa := hidden hxa; replace hsg := hidden hsg
      have n23 : w.heap.size + 1 + 1 + 1 ≠ w.heap.size + 1 + 1 := by omega
      have n32 : w.heap.size + 1 + 1 ≠ w.heap.size + 1 + 1 + 1 := by omega
      have n2 : w.heap.size + 1 + 1 + 1 + 1 ≠ w.heap.size + 1 + 1 := by omega
      have n3 : w.heap.size + 1 + 1 + 1 + 1 ≠ w.heap.size + 1 + 1 + 1 := by omega
      have m2 : w.heap.size + 1 + 1 + 1 + 1 + 1 ≠ w.heap.size + 1 + 1 := by omega
      have m3 : w.heap.size + 1 + 1 + 1 + 1 + 1 ≠ w.heap.size + 1 + 1 + 1 := by omega
      cases p
      · have hx0 : 0 ≤ x := by have := hsg.out; simp at this; exact this
        have e1 : Hid (((q : Nat) : Int) = x / (y : Int)) := by show _ = _; rw [hq.out, Int.natCast_ediv, Int.natAbs_of_nonneg hx0]
        have e2 : Hid (((r : Nat) : Int) = x % (y : Int)) := by show _ = _; rw [hr.out, Int.natCast_emod, Int.natAbs_of_nonneg hx0]
        clear hx0
        go_wp2_with fail
        go_region_held3 (fun w' => w'.cell? ⟨w.heap.size + 1 + 1 + 1 + 1, 0, none⟩ = some (.bool false) ∧ w'.cell? ⟨w.heap.size + 1 + 1 + 1 + 1, 1, none⟩ = some (.slice Aq lq.length cq) ∧ w'.cell? ⟨w.heap.size + 1 + 1 + 1 + 1 + 1, 0, none⟩ = some (.bool false) ∧ w'.cell? ⟨w.heap.size + 1 + 1 + 1 + 1 + 1, 1, none⟩ = some (.slice Ar lr.length cr))
          (first
            | exact ⟨q0, q1, r0, r1⟩
            | (with_reducible exact ⟨Blk2.c0 (T.cq.blk.far2 _ n2 _ _).drew, Blk2.c1 (T.cq.blk.far2 _ n2 _ _).drew, Blk2.c0 (T.cr.blk.far2 _ m2 _ _).drew, Blk2.c1 (T.cr.blk.far2 _ m2 _ _).drew⟩)
            | (with_reducible exact ⟨Blk2.c0 (T.cq.blk.far2 _ n3 _ _).drew, Blk2.c1 (T.cq.blk.far2 _ n3 _ _).drew, Blk2.c0 (T.cr.blk.far2 _ m3 _ _).drew, Blk2.c1 (T.cr.blk.far2 _ m3 _ _).drew⟩)
            | (with_reducible exact ⟨Blk2.c0 ((T.cq.blk.far2 _ n2 _ _).far2 _ n3 _ _).drew, Blk2.c1 ((T.cq.blk.far2 _ n2 _ _).far2 _ n3 _ _).drew, Blk2.c0 ((T.cr.blk.far2 _ m2 _ _).far2 _ m3 _ _).drew, Blk2.c1 ((T.cr.blk.far2 _ m2 _ _).far2 _ m3 _ _).drew⟩)
            | (with_reducible exact ⟨Blk2.c0 ((T.cq.blk.far2 _ n3 _ _).far2 _ n2 _ _).drew, Blk2.c1 ((T.cq.blk.far2 _ n3 _ _).far2 _ n2 _ _).drew, Blk2.c0 ((T.cr.blk.far2 _ m3 _ _).far2 _ m2 _ _).drew, Blk2.c1 ((T.cr.blk.far2 _ m3 _ _).far2 _ m2 _ _).drew⟩))
          (fail)
        all_goals
          repeat (first | go_big_skip | go_step)
        all_goals
          simp [bodyPost, results, Try.results48, go_sem, s00, s01, s10, s11]
          first
            | exact ⟨_, _, _, _, _, _, rfl, ((T.cq.rd.set2 T.b2 (by decide) _ _).set2 (T.b3.far2 _ n23 _ _) (by decide) _ _).drew, e1.out ▸ T.cq.nm, ((T.cr.rd.set2 T.b2 (by decide) _ _).set2 (T.b3.far2 _ n23 _ _) (by decide) _ _).drew, e2.out ▸ T.cr.nm, bl_drew (bl_set (bl_set (bl_set (bl_set T.bl _ _ (by omega) _) _ _ (by omega) _) _ _ (by omega) _) _ _ (by omega) _)⟩
            | exact ⟨_, _, _, _, _, _, rfl, ((T.cq.rd.set2 T.b3 (by decide) _ _).set2 (T.b2.far2 _ n32 _ _) (by decide) _ _).drew, e1.out ▸ T.cq.nm, ((T.cr.rd.set2 T.b3 (by decide) _ _).set2 (T.b2.far2 _ n32 _ _) (by decide) _ _).drew, e2.out ▸ T.cr.nm, bl_drew (bl_set (bl_set (bl_set (bl_set T.bl _ _ (by omega) _) _ _ (by omega) _) _ _ (by omega) _) _ _ (by omega) _)⟩
      · have hx0 : x < 0 := by have := hsg.out; simp at this; exact this
        have hlq : lq.length ≤ 1000 := by
          have h1 := pt_le hP.out hy0
          have h2 := val_lt a HX.out.dg
          have := T.cq.nm.len (k := a.length) (by simp; omega)
          omega
        have hlr : lr.length ≤ 1000 := by
          have h1 := hP.out.2
          have h2 := val_lt b HY.out.dg
          have := T.cr.nm.len (k := b.length) (by simp; have := hyv.out; omega)
          omega
        have hlo : lo.length ≤ 1000 := by
          have := T.co.nm.len (k := 1) (by simp)
          omega
        have TC := T.after (bl_drew (bl_refl wr))
        by_cases hr0 : r = 0
        · have hlr0 : lr = [] := List.eq_nil_of_length_eq_zero (T.cr.nm.zero.2 (by omega))
          have hnp := neg_parts0 x.natAbs y hy0 (by rw [← hr.out]; exact hr0)
          rw [← hq.out, show -(x.natAbs : Int) = x by omega] at hnp
          have e1 : Hid (-((q : Nat) : Int) = x / (y : Int)) := hnp.1.symm
          have e2 : Hid (((r : Nat) : Int) = x % (y : Int)) := by show _ = _; rw [hnp.2, hr0]; rfl
          have e3 : decide (lr.length = 0) = true := by rw [hlr0]; rfl
          have e4 : ((lr.length : Int) == 0) = true := by rw [hlr0]; rfl
          clear hx0 hr0 hnp
          have hlr1 := hidden hlr0
          clear hlr0
          go_wp2_with fail
          go_region_held3 (fun w' => w'.cell? ⟨w.heap.size + 1 + 1 + 1 + 1, 0, none⟩ = some (.bool false) ∧ w'.cell? ⟨w.heap.size + 1 + 1 + 1 + 1, 1, none⟩ = some (.slice Aq lq.length cq) ∧ w'.cell? ⟨w.heap.size + 1 + 1 + 1 + 1 + 1, 0, none⟩ = some (.bool false) ∧ w'.cell? ⟨w.heap.size + 1 + 1 + 1 + 1 + 1, 1, none⟩ = some (.slice Ar lr.length cr))
            (first
              | exact ⟨q0, q1, r0, r1⟩
              | (with_reducible exact ⟨Blk2.c0 TC.cq.blk, Blk2.c1 TC.cq.blk, Blk2.c0 TC.cr.blk, Blk2.c1 TC.cr.blk⟩)
              | (with_reducible exact ⟨Blk2.c0 (TC.cq.blk.far2 _ n2 _ _), Blk2.c1 (TC.cq.blk.far2 _ n2 _ _), Blk2.c0 (TC.cr.blk.far2 _ m2 _ _), Blk2.c1 (TC.cr.blk.far2 _ m2 _ _)⟩)
              | (with_reducible exact ⟨Blk2.c0 (TC.cq.blk.far2 _ n3 _ _), Blk2.c1 (TC.cq.blk.far2 _ n3 _ _), Blk2.c0 (TC.cr.blk.far2 _ m3 _ _), Blk2.c1 (TC.cr.blk.far2 _ m3 _ _)⟩)
              | (with_reducible exact ⟨Blk2.c0 ((TC.cq.blk.far2 _ n2 _ _).far2 _ n3 _ _), Blk2.c1 ((TC.cq.blk.far2 _ n2 _ _).far2 _ n3 _ _), Blk2.c0 ((TC.cr.blk.far2 _ m2 _ _).far2 _ m3 _ _), Blk2.c1 ((TC.cr.blk.far2 _ m2 _ _).far2 _ m3 _ _)⟩)
              | (with_reducible exact ⟨Blk2.c0 ((TC.cq.blk.far2 _ n3 _ _).far2 _ n2 _ _), Blk2.c1 ((TC.cq.blk.far2 _ n3 _ _).far2 _ n2 _ _), Blk2.c0 ((TC.cr.blk.far2 _ m3 _ _).far2 _ m2 _ _), Blk2.c1 ((TC.cr.blk.far2 _ m3 _ _).far2 _ m2 _ _)⟩))
            ((go_at_call 38; refine (neg_any false _ lq (q : Int) _ (by omega) TC.cq.rd TC.cq.nm).mono ?_; rintro e w2 ⟨b2, v2, l2, rfl, hN1, nN1, hb2⟩; obtain ⟨A2, c2, rfl⟩ := hN1.sl; replace TC := TC.after hb2; have f20 := TC.b2.frozen 0; have f21 := TC.b2.frozen 1; have f30 := TC.b3.frozen 0; have f31 := TC.b3.frozen 1; have s20 := Blk2.c0 TC.b2; have s21 := Blk2.c1 TC.b2; have s30 := Blk2.c0 TC.b3; have s31 := Blk2.c1 TC.b3; replace nN1 := hidden nN1; clear hb2))
          all_goals
            repeat (first | go_big_skip | go_step)
          all_goals
          simp [bodyPost, results, Try.results48, go_sem, s20, s21, s30, s31]
          first
            | exact ⟨_, _, _, _, _, _, rfl, (hN1.set2 TC.b2 (by decide) _ _).set2 (TC.b3.far2 _ n23 _ _) (by decide) _ _, e1.out ▸ nN1.out, (TC.cr.rd.set2 TC.b2 (by decide) _ _).set2 (TC.b3.far2 _ n23 _ _) (by decide) _ _, e2.out ▸ TC.cr.nm, bl_set (bl_set (bl_set (bl_set TC.bl _ _ (by omega) _) _ _ (by omega) _) _ _ (by omega) _) _ _ (by omega) _⟩
            | exact ⟨_, _, _, _, _, _, rfl, (hN1.set2 TC.b3 (by decide) _ _).set2 (TC.b2.far2 _ n32 _ _) (by decide) _ _, e1.out ▸ nN1.out, (TC.cr.rd.set2 TC.b3 (by decide) _ _).set2 (TC.b2.far2 _ n32 _ _) (by decide) _ _, e2.out ▸ TC.cr.nm, bl_set (bl_set (bl_set (bl_set TC.bl _ _ (by omega) _) _ _ (by omega) _) _ _ (by omega) _) _ _ (by omega) _⟩
        · have hnp := neg_parts1 x.natAbs y hy0 (by rw [← hr.out]; exact hr0)
          rw [← hq.out, ← hr.out, show -(x.natAbs : Int) = x by omega] at hnp
          have e1 : Hid (-((q + 1 : Nat) : Int) = x / (y : Int)) := by show _ = _; rw [hnp.1]; omega
          have e2 : Hid ((y : Int) + -(r : Int) = x % (y : Int)) := hnp.2.symm
          have hlr0 : lr.length ≠ 0 := fun h => hr0 (by have := T.cr.nm.zero.1 h; omega)
          have e4 : ((lr.length : Int) == 0) = false := by simpa using hlr0
          have e5 : (lr.length == 0) = false := by simpa using hlr0
          clear hx0 hr0 hnp hlr0
          have o2 : G ≠ w.heap.size + 1 + 1 := by have := T.hG; omega
          have o3 : G ≠ w.heap.size + 1 + 1 + 1 := by have := T.hG; omega
          have p2 : w.heap.size + 1 ≠ w.heap.size + 1 + 1 := by omega
          have p3 : w.heap.size + 1 ≠ w.heap.size + 1 + 1 + 1 := by omega
          have g0 := Blk2.c0 T.co.blk; have g1 := Blk2.c1 T.co.blk; have b0' := Blk2.c0 T.b1; have b1' := Blk2.c1 T.b1
          go_wp2_with fail
          go_region_held3 (fun w' => w'.cell? ⟨w.heap.size + 1 + 1 + 1 + 1, 0, none⟩ = some (.bool false) ∧ w'.cell? ⟨w.heap.size + 1 + 1 + 1 + 1, 1, none⟩ = some (.slice Aq lq.length cq) ∧ w'.cell? ⟨w.heap.size + 1 + 1 + 1 + 1 + 1, 0, none⟩ = some (.bool false) ∧ w'.cell? ⟨w.heap.size + 1 + 1 + 1 + 1 + 1, 1, none⟩ = some (.slice Ar lr.length cr) ∧ w'.cell? ⟨G, 0, none⟩ = some (.bool false) ∧ w'.cell? ⟨G, 1, none⟩ = some (.slice Ao lo.length co) ∧ w'.cell? ⟨w.heap.size + 1, 0, none⟩ = some (.bool false) ∧ w'.cell? ⟨w.heap.size + 1, 1, none⟩ = some (.slice B b.length d))
            (first
              | exact ⟨q0, q1, r0, r1, g0, g1, b0', b1'⟩
              | (with_reducible exact ⟨Blk2.c0 TC.cq.blk, Blk2.c1 TC.cq.blk, Blk2.c0 TC.cr.blk, Blk2.c1 TC.cr.blk, Blk2.c0 TC.co.blk, Blk2.c1 TC.co.blk, Blk2.c0 TC.b1, Blk2.c1 TC.b1⟩)
              | (with_reducible exact ⟨Blk2.c0 (TC.cq.blk.far2 _ n2 _ _), Blk2.c1 (TC.cq.blk.far2 _ n2 _ _), Blk2.c0 (TC.cr.blk.far2 _ m2 _ _), Blk2.c1 (TC.cr.blk.far2 _ m2 _ _), Blk2.c0 (TC.co.blk.far2 _ o2 _ _), Blk2.c1 (TC.co.blk.far2 _ o2 _ _), Blk2.c0 (TC.b1.far2 _ p2 _ _), Blk2.c1 (TC.b1.far2 _ p2 _ _)⟩)
              | (with_reducible exact ⟨Blk2.c0 (TC.cq.blk.far2 _ n3 _ _), Blk2.c1 (TC.cq.blk.far2 _ n3 _ _), Blk2.c0 (TC.cr.blk.far2 _ m3 _ _), Blk2.c1 (TC.cr.blk.far2 _ m3 _ _), Blk2.c0 (TC.co.blk.far2 _ o3 _ _), Blk2.c1 (TC.co.blk.far2 _ o3 _ _), Blk2.c0 (TC.b1.far2 _ p3 _ _), Blk2.c1 (TC.b1.far2 _ p3 _ _)⟩)
              | (with_reducible exact ⟨Blk2.c0 ((TC.cq.blk.far2 _ n2 _ _).far2 _ n3 _ _), Blk2.c1 ((TC.cq.blk.far2 _ n2 _ _).far2 _ n3 _ _), Blk2.c0 ((TC.cr.blk.far2 _ m2 _ _).far2 _ m3 _ _), Blk2.c1 ((TC.cr.blk.far2 _ m2 _ _).far2 _ m3 _ _), Blk2.c0 ((TC.co.blk.far2 _ o2 _ _).far2 _ o3 _ _), Blk2.c1 ((TC.co.blk.far2 _ o2 _ _).far2 _ o3 _ _), Blk2.c0 ((TC.b1.far2 _ p2 _ _).far2 _ p3 _ _), Blk2.c1 ((TC.b1.far2 _ p2 _ _).far2 _ p3 _ _)⟩)
              | (with_reducible exact ⟨Blk2.c0 ((TC.cq.blk.far2 _ n3 _ _).far2 _ n2 _ _), Blk2.c1 ((TC.cq.blk.far2 _ n3 _ _).far2 _ n2 _ _), Blk2.c0 ((TC.cr.blk.far2 _ m3 _ _).far2 _ m2 _ _), Blk2.c1 ((TC.cr.blk.far2 _ m3 _ _).far2 _ m2 _ _), Blk2.c0 ((TC.co.blk.far2 _ o3 _ _).far2 _ o2 _ _), Blk2.c1 ((TC.co.blk.far2 _ o3 _ _).far2 _ o2 _ _), Blk2.c0 ((TC.b1.far2 _ p3 _ _).far2 _ p2 _ _), Blk2.c1 ((TC.b1.far2 _ p3 _ _).far2 _ p2 _ _)⟩))
            (first
              | (go_at_call_of 46 (Value.agg #[.bool false, .slice Aq lq.length cq]); refine (Plus_any false false _ _ lq lo (q : Int) ((1 : Nat) : Int) _ (by omega) (by omega) TC.cq.rd TC.co.rd TC.cq.nm TC.co.nm).mono ?_; rintro e wk ⟨b1, v1, l1, rfl, hP1, nP1, hbk⟩; obtain ⟨rfl, nP1⟩ := nP1.pos (m := q + 1) (by omega); obtain ⟨A1, c1, rfl⟩ := hP1.sl; replace nP1 := hidden nP1; replace TC := TC.after hbk; (try replace hN2 := hN2.after hbk); (try replace hP2 := hP2.after hbk); (try clear f20 f21 f30 f31 s20 s21 s30 s31); have f20 := TC.b2.frozen 0; have f21 := TC.b2.frozen 1; have f30 := TC.b3.frozen 0; have f31 := TC.b3.frozen 1; have s20 := Blk2.c0 TC.b2; have s21 := Blk2.c1 TC.b2; have s30 := Blk2.c0 TC.b3; have s31 := Blk2.c1 TC.b3; clear hbk)
              | (go_at_call_of 38 (Value.agg #[.bool false, .slice Ar lr.length cr]); refine (neg_any false _ lr (r : Int) _ (by omega) TC.cr.rd TC.cr.nm).mono ?_; rintro e wk ⟨b2, v2, l2, rfl, hN2, nN2, hbk⟩; obtain ⟨A2, c2, rfl⟩ := hN2.sl; replace nN2 := hidden nN2; replace TC := TC.after hbk; (try replace hP1 := hP1.after hbk); (try replace hN1 := hN1.after hbk); (try clear f20 f21 f30 f31 s20 s21 s30 s31); have f20 := TC.b2.frozen 0; have f21 := TC.b2.frozen 1; have f30 := TC.b3.frozen 0; have f31 := TC.b3.frozen 1; have s20 := Blk2.c0 TC.b2; have s21 := Blk2.c1 TC.b2; have s30 := Blk2.c0 TC.b3; have s31 := Blk2.c1 TC.b3; clear hbk)
              | (go_at_call_of 46 (Value.agg #[.bool false, .slice B b.length d]); refine (Plus_any false b2 _ _ b l2 (y : Int) (-(r : Int)) _ (by omega) (by have h7 := nN2.out.len (k := b.length) (by have := hP.out.2; have := val_lt b HY.out.dg; have := hyv.out; omega); omega) (RU.out.after TC.bl) hN2 HY.out nN2.out).mono ?_; rintro e wk ⟨b4, v4, l4, rfl, hP2, nP2, hbk⟩; obtain ⟨A4, c4, rfl⟩ := hP2.sl; replace nP2 := hidden nP2; replace TC := TC.after hbk; (try replace hP1 := hP1.after hbk); (try replace hN1 := hN1.after hbk); (try clear f20 f21 f30 f31 s20 s21 s30 s31); have f20 := TC.b2.frozen 0; have f21 := TC.b2.frozen 1; have f30 := TC.b3.frozen 0; have f31 := TC.b3.frozen 1; have s20 := Blk2.c0 TC.b2; have s21 := Blk2.c1 TC.b2; have s30 := Blk2.c0 TC.b3; have s31 := Blk2.c1 TC.b3; clear hbk)
              | (go_at_call 38; refine (neg_any false _ l1 ((q + 1 : Nat) : Int) _ (by have h7 := nP1.out.len (k := a.length + 1) (by have h1 := pt_le hP.out hy0; have h2 := val_lt a HX.out.dg; rw [Nat.pow_succ]; omega); omega) hP1 nP1.out).mono ?_; rintro e wk ⟨b3, v3, l3, rfl, hN1, nN1, hbk⟩; obtain ⟨A3, c3, rfl⟩ := hN1.sl; replace nN1 := hidden nN1; replace TC := TC.after hbk; (try replace hN2 := hN2.after hbk); (try replace hP2 := hP2.after hbk); (try clear f20 f21 f30 f31 s20 s21 s30 s31); have f20 := TC.b2.frozen 0; have f21 := TC.b2.frozen 1; have f30 := TC.b3.frozen 0; have f31 := TC.b3.frozen 1; have s20 := Blk2.c0 TC.b2; have s21 := Blk2.c1 TC.b2; have s30 := Blk2.c0 TC.b3; have s31 := Blk2.c1 TC.b3; clear hbk))
          all_goals
            repeat (first | go_big_skip | go_step)
          all_goals
          simp [bodyPost, results, Try.results48, go_sem, s20, s21, s30, s31]
          first
            | exact ⟨_, _, _, _, _, _, rfl, (hN1.set2 TC.b2 (by decide) _ _).set2 (TC.b3.far2 _ n23 _ _) (by decide) _ _, e1.out ▸ nN1.out, (hP2.set2 TC.b2 (by decide) _ _).set2 (TC.b3.far2 _ n23 _ _) (by decide) _ _, e2.out ▸ nP2.out, bl_set (bl_set (bl_set (bl_set TC.bl _ _ (by omega) _) _ _ (by omega) _) _ _ (by omega) _) _ _ (by omega) _⟩
            | exact ⟨_, _, _, _, _, _, rfl, (hN1.set2 TC.b3 (by decide) _ _).set2 (TC.b2.far2 _ n32 _ _) (by decide) _ _, e1.out ▸ nN1.out, (hP2.set2 TC.b3 (by decide) _ _).set2 (TC.b2.far2 _ n32 _ _) (by decide) _ _, e2.out ▸ nP2.out, bl_set (bl_set (bl_set (bl_set TC.bl _ _ (by omega) _) _ _ (by omega) _) _ _ (by omega) _) _ _ (by omega) _⟩
    · rw [show (((m + 1 : Nat) : Int) - 1) = (m : Int) by omega]
      have hlq : lq.length ≤ 1000 := by
        have h1 := pt_le hP.out hy0
        have h2 := val_lt a HX.out.dg
        have := T.cq.nm.len (k := a.length) (by simp; omega)
        omega
      have hlr : lr.length ≤ 1000 := by
        have h1 := hP.out.2
        have h2 := val_lt b HY.out.dg
        have := T.cr.nm.len (k := b.length) (by simp; have := hyv.out; omega)
        omega
      have hlo : lo.length ≤ 1000 := by
        have := T.co.nm.len (k := 1) (by simp)
        omega
      have e0 : (0 : Int) ≤ (m : Int) := by omega
      have em : (m : Int) ≤ 16000 := by omega
      have c0 := T.cq.blk.cell 0; have c1 := T.cq.blk.cell 1; have f0 := T.cq.blk.frozen 0; have f1 := T.cq.blk.frozen 1
      simp at c0 c1
      go_upto_region 8 with (go_at_call 46; refine (Plus_any false false _ _ lq lq q q _ (by omega) (by omega) T.cq.rd T.cq.rd T.cq.nm T.cq.nm).mono ?_; rintro e w2 ⟨b2, v2, l2, rfl, hr2, hn2, hb2⟩; obtain ⟨rfl, hn2⟩ := hn2.pos (m := q + q) (by omega); obtain ⟨A2, c2, rfl⟩ := hr2.sl; have T2 := (T.after hb2); have d0 := T2.cq.blk.cell 0; have d1 := T2.cq.blk.cell 1; have g0 := T2.cq.blk.frozen 0; have g1 := T2.cq.blk.frozen 1; simp at d0 d1; replace hn2 := hidden hn2)
      have T3 := T2.setq hr2 hn2.out
      generalize (w2.setCell ⟨w.heap.size + 1 + 1 + 1 + 1, 0, none⟩ (.bool false)).setCell ⟨w.heap.size + 1 + 1 + 1 + 1, 1, none⟩ (.slice A2 l2.length c2) = W3 at T3 ⊢
      clear T T2 hb2 hr2 c0 c1 f0 f1 d0 d1 g0 g1
      have c0 := T3.cr.blk.cell 0; have c1 := T3.cr.blk.cell 1; have f0 := T3.cr.blk.frozen 0; have f1 := T3.cr.blk.frozen 1
      simp at c0 c1
      go_upto_region 9 with (go_at_call 46; refine (Plus_any false false _ _ lr lr r r _ (by omega) (by omega) T3.cr.rd T3.cr.rd T3.cr.nm T3.cr.nm).mono ?_; rintro e w4 ⟨b4, v4, l4, rfl, hr4, hn4, hb4⟩; obtain ⟨rfl, hn4⟩ := hn4.pos (m := r + r) (by omega); obtain ⟨A4, c4, rfl⟩ := hr4.sl; have T4 := (T3.after hb4); have d0 := T4.cr.blk.cell 0; have d1 := T4.cr.blk.cell 1; have g0 := T4.cr.blk.frozen 0; have g1 := T4.cr.blk.frozen 1; simp at d0 d1; replace hn4 := hidden hn4)
      have T5 := T4.setr hr4 hn4.out
      generalize (w4.setCell ⟨w.heap.size + 1 + 1 + 1 + 1 + 1, 0, none⟩ (.bool false)).setCell ⟨w.heap.size + 1 + 1 + 1 + 1 + 1, 1, none⟩ (.slice A4 l4.length c4) = W5 at T5 ⊢
      clear T3 T4 hb4 hr4 c0 c1 f0 f1 d0 d1 g0 g1
      have c01 := T5.b0.cell 1
      simp at c01
      obtain ⟨k', ek⟩ : ∃ k', m / 16 = k' := ⟨_, rfl⟩
      obtain ⟨s, es⟩ : ∃ s, m % 16 = s := ⟨_, rfl⟩
      have rk : (m : Int) / 16 = (k' : Int) := by omega
      have rs : (m : Int) % 16 = (s : Int) := by omega
      have hs16 : s < 16 := by omega
      have hbit := bit_at a HX.out.dg k' s hs16
      rw [show 16 * k' + s = m by omega] at hbit
      replace hbit := hidden hbit
      obtain ⟨dv0, dv1⟩ := dg_bd HX.out.dg k'
      obtain ⟨t1, et1⟩ : ∃ t1, a.getD k' 0 / 2 ^ s = t1 := ⟨_, rfl⟩
      rw [et1] at hbit
      obtain ⟨t, et⟩ : ∃ t, t1 % 2 = t := ⟨_, rfl⟩
      have hbit := hbit.out.trans et
      have rsh : dg a k' / 2 ^ s = (t1 : Int) := by
        rw [dg_nat, ← et1, Int.natCast_ediv, Int.natCast_pow]; rfl
      have rt : (t1 : Int) % 2 = (t : Int) := by omega
      have t10 : (0 : Int) ≤ (t1 : Int) := by omega
      have hs64 : (s : Int) ≤ 64 := by omega
      have hs0 : (0 : Int) ≤ (s : Int) := by omega
      have ht2 : t = 0 ∨ t = 1 := by omega
      replace hbit := hidden hbit
      clear ek es et1 et
      go_wp2_with fail
      refine (digit_any _ a k' _ (by omega) (RV.out.after T5.bl)).mono ?_
      rintro e w' ⟨rfl, rfl⟩
      rcases ht2 with rfl | rfl
      case' inl =>
        go_upto_region 11 with (fail)
        obtain ⟨l6, A6, c6, T6⟩ : ∃ l6 A6 c6, PW w W5 p (.slice A a.length c) (.slice B b.length d) G (.slice A2 l2.length c2) (.slice A6 l6.length c6) (.slice Ao lo.length co) l2 l6 lo (q + q) (r + r + 0) := ⟨l4, A4, c4, T5⟩
        generalize W5 = W6 at T6 ⊢
        clear T5 c01
      case' inr =>
        have c0 := T5.cr.blk.cell 0; have c1 := T5.cr.blk.cell 1; have f0 := T5.cr.blk.frozen 0; have f1 := T5.cr.blk.frozen 1; have o0 := T5.co.blk.cell 0; have o1 := T5.co.blk.cell 1
        simp at c0 c1 o0 o1
        have hl4 : l4.length ≤ 2000 := by
          have h1 := hP.out.2
          have h2 := val_lt b HY.out.dg
          have := T5.cr.nm.len (k := b.length + 1) (by rw [Nat.pow_succ]; simp only [Int.natAbs_natCast]; have := hyv.out; omega)
          omega
        go_upto_region 11 with (go_at_call 46; refine (Plus_any false false _ _ l4 lo ((r + r : Nat) : Int) ((1 : Nat) : Int) _ (by omega) (by omega) T5.cr.rd T5.co.rd T5.cr.nm T5.co.nm).mono ?_; rintro e w6 ⟨b6, v6, l6, rfl, hr6, hn6, hb6⟩; obtain ⟨rfl, hn6⟩ := hn6.pos (m := r + r + 1) (by omega); obtain ⟨A6, c6, rfl⟩ := hr6.sl; have T5' := (T5.after hb6); have d0 := T5'.cr.blk.cell 0; have d1 := T5'.cr.blk.cell 1; have g0 := T5'.cr.blk.frozen 0; have g1 := T5'.cr.blk.frozen 1; simp at d0 d1; replace hn6 := hidden hn6)
        have T6 := T5'.setr hr6 hn6.out
        generalize (w6.setCell ⟨w.heap.size + 1 + 1 + 1 + 1 + 1, 0, none⟩ (.bool false)).setCell ⟨w.heap.size + 1 + 1 + 1 + 1 + 1, 1, none⟩ (.slice A6 l6.length c6) = W6 at T6 ⊢
        clear T5 T5' hb6 hr6 c0 c1 f0 f1 d0 d1 g0 g1 o0 o1 c01 hn6
      all_goals
        have h6v := T6.cr.nm.val
        simp only [Int.natAbs_natCast] at h6v
        have hl6 : l6.length ≤ 2000 := by
          have h1 := hP.out.2
          have h2 := val_lt b HY.out.dg
          have := T6.cr.nm.len (k := b.length + 1) (by rw [Nat.pow_succ]; simp only [Int.natAbs_natCast]; have := hyv.out; omega)
          omega
        have hl2 : l2.length ≤ 2000 := by
          have h1 := pt_le hP.out hy0
          have h2 := val_lt a HX.out.dg
          have := T6.cq.nm.len (k := a.length + 1) (by rw [Nat.pow_succ]; simp only [Int.natAbs_natCast]; omega)
          omega
        have c0 := T6.cr.blk.cell 0; have c1 := T6.cr.blk.cell 1; have b11 := T6.b1.cell 1
        simp at c0 c1 b11
        go_wp2_with fail
        refine (compare_any _ _ l6 b _ T6.cr.nm.dg HY.out.dg (by omega) (by omega) T6.cr.rd (RU.out.after T6.bl)).mono ?_
        rintro e w' ⟨z, rfl, hz, rfl⟩
        by_cases hge : val b ≤ val l6
        · have ez : decide (0 ≤ z) = true := by simp; omega
          have hmore := hidden (pt_more' hP.out hbit.out (by have := hyv.out; omega))
          have hl7v : Hid (val b ≤ val l6) := hge
          clear hz hge
          have f0 := T6.cr.blk.frozen 0; have f1 := T6.cr.blk.frozen 1
          go_upto_region 13 with (first
            | (go_at_call 64; refine (less_any _ _ l6 b _ T6.cr.nm.dg HY.out.dg (by omega) (by omega) hl7v.out T6.cr.rd (RU.out.after T6.bl)).mono ?_; rintro e w7 ⟨v7, l7, rfl, hr7, hl7, hb7⟩; obtain ⟨A7, c7, rfl⟩ := hr7.sl; have T7 := T6.after hb7; replace hl7 := hidden hl7)
            | (go_at_call 54; refine (whole_any false _ l7 _ (by have := hl7.out.2.1; omega) hl7.out.1 hr7).mono ?_; rintro e w8 ⟨b8, v8, l8, rfl, hr8, hn8, hb8⟩; obtain ⟨rfl, hn8⟩ := hn8.pos (m := val l7) (by simp [sgd]); obtain ⟨A8, c8, rfl⟩ := hr8.sl; have T8 := T7.after hb8; have d0 := T8.cr.blk.cell 0; have d1 := T8.cr.blk.cell 1; have g0 := T8.cr.blk.frozen 0; have g1 := T8.cr.blk.frozen 1; simp at d0 d1; replace hn8 := hidden hn8))
          have T9 := T8.setr hr8 hn8.out
          have hn7 := hidden hl7.out.2.2
          generalize (w8.setCell ⟨w.heap.size + 1 + 1 + 1 + 1 + 1, 0, none⟩ (.bool false)).setCell ⟨w.heap.size + 1 + 1 + 1 + 1 + 1, 1, none⟩ (.slice A8 l8.length c8) = W9 at T9 ⊢
          clear T6 T7 T8 hb7 hr7 hb8 hr8 hl7 hn8 c0 c1 f0 f1 d0 d1 g0 g1 b11
          have c0 := T9.cq.blk.cell 0; have c1 := T9.cq.blk.cell 1; have f0 := T9.cq.blk.frozen 0; have f1 := T9.cq.blk.frozen 1; have o0 := T9.co.blk.cell 0; have o1 := T9.co.blk.cell 1
          simp at c0 c1 o0 o1
          go_upto_region 6 with (go_at_call 46; refine (Plus_any false false _ _ l2 lo ((q + q : Nat) : Int) ((1 : Nat) : Int) _ (by omega) (by omega) T9.cq.rd T9.co.rd T9.cq.nm T9.co.nm).mono ?_; rintro e w6 ⟨b6, v6, l9, rfl, hr6, hn6, hb6⟩; obtain ⟨rfl, hn6⟩ := hn6.pos (m := q + q + 1) (by omega); obtain ⟨A6, c6, rfl⟩ := hr6.sl; have T10 := T9.after hb6; have d0 := T10.cq.blk.cell 0; have d1 := T10.cq.blk.cell 1; have g0 := T10.cq.blk.frozen 0; have g1 := T10.cq.blk.frozen 1; simp at d0 d1; replace hn6 := hidden hn6)
          have T11 := T10.setq hr6 hn6.out
          generalize (w6.setCell ⟨w.heap.size + 1 + 1 + 1 + 1, 0, none⟩ (.bool false)).setCell ⟨w.heap.size + 1 + 1 + 1 + 1, 1, none⟩ (.slice A6 l9.length c6) = W11 at T11 ⊢
          clear T9 T10 hb6 hr6 hn6 c0 c1 f0 f1 d0 d1 g0 g1 o0 o1
          go_wp2
          go_roundg m
          case measure => have := hkk.out; omega
          case rel =>
            refine ⟨m, _, _, _, _, _, _, _, _, by omega, by go_num, rfl, ?_, T11⟩
            have e7 := hn7.out
            rw [hyv.out, h6v] at e7
            rw [show val l7 = _ - y from Nat.eq_sub_of_add_eq e7]
            exact hmore.out
        · have ez : decide (0 ≤ z) = false := by simp; omega
          have hless := hidden (pt_less' hP.out hbit.out (by have := hyv.out; omega))
          clear hz hge
          go_wp2
          go_roundg m
          case measure => have := hkk.out; omega
          case rel => exact ⟨m, _, _, _, _, _, _, _, _, by omega, by go_num, rfl, hless.out, T6⟩
end Go.Proofs.Ytpdbiofpoccjeaa.Ref
