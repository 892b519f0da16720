/- The walk over the reference's Do. -/
import Derived.Test.YtpdbiofpoccjeaaZt
namespace Go.Proofs.Ytpdbiofpoccjeaa.Ref
open Go.RowKit
/-- A number with its sign, in a block of its own. -/
structure Cs (wr : World) (g : Nat) (b : Bool) (v : Value) (l : List Nat) (n : Int) : Prop where
  blk : Blk wr g #[.bool b, v] 56
  rd : Rd wr v l
  nm : Nm b l n
theorem Cs.after {wr w1 : World} {g : Nat} {b : Bool} {v : Value} {l : List Nat} {n : Int} (h : Cs wr g b v l n) (hb : Below wr.heap.size wr w1) : Cs w1 g b v l n := ⟨h.blk.after hb, h.rd.after hb, h.nm⟩
theorem Cs.alloc {wr : World} {g : Nat} {b : Bool} {v : Value} {l : List Nat} {n : Int} (h : Cs wr g b v l n) (o : Obj) : Cs (wr.alloc o) g b v l n := h.after (bl_alloc (bl_refl wr) o)
theorem Cs.drew {wr : World} {g : Nat} {b : Bool} {v : Value} {l : List Nat} {n : Int} (h : Cs wr g b v l n) : Cs wr.drew g b v l n := h.after (bl_drew (bl_refl wr))
theorem Cs.far {wr : World} {g g' : Nat} {b : Bool} {v : Value} {l : List Nat} {n : Int} {cs : Array Value} (h : Cs wr g b v l n) (h' : Blk wr g' cs 56) (hne : g ≠ g') (u0 u1 : Value) : Cs ((wr.setCell ⟨g', 0, none⟩ u0).setCell ⟨g', 1, none⟩ u1) g b v l n :=
  ⟨h.blk.far2 g' hne u0 u1, h.rd.set2 h' (by decide) u0 u1, h.nm⟩
theorem Cs.set {wr : World} {g : Nat} {b : Bool} {v : Value} {l : List Nat} {n : Int} {x y : Value} (h : Blk wr g #[x, y] 56) (hr : Rd wr v l) (hn : Nm b l n) : Cs ((wr.setCell ⟨g, 0, none⟩ (.bool b)).setCell ⟨g, 1, none⟩ v) g b v l n :=
  ⟨h.set2 _ _, hr.set2 h (by decide) _ _, hn⟩
theorem Cs.new {wr : World} {b : Bool} {v : Value} {l : List Nat} {n : Int} (hr : Rd wr v l) (hn : Nm b l n) : Cs (wr.alloc (.cells #[.bool b, v] 56)) wr.heap.size b v l n := ⟨Blk.new _ _ _, hr.alloc _, hn⟩
/-- What Do reckons. -/
def doV (k aN aD bN bD : Int) : Int := if k = 0 then aN * bD + bN * aD else if k = 1 then aN * bD + -bN * aD else if k = 2 then aN * bN else divV aN aD bN bD
def doM (k aD bN bD : Int) : Nat := if k = 3 then (aD * bN).natAbs else (aD * bD).natAbs
theorem sum_len {b : Bool} {l : List Nat} {x y z t : Int} (h : Nm b l (x * y + z * t)) (hx : R64 x) (hy : R64 y) (hz : R64 z) (ht : R64 t) : l.length ≤ 9 := h.len (by have := prod_lt hx hy; have := prod_lt hz ht; omega)
theorem dif_len {b : Bool} {l : List Nat} {x y z t : Int} (h : Nm b l (x * y + -(z * t))) (hx : R64 x) (hy : R64 y) (hz : R64 z) (ht : R64 t) : l.length ≤ 9 := h.len (by have := prod_lt hx hy; have := prod_lt hz ht; omega)
theorem toldd_to {bn bd : Bool} {v u : Value} {ln ld : List Nat} {n d : Int} {w : World} {tN tD : Int} {tk : Bool} (eN : toldN (makeV n d) d.natAbs = tN) (eD : toldD (makeV n d) d.natAbs = tD) (ek : toldOk (makeV n d) d.natAbs = tk) (lln : ln.length ≤ 200) (lld : ld.length ≤ 200) (rn : Rd w v ln) (rd : Rd w u ld) (hn : Nm bn ln n) (hd : Nm bd ld d) :
    Calls Try.prog 33 #[.agg #[.bool bn, v], .agg #[.bool bd, u]] w (RetR tN tD tk w) := by
  have h := toldd_any bn bd v u ln ld n d w lln lld rn rd hn hd
  unfold RetT at h
  rwa [eN, eD, ek] at h
theorem do_no (k aN aD bN bD : Int) (hA : R64 aN) (hB : R64 aD) (hC : R64 bN) (hD : R64 bD) (hr : (rightB aN aD && rightB bN bD) = false) (v : Int) (m : Nat) (w : World) :
    Calls Try.prog 29 #[.int .i64 k, .agg #[.int .i64 aN, .int .i64 aD], .agg #[.int .i64 bN, .int .i64 bD]] w (RetOp aN aD bN bD v m w) := by
  have hP : RetOp aN aD bN bD v m = RetR 0 0 false := by unfold RetOp opN opD opOk; simp [hr]
  rw [hP]
  have cA := fun w => rright_any aN aD w hA hB
  have cB := fun w => rright_any bN bD w hC hD
  clear hP
  cases ra : rightB aN aD
  · rw [ra] at cA
    replace cA := hidden cA; replace ra := hidden ra; replace hr := hidden hr; clear cB
    go_enter Try.func29, Try.ntmps29
    go_wp2_with fail
    refine (cA.out _).mono ?_
    rintro e w1 ⟨rfl, hb1⟩
    have hbl := bl_then (bl_alloc (bl_alloc (bl_alloc (bl_refl w) _) _) _) hb1
    have BR : Blk w1 (w.heap.size + 1 + 1) #[.int .i64 0, .int .i64 0] 24 := Blk.after (Blk.made _ _ _ _ (by simp)) hb1
    have r0 := Blk2.c0 BR; have r1 := Blk2.c1 BR; have f0 := BR.frozen 0; have f1 := BR.frozen 1
    go_wp2_with fail
    simp [bodyPost, results, Try.results29, go_sem, r0, r1]
    exact ⟨rfl, bl_set (bl_set hbl _ _ (by omega) _) _ _ (by omega) _⟩
  · rw [ra, Bool.true_and] at hr
    rw [hr] at cB
    rw [ra] at cA
    replace cA := hidden cA; replace cB := hidden cB; replace ra := hidden ra; replace hr := hidden hr
    go_enter Try.func29, Try.ntmps29
    go_wp2_with fail
    refine (cA.out _).mono ?_
    rintro e w1 ⟨rfl, hb1⟩
    have hbl := bl_then (bl_alloc (bl_alloc (bl_alloc (bl_refl w) _) _) _) hb1
    have BB : Blk w1 (w.heap.size + 1) #[.int .i64 bN, .int .i64 bD] 24 := Blk.after ((Blk.made _ _ _ _ (by simp)).alloc _) hb1
    have BR : Blk w1 (w.heap.size + 1 + 1) #[.int .i64 0, .int .i64 0] 24 := Blk.after (Blk.made _ _ _ _ (by simp)) hb1
    have b0 := Blk2.c0 BB; have b1 := Blk2.c1 BB
    go_wp2_with fail
    refine (cB.out _).mono ?_
    rintro e w2 ⟨rfl, hb2⟩
    replace BR := BR.after hb2
    replace hbl := bl_then hbl hb2
    clear b0 b1
    have r0 := Blk2.c0 BR; have r1 := Blk2.c1 BR; have f0 := BR.frozen 0; have f1 := BR.frozen 1
    go_wp2_with fail
    simp [bodyPost, results, Try.results29, go_sem, r0, r1]
    exact ⟨rfl, bl_set (bl_set hbl _ _ (by omega) _) _ _ (by omega) _⟩
set_option maxRecDepth 100000 in
set_option maxHeartbeats 16000000 in
theorem do_yes (k aN aD bN bD : Int) (hk : k = 0 ∨ k = 1 ∨ k = 2 ∨ k = 3) (hA : R64 aN) (hB : R64 aD) (hC : R64 bN) (hD : R64 bD) (ra : rightB aN aD = true) (rb : rightB bN bD = true) (w : World) :
    Calls Try.prog 29 #[.int .i64 k, .agg #[.int .i64 aN, .int .i64 aD], .agg #[.int .i64 bN, .int .i64 bD]] w (RetOp aN aD bN bD (doV k aN aD bN bD) (doM k aD bN bD) w) := by
  have hP : RetOp aN aD bN bD (doV k aN aD bN bD) (doM k aD bN bD) = RetT (doV k aN aD bN bD) (doM k aD bN bD) := by unfold RetOp RetT opN opD opOk; simp [ra, rb]
  rw [hP]
  generalize hPP : RetT (doV k aN aD bN bD) (doM k aD bN bD) = P
  replace hPP := hidden hPP
  have hp := Int.mul_pos (right_pos ra) (right_pos rb)
  have cA := fun w => rright_any aN aD w hA hB
  have cB := fun w => rright_any bN bD w hC hD
  rw [ra] at cA
  rw [rb] at cB
  clear hP
  replace cA := hidden cA; replace cB := hidden cB; replace ra := hidden ra; replace rb := hidden rb; replace hk := hidden hk; replace hp := hidden hp
  go_enter Try.func29, Try.ntmps29
  go_wp2_with fail
  refine (cA.out _).mono ?_
  rintro e w1 ⟨rfl, hb1⟩
  have hbl := bl_then (bl_alloc (bl_alloc (bl_alloc (bl_refl w) _) _) _) hb1
  have BA : Blk w1 w.heap.size #[.int .i64 aN, .int .i64 aD] 24 := (((Blk.new _ _ _).alloc _).alloc _).after hb1
  have BB : Blk w1 (w.heap.size + 1) #[.int .i64 bN, .int .i64 bD] 24 := Blk.after ((Blk.made _ _ _ _ (by simp)).alloc _) hb1
  have BR : Blk w1 (w.heap.size + 1 + 1) #[.int .i64 0, .int .i64 0] 24 := Blk.after (Blk.made _ _ _ _ (by simp)) hb1
  have b0 := Blk2.c0 BB; have b1 := Blk2.c1 BB
  go_upto_region 3 with (go_at_call 45; refine (cB.out _).mono ?_; rintro e W3 ⟨rfl, hb2⟩; replace BA := BA.after hb2; replace BB := BB.after hb2; replace BR := BR.after hb2; replace hbl := bl_then hbl hb2)
  clear hb1 hb2 b0 b1 cA cB
  have c0 := Blk2.c0 BA
  have hl8 := BR.lt
  go_upto_region 4 with (go_at_call 34; refine (ofn_any aN _ hA).mono ?_; rintro e wk ⟨b8, v8, l8, rfl, hr, hn, hbk⟩; obtain ⟨A8, c8, rfl⟩ := hr.sl)
  clear c0
  have C8 := Cs.new hr hn
  have hG8 : w.heap.size + 1 + 1 < wk.heap.size := by have := hbk.size; omega
  replace BA := (BA.after hbk).alloc (.cells #[.bool b8, .slice A8 l8.length c8] 56)
  replace BB := (BB.after hbk).alloc (.cells #[.bool b8, .slice A8 l8.length c8] 56)
  replace BR := (BR.after hbk).alloc (.cells #[.bool b8, .slice A8 l8.length c8] 56)
  replace hbl := bl_alloc (bl_then hbl hbk) (.cells #[.bool b8, .slice A8 l8.length c8] 56)
  generalize wk.alloc (.cells #[.bool b8, .slice A8 l8.length c8] 56) = W8 at BA BB BR C8 hbl ⊢
  generalize wk.heap.size = G8 at C8 hG8 ⊢
  clear hr hn hbk hl8
  have c0 := Blk2.c1 BA
  have hl9 := C8.blk.lt
  go_upto_region 5 with (go_at_call 34; refine (ofn_any aD _ hB).mono ?_; rintro e wk ⟨b9, v9, l9, rfl, hr, hn, hbk⟩; obtain ⟨A9, c9, rfl⟩ := hr.sl)
  clear c0
  have C9 := Cs.new hr hn
  have hG9 : G8 < wk.heap.size := by have := hbk.size; omega
  replace BA := (BA.after hbk).alloc (.cells #[.bool b9, .slice A9 l9.length c9] 56)
  replace BB := (BB.after hbk).alloc (.cells #[.bool b9, .slice A9 l9.length c9] 56)
  replace BR := (BR.after hbk).alloc (.cells #[.bool b9, .slice A9 l9.length c9] 56)
  replace C8 := (C8.after hbk).alloc (.cells #[.bool b9, .slice A9 l9.length c9] 56)
  replace hbl := bl_alloc (bl_then hbl hbk) (.cells #[.bool b9, .slice A9 l9.length c9] 56)
  generalize wk.alloc (.cells #[.bool b9, .slice A9 l9.length c9] 56) = W9 at BA BB BR C8 C9 hbl ⊢
  generalize wk.heap.size = G9 at C9 hG9 ⊢
  clear hr hn hbk hl9
  have c0 := Blk2.c0 BB
  have hl10 := C9.blk.lt
  go_upto_region 6 with (go_at_call 34; refine (ofn_any bN _ hC).mono ?_; rintro e wk ⟨b10, v10, l10, rfl, hr, hn, hbk⟩; obtain ⟨A10, c10, rfl⟩ := hr.sl)
  clear c0
  have C10 := Cs.new hr hn
  have hG10 : G9 < wk.heap.size := by have := hbk.size; omega
  replace BA := (BA.after hbk).alloc (.cells #[.bool b10, .slice A10 l10.length c10] 56)
  replace BB := (BB.after hbk).alloc (.cells #[.bool b10, .slice A10 l10.length c10] 56)
  replace BR := (BR.after hbk).alloc (.cells #[.bool b10, .slice A10 l10.length c10] 56)
  replace C8 := (C8.after hbk).alloc (.cells #[.bool b10, .slice A10 l10.length c10] 56)
  replace C9 := (C9.after hbk).alloc (.cells #[.bool b10, .slice A10 l10.length c10] 56)
  replace hbl := bl_alloc (bl_then hbl hbk) (.cells #[.bool b10, .slice A10 l10.length c10] 56)
  generalize wk.alloc (.cells #[.bool b10, .slice A10 l10.length c10] 56) = W10 at BA BB BR C8 C9 C10 hbl ⊢
  generalize wk.heap.size = G10 at C10 hG10 ⊢
  clear hr hn hbk hl10
  have c0 := Blk2.c1 BB
  have hl11 := C10.blk.lt
  go_upto_region 7 with (go_at_call 34; refine (ofn_any bD _ hD).mono ?_; rintro e wk ⟨b11, v11, l11, rfl, hr, hn, hbk⟩; obtain ⟨A11, c11, rfl⟩ := hr.sl)
  clear c0
  have C11 := Cs.new hr hn
  have hG11 : G10 < wk.heap.size := by have := hbk.size; omega
  replace BA := (BA.after hbk).alloc (.cells #[.bool b11, .slice A11 l11.length c11] 56)
  replace BB := (BB.after hbk).alloc (.cells #[.bool b11, .slice A11 l11.length c11] 56)
  replace BR := (BR.after hbk).alloc (.cells #[.bool b11, .slice A11 l11.length c11] 56)
  replace C8 := (C8.after hbk).alloc (.cells #[.bool b11, .slice A11 l11.length c11] 56)
  replace C9 := (C9.after hbk).alloc (.cells #[.bool b11, .slice A11 l11.length c11] 56)
  replace C10 := (C10.after hbk).alloc (.cells #[.bool b11, .slice A11 l11.length c11] 56)
  replace hbl := bl_alloc (bl_then hbl hbk) (.cells #[.bool b11, .slice A11 l11.length c11] 56)
  generalize wk.alloc (.cells #[.bool b11, .slice A11 l11.length c11] 56) = W11 at BA BB BR C8 C9 C10 C11 hbl ⊢
  generalize wk.heap.size = G11 at C11 hG11 ⊢
  clear hr hn hbk hl11
  have hG12 := C11.blk.lt
  go_upto_region 8 with (fail)
  have C12 : Blk (W11.alloc (.cells #[.bool false, .slice none 0 0] 56)) W11.heap.size #[.bool false, .slice none 0 0] 56 := Blk.new _ _ _
  replace BA := BA.alloc (.cells #[.bool false, .slice none 0 0] 56)
  replace BB := BB.alloc (.cells #[.bool false, .slice none 0 0] 56)
  replace BR := BR.alloc (.cells #[.bool false, .slice none 0 0] 56)
  replace C8 := C8.alloc (.cells #[.bool false, .slice none 0 0] 56)
  replace C9 := C9.alloc (.cells #[.bool false, .slice none 0 0] 56)
  replace C10 := C10.alloc (.cells #[.bool false, .slice none 0 0] 56)
  replace C11 := C11.alloc (.cells #[.bool false, .slice none 0 0] 56)
  replace hbl := bl_alloc hbl (.cells #[.bool false, .slice none 0 0] 56)
  generalize W11.alloc (.cells #[.bool false, .slice none 0 0] 56) = W12 at BA BB BR C8 C9 C10 C11 C12 hbl ⊢
  generalize W11.heap.size = G12 at C12 hG12 ⊢
  have k9 := len64 C9.nm hB; have k11 := len64 C11.nm hD; have k8 := len64 C8.nm hA; have k10 := len64 C10.nm hC
  have x0 := Blk2.c0 C9.blk; have x1 := Blk2.c1 C9.blk; have y0 := Blk2.c0 C11.blk; have y1 := Blk2.c1 C11.blk
  have hl13 := C12.lt
  go_upto_region 9 with (go_at_call 37; refine (times_any b9 b11 _ _ l9 l11 aD bD _ (by omega) (by omega) C9.rd C11.rd C9.nm C11.nm).mono ?_; rintro e wk ⟨b13, v13, l13, rfl, hr, hn, hbk⟩; obtain ⟨A13, c13, rfl⟩ := hr.sl)
  clear x0 x1 y0 y1
  have C13 := Cs.new hr hn
  have hG13 : G12 < wk.heap.size := by have := hbk.size; omega
  replace C12 := (C12.after hbk).alloc (.cells #[.bool b13, .slice A13 l13.length c13] 56)
  replace BA := (BA.after hbk).alloc (.cells #[.bool b13, .slice A13 l13.length c13] 56)
  replace BB := (BB.after hbk).alloc (.cells #[.bool b13, .slice A13 l13.length c13] 56)
  replace BR := (BR.after hbk).alloc (.cells #[.bool b13, .slice A13 l13.length c13] 56)
  replace C8 := (C8.after hbk).alloc (.cells #[.bool b13, .slice A13 l13.length c13] 56)
  replace C9 := (C9.after hbk).alloc (.cells #[.bool b13, .slice A13 l13.length c13] 56)
  replace C10 := (C10.after hbk).alloc (.cells #[.bool b13, .slice A13 l13.length c13] 56)
  replace C11 := (C11.after hbk).alloc (.cells #[.bool b13, .slice A13 l13.length c13] 56)
  replace hbl := bl_alloc (bl_then hbl hbk) (.cells #[.bool b13, .slice A13 l13.length c13] 56)
  generalize wk.alloc (.cells #[.bool b13, .slice A13 l13.length c13] 56) = W13 at BA BB BR C8 C9 C10 C11 C12 C13 hbl ⊢
  generalize wk.heap.size = G13 at C13 hG13 ⊢
  clear hr hn hbk hl13 BA BB
  have k13 := prod_len C13.nm hB hD
  have q8 := Blk2.c0 C8.blk; have p8 := Blk2.c1 C8.blk; have q9 := Blk2.c0 C9.blk; have p9 := Blk2.c1 C9.blk; have q10 := Blk2.c0 C10.blk; have p10 := Blk2.c1 C10.blk; have q11 := Blk2.c0 C11.blk; have p11 := Blk2.c1 C11.blk; have q12 := Blk2.c0 C12; have p12 := Blk2.c1 C12; have q13 := Blk2.c0 C13.blk; have p13 := Blk2.c1 C13.blk
  have f0 := C12.frozen 0; have f1 := C12.frozen 1
  have t8 := C8.blk.lt; have t9 := C9.blk.lt; have t10 := C10.blk.lt; have t11 := C11.blk.lt; have t12 := C12.lt
  rcases hk.out with rfl | rfl | rfl | rfl
  · go_upto_region 11 with (fail)
    have hS := bl_refl W13
    have ne8 : G8 ≠ G12 := by omega
    have ne9 : G9 ≠ G12 := by omega
    have ne10 : G10 ≠ G12 := by omega
    have ne11 : G11 ≠ G12 := by omega
    go_region_held3 (fun w' => ∀ b o, b < W13.heap.size → b ≠ G12 → w'.cell? ⟨b, o, none⟩ = W13.cell? ⟨b, o, none⟩)
          ((intro b o h hne; first | exact (bcell hS).1 b o h | exact (bcell (bl_drew hS)).1 b o h | exact (cell_far hne).trans ((cell_far hne).trans ((bcell hS).1 b o h))))
          (first
            | (go_at_call_of 37 (Value.agg #[.bool b8, .slice A8 l8.length c8]); refine (times_any b8 b11 _ _ l8 l11 aN bD _ (by omega) (by omega) (by first | (with_reducible exact C8.rd) | (with_reducible exact C8.drew.rd)) (by first | (with_reducible exact C11.rd) | (with_reducible exact C11.drew.rd)) C8.nm C11.nm).mono ?_; rintro e wk1 ⟨s1, v1, m1, rfl, hr1, hn1, hbk⟩; have lsz1 := hbk.size; (try simp at lsz1); obtain ⟨S1, d1, rfl⟩ := hr1.sl; (try replace C9 := (by first | (with_reducible exact C9.after hbk) | (with_reducible exact (C9.alloc _).after hbk) | (with_reducible exact C9.drew.after hbk) | (with_reducible exact (C9.alloc _).drew.after hbk))); (try replace C10 := (by first | (with_reducible exact C10.after hbk) | (with_reducible exact (C10.alloc _).after hbk) | (with_reducible exact C10.drew.after hbk) | (with_reducible exact (C10.alloc _).drew.after hbk))); (try replace C13 := (by first | (with_reducible exact C13.after hbk) | (with_reducible exact (C13.alloc _).after hbk) | (with_reducible exact C13.drew.after hbk) | (with_reducible exact (C13.alloc _).drew.after hbk))); (try replace BR := (by first | (with_reducible exact BR.after hbk) | (with_reducible exact (BR.alloc _).after hbk) | (with_reducible exact BR.drew.after hbk) | (with_reducible exact (BR.alloc _).drew.after hbk))); (try replace C12 := (by first | (with_reducible exact C12.after hbk) | (with_reducible exact (C12.alloc _).after hbk) | (with_reducible exact C12.drew.after hbk) | (with_reducible exact (C12.alloc _).drew.after hbk))); (replace hbl := (by first | (with_reducible exact bl_then hbl hbk) | (with_reducible exact bl_then (bl_alloc hbl _) hbk) | (with_reducible exact bl_then (bl_drew hbl) hbk) | (with_reducible exact bl_then (bl_drew (bl_alloc hbl _)) hbk))); (replace hS := (by first | (with_reducible exact bl_then hS hbk) | (with_reducible exact bl_then (bl_alloc hS _) hbk) | (with_reducible exact bl_then (bl_drew hS) hbk) | (with_reducible exact bl_then (bl_drew (bl_alloc hS _)) hbk))); skip; clear hbk)
            | (go_at_call_of 37 (Value.agg #[.bool b10, .slice A10 l10.length c10]); refine (times_any b10 b9 _ _ l10 l9 bN aD _ (by omega) (by omega) (by first | (with_reducible exact C10.rd) | (with_reducible exact C10.drew.rd)) (by first | (with_reducible exact C9.rd) | (with_reducible exact C9.drew.rd)) C10.nm C9.nm).mono ?_; rintro e wk2 ⟨s2, v2, m2, rfl, hr2, hn2, hbk⟩; have lsz2 := hbk.size; (try simp at lsz2); obtain ⟨S2, d2, rfl⟩ := hr2.sl; (try replace C13 := (by first | (with_reducible exact C13.after hbk) | (with_reducible exact (C13.alloc _).after hbk) | (with_reducible exact C13.drew.after hbk) | (with_reducible exact (C13.alloc _).drew.after hbk))); (try replace BR := (by first | (with_reducible exact BR.after hbk) | (with_reducible exact (BR.alloc _).after hbk) | (with_reducible exact BR.drew.after hbk) | (with_reducible exact (BR.alloc _).drew.after hbk))); (try replace C12 := (by first | (with_reducible exact C12.after hbk) | (with_reducible exact (C12.alloc _).after hbk) | (with_reducible exact C12.drew.after hbk) | (with_reducible exact (C12.alloc _).drew.after hbk))); (try replace hr1 := (by first | (with_reducible exact hr1.after hbk) | (with_reducible exact (hr1.alloc _).after hbk) | (with_reducible exact hr1.drew.after hbk) | (with_reducible exact (hr1.alloc _).drew.after hbk))); (replace hbl := (by first | (with_reducible exact bl_then hbl hbk) | (with_reducible exact bl_then (bl_alloc hbl _) hbk) | (with_reducible exact bl_then (bl_drew hbl) hbk) | (with_reducible exact bl_then (bl_drew (bl_alloc hbl _)) hbk))); (replace hS := (by first | (with_reducible exact bl_then hS hbk) | (with_reducible exact bl_then (bl_alloc hS _) hbk) | (with_reducible exact bl_then (bl_drew hS) hbk) | (with_reducible exact bl_then (bl_drew (bl_alloc hS _)) hbk))); skip; clear hbk)
            | (go_at_call 46; refine (Plus_any s1 s2 _ _ m1 m2 (aN * bD) (bN * aD) _ (by have := prod_len hn1 hA hD; omega) (by have := prod_len hn2 hC hB; omega) (by first | (with_reducible exact hr1) | (with_reducible exact hr1.alloc _) | (with_reducible exact hr1.drew) | (with_reducible exact (hr1.alloc _).drew)) (by first | (with_reducible exact hr2) | (with_reducible exact hr2.alloc _) | (with_reducible exact hr2.drew) | (with_reducible exact (hr2.alloc _).drew)) hn1 hn2).mono ?_; rintro e wk3 ⟨s3, v3, m3, rfl, hr3, hn3, hbk⟩; have lsz3 := hbk.size; (try simp at lsz3); obtain ⟨S3, d3, rfl⟩ := hr3.sl; (try replace C13 := (by first | (with_reducible exact C13.after hbk) | (with_reducible exact (C13.alloc _).after hbk) | (with_reducible exact C13.drew.after hbk) | (with_reducible exact (C13.alloc _).drew.after hbk))); (try replace BR := (by first | (with_reducible exact BR.after hbk) | (with_reducible exact (BR.alloc _).after hbk) | (with_reducible exact BR.drew.after hbk) | (with_reducible exact (BR.alloc _).drew.after hbk))); (try replace C12 := (by first | (with_reducible exact C12.after hbk) | (with_reducible exact (C12.alloc _).after hbk) | (with_reducible exact C12.drew.after hbk) | (with_reducible exact (C12.alloc _).drew.after hbk))); (replace hbl := (by first | (with_reducible exact bl_then hbl hbk) | (with_reducible exact bl_then (bl_alloc hbl _) hbk) | (with_reducible exact bl_then (bl_drew hbl) hbk) | (with_reducible exact bl_then (bl_drew (bl_alloc hbl _)) hbk))); (replace hS := (by first | (with_reducible exact bl_then hS hbk) | (with_reducible exact bl_then (bl_alloc hS _) hbk) | (with_reducible exact bl_then (bl_drew hS) hbk) | (with_reducible exact bl_then (bl_drew (bl_alloc hS _)) hbk))); skip; have z0 := Blk2.c0 C12; have z1 := Blk2.c1 C12; have zf0 := C12.frozen 0; have zf1 := C12.frozen 1; clear hbk))
    all_goals
      (try clear q8 p8 q9 p9 q10 p10 q11 p11 q12 p12 q13 p13 f0 f1 t8 t9 t10 t11 t12)
      go_upto_region 19 with (fail)
      have E12 := Cs.set C12 hr3 hn3
      have E13 := C13.far C12 (by omega) (.bool s3) (.slice S3 m3.length d3)
      replace BR := BR.far2 G12 (by omega) (.bool s3) (.slice S3 m3.length d3)
      replace hbl := bl_set (bl_set hbl G12 0 (by omega) (.bool s3)) G12 1 (by omega) (.slice S3 m3.length d3)
      generalize (wk3.setCell ⟨G12, 0, none⟩ (.bool s3)).setCell ⟨G12, 1, none⟩ (.slice S3 m3.length d3) = WE at E12 E13 BR hbl ⊢
      clear C12 C13
      obtain ⟨tN, eN⟩ : ∃ tN, toldN (makeV (aN * bD + bN * aD) (aD * bD)) (aD * bD).natAbs = tN := ⟨_, rfl⟩
      obtain ⟨tD, eD⟩ : ∃ tD, toldD (makeV (aN * bD + bN * aD) (aD * bD)) (aD * bD).natAbs = tD := ⟨_, rfl⟩
      obtain ⟨tk, ek⟩ : ∃ tk, toldOk (makeV (aN * bD + bN * aD) (aD * bD)) (aD * bD).natAbs = tk := ⟨_, rfl⟩
      have hfin : Hid (P = RetR tN tD tk) := by
        show _ = _
        rw [← hPP.out, show doV 0 aN aD bN bD = makeV (aN * bD + bN * aD) (aD * bD) from (by unfold makeV; rw [if_neg (by have := hp.out; omega)]; simp [doV]), show doM 0 aD bN bD = (aD * bD).natAbs from rfl]
        unfold RetT
        rw [eN, eD, ek]
      have c33 := hidden (fun w r1 r2 => toldd_to (v := .slice S3 m3.length d3) (u := (.slice A13 l13.length c13)) (w := w) eN eD ek (by have := sum_len E12.nm hA hD hC hB; omega) (by omega) r1 r2 E12.nm E13.nm)
      clear hPP eN eD ek
      have x0 := Blk2.c0 E12.blk; have x1 := Blk2.c1 E12.blk; have y0 := Blk2.c0 E13.blk; have y1 := Blk2.c1 E13.blk
      go_upto_region 20 with (go_at_call 33; refine (c33.out _ E12.rd E13.rd).mono ?_; rintro e wk ⟨rfl, hbk⟩; replace BR := BR.after hbk; replace hbl := bl_then hbl hbk)
      clear x0 x1 y0 y1
      have lR := BR.lt
      have E := (BR.alloc (.cells #[.int .i64 tN, .int .i64 tD] 24)).set2 (.int .i64 tN) (.int .i64 tD)
      have E0 := Blk2.c0 BR; have E1 := Blk2.c1 BR; have g0 := BR.frozen 0; have g1 := BR.frozen 1
      have E' := (BR.set2 (.int .i64 tN) (.int .i64 tD)).alloc (.cells #[.int .i64 tN, .int .i64 tD] 24)
      have F0 := Blk2.c0 E'; have F1 := Blk2.c1 E'
      go_wp2_with fail
      simp [bodyPost, results, Try.results29, go_sem, F0, F1]
      rw [hfin.out]
      exact ⟨rfl, by repeat (first | exact hbl | apply bl_alloc | refine bl_set ?_ _ _ (by omega) _)⟩
  · go_upto_region 13 with (fail)
    have hS := bl_refl W13
    have ne8 : G8 ≠ G12 := by omega
    have ne9 : G9 ≠ G12 := by omega
    have ne10 : G10 ≠ G12 := by omega
    have ne11 : G11 ≠ G12 := by omega
    go_region_held3 (fun w' => ∀ b o, b < W13.heap.size → b ≠ G12 → w'.cell? ⟨b, o, none⟩ = W13.cell? ⟨b, o, none⟩)
          ((intro b o h hne; first | exact (bcell hS).1 b o h | exact (bcell (bl_drew hS)).1 b o h | exact (cell_far hne).trans ((cell_far hne).trans ((bcell hS).1 b o h))))
          (first
            | (go_at_call_of 37 (Value.agg #[.bool b8, .slice A8 l8.length c8]); refine (times_any b8 b11 _ _ l8 l11 aN bD _ (by omega) (by omega) (by first | (with_reducible exact C8.rd) | (with_reducible exact C8.drew.rd)) (by first | (with_reducible exact C11.rd) | (with_reducible exact C11.drew.rd)) C8.nm C11.nm).mono ?_; rintro e wk1 ⟨s1, v1, m1, rfl, hr1, hn1, hbk⟩; have lsz1 := hbk.size; (try simp at lsz1); obtain ⟨S1, d1, rfl⟩ := hr1.sl; (try replace C9 := (by first | (with_reducible exact C9.after hbk) | (with_reducible exact (C9.alloc _).after hbk) | (with_reducible exact C9.drew.after hbk) | (with_reducible exact (C9.alloc _).drew.after hbk))); (try replace C10 := (by first | (with_reducible exact C10.after hbk) | (with_reducible exact (C10.alloc _).after hbk) | (with_reducible exact C10.drew.after hbk) | (with_reducible exact (C10.alloc _).drew.after hbk))); (try replace C13 := (by first | (with_reducible exact C13.after hbk) | (with_reducible exact (C13.alloc _).after hbk) | (with_reducible exact C13.drew.after hbk) | (with_reducible exact (C13.alloc _).drew.after hbk))); (try replace BR := (by first | (with_reducible exact BR.after hbk) | (with_reducible exact (BR.alloc _).after hbk) | (with_reducible exact BR.drew.after hbk) | (with_reducible exact (BR.alloc _).drew.after hbk))); (try replace C12 := (by first | (with_reducible exact C12.after hbk) | (with_reducible exact (C12.alloc _).after hbk) | (with_reducible exact C12.drew.after hbk) | (with_reducible exact (C12.alloc _).drew.after hbk))); (replace hbl := (by first | (with_reducible exact bl_then hbl hbk) | (with_reducible exact bl_then (bl_alloc hbl _) hbk) | (with_reducible exact bl_then (bl_drew hbl) hbk) | (with_reducible exact bl_then (bl_drew (bl_alloc hbl _)) hbk))); (replace hS := (by first | (with_reducible exact bl_then hS hbk) | (with_reducible exact bl_then (bl_alloc hS _) hbk) | (with_reducible exact bl_then (bl_drew hS) hbk) | (with_reducible exact bl_then (bl_drew (bl_alloc hS _)) hbk))); skip; clear hbk)
            | (go_at_call_of 37 (Value.agg #[.bool b10, .slice A10 l10.length c10]); refine (times_any b10 b9 _ _ l10 l9 bN aD _ (by omega) (by omega) (by first | (with_reducible exact C10.rd) | (with_reducible exact C10.drew.rd)) (by first | (with_reducible exact C9.rd) | (with_reducible exact C9.drew.rd)) C10.nm C9.nm).mono ?_; rintro e wk2 ⟨s2, v2, m2, rfl, hr2, hn2, hbk⟩; have lsz2 := hbk.size; (try simp at lsz2); obtain ⟨S2, d2, rfl⟩ := hr2.sl; (try replace C13 := (by first | (with_reducible exact C13.after hbk) | (with_reducible exact (C13.alloc _).after hbk) | (with_reducible exact C13.drew.after hbk) | (with_reducible exact (C13.alloc _).drew.after hbk))); (try replace BR := (by first | (with_reducible exact BR.after hbk) | (with_reducible exact (BR.alloc _).after hbk) | (with_reducible exact BR.drew.after hbk) | (with_reducible exact (BR.alloc _).drew.after hbk))); (try replace C12 := (by first | (with_reducible exact C12.after hbk) | (with_reducible exact (C12.alloc _).after hbk) | (with_reducible exact C12.drew.after hbk) | (with_reducible exact (C12.alloc _).drew.after hbk))); (try replace hr1 := (by first | (with_reducible exact hr1.after hbk) | (with_reducible exact (hr1.alloc _).after hbk) | (with_reducible exact hr1.drew.after hbk) | (with_reducible exact (hr1.alloc _).drew.after hbk))); (replace hbl := (by first | (with_reducible exact bl_then hbl hbk) | (with_reducible exact bl_then (bl_alloc hbl _) hbk) | (with_reducible exact bl_then (bl_drew hbl) hbk) | (with_reducible exact bl_then (bl_drew (bl_alloc hbl _)) hbk))); (replace hS := (by first | (with_reducible exact bl_then hS hbk) | (with_reducible exact bl_then (bl_alloc hS _) hbk) | (with_reducible exact bl_then (bl_drew hS) hbk) | (with_reducible exact bl_then (bl_drew (bl_alloc hS _)) hbk))); skip; clear hbk)
            | (go_at_call 38; refine (neg_any s2 _ m2 (bN * aD) _ (by have := prod_len hn2 hC hB; omega) (by first | (with_reducible exact hr2) | (with_reducible exact hr2.alloc _) | (with_reducible exact hr2.drew) | (with_reducible exact (hr2.alloc _).drew)) hn2).mono ?_; rintro e wk4 ⟨s4, v4, m4, rfl, hr4, hn4, hbk⟩; have lsz4 := hbk.size; (try simp at lsz4); obtain ⟨S4, d4, rfl⟩ := hr4.sl; (try replace C13 := (by first | (with_reducible exact C13.after hbk) | (with_reducible exact (C13.alloc _).after hbk) | (with_reducible exact C13.drew.after hbk) | (with_reducible exact (C13.alloc _).drew.after hbk))); (try replace BR := (by first | (with_reducible exact BR.after hbk) | (with_reducible exact (BR.alloc _).after hbk) | (with_reducible exact BR.drew.after hbk) | (with_reducible exact (BR.alloc _).drew.after hbk))); (try replace C12 := (by first | (with_reducible exact C12.after hbk) | (with_reducible exact (C12.alloc _).after hbk) | (with_reducible exact C12.drew.after hbk) | (with_reducible exact (C12.alloc _).drew.after hbk))); (try replace hr1 := (by first | (with_reducible exact hr1.after hbk) | (with_reducible exact (hr1.alloc _).after hbk) | (with_reducible exact hr1.drew.after hbk) | (with_reducible exact (hr1.alloc _).drew.after hbk))); (replace hbl := (by first | (with_reducible exact bl_then hbl hbk) | (with_reducible exact bl_then (bl_alloc hbl _) hbk) | (with_reducible exact bl_then (bl_drew hbl) hbk) | (with_reducible exact bl_then (bl_drew (bl_alloc hbl _)) hbk))); (replace hS := (by first | (with_reducible exact bl_then hS hbk) | (with_reducible exact bl_then (bl_alloc hS _) hbk) | (with_reducible exact bl_then (bl_drew hS) hbk) | (with_reducible exact bl_then (bl_drew (bl_alloc hS _)) hbk))); skip; clear hbk)
            | (go_at_call 46; refine (Plus_any s1 s4 _ _ m1 m4 (aN * bD) (-(bN * aD)) _ (by have := prod_len hn1 hA hD; omega) (by have := prod_len' hn4 hC hB; omega) (by first | (with_reducible exact hr1) | (with_reducible exact hr1.alloc _) | (with_reducible exact hr1.drew) | (with_reducible exact (hr1.alloc _).drew)) (by first | (with_reducible exact hr4) | (with_reducible exact hr4.alloc _) | (with_reducible exact hr4.drew) | (with_reducible exact (hr4.alloc _).drew)) hn1 hn4).mono ?_; rintro e wk3 ⟨s3, v3, m3, rfl, hr3, hn3, hbk⟩; have lsz3 := hbk.size; (try simp at lsz3); obtain ⟨S3, d3, rfl⟩ := hr3.sl; (try replace C13 := (by first | (with_reducible exact C13.after hbk) | (with_reducible exact (C13.alloc _).after hbk) | (with_reducible exact C13.drew.after hbk) | (with_reducible exact (C13.alloc _).drew.after hbk))); (try replace BR := (by first | (with_reducible exact BR.after hbk) | (with_reducible exact (BR.alloc _).after hbk) | (with_reducible exact BR.drew.after hbk) | (with_reducible exact (BR.alloc _).drew.after hbk))); (try replace C12 := (by first | (with_reducible exact C12.after hbk) | (with_reducible exact (C12.alloc _).after hbk) | (with_reducible exact C12.drew.after hbk) | (with_reducible exact (C12.alloc _).drew.after hbk))); (replace hbl := (by first | (with_reducible exact bl_then hbl hbk) | (with_reducible exact bl_then (bl_alloc hbl _) hbk) | (with_reducible exact bl_then (bl_drew hbl) hbk) | (with_reducible exact bl_then (bl_drew (bl_alloc hbl _)) hbk))); (replace hS := (by first | (with_reducible exact bl_then hS hbk) | (with_reducible exact bl_then (bl_alloc hS _) hbk) | (with_reducible exact bl_then (bl_drew hS) hbk) | (with_reducible exact bl_then (bl_drew (bl_alloc hS _)) hbk))); skip; have z0 := Blk2.c0 C12; have z1 := Blk2.c1 C12; have zf0 := C12.frozen 0; have zf1 := C12.frozen 1; clear hbk))
    all_goals
      (try clear q8 p8 q9 p9 q10 p10 q11 p11 q12 p12 q13 p13 f0 f1 t8 t9 t10 t11 t12)
      go_upto_region 19 with (fail)
      have E12 := Cs.set C12 hr3 hn3
      have E13 := C13.far C12 (by omega) (.bool s3) (.slice S3 m3.length d3)
      replace BR := BR.far2 G12 (by omega) (.bool s3) (.slice S3 m3.length d3)
      replace hbl := bl_set (bl_set hbl G12 0 (by omega) (.bool s3)) G12 1 (by omega) (.slice S3 m3.length d3)
      generalize (wk3.setCell ⟨G12, 0, none⟩ (.bool s3)).setCell ⟨G12, 1, none⟩ (.slice S3 m3.length d3) = WE at E12 E13 BR hbl ⊢
      clear C12 C13
      obtain ⟨tN, eN⟩ : ∃ tN, toldN (makeV (aN * bD + -(bN * aD)) (aD * bD)) (aD * bD).natAbs = tN := ⟨_, rfl⟩
      obtain ⟨tD, eD⟩ : ∃ tD, toldD (makeV (aN * bD + -(bN * aD)) (aD * bD)) (aD * bD).natAbs = tD := ⟨_, rfl⟩
      obtain ⟨tk, ek⟩ : ∃ tk, toldOk (makeV (aN * bD + -(bN * aD)) (aD * bD)) (aD * bD).natAbs = tk := ⟨_, rfl⟩
      have hfin : Hid (P = RetR tN tD tk) := by
        show _ = _
        rw [← hPP.out, show doV 1 aN aD bN bD = makeV (aN * bD + -(bN * aD)) (aD * bD) from (by unfold makeV; rw [if_neg (by have := hp.out; omega)]; simp [doV, Int.neg_mul]), show doM 1 aD bN bD = (aD * bD).natAbs from rfl]
        unfold RetT
        rw [eN, eD, ek]
      have c33 := hidden (fun w r1 r2 => toldd_to (v := .slice S3 m3.length d3) (u := (.slice A13 l13.length c13)) (w := w) eN eD ek (by have := dif_len E12.nm hA hD hC hB; omega) (by omega) r1 r2 E12.nm E13.nm)
      clear hPP eN eD ek
      have x0 := Blk2.c0 E12.blk; have x1 := Blk2.c1 E12.blk; have y0 := Blk2.c0 E13.blk; have y1 := Blk2.c1 E13.blk
      go_upto_region 20 with (go_at_call 33; refine (c33.out _ E12.rd E13.rd).mono ?_; rintro e wk ⟨rfl, hbk⟩; replace BR := BR.after hbk; replace hbl := bl_then hbl hbk)
      clear x0 x1 y0 y1
      have lR := BR.lt
      have E := (BR.alloc (.cells #[.int .i64 tN, .int .i64 tD] 24)).set2 (.int .i64 tN) (.int .i64 tD)
      have E0 := Blk2.c0 BR; have E1 := Blk2.c1 BR; have g0 := BR.frozen 0; have g1 := BR.frozen 1
      have E' := (BR.set2 (.int .i64 tN) (.int .i64 tD)).alloc (.cells #[.int .i64 tN, .int .i64 tD] 24)
      have F0 := Blk2.c0 E'; have F1 := Blk2.c1 E'
      go_wp2_with fail
      simp [bodyPost, results, Try.results29, go_sem, F0, F1]
      rw [hfin.out]
      exact ⟨rfl, by repeat (first | exact hbl | apply bl_alloc | refine bl_set ?_ _ _ (by omega) _)⟩
  · go_upto_region 19 with (go_at_call 37; refine (times_any b8 b10 _ _ l8 l10 aN bN _ (by omega) (by omega) C8.rd C10.rd C8.nm C10.nm).mono ?_; rintro e wk3 ⟨s3, v3, m3, rfl, hr3, hn3, hbk⟩; obtain ⟨S3, d3, rfl⟩ := hr3.sl; replace C12 := C12.after hbk; replace C13 := C13.after hbk; replace BR := BR.after hbk; replace hbl := bl_then hbl hbk; have z0 := Blk2.c0 C12; have z1 := Blk2.c1 C12; have zf0 := C12.frozen 0; have zf1 := C12.frozen 1)
    (try clear q8 p8 q9 p9 q10 p10 q11 p11 q12 p12 q13 p13 f0 f1 t8 t9 t10 t11 t12)
    clear hbk
    have E12 := Cs.set C12 hr3 hn3
    have E13 := C13.far C12 (by omega) (.bool s3) (.slice S3 m3.length d3)
    replace BR := BR.far2 G12 (by omega) (.bool s3) (.slice S3 m3.length d3)
    replace hbl := bl_set (bl_set hbl G12 0 (by omega) (.bool s3)) G12 1 (by omega) (.slice S3 m3.length d3)
    generalize (wk3.setCell ⟨G12, 0, none⟩ (.bool s3)).setCell ⟨G12, 1, none⟩ (.slice S3 m3.length d3) = WE at E12 E13 BR hbl ⊢
    clear C12 C13
    obtain ⟨tN, eN⟩ : ∃ tN, toldN (makeV (aN * bN) (aD * bD)) (aD * bD).natAbs = tN := ⟨_, rfl⟩
    obtain ⟨tD, eD⟩ : ∃ tD, toldD (makeV (aN * bN) (aD * bD)) (aD * bD).natAbs = tD := ⟨_, rfl⟩
    obtain ⟨tk, ek⟩ : ∃ tk, toldOk (makeV (aN * bN) (aD * bD)) (aD * bD).natAbs = tk := ⟨_, rfl⟩
    have hfin : Hid (P = RetR tN tD tk) := by
      show _ = _
      rw [← hPP.out, show doV 2 aN aD bN bD = makeV (aN * bN) (aD * bD) from (by unfold makeV; rw [if_neg (by have := hp.out; omega)]; simp [doV]), show doM 2 aD bN bD = (aD * bD).natAbs from rfl]
      unfold RetT
      rw [eN, eD, ek]
    have c33 := hidden (fun w r1 r2 => toldd_to (v := .slice S3 m3.length d3) (u := (.slice A13 l13.length c13)) (w := w) eN eD ek (by have := prod_len E12.nm hA hC; omega) (by omega) r1 r2 E12.nm E13.nm)
    clear hPP eN eD ek
    have x0 := Blk2.c0 E12.blk; have x1 := Blk2.c1 E12.blk; have y0 := Blk2.c0 E13.blk; have y1 := Blk2.c1 E13.blk
    go_upto_region 20 with (go_at_call 33; refine (c33.out _ E12.rd E13.rd).mono ?_; rintro e wk ⟨rfl, hbk⟩; replace BR := BR.after hbk; replace hbl := bl_then hbl hbk)
    clear x0 x1 y0 y1
    have lR := BR.lt
    have E := (BR.alloc (.cells #[.int .i64 tN, .int .i64 tD] 24)).set2 (.int .i64 tN) (.int .i64 tD)
    have E0 := Blk2.c0 BR; have E1 := Blk2.c1 BR; have g0 := BR.frozen 0; have g1 := BR.frozen 1
    have E' := (BR.set2 (.int .i64 tN) (.int .i64 tD)).alloc (.cells #[.int .i64 tN, .int .i64 tD] 24)
    have F0 := Blk2.c0 E'; have F1 := Blk2.c1 E'
    go_wp2_with fail
    simp [bodyPost, results, Try.results29, go_sem, F0, F1]
    rw [hfin.out]
    exact ⟨rfl, by repeat (first | exact hbl | apply bl_alloc | refine bl_set ?_ _ _ (by omega) _)⟩
  · go_upto_region 18 with (go_at_call 37; refine (times_any b8 b11 _ _ l8 l11 aN bD _ (by omega) (by omega) C8.rd C11.rd C8.nm C11.nm).mono ?_; rintro e wk3 ⟨s3, v3, m3, rfl, hr3, hn3, hbk⟩; obtain ⟨S3, d3, rfl⟩ := hr3.sl; replace C12 := C12.after hbk; replace C13 := C13.after hbk; replace C9 := C9.after hbk; replace C10 := C10.after hbk; replace BR := BR.after hbk; replace hbl := bl_then hbl hbk; have z0 := Blk2.c0 C12; have z1 := Blk2.c1 C12; have zf0 := C12.frozen 0; have zf1 := C12.frozen 1)
    (try clear q8 p8 q9 p9 q10 p10 q11 p11 q12 p12 q13 p13 f0 f1 t8 t9 t10 t11 t12)
    clear hbk
    replace C9 := C9.far C12 (by omega) (.bool s3) (.slice S3 m3.length d3)
    replace C10 := C10.far C12 (by omega) (.bool s3) (.slice S3 m3.length d3)
    have E12 := Cs.set C12 hr3 hn3
    have E13 := C13.far C12 (by omega) (.bool s3) (.slice S3 m3.length d3)
    replace BR := BR.far2 G12 (by omega) (.bool s3) (.slice S3 m3.length d3)
    replace hbl := bl_set (bl_set hbl G12 0 (by omega) (.bool s3)) G12 1 (by omega) (.slice S3 m3.length d3)
    generalize (wk3.setCell ⟨G12, 0, none⟩ (.bool s3)).setCell ⟨G12, 1, none⟩ (.slice S3 m3.length d3) = WE at E12 E13 BR C9 C10 hbl ⊢
    clear C12 C13 z0 z1 zf0 zf1
    have q9 := Blk2.c0 C9.blk; have p9 := Blk2.c1 C9.blk; have q10 := Blk2.c0 C10.blk; have p10 := Blk2.c1 C10.blk
    go_upto_region 19 with (go_at_call 37; refine (times_any b9 b10 _ _ l9 l10 aD bN _ (by omega) (by omega) C9.rd C10.rd C9.nm C10.nm).mono ?_; rintro e wk4 ⟨s4, v4, m4, rfl, hr4, hn4, hbk⟩; obtain ⟨S4, d4, rfl⟩ := hr4.sl; replace E12 := E12.after hbk; replace E13 := E13.after hbk; replace BR := BR.after hbk; replace hbl := bl_then hbl hbk; have z0 := Blk2.c0 E13.blk; have z1 := Blk2.c1 E13.blk; have zf0 := E13.blk.frozen 0; have zf1 := E13.blk.frozen 1)
    clear q9 p9 q10 p10 hbk C9 C10
    have D13 := Cs.set E13.blk hr4 hn4
    replace E12 := E12.far E13.blk (by omega) (.bool s4) (.slice S4 m4.length d4)
    replace BR := BR.far2 G13 (by omega) (.bool s4) (.slice S4 m4.length d4)
    replace hbl := bl_set (bl_set hbl G13 0 (by omega) (.bool s4)) G13 1 (by omega) (.slice S4 m4.length d4)
    generalize (wk4.setCell ⟨G13, 0, none⟩ (.bool s4)).setCell ⟨G13, 1, none⟩ (.slice S4 m4.length d4) = WF at E12 D13 BR hbl ⊢
    clear E13 z0 z1 zf0 zf1
    have E13 := D13
    obtain ⟨tN, eN⟩ : ∃ tN, toldN (makeV (aN * bD) (aD * bN)) (aD * bN).natAbs = tN := ⟨_, rfl⟩
    obtain ⟨tD, eD⟩ : ∃ tD, toldD (makeV (aN * bD) (aD * bN)) (aD * bN).natAbs = tD := ⟨_, rfl⟩
    obtain ⟨tk, ek⟩ : ∃ tk, toldOk (makeV (aN * bD) (aD * bN)) (aD * bN).natAbs = tk := ⟨_, rfl⟩
    have hfin : Hid (P = RetR tN tD tk) := by
      show _ = _
      rw [← hPP.out, show doV 3 aN aD bN bD = makeV (aN * bD) (aD * bN) from rfl, show doM 3 aD bN bD = (aD * bN).natAbs from rfl]
      unfold RetT
      rw [eN, eD, ek]
    have c33 := hidden (fun w r1 r2 => toldd_to (v := .slice S3 m3.length d3) (u := (.slice S4 m4.length d4)) (w := w) eN eD ek (by have := prod_len E12.nm hA hD; omega) (by have := prod_len E13.nm hB hC; omega) r1 r2 E12.nm E13.nm)
    clear hPP eN eD ek
    have x0 := Blk2.c0 E12.blk; have x1 := Blk2.c1 E12.blk; have y0 := Blk2.c0 E13.blk; have y1 := Blk2.c1 E13.blk
    go_upto_region 20 with (go_at_call 33; refine (c33.out _ E12.rd E13.rd).mono ?_; rintro e wk ⟨rfl, hbk⟩; replace BR := BR.after hbk; replace hbl := bl_then hbl hbk)
    clear x0 x1 y0 y1
    have lR := BR.lt
    have E := (BR.alloc (.cells #[.int .i64 tN, .int .i64 tD] 24)).set2 (.int .i64 tN) (.int .i64 tD)
    have E0 := Blk2.c0 BR; have E1 := Blk2.c1 BR; have g0 := BR.frozen 0; have g1 := BR.frozen 1
    have E' := (BR.set2 (.int .i64 tN) (.int .i64 tD)).alloc (.cells #[.int .i64 tN, .int .i64 tD] 24)
    have F0 := Blk2.c0 E'; have F1 := Blk2.c1 E'
    go_wp2_with fail
    simp [bodyPost, results, Try.results29, go_sem, F0, F1]
    rw [hfin.out]
    exact ⟨rfl, by repeat (first | exact hbl | apply bl_alloc | refine bl_set ?_ _ _ (by omega) _)⟩
theorem do_any (k aN aD bN bD : Int) (hk : k = 0 ∨ k = 1 ∨ k = 2 ∨ k = 3) (hA : R64 aN) (hB : R64 aD) (hC : R64 bN) (hD : R64 bD) (w : World) :
    Calls Try.prog 29 #[.int .i64 k, .agg #[.int .i64 aN, .int .i64 aD], .agg #[.int .i64 bN, .int .i64 bD]] w (RetOp aN aD bN bD (doV k aN aD bN bD) (doM k aD bN bD) w) := by
  cases ra : rightB aN aD
  · exact do_no k aN aD bN bD hA hB hC hD (by rw [ra]; rfl) _ _ w
  · cases rb : rightB bN bD
    · exact do_no k aN aD bN bD hA hB hC hD (by rw [ra, rb]; rfl) _ _ w
    · exact do_yes k aN aD bN bD hk hA hB hC hD ra rb w
end Go.Proofs.Ytpdbiofpoccjeaa.Ref
