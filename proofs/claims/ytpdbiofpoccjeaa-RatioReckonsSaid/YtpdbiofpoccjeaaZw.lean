/- RatioReckons: the walk. -/
import Derived.Test.YtpdbiofpoccjeaaZv
namespace Go.Proofs.Ytpdbiofpoccjeaa.Ref
open Go.RowKit
set_option maxRecDepth 100000 in
set_option maxHeartbeats 8000000 in
theorem reckons_any (aN aD bN bD : Int) (hA : R64 aN) (hB : R64 aD) (hC : R64 bN) (hD : R64 bD) (w : World) : Calls Try.prog 10 #[.agg #[.int .i64 aN, .int .i64 aD], .agg #[.int .i64 bN, .int .i64 bD]] w (RetB true w) := by
  have c0 := add_any aN aD bN bD hA hB hC hD
  have d0 := fun w => do_any 0 aN aD bN bD (by omega) hA hB hC hD w
  rw [show doV 0 aN aD bN bD = aN * bD + bN * aD by simp [doV], show doM 0 aD bN bD = (aD * bD).natAbs by simp [doM]] at d0
  unfold RetOp at c0 d0
  obtain ⟨N0, eN0⟩ : ∃ N, opN aN aD bN bD (aN * bD + bN * aD) (aD * bD).natAbs = N := ⟨_, rfl⟩
  obtain ⟨D0, eD0⟩ : ∃ D, opD aN aD bN bD (aN * bD + bN * aD) (aD * bD).natAbs = D := ⟨_, rfl⟩
  obtain ⟨k0, ek0⟩ : ∃ k, opOk aN aD bN bD (aN * bD + bN * aD) (aD * bD).natAbs = k := ⟨_, rfl⟩
  rw [eN0, eD0, ek0] at c0 d0
  replace c0 := hidden c0; replace d0 := hidden d0
  clear eN0 eD0 ek0
  have c1 := sub_any aN aD bN bD hA hB hC hD
  have d1 := fun w => do_any 1 aN aD bN bD (by omega) hA hB hC hD w
  rw [show doV 1 aN aD bN bD = aN * bD + -bN * aD by simp [doV], show doM 1 aD bN bD = (aD * bD).natAbs by simp [doM]] at d1
  unfold RetOp at c1 d1
  obtain ⟨N1, eN1⟩ : ∃ N, opN aN aD bN bD (aN * bD + -bN * aD) (aD * bD).natAbs = N := ⟨_, rfl⟩
  obtain ⟨D1, eD1⟩ : ∃ D, opD aN aD bN bD (aN * bD + -bN * aD) (aD * bD).natAbs = D := ⟨_, rfl⟩
  obtain ⟨k1, ek1⟩ : ∃ k, opOk aN aD bN bD (aN * bD + -bN * aD) (aD * bD).natAbs = k := ⟨_, rfl⟩
  rw [eN1, eD1, ek1] at c1 d1
  replace c1 := hidden c1; replace d1 := hidden d1
  clear eN1 eD1 ek1
  have c2 := mulr_any aN aD bN bD hA hB hC hD
  have d2 := fun w => do_any 2 aN aD bN bD (by omega) hA hB hC hD w
  rw [show doV 2 aN aD bN bD = aN * bN by simp [doV], show doM 2 aD bN bD = (aD * bD).natAbs by simp [doM]] at d2
  unfold RetOp at c2 d2
  obtain ⟨N2, eN2⟩ : ∃ N, opN aN aD bN bD (aN * bN) (aD * bD).natAbs = N := ⟨_, rfl⟩
  obtain ⟨D2, eD2⟩ : ∃ D, opD aN aD bN bD (aN * bN) (aD * bD).natAbs = D := ⟨_, rfl⟩
  obtain ⟨k2, ek2⟩ : ∃ k, opOk aN aD bN bD (aN * bN) (aD * bD).natAbs = k := ⟨_, rfl⟩
  rw [eN2, eD2, ek2] at c2 d2
  replace c2 := hidden c2; replace d2 := hidden d2
  clear eN2 eD2 ek2
  have c3 := divr_any aN aD bN bD hA hB hC hD
  have d3 := fun w => do_any 3 aN aD bN bD (by omega) hA hB hC hD w
  rw [show doV 3 aN aD bN bD = divV aN aD bN bD by simp [doV], show doM 3 aD bN bD = (aD * bN).natAbs by simp [doM]] at d3
  unfold RetOp at c3 d3
  obtain ⟨N3, eN3⟩ : ∃ N, opN aN aD bN bD (divV aN aD bN bD) (aD * bN).natAbs = N := ⟨_, rfl⟩
  obtain ⟨D3, eD3⟩ : ∃ D, opD aN aD bN bD (divV aN aD bN bD) (aD * bN).natAbs = D := ⟨_, rfl⟩
  obtain ⟨k3, ek3⟩ : ∃ k, opOk aN aD bN bD (divV aN aD bN bD) (aD * bN).natAbs = k := ⟨_, rfl⟩
  rw [eN3, eD3, ek3] at c3 d3
  replace c3 := hidden c3; replace d3 := hidden d3
  clear eN3 eD3 ek3
  have hQ : ∀ (N D : Int) (w : World), (Op.equalIn 10000 24 (.agg #[.int .i64 N, .int .i64 D]) (.agg #[.int .i64 N, .int .i64 D])).run Try.prog w = .ok true w := fun N D w => by
    rw [eq_rat]; simp
  have hk : ∀ k : Bool, (k != k) = false := by simp
  go_enter Try.func10, Try.ntmps10
  go_wp2_with fail
  refine (shown_any _).mono ?_
  rintro e W0 ⟨rfl, hb1⟩
  have BA : Blk W0 w.heap.size #[.int .i64 aN, .int .i64 aD] 24 := ((Blk.new _ _ _).alloc _).after hb1
  have BB : Blk W0 (w.heap.size + 1) #[.int .i64 bN, .int .i64 bD] 24 := Blk.after (Blk.made _ _ _ _ (by simp)) hb1
  have hbl := bl_then (bl_alloc (bl_alloc (bl_refl w) _) _) hb1
  clear hb1
  go_wp2_with fail
  go_loopw [6] (fun i wr => ∃ k : Int, (k = 0 ∨ k = 1 ∨ k = 2 ∨ k = 3 ∨ k = 4) ∧ i = .int .i64 k ∧ Blk wr w.heap.size #[.int .i64 aN, .int .i64 aD] 24 ∧ Blk wr (w.heap.size + 1) #[.int .i64 bN, .int .i64 bD] 24 ∧ Below w.heap.size w wr) (fun i _ => (4 - intOf i).toNat)
  case atStart => exact ⟨0, .inl rfl, rfl, BA, BB, hbl⟩
  case round =>
    clear BA BB hbl
    obtain ⟨k, hk5, rfl, BA, BB, hbl⟩ := hrel
    have a0 := Blk2.c0 BA; have a1 := Blk2.c1 BA; have b0 := Blk2.c0 BB; have b1 := Blk2.c1 BB
    rcases hk5 with rfl | rfl | rfl | rfl | rfl
    · have lA := BA.lt; have lB := BB.lt
      go_upto_region 9 with (fail)
      have C7 := Blk.new wr #[.int .i64 0, .int .i64 0] 24
      replace BA := BA.alloc (.cells #[.int .i64 0, .int .i64 0] 24)
      replace BB := BB.alloc (.cells #[.int .i64 0, .int .i64 0] 24)
      replace hbl := bl_alloc hbl (.cells #[.int .i64 0, .int .i64 0] 24)
      generalize wr.alloc (.cells #[.int .i64 0, .int .i64 0] 24) = W1 at BA BB C7 hbl ⊢
      have hlt := hbl.size
      generalize wr.heap.size = G7 at C7 lA lB ⊢
      clear a0 a1 b0 b1
      have a0 := Blk2.c0 BA; have a1 := Blk2.c1 BA; have b0 := Blk2.c0 BB; have b1 := Blk2.c1 BB
      go_upto_region 16 with (go_at_call 20; refine (c0.out _).mono ?_; rintro e W2 ⟨rfl, hb2⟩; replace BA := BA.after hb2; replace BB := BB.after hb2; replace C7 := C7.after hb2; replace hbl := bl_then hbl hb2; have z0 := Blk2.c0 C7; have z1 := Blk2.c1 C7; have zf0 := C7.frozen 0; have zf1 := C7.frozen 1)
      clear hb2
      replace BA := BA.far2 G7 (by omega) (.int .i64 N0) (.int .i64 D0)
      replace BB := BB.far2 G7 (by omega) (.int .i64 N0) (.int .i64 D0)
      replace hbl := bl_set (bl_set hbl G7 0 (by omega) (.int .i64 N0)) G7 1 (by omega) (.int .i64 D0)
      replace C7 := C7.set2 (.int .i64 N0) (.int .i64 D0)
      generalize (W2.setCell ⟨G7, 0, none⟩ (.int .i64 N0)).setCell ⟨G7, 1, none⟩ (.int .i64 D0) = W3 at BA BB C7 hbl ⊢
      clear a0 a1 b0 b1 z0 z1 zf0 zf1
      have a0 := Blk2.c0 BA; have a1 := Blk2.c1 BA; have b0 := Blk2.c0 BB; have b1 := Blk2.c1 BB
      go_upto_region 17 with (go_at_call 29; refine (d0.out _).mono ?_; rintro e W4 ⟨rfl, hb4⟩; have l7 := C7.lt)
      have C9 := Blk.new W4 #[.int .i64 N0, .int .i64 D0] 24
      replace BA := (BA.after hb4).alloc (.cells #[.int .i64 N0, .int .i64 D0] 24)
      replace BB := (BB.after hb4).alloc (.cells #[.int .i64 N0, .int .i64 D0] 24)
      replace C7 := (C7.after hb4).alloc (.cells #[.int .i64 N0, .int .i64 D0] 24)
      replace hbl := bl_alloc (bl_then hbl hb4) (.cells #[.int .i64 N0, .int .i64 D0] 24)
      generalize W4.alloc (.cells #[.int .i64 N0, .int .i64 D0] 24) = W5 at BA BB C7 C9 hbl ⊢
      generalize W4.heap.size = G9 at C9 ⊢
      clear a0 a1 b0 b1 hb4 l7
      have z0 := Blk2.c0 C7; have z1 := Blk2.c1 C7; have y0 := Blk2.c0 C9; have y1 := Blk2.c1 C9
      go_wp2_with fail
      go_roundw
      case rel => exact ⟨1, by omega, rfl, BA, BB, hbl⟩
      case measure => simp [intOf]
    · have lA := BA.lt; have lB := BB.lt
      go_upto_region 11 with (fail)
      have C7 := Blk.new wr #[.int .i64 0, .int .i64 0] 24
      replace BA := BA.alloc (.cells #[.int .i64 0, .int .i64 0] 24)
      replace BB := BB.alloc (.cells #[.int .i64 0, .int .i64 0] 24)
      replace hbl := bl_alloc hbl (.cells #[.int .i64 0, .int .i64 0] 24)
      generalize wr.alloc (.cells #[.int .i64 0, .int .i64 0] 24) = W1 at BA BB C7 hbl ⊢
      have hlt := hbl.size
      generalize wr.heap.size = G7 at C7 lA lB ⊢
      clear a0 a1 b0 b1
      have a0 := Blk2.c0 BA; have a1 := Blk2.c1 BA; have b0 := Blk2.c0 BB; have b1 := Blk2.c1 BB
      go_upto_region 16 with (go_at_call 27; refine (c1.out _).mono ?_; rintro e W2 ⟨rfl, hb2⟩; replace BA := BA.after hb2; replace BB := BB.after hb2; replace C7 := C7.after hb2; replace hbl := bl_then hbl hb2; have z0 := Blk2.c0 C7; have z1 := Blk2.c1 C7; have zf0 := C7.frozen 0; have zf1 := C7.frozen 1)
      clear hb2
      replace BA := BA.far2 G7 (by omega) (.int .i64 N1) (.int .i64 D1)
      replace BB := BB.far2 G7 (by omega) (.int .i64 N1) (.int .i64 D1)
      replace hbl := bl_set (bl_set hbl G7 0 (by omega) (.int .i64 N1)) G7 1 (by omega) (.int .i64 D1)
      replace C7 := C7.set2 (.int .i64 N1) (.int .i64 D1)
      generalize (W2.setCell ⟨G7, 0, none⟩ (.int .i64 N1)).setCell ⟨G7, 1, none⟩ (.int .i64 D1) = W3 at BA BB C7 hbl ⊢
      clear a0 a1 b0 b1 z0 z1 zf0 zf1
      have a0 := Blk2.c0 BA; have a1 := Blk2.c1 BA; have b0 := Blk2.c0 BB; have b1 := Blk2.c1 BB
      go_upto_region 17 with (go_at_call 29; refine (d1.out _).mono ?_; rintro e W4 ⟨rfl, hb4⟩; have l7 := C7.lt)
      have C9 := Blk.new W4 #[.int .i64 N1, .int .i64 D1] 24
      replace BA := (BA.after hb4).alloc (.cells #[.int .i64 N1, .int .i64 D1] 24)
      replace BB := (BB.after hb4).alloc (.cells #[.int .i64 N1, .int .i64 D1] 24)
      replace C7 := (C7.after hb4).alloc (.cells #[.int .i64 N1, .int .i64 D1] 24)
      replace hbl := bl_alloc (bl_then hbl hb4) (.cells #[.int .i64 N1, .int .i64 D1] 24)
      generalize W4.alloc (.cells #[.int .i64 N1, .int .i64 D1] 24) = W5 at BA BB C7 C9 hbl ⊢
      generalize W4.heap.size = G9 at C9 ⊢
      clear a0 a1 b0 b1 hb4 l7
      have z0 := Blk2.c0 C7; have z1 := Blk2.c1 C7; have y0 := Blk2.c0 C9; have y1 := Blk2.c1 C9
      go_wp2_with fail
      go_roundw
      case rel => exact ⟨2, by omega, rfl, BA, BB, hbl⟩
      case measure => simp [intOf]
    · have lA := BA.lt; have lB := BB.lt
      go_upto_region 13 with (fail)
      have C7 := Blk.new wr #[.int .i64 0, .int .i64 0] 24
      replace BA := BA.alloc (.cells #[.int .i64 0, .int .i64 0] 24)
      replace BB := BB.alloc (.cells #[.int .i64 0, .int .i64 0] 24)
      replace hbl := bl_alloc hbl (.cells #[.int .i64 0, .int .i64 0] 24)
      generalize wr.alloc (.cells #[.int .i64 0, .int .i64 0] 24) = W1 at BA BB C7 hbl ⊢
      have hlt := hbl.size
      generalize wr.heap.size = G7 at C7 lA lB ⊢
      clear a0 a1 b0 b1
      have a0 := Blk2.c0 BA; have a1 := Blk2.c1 BA; have b0 := Blk2.c0 BB; have b1 := Blk2.c1 BB
      go_upto_region 16 with (go_at_call 21; refine (c2.out _).mono ?_; rintro e W2 ⟨rfl, hb2⟩; replace BA := BA.after hb2; replace BB := BB.after hb2; replace C7 := C7.after hb2; replace hbl := bl_then hbl hb2; have z0 := Blk2.c0 C7; have z1 := Blk2.c1 C7; have zf0 := C7.frozen 0; have zf1 := C7.frozen 1)
      clear hb2
      replace BA := BA.far2 G7 (by omega) (.int .i64 N2) (.int .i64 D2)
      replace BB := BB.far2 G7 (by omega) (.int .i64 N2) (.int .i64 D2)
      replace hbl := bl_set (bl_set hbl G7 0 (by omega) (.int .i64 N2)) G7 1 (by omega) (.int .i64 D2)
      replace C7 := C7.set2 (.int .i64 N2) (.int .i64 D2)
      generalize (W2.setCell ⟨G7, 0, none⟩ (.int .i64 N2)).setCell ⟨G7, 1, none⟩ (.int .i64 D2) = W3 at BA BB C7 hbl ⊢
      clear a0 a1 b0 b1 z0 z1 zf0 zf1
      have a0 := Blk2.c0 BA; have a1 := Blk2.c1 BA; have b0 := Blk2.c0 BB; have b1 := Blk2.c1 BB
      go_upto_region 17 with (go_at_call 29; refine (d2.out _).mono ?_; rintro e W4 ⟨rfl, hb4⟩; have l7 := C7.lt)
      have C9 := Blk.new W4 #[.int .i64 N2, .int .i64 D2] 24
      replace BA := (BA.after hb4).alloc (.cells #[.int .i64 N2, .int .i64 D2] 24)
      replace BB := (BB.after hb4).alloc (.cells #[.int .i64 N2, .int .i64 D2] 24)
      replace C7 := (C7.after hb4).alloc (.cells #[.int .i64 N2, .int .i64 D2] 24)
      replace hbl := bl_alloc (bl_then hbl hb4) (.cells #[.int .i64 N2, .int .i64 D2] 24)
      generalize W4.alloc (.cells #[.int .i64 N2, .int .i64 D2] 24) = W5 at BA BB C7 C9 hbl ⊢
      generalize W4.heap.size = G9 at C9 ⊢
      clear a0 a1 b0 b1 hb4 l7
      have z0 := Blk2.c0 C7; have z1 := Blk2.c1 C7; have y0 := Blk2.c0 C9; have y1 := Blk2.c1 C9
      go_wp2_with fail
      go_roundw
      case rel => exact ⟨3, by omega, rfl, BA, BB, hbl⟩
      case measure => simp [intOf]
    · have lA := BA.lt; have lB := BB.lt
      go_upto_region 15 with (fail)
      have C7 := Blk.new wr #[.int .i64 0, .int .i64 0] 24
      replace BA := BA.alloc (.cells #[.int .i64 0, .int .i64 0] 24)
      replace BB := BB.alloc (.cells #[.int .i64 0, .int .i64 0] 24)
      replace hbl := bl_alloc hbl (.cells #[.int .i64 0, .int .i64 0] 24)
      generalize wr.alloc (.cells #[.int .i64 0, .int .i64 0] 24) = W1 at BA BB C7 hbl ⊢
      have hlt := hbl.size
      generalize wr.heap.size = G7 at C7 lA lB ⊢
      clear a0 a1 b0 b1
      have a0 := Blk2.c0 BA; have a1 := Blk2.c1 BA; have b0 := Blk2.c0 BB; have b1 := Blk2.c1 BB
      go_upto_region 16 with (go_at_call 28; refine (c3.out _).mono ?_; rintro e W2 ⟨rfl, hb2⟩; replace BA := BA.after hb2; replace BB := BB.after hb2; replace C7 := C7.after hb2; replace hbl := bl_then hbl hb2; have z0 := Blk2.c0 C7; have z1 := Blk2.c1 C7; have zf0 := C7.frozen 0; have zf1 := C7.frozen 1)
      clear hb2
      replace BA := BA.far2 G7 (by omega) (.int .i64 N3) (.int .i64 D3)
      replace BB := BB.far2 G7 (by omega) (.int .i64 N3) (.int .i64 D3)
      replace hbl := bl_set (bl_set hbl G7 0 (by omega) (.int .i64 N3)) G7 1 (by omega) (.int .i64 D3)
      replace C7 := C7.set2 (.int .i64 N3) (.int .i64 D3)
      generalize (W2.setCell ⟨G7, 0, none⟩ (.int .i64 N3)).setCell ⟨G7, 1, none⟩ (.int .i64 D3) = W3 at BA BB C7 hbl ⊢
      clear a0 a1 b0 b1 z0 z1 zf0 zf1
      have a0 := Blk2.c0 BA; have a1 := Blk2.c1 BA; have b0 := Blk2.c0 BB; have b1 := Blk2.c1 BB
      go_upto_region 17 with (go_at_call 29; refine (d3.out _).mono ?_; rintro e W4 ⟨rfl, hb4⟩; have l7 := C7.lt)
      have C9 := Blk.new W4 #[.int .i64 N3, .int .i64 D3] 24
      replace BA := (BA.after hb4).alloc (.cells #[.int .i64 N3, .int .i64 D3] 24)
      replace BB := (BB.after hb4).alloc (.cells #[.int .i64 N3, .int .i64 D3] 24)
      replace C7 := (C7.after hb4).alloc (.cells #[.int .i64 N3, .int .i64 D3] 24)
      replace hbl := bl_alloc (bl_then hbl hb4) (.cells #[.int .i64 N3, .int .i64 D3] 24)
      generalize W4.alloc (.cells #[.int .i64 N3, .int .i64 D3] 24) = W5 at BA BB C7 C9 hbl ⊢
      generalize W4.heap.size = G9 at C9 ⊢
      clear a0 a1 b0 b1 hb4 l7
      have z0 := Blk2.c0 C7; have z1 := Blk2.c1 C7; have y0 := Blk2.c0 C9; have y1 := Blk2.c1 C9
      go_wp2_with fail
      go_roundw
      case rel => exact ⟨4, by omega, rfl, BA, BB, hbl⟩
      case measure => simp [intOf]
    · go_wp2_with fail
      go_ret
      exact ⟨rfl, hbl⟩
end Go.Proofs.Ytpdbiofpoccjeaa.Ref
