/- The walk over the reference's Cmp. -/
import Derived.Test.YtpdbiofpoccjeaaZo
namespace Go.Proofs.Ytpdbiofpoccjeaa.Ref
open Go.RowKit
theorem prod_lt {x y : Int} (hx : R64 x) (hy : R64 y) : (x * y).natAbs < 65536 ^ 8 := by
  rw [Int.natAbs_mul]
  have h1 : x.natAbs ≤ 9223372036854775808 := by have := hx.1; have := hx.2; omega
  have h2 : y.natAbs ≤ 9223372036854775808 := by have := hy.1; have := hy.2; omega
  have := Nat.mul_le_mul h1 h2
  omega
theorem prod_len {b : Bool} {l : List Nat} {x y : Int} (h : Nm b l (x * y)) (hx : R64 x) (hy : R64 y) : l.length ≤ 8 := h.len (prod_lt hx hy)
theorem prod_len' {b : Bool} {l : List Nat} {x y : Int} (h : Nm b l (-(x * y))) (hx : R64 x) (hy : R64 y) : l.length ≤ 8 := h.len (by rw [Int.natAbs_neg]; exact prod_lt hx hy)
set_option maxRecDepth 100000 in
set_option maxHeartbeats 4000000 in
theorem rcmp_any (aN aD bN bD : Int) (hA : R64 aN) (hB : R64 aD) (hC : R64 bN) (hD : R64 bD) (w : World) :
    Calls Try.prog 23 #[.agg #[.int .i64 aN, .int .i64 aD], .agg #[.int .i64 bN, .int .i64 bD]] w (RetI (cmpR aN aD bN bD) w) := by
  have cA := fun w => rright_any aN aD w hA hB
  have cB := fun w => rright_any bN bD w hC hD
  cases ra : rightB aN aD
  · rw [ra] at cA
    have hr : cmpR aN aD bN bD = 0 := by simp [cmpR, ra]
    replace cA := hidden cA; replace hr := hidden hr; replace ra := hidden ra; clear cB
    go_enter Try.func23, Try.ntmps23
    go_wp2_with fail
    refine (cA.out _).mono ?_
    rintro e w1 ⟨rfl, hb1⟩
    have hbl := bl_then (bl_alloc (bl_alloc (bl_refl w) _) _) hb1
    go_wp2_with fail
    go_ret
    exact ⟨ret_int hr.out.symm, hbl⟩
  · cases rb : rightB bN bD
    · rw [ra] at cA
      rw [rb] at cB
      have hr : cmpR aN aD bN bD = 0 := by simp [cmpR, ra, rb]
      replace cA := hidden cA; replace cB := hidden cB; replace hr := hidden hr; replace ra := hidden ra; replace rb := hidden rb
      go_enter Try.func23, Try.ntmps23
      go_wp2_with fail
      refine (cA.out _).mono ?_
      rintro e w1 ⟨rfl, hb1⟩
      have hbl := bl_then (bl_alloc (bl_alloc (bl_refl w) _) _) hb1
      have BB : Blk w1 (w.heap.size + 1) #[.int .i64 bN, .int .i64 bD] 24 := Blk.after (Blk.made _ _ _ _ (by simp)) hb1
      have b0 := Blk2.c0 BB; have b1 := Blk2.c1 BB
      go_wp2_with fail
      refine (cB.out _).mono ?_
      rintro e w2 ⟨rfl, hb2⟩
      replace hbl := bl_then hbl hb2
      go_wp2_with fail
      go_ret
      exact ⟨ret_int hr.out.symm, hbl⟩
    · rw [ra] at cA
      rw [rb] at cB
      have hr : cmpR aN aD bN bD = sgn (aN * bD + -(bN * aD)) := by simp [cmpR, ra, rb, Int.neg_mul]
      replace cA := hidden cA; replace cB := hidden cB; replace hr := hidden hr; replace ra := hidden ra; replace rb := hidden rb
      go_enter Try.func23, Try.ntmps23
      go_wp2_with fail
      refine (cA.out _).mono ?_
      rintro e w1 ⟨rfl, hb1⟩
      have hbl := bl_then (bl_alloc (bl_alloc (bl_refl w) _) _) hb1
      have BA : Blk w1 w.heap.size #[.int .i64 aN, .int .i64 aD] 24 := ((Blk.new _ _ _).alloc _).after hb1
      have BB : Blk w1 (w.heap.size + 1) #[.int .i64 bN, .int .i64 bD] 24 := Blk.after (Blk.made _ _ _ _ (by simp)) hb1
      have b0 := Blk2.c0 BB; have b1 := Blk2.c1 BB
      go_upto_region 3 with (go_at_call 45; refine (cB.out _).mono ?_; rintro e W0 ⟨rfl, hb2⟩; replace hbl := bl_then hbl hb2; replace BA := BA.after hb2; replace BB := BB.after hb2; clear b0 b1)
      clear hb1 hb2
      have lA := BA.lt; have lB := BB.lt
      have a0 := Blk2.c0 BA; have a1 := Blk2.c1 BA; have b0 := Blk2.c0 BB; have b1 := Blk2.c1 BB
      go_cut [5] (fun s5 w' => ∃ (G : Nat) (b : Bool) (v : Value) (l : List Nat), s5 = .pointer (some ⟨G, 0, none⟩) ∧ Blk w' G #[.bool b, v] 56 ∧ Rd w' v l ∧ Nm b l (aN * bD + -(bN * aD)) ∧ Below w.heap.size w w')
      case first =>
        have hS := bl_refl W0
        go_region_held3 (fun w' => ∀ b o, b < W0.heap.size → w'.cell? ⟨b, o, none⟩ = W0.cell? ⟨b, o, none⟩)
          (exact (bcell (by repeat (first | exact bl_refl _ | exact hS | apply bl_alloc | apply bl_drew | (refine bl_set ?_ _ _ (by omega) _)))).1)
          (first
            | (go_at_call_of 34 (Value.int .i64 aN); refine (ofn_any aN _ hA).mono ?_; rintro e wk1 ⟨b1, v1, l1, rfl, hr1, hn1, hbk⟩; have lsz1 := hbk.size; (try simp at lsz1); obtain ⟨A1, c1, rfl⟩ := hr1.sl; (replace hbl := (by first | (with_reducible exact bl_then hbl hbk) | (with_reducible exact bl_then (bl_alloc hbl _) hbk) | (with_reducible exact bl_then (bl_drew hbl) hbk) | (with_reducible exact bl_then (bl_drew (bl_alloc hbl _)) hbk))); (replace hS := (by first | (with_reducible exact bl_then hS hbk) | (with_reducible exact bl_then (bl_alloc hS _) hbk) | (with_reducible exact bl_then (bl_drew hS) hbk) | (with_reducible exact bl_then (bl_drew (bl_alloc hS _)) hbk))); (first | (replace BZ := BZ.after hbk) | (have BZ := Blk.after (Blk.new _ #[.bool false, .slice none 0 0] 56) hbk) | (have BZ := Blk.after (Blk.drew (Blk.new _ #[.bool false, .slice none 0 0] 56)) hbk) | skip); clear hbk)
            | (go_at_call_of 34 (Value.int .i64 bD); refine (ofn_any bD _ hD).mono ?_; rintro e wk2 ⟨b2, v2, l2, rfl, hr2, hn2, hbk⟩; have lsz2 := hbk.size; (try simp at lsz2); obtain ⟨A2, c2, rfl⟩ := hr2.sl; (try replace hr1 := (by first | (with_reducible exact hr1.after hbk) | (with_reducible exact (hr1.alloc _).after hbk) | (with_reducible exact hr1.drew.after hbk) | (with_reducible exact (hr1.alloc _).drew.after hbk))); (replace hbl := (by first | (with_reducible exact bl_then hbl hbk) | (with_reducible exact bl_then (bl_alloc hbl _) hbk) | (with_reducible exact bl_then (bl_drew hbl) hbk) | (with_reducible exact bl_then (bl_drew (bl_alloc hbl _)) hbk))); (replace hS := (by first | (with_reducible exact bl_then hS hbk) | (with_reducible exact bl_then (bl_alloc hS _) hbk) | (with_reducible exact bl_then (bl_drew hS) hbk) | (with_reducible exact bl_then (bl_drew (bl_alloc hS _)) hbk))); (first | (replace BZ := BZ.after hbk) | (have BZ := Blk.after (Blk.new _ #[.bool false, .slice none 0 0] 56) hbk) | (have BZ := Blk.after (Blk.drew (Blk.new _ #[.bool false, .slice none 0 0] 56)) hbk) | skip); clear hbk)
            | (go_at_call_of 37 (Value.agg #[.bool b1, .slice A1 l1.length c1]); refine (times_any b1 b2 _ _ l1 l2 aN bD _ (by have := len64 hn1 hA; omega) (by have := len64 hn2 hD; omega) (by first | (with_reducible exact hr1) | (with_reducible exact hr1.alloc _) | (with_reducible exact hr1.drew) | (with_reducible exact (hr1.alloc _).drew)) (by first | (with_reducible exact hr2) | (with_reducible exact hr2.alloc _) | (with_reducible exact hr2.drew) | (with_reducible exact (hr2.alloc _).drew)) hn1 hn2).mono ?_; rintro e wk3 ⟨b3, v3, l3, rfl, hr3, hn3, hbk⟩; have lsz3 := hbk.size; (try simp at lsz3); obtain ⟨A3, c3, rfl⟩ := hr3.sl; (replace hbl := (by first | (with_reducible exact bl_then hbl hbk) | (with_reducible exact bl_then (bl_alloc hbl _) hbk) | (with_reducible exact bl_then (bl_drew hbl) hbk) | (with_reducible exact bl_then (bl_drew (bl_alloc hbl _)) hbk))); (replace hS := (by first | (with_reducible exact bl_then hS hbk) | (with_reducible exact bl_then (bl_alloc hS _) hbk) | (with_reducible exact bl_then (bl_drew hS) hbk) | (with_reducible exact bl_then (bl_drew (bl_alloc hS _)) hbk))); (first | (replace BZ := BZ.after hbk) | (have BZ := Blk.after (Blk.new _ #[.bool false, .slice none 0 0] 56) hbk) | (have BZ := Blk.after (Blk.drew (Blk.new _ #[.bool false, .slice none 0 0] 56)) hbk) | skip); clear hbk)
            | (go_at_call_of 34 (Value.int .i64 bN); refine (ofn_any bN _ hC).mono ?_; rintro e wk4 ⟨b4, v4, l4, rfl, hr4, hn4, hbk⟩; have lsz4 := hbk.size; (try simp at lsz4); obtain ⟨A4, c4, rfl⟩ := hr4.sl; (try replace hr3 := (by first | (with_reducible exact hr3.after hbk) | (with_reducible exact (hr3.alloc _).after hbk) | (with_reducible exact hr3.drew.after hbk) | (with_reducible exact (hr3.alloc _).drew.after hbk))); (replace hbl := (by first | (with_reducible exact bl_then hbl hbk) | (with_reducible exact bl_then (bl_alloc hbl _) hbk) | (with_reducible exact bl_then (bl_drew hbl) hbk) | (with_reducible exact bl_then (bl_drew (bl_alloc hbl _)) hbk))); (replace hS := (by first | (with_reducible exact bl_then hS hbk) | (with_reducible exact bl_then (bl_alloc hS _) hbk) | (with_reducible exact bl_then (bl_drew hS) hbk) | (with_reducible exact bl_then (bl_drew (bl_alloc hS _)) hbk))); (first | (replace BZ := BZ.after hbk) | (have BZ := Blk.after (Blk.new _ #[.bool false, .slice none 0 0] 56) hbk) | (have BZ := Blk.after (Blk.drew (Blk.new _ #[.bool false, .slice none 0 0] 56)) hbk) | skip); clear hbk)
            | (go_at_call_of 34 (Value.int .i64 aD); refine (ofn_any aD _ hB).mono ?_; rintro e wk5 ⟨b5, v5, l5, rfl, hr5, hn5, hbk⟩; have lsz5 := hbk.size; (try simp at lsz5); obtain ⟨A5, c5, rfl⟩ := hr5.sl; (try replace hr3 := (by first | (with_reducible exact hr3.after hbk) | (with_reducible exact (hr3.alloc _).after hbk) | (with_reducible exact hr3.drew.after hbk) | (with_reducible exact (hr3.alloc _).drew.after hbk))); (try replace hr4 := (by first | (with_reducible exact hr4.after hbk) | (with_reducible exact (hr4.alloc _).after hbk) | (with_reducible exact hr4.drew.after hbk) | (with_reducible exact (hr4.alloc _).drew.after hbk))); (replace hbl := (by first | (with_reducible exact bl_then hbl hbk) | (with_reducible exact bl_then (bl_alloc hbl _) hbk) | (with_reducible exact bl_then (bl_drew hbl) hbk) | (with_reducible exact bl_then (bl_drew (bl_alloc hbl _)) hbk))); (replace hS := (by first | (with_reducible exact bl_then hS hbk) | (with_reducible exact bl_then (bl_alloc hS _) hbk) | (with_reducible exact bl_then (bl_drew hS) hbk) | (with_reducible exact bl_then (bl_drew (bl_alloc hS _)) hbk))); (first | (replace BZ := BZ.after hbk) | (have BZ := Blk.after (Blk.new _ #[.bool false, .slice none 0 0] 56) hbk) | (have BZ := Blk.after (Blk.drew (Blk.new _ #[.bool false, .slice none 0 0] 56)) hbk) | skip); clear hbk)
            | (go_at_call_of 37 (Value.agg #[.bool b4, .slice A4 l4.length c4]); refine (times_any b4 b5 _ _ l4 l5 bN aD _ (by have := len64 hn4 hC; omega) (by have := len64 hn5 hB; omega) (by first | (with_reducible exact hr4) | (with_reducible exact hr4.alloc _) | (with_reducible exact hr4.drew) | (with_reducible exact (hr4.alloc _).drew)) (by first | (with_reducible exact hr5) | (with_reducible exact hr5.alloc _) | (with_reducible exact hr5.drew) | (with_reducible exact (hr5.alloc _).drew)) hn4 hn5).mono ?_; rintro e wk6 ⟨b6, v6, l6, rfl, hr6, hn6, hbk⟩; have lsz6 := hbk.size; (try simp at lsz6); obtain ⟨A6, c6, rfl⟩ := hr6.sl; (try replace hr3 := (by first | (with_reducible exact hr3.after hbk) | (with_reducible exact (hr3.alloc _).after hbk) | (with_reducible exact hr3.drew.after hbk) | (with_reducible exact (hr3.alloc _).drew.after hbk))); (replace hbl := (by first | (with_reducible exact bl_then hbl hbk) | (with_reducible exact bl_then (bl_alloc hbl _) hbk) | (with_reducible exact bl_then (bl_drew hbl) hbk) | (with_reducible exact bl_then (bl_drew (bl_alloc hbl _)) hbk))); (replace hS := (by first | (with_reducible exact bl_then hS hbk) | (with_reducible exact bl_then (bl_alloc hS _) hbk) | (with_reducible exact bl_then (bl_drew hS) hbk) | (with_reducible exact bl_then (bl_drew (bl_alloc hS _)) hbk))); (first | (replace BZ := BZ.after hbk) | (have BZ := Blk.after (Blk.new _ #[.bool false, .slice none 0 0] 56) hbk) | (have BZ := Blk.after (Blk.drew (Blk.new _ #[.bool false, .slice none 0 0] 56)) hbk) | skip); clear hbk)
            | (go_at_call 38; refine (neg_any b6 _ l6 (bN * aD) _ (by have := prod_len hn6 hC hB; omega) (by first | (with_reducible exact hr6) | (with_reducible exact hr6.alloc _) | (with_reducible exact hr6.drew) | (with_reducible exact (hr6.alloc _).drew)) hn6).mono ?_; rintro e wk7 ⟨b7, v7, l7, rfl, hr7, hn7, hbk⟩; have lsz7 := hbk.size; (try simp at lsz7); obtain ⟨A7, c7, rfl⟩ := hr7.sl; (try replace hr3 := (by first | (with_reducible exact hr3.after hbk) | (with_reducible exact (hr3.alloc _).after hbk) | (with_reducible exact hr3.drew.after hbk) | (with_reducible exact (hr3.alloc _).drew.after hbk))); (replace hbl := (by first | (with_reducible exact bl_then hbl hbk) | (with_reducible exact bl_then (bl_alloc hbl _) hbk) | (with_reducible exact bl_then (bl_drew hbl) hbk) | (with_reducible exact bl_then (bl_drew (bl_alloc hbl _)) hbk))); (replace hS := (by first | (with_reducible exact bl_then hS hbk) | (with_reducible exact bl_then (bl_alloc hS _) hbk) | (with_reducible exact bl_then (bl_drew hS) hbk) | (with_reducible exact bl_then (bl_drew (bl_alloc hS _)) hbk))); (first | (replace BZ := BZ.after hbk) | (have BZ := Blk.after (Blk.new _ #[.bool false, .slice none 0 0] 56) hbk) | (have BZ := Blk.after (Blk.drew (Blk.new _ #[.bool false, .slice none 0 0] 56)) hbk) | skip); clear hbk)
            | (go_at_call 46; refine (Plus_any b3 b7 _ _ l3 l7 (aN * bD) (-(bN * aD)) _ (by have := prod_len hn3 hA hD; omega) (by have := prod_len' hn7 hC hB; omega) (by first | (with_reducible exact hr3) | (with_reducible exact hr3.alloc _) | (with_reducible exact hr3.drew) | (with_reducible exact (hr3.alloc _).drew)) (by first | (with_reducible exact hr7) | (with_reducible exact hr7.alloc _) | (with_reducible exact hr7.drew) | (with_reducible exact (hr7.alloc _).drew)) hn3 hn7).mono ?_; rintro e wk8 ⟨b8, v8, l8, rfl, hr8, hn8, hbk⟩; have lsz8 := hbk.size; (try simp at lsz8); obtain ⟨A8, c8, rfl⟩ := hr8.sl; (replace hbl := (by first | (with_reducible exact bl_then hbl hbk) | (with_reducible exact bl_then (bl_alloc hbl _) hbk) | (with_reducible exact bl_then (bl_drew hbl) hbk) | (with_reducible exact bl_then (bl_drew (bl_alloc hbl _)) hbk))); (replace hS := (by first | (with_reducible exact bl_then hS hbk) | (with_reducible exact bl_then (bl_alloc hS _) hbk) | (with_reducible exact bl_then (bl_drew hS) hbk) | (with_reducible exact bl_then (bl_drew (bl_alloc hS _)) hbk))); (first | (replace BZ := BZ.after hbk) | (have BZ := Blk.after (Blk.new _ #[.bool false, .slice none 0 0] 56) hbk) | (have BZ := Blk.after (Blk.drew (Blk.new _ #[.bool false, .slice none 0 0] 56)) hbk) | skip); (try (have z0 := Blk2.c0 BZ; have z1 := Blk2.c1 BZ; have zf0 := BZ.frozen 0; have zf1 := BZ.frozen 1; have zl := BZ.lt)); clear hbk))
        all_goals
          repeat (first | go_big_skip | go_step)
          go_meet
          refine ⟨_, b8, .slice A8 l8.length c8, l8, rfl, ?_, ?_, hn8, ?_⟩
          · first | exact BZ.set2 _ _ | exact Blk.new _ _ _
          · first | exact hr8.set2 BZ (by decide) _ _ | exact hr8.alloc _
          · first | exact bl_set (bl_set hbl _ _ (by omega) _) _ _ (by omega) _ | exact bl_alloc hbl _
      case rest =>
        clear BA BB a0 a1 b0 b1 lA lB hbl
        obtain ⟨G, b, v, l, rfl, BG, hrd, hnm, hb⟩ := hcut
        obtain ⟨Av, cv, rfl⟩ := hrd.sl
        have g0 := Blk2.c0 BG; have g1 := Blk2.c1 BG
        obtain ⟨X, eX⟩ : ∃ X, aN * bD + -(bN * aD) = X := ⟨_, rfl⟩
        rw [eX] at hnm hr
        clear eX
        have hz := hnm.zero
        have hsg := hnm.sg
        by_cases h0 : X = 0
        · have e1 : ((l.length : Int) == 0) = true := by simpa using hz.2 h0
          have e2 : (l.length == 0) = true := by simpa using hz.2 h0
          have hs : sgn X = 0 := by simp [sgn, h0]
          replace hs := hidden hs
          clear hz hsg h0
          go_wp2_with fail
          go_ret
          exact ⟨ret_int (by rw [hr.out, hs.out]), hb⟩
        · have e1 : ((l.length : Int) == 0) = false := by simpa using mt hz.1 h0
          have e2 : (l.length == 0) = false := by simpa using mt hz.1 h0
          cases b
          · have hs : sgn X = 1 := by simp at hsg; simp [sgn, h0]; omega
            replace hs := hidden hs
            clear hz hsg h0
            go_wp2_with fail
            go_ret
            exact ⟨ret_int (by rw [hr.out, hs.out]), hb⟩
          · have hs : sgn X = -1 := by simp at hsg; simp [sgn, h0]; omega
            replace hs := hidden hs
            clear hz hsg h0
            go_wp2_with fail
            go_ret
            exact ⟨ret_int (by rw [hr.out, hs.out]), hb⟩
end Go.Proofs.Ytpdbiofpoccjeaa.Ref
