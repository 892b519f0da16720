/- The walk over the reference's Right. -/
import Derived.Test.YtpdbiofpoccjeaaZn
namespace Go.Proofs.Ytpdbiofpoccjeaa.Ref
open Go.RowKit
theorem right_eq {N D : Int} (hN : R64 N) (hD : R64 D) : (toldOk N D.natAbs && (toldN N D.natAbs == N && toldD N D.natAbs == D)) = rightB N D := by
  cases h : rightB N D
  · cases h3 : toldOk N D.natAbs
    · simp
    · have h4 := (told_is h3).2.1
      by_cases h5 : toldN N D.natAbs = N ∧ toldD N D.natAbs = D
      · rw [h5.1, h5.2] at h4
        have := h4.right
        rw [h] at this
        cases this
      · rw [Bool.true_and, Bool.and_eq_false_iff]
        by_cases h6 : toldN N D.natAbs = N
        · exact .inr (by simpa using fun x => h5 ⟨h6, x⟩)
        · exact .inl (by simpa using h6)
  · have t := told_self (Rt.of_right hN hD h)
    rw [t.1, t.2.1, t.2.2]
    simp
set_option maxRecDepth 100000 in
set_option maxHeartbeats 2000000 in
theorem rright_any (N D : Int) (w : World) (hN : R64 N) (hD : R64 D) : Calls Try.prog 45 #[.agg #[.int .i64 N, .int .i64 D]] w (RetB (rightB N D) w) := by
  by_cases h1 : 0 < D
  · have e1 : decide (D ≤ 0) = false := by simp; omega
    by_cases h2 : N = -9223372036854775808
    · have hr : rightB N D = false := decide_eq_false (fun h => h.2.1 h2)
      have e2 : (N == -9223372036854775808) = true := by simpa using h2
      replace h2 := hidden h2
      replace hr := hidden hr
      go_enter Try.func45, Try.ntmps45
      go_wp2
      go_ret
      rw [hr.out]
      exact ⟨rfl, bl_alloc (bl_refl w) _⟩
    · have e2 : (N == -9223372036854775808) = false := by simpa using h2
      have hq := right_eq hN hD
      have hm : makeV N D = N := by unfold makeV; rw [if_neg (by omega)]
      have hQ := fun w => eq_rat (toldN N D.natAbs) (toldD N D.natAbs) N D w
      replace hq := hidden hq; replace hm := hidden hm; replace h2 := hidden h2
      go_enter Try.func45, Try.ntmps45
      go_upto_region 3 with (fail)
      have BA := Blk.new w #[.int .i64 N, .int .i64 D] 24
      have hbl := bl_alloc (bl_refl w) (.cells #[.int .i64 N, .int .i64 D] 24)
      generalize w.alloc (.cells #[.int .i64 N, .int .i64 D] 24) = W0 at BA hbl ⊢
      have lA := BA.lt
      have a0 := Blk2.c0 BA; have a1 := Blk2.c1 BA
      go_cut [3, 4] (fun s3 s4 w' => ∃ G : Nat, s3 = .pointer (some ⟨G, 0, none⟩) ∧ s4 = .bool (toldOk N D.natAbs) ∧ Blk w' G #[.int .i64 (toldN N D.natAbs), .int .i64 (toldD N D.natAbs)] 24 ∧ Blk w' w.heap.size #[.int .i64 N, .int .i64 D] 24 ∧ Below w.heap.size w w')
      case first =>
        have hS := bl_refl W0
        go_region_held3 (fun w' => ∀ b o, b < W0.heap.size → w'.cell? ⟨b, o, none⟩ = W0.cell? ⟨b, o, none⟩)
          (exact (bcell (by repeat (first | exact bl_refl _ | exact hS | apply bl_alloc | apply bl_drew | (refine bl_set ?_ _ _ (by omega) _)))).1)
          (first
            | (go_at_call_of 34 (Value.int .i64 N); refine (ofn_any N _ hN).mono ?_; rintro e wk1 ⟨b1, v1, l1, rfl, hr1, hn1, hbk⟩; have lsz1 := hbk.size; (try simp at lsz1); obtain ⟨A1, c1, rfl⟩ := hr1.sl; (try replace BA := (by first | (with_reducible exact BA.after hbk) | (with_reducible exact (BA.alloc _).after hbk) | (with_reducible exact BA.drew.after hbk) | (with_reducible exact (BA.alloc _).drew.after hbk))); (replace hbl := (by first | (with_reducible exact bl_then hbl hbk) | (with_reducible exact bl_then (bl_alloc hbl _) hbk) | (with_reducible exact bl_then (bl_drew hbl) hbk) | (with_reducible exact bl_then (bl_drew (bl_alloc hbl _)) hbk))); (replace hS := (by first | (with_reducible exact bl_then hS hbk) | (with_reducible exact bl_then (bl_alloc hS _) hbk) | (with_reducible exact bl_then (bl_drew hS) hbk) | (with_reducible exact bl_then (bl_drew (bl_alloc hS _)) hbk))); (first | (replace BZ := BZ.after hbk) | (have BZ := Blk.after (Blk.new _ #[.int .i64 0, .int .i64 0] 24) hbk) | (have BZ := Blk.after (Blk.drew (Blk.new _ #[.int .i64 0, .int .i64 0] 24)) hbk) | skip); clear hbk)
            | (go_at_call_of 34 (Value.int .i64 D); refine (ofn_any D _ hD).mono ?_; rintro e wk2 ⟨b2, v2, l2, rfl, hr2, hn2, hbk⟩; have lsz2 := hbk.size; (try simp at lsz2); obtain ⟨A2, c2, rfl⟩ := hr2.sl; (try replace BA := (by first | (with_reducible exact BA.after hbk) | (with_reducible exact (BA.alloc _).after hbk) | (with_reducible exact BA.drew.after hbk) | (with_reducible exact (BA.alloc _).drew.after hbk))); (try replace hr1 := (by first | (with_reducible exact hr1.after hbk) | (with_reducible exact (hr1.alloc _).after hbk) | (with_reducible exact hr1.drew.after hbk) | (with_reducible exact (hr1.alloc _).drew.after hbk))); (replace hbl := (by first | (with_reducible exact bl_then hbl hbk) | (with_reducible exact bl_then (bl_alloc hbl _) hbk) | (with_reducible exact bl_then (bl_drew hbl) hbk) | (with_reducible exact bl_then (bl_drew (bl_alloc hbl _)) hbk))); (replace hS := (by first | (with_reducible exact bl_then hS hbk) | (with_reducible exact bl_then (bl_alloc hS _) hbk) | (with_reducible exact bl_then (bl_drew hS) hbk) | (with_reducible exact bl_then (bl_drew (bl_alloc hS _)) hbk))); (first | (replace BZ := BZ.after hbk) | (have BZ := Blk.after (Blk.new _ #[.int .i64 0, .int .i64 0] 24) hbk) | (have BZ := Blk.after (Blk.drew (Blk.new _ #[.int .i64 0, .int .i64 0] 24)) hbk) | skip); clear hbk)
            | (go_at_call 33; refine (toldd_any b1 b2 _ _ l1 l2 N D _ (by have := len64 hn1 hN; omega) (by have := len64 hn2 hD; omega) (by first | (with_reducible exact hr1) | (with_reducible exact hr1.alloc _) | (with_reducible exact hr1.drew) | (with_reducible exact (hr1.alloc _).drew)) (by first | (with_reducible exact hr2) | (with_reducible exact hr2.alloc _) | (with_reducible exact hr2.drew) | (with_reducible exact (hr2.alloc _).drew)) hn1 hn2).mono ?_; rintro e wk3 ⟨rfl, hbk⟩; have lsz3 := hbk.size; (try simp at lsz3); (try replace BA := (by first | (with_reducible exact BA.after hbk) | (with_reducible exact (BA.alloc _).after hbk) | (with_reducible exact BA.drew.after hbk) | (with_reducible exact (BA.alloc _).drew.after hbk))); (replace hbl := (by first | (with_reducible exact bl_then hbl hbk) | (with_reducible exact bl_then (bl_alloc hbl _) hbk) | (with_reducible exact bl_then (bl_drew hbl) hbk) | (with_reducible exact bl_then (bl_drew (bl_alloc hbl _)) hbk))); (replace hS := (by first | (with_reducible exact bl_then hS hbk) | (with_reducible exact bl_then (bl_alloc hS _) hbk) | (with_reducible exact bl_then (bl_drew hS) hbk) | (with_reducible exact bl_then (bl_drew (bl_alloc hS _)) hbk))); (first | (replace BZ := BZ.after hbk) | (have BZ := Blk.after (Blk.new _ #[.int .i64 0, .int .i64 0] 24) hbk) | (have BZ := Blk.after (Blk.drew (Blk.new _ #[.int .i64 0, .int .i64 0] 24)) hbk) | skip); (try (have z0 := Blk2.c0 BZ; have z1 := Blk2.c1 BZ; have zf0 := BZ.frozen 0; have zf1 := BZ.frozen 1; have zl := BZ.lt)); clear hbk))
        all_goals
          repeat (first | go_big_skip | go_step)
          go_meet
          rw [hm.out]
          refine ⟨_, rfl, rfl, ?_, ?_, ?_⟩
          · first | exact BZ.set2 _ _ | exact Blk.new _ _ _
          · first | exact BA.far2 _ (by omega) _ _ | exact BA.alloc _
          · first | exact bl_set (bl_set hbl _ _ (by omega) _) _ _ (by omega) _ | exact bl_alloc hbl _
      case rest =>
        obtain ⟨G, rfl, rfl, BG, BA', hb⟩ := hcut
        clear BA a0 a1 lA
        have a0 := Blk2.c0 BA'; have a1 := Blk2.c1 BA'; have g0 := Blk2.c0 BG; have g1 := Blk2.c1 BG
        cases hok : toldOk N D.natAbs
        · rw [hok] at hq
          replace hok := hidden hok
          go_wp2_with fail
          go_ret
          exact ⟨by rw [← hq.out]; simp, hb⟩
        · rw [hok] at hq
          replace hok := hidden hok
          go_wp2_with fail
          go_ret
          exact ⟨by rw [← hq.out]; simp, hb⟩
  · have hr : rightB N D = false := decide_eq_false (fun h => h1 h.1)
    have e1 : decide (D ≤ 0) = true := by simp; omega
    replace hr := hidden hr
    go_enter Try.func45, Try.ntmps45
    go_wp2
    go_ret
    rw [hr.out]
    exact ⟨rfl, bl_alloc (bl_refl w) _⟩
end Go.Proofs.Ytpdbiofpoccjeaa.Ref
