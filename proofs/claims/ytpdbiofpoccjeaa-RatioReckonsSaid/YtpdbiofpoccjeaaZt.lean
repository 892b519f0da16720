/- The walk over the reference's Scale. -/
import Derived.Test.YtpdbiofpoccjeaaZs
import Derived.Test.YtpdbiofpoccjeaaZq
namespace Go.Proofs.Ytpdbiofpoccjeaa.Ref
open Go.RowKit
theorem sc_eq {n a b : Int} : hfX (scV n a b) b.natAbs = scX n a b := by rw [hf_eq]; rfl
set_option maxRecDepth 100000 in
set_option maxHeartbeats 4000000 in
theorem rscale_any (n a b : Int) (hn : R64 n) (ha : R64 a) (hb : R64 b) (w : World) : Calls Try.prog 17 #[.int .i64 n, .int .i64 a, .int .i64 b] w (RetSc (scN n a b) (scOk n a b) w) := by
  by_cases h0 : b = 0
  · subst h0
    have h1 : scOk n a 0 = false := by simp [scOk]
    have h2 : scN n a 0 = 0 := by simp [scN, h1]
    rw [h1, h2]
    clear h1 h2
    go_enter Try.func17, Try.ntmps17
    go_wp2_with fail
    go_ret2
    exact ⟨rfl, bl_refl w⟩
  · have e0 : (b == 0) = false := by simpa using h0
    obtain ⟨d, ed⟩ : ∃ d, b.natAbs = d := ⟨_, rfl⟩
    have hd0 : 0 < d := by omega
    have hs := sc_eq (n := n) (a := a) (b := b)
    rw [ed] at hs
    have hk : scOk n a b = fits (scX n a b) := by unfold scOk; rw [show (b != 0) = true by simpa using h0]; simp
    have hN : scN n a b = if fits (scX n a b) then scX n a b else 0 := by unfold scN; rw [hk]
    have hP : RetSc (scN n a b) (scOk n a b) = RetH (hfX (scV n a b) d) := by unfold RetSc RetH; rw [hN, hk, hs]
    rw [hP]
    obtain ⟨X, eX⟩ : ∃ X, scV n a b = X := ⟨_, rfl⟩
    rw [eX]
    obtain ⟨fb, hfb⟩ : ∃ fb, fits (hfX X d) = fb := ⟨_, rfl⟩
    obtain ⟨Y, hY⟩ : ∃ Y, (if fb then hfX X d else 0) = Y := ⟨_, rfl⟩
    have hPP : RetH (hfX X d) = fun w e w' => e = .returned (.tuple #[.int .i64 Y, .bool fb]) ∧ Below w.heap.size w w' := by unfold RetH; rw [hfb, hY]
    rw [hPP]
    have hPh := hidden hPP
    clear hfb hY hPP
    have hXs : X.natAbs < 65536 ^ 8 := by
      rw [← eX]
      have := prod_lt hn ha
      unfold scV
      split
      · rw [Int.natAbs_neg]; exact this
      · exact this
    have hds : d < 65536 ^ 8 := by have := hb.1; have := hb.2; omega
    replace hP := True.intro
    replace eX := hidden eX; replace ed := hidden ed
    clear hs hk hN h0 hP
    go_enter Try.func17, Try.ntmps17
    go_wp2_with fail
    refine (ofn_any n _ hn).mono ?_
    rintro e w1 ⟨b1, v1, l1, rfl, hr1, hn1, hb1⟩
    obtain ⟨A1, c1, rfl⟩ := hr1.sl
    have hbl := bl_then (bl_refl w) hb1
    clear hb1
    go_wp2_with fail
    refine (ofn_any a _ ha).mono ?_
    rintro e w2 ⟨b2, v2, l2, rfl, hr2, hn2, hb2⟩
    obtain ⟨A2, c2, rfl⟩ := hr2.sl
    replace hbl := bl_then hbl hb2
    replace hr1 := hr1.after hb2
    clear hb2
    go_wp2_with fail
    refine (times_any b1 b2 _ _ l1 l2 n a _ (by have := len64 hn1 hn; omega) (by have := len64 hn2 ha; omega) hr1 hr2 hn1 hn2).mono ?_
    rintro e w3 ⟨b3, v3, l3, rfl, hr3, hn3, hb3⟩
    obtain ⟨A3, c3, rfl⟩ := hr3.sl
    have hlt3 := (bl_then hbl hb3).size
    replace hbl := bl_alloc (bl_then hbl hb3) (.cells #[.bool b3, .slice A3 l3.length c3] 56)
    have B3 := Blk.new w3 #[.bool b3, .slice A3 l3.length c3] 56
    replace hr3 := hr3.alloc (.cells #[.bool b3, .slice A3 l3.length c3] 56)
    clear hb3 hr1 hr2 hn1 hn2
    go_upto_region 4 with (fail)
    generalize w3.alloc (.cells #[.bool b3, .slice A3 l3.length c3] 56) = W3 at hbl B3 hr3 ⊢
    go_wp2_with fail
    refine (ofn_any b _ hb).mono ?_
    rintro e w4 ⟨b4, v4, l4, rfl, hr4, hn4, hb4⟩
    obtain ⟨A4, c4, rfl⟩ := hr4.sl
    have l3lt := B3.lt
    replace hbl := bl_alloc (bl_then hbl hb4) (.cells #[.bool b4, .slice A4 l4.length c4] 56)
    replace B3 := (B3.after hb4).alloc (.cells #[.bool b4, .slice A4 l4.length c4] 56)
    replace hr3 := (hr3.after hb4).alloc (.cells #[.bool b4, .slice A4 l4.length c4] 56)
    have B4 := Blk.new w4 #[.bool b4, .slice A4 l4.length c4] 56
    replace hr4 := hr4.alloc (.cells #[.bool b4, .slice A4 l4.length c4] 56)
    have hne : w3.heap.size ≠ w4.heap.size := by have := hb4.size; omega
    have hlt4 : w.heap.size ≤ w4.heap.size := by have := hb4.size; omega
    clear hb4 l3lt
    go_upto_if 22 with (fail)
    generalize w4.alloc (.cells #[.bool b4, .slice A4 l4.length c4] 56) = W4 at hbl B3 hr3 B4 hr4 ⊢
    generalize w3.heap.size = G3 at B3 hne hlt3 ⊢
    generalize w4.heap.size = G4 at B4 hne hlt4 ⊢
    go_cut [] from 22 to 26 (fun w' => ∃ (b3 : Bool) (v3 v4 : Value) (l3 l4 : List Nat), Blk w' G3 #[.bool b3, v3] 56 ∧ Blk w' G4 #[.bool false, v4] 56 ∧ Rd w' v3 l3 ∧ Rd w' v4 l4 ∧ Nm b3 l3 X ∧ Nm false l4 (d : Int) ∧ Below w.heap.size w w')
    case first =>
      by_cases hneg : b < 0
      · have e1 : decide (b < 0) = true := by simpa using hneg
        have hX : -(n * a) = X := by have := eX.out; unfold scV at this; rw [if_pos hneg] at this; exact this
        have hD : -b = (d : Int) := by have := ed.out; omega
        have hk3 := prod_len hn3 hn ha
        have hk4 := len64 hn4 hb
        replace hX := hidden hX; replace hD := hidden hD
        clear hneg
        have x0 := Blk2.c0 B3; have x1 := Blk2.c1 B3; have f0 := B3.frozen 0; have f1 := B3.frozen 1
        rw [e1]
        go_upto_region 7 with (go_at_call 38; refine (neg_any b3 _ l3 (n * a) _ (by omega) hr3 hn3).mono ?_; rintro e w5 ⟨b5, v5, l5, rfl, hr5, hn5, hb5⟩; obtain ⟨A5, c5, rfl⟩ := hr5.sl; replace B3 := B3.after hb5; replace B4 := B4.after hb5; replace hr4 := hr4.after hb5; replace hbl := bl_then hbl hb5; clear x0 x1 f0 f1; have x0 := Blk2.c0 B3; have x1 := Blk2.c1 B3; have f0 := B3.frozen 0; have f1 := B3.frozen 1; rw [hX.out] at hn5)
        have B3' := B3.set2 (.bool b5) (.slice A5 l5.length c5)
        have B4' := B4.far2 G3 hne.symm (.bool b5) (.slice A5 l5.length c5)
        have hr5' := hr5.set2 B3 (by decide) (.bool b5) (.slice A5 l5.length c5)
        have hr4' := hr4.set2 B3 (by decide) (.bool b5) (.slice A5 l5.length c5)
        have hbl' := bl_set (bl_set hbl G3 0 hlt3 (.bool b5)) G3 1 hlt3 (.slice A5 l5.length c5)
        generalize (w5.setCell ⟨G3, 0, none⟩ (.bool b5)).setCell ⟨G3, 1, none⟩ (.slice A5 l5.length c5) = W5 at B3' B4' hr5' hr4' hbl' ⊢
        clear B3 B4 hr5 hr4 hbl hb5 x0 x1 f0 f1 hr3 hn3
        have x0 := Blk2.c0 B4'; have x1 := Blk2.c1 B4'; have f0 := B4'.frozen 0; have f1 := B4'.frozen 1
        go_wp2_with (go_at_call 38; refine (neg_any b4 _ l4 b _ (by omega) hr4' hn4).mono ?_; rintro e w6 ⟨b6, v6, l6, rfl, hr6, hn6, hb6⟩; obtain ⟨rfl, hm6⟩ := hn6.pos (m := d) hD.out; obtain ⟨A6, c6, rfl⟩ := hr6.sl; replace B3' := B3'.after hb6; replace B4' := B4'.after hb6; replace hr5' := hr5'.after hb6; replace hbl' := bl_then hbl' hb6; clear x0 x1 f0 f1; have x0 := Blk2.c0 B4'; have x1 := Blk2.c1 B4'; have f0 := B4'.frozen 0; have f1 := B4'.frozen 1)
        go_meet
        exact ⟨b5, _, _, l5, l6, B3'.far2 _ hne _ _, B4'.set2 _ _, hr5'.set2 B4' (by decide) _ _, hr6.set2 B4' (by decide) _ _, hn5, hm6, bl_set (bl_set hbl' _ _ hlt4 _) _ _ hlt4 _⟩
      · have e1 : decide (b < 0) = false := by simpa using hneg
        have hX : n * a = X := by have := eX.out; unfold scV at this; rw [if_neg hneg] at this; exact this
        have hD : b = (d : Int) := by have := ed.out; omega
        obtain ⟨rfl, hm4⟩ := hn4.pos (m := d) hD
        rw [hX] at hn3
        replace hX := hidden hX; replace hD := hidden hD
        rw [e1]
        repeat (first | go_big_skip | go_step)
        go_meet
        exact ⟨b3, _, _, l3, l4, B3, B4, hr3, hr4, hn3, hm4, hbl⟩
    case rest =>
      clear B3 B4 hr3 hr4 hn3 hn4 hbl
      obtain ⟨b3, v3, v4, l3, l4, B3, B4, hr3, hr4, hn3, hn4, hbl⟩ := hcut
      obtain ⟨A3, c3, rfl⟩ := hr3.sl
      obtain ⟨A4, c4, rfl⟩ := hr4.sl
      have x0 := Blk2.c0 B3; have x1 := Blk2.c1 B3; have y0 := Blk2.c0 B4; have y1 := Blk2.c1 B4
      have hl3 := hn3.len hXs
      have hl4 := hn4.len (k := 8) (by simpa using hds)
      have c39 := fun w r3 r4 => half_any b3 (.slice A3 l3.length c3) (.slice A4 l4.length c4) l3 l4 X d w (by omega) (by omega) (by omega) (by omega) r3 r4 hn3 hn4 hd0
      rw [hPh.out] at c39
      replace c39 := hidden c39
      go_wp2_with fail
      refine (c39.out _ hr3 hr4).mono ?_
      rintro e w7 ⟨rfl, hb7⟩
      replace hbl := bl_then hbl hb7
      go_wp2_with fail
      go_ret2
      exact ⟨rfl, hbl⟩
end Go.Proofs.Ytpdbiofpoccjeaa.Ref
