/- The walks over the reference's Floor, Round, Scale. -/
import Derived.Test.YtpdbiofpoccjeaaZr
namespace Go.Proofs.Ytpdbiofpoccjeaa.Ref
open Go.RowKit
theorem half_yes (b : Bool) (v u : Value) (l k : List Nat) (x : Int) (d : Nat) (w : World) (hf : fits (hfX x d) = true) (hl : l.length ≤ 10) (hk : k.length ≤ 10) (hxs : x.natAbs < 65536 ^ 10) (hds : d < 65536 ^ 10) (rv : Rd w v l) (ru : Rd w u k) (hx : Nm b l x) (hy : Nm false k (d : Int)) (hd0 : 0 < d) :
    Calls Try.prog 39 #[.agg #[.bool b, v], .agg #[.bool false, u]] w (fun e w' => e = .returned (.tuple #[.int .i64 (hfX x d), .bool true]) ∧ Below w.heap.size w w') :=
  (half_any b v u l k x d w hl hk hxs hds rv ru hx hy hd0).mono fun _ _ ⟨h1, h2⟩ => ⟨by rw [h1, hf]; rfl, h2⟩
set_option maxRecDepth 100000 in
set_option maxHeartbeats 8000000 in
theorem rfloor_any (N D : Int) (hN : R64 N) (hD : R64 D) (w : World) : Calls Try.prog 25 #[.agg #[.int .i64 N, .int .i64 D]] w (RetI (floorR N D) w) := by
  cases ra : rightB N D
  · have cA := fun w => rright_any N D w hN hD
    rw [ra] at cA
    have hr : floorR N D = 0 := by simp [floorR, ra]
    replace cA := hidden cA; replace hr := hidden hr; replace ra := hidden ra
    go_enter Try.func25, Try.ntmps25
    go_wp2_with fail
    refine (cA.out _).mono ?_
    rintro e w1 ⟨rfl, hb1⟩
    have hbl := bl_then (bl_alloc (bl_refl w) _) hb1
    go_wp2_with fail
    go_ret
    exact ⟨ret_int hr.out.symm, hbl⟩
  · have hp := right_pos ra
    have hlo := right_min hN ra
    obtain ⟨d, rfl⟩ := Int.eq_ofNat_of_zero_le (show 0 ≤ D by omega)
    have cA := fun w => rright_any N (d : Int) w hN hD
    rw [ra] at cA
    have hf := div_fits hN hp
    have hr : floorR N (d : Int) = N / (d : Int) := by simp [floorR, ra]
    replace cA := hidden cA; replace hr := hidden hr; replace ra := hidden ra; replace hf := hidden hf
    go_enter Try.func25, Try.ntmps25
    go_upto_region 3 with (go_at_call 45; refine (cA.out _).mono ?_; rintro e W0 ⟨rfl, hb1⟩; have BA := (Blk.new w #[.int .i64 N, .int .i64 (d : Int)] 24).after hb1; have hbl := bl_then (bl_alloc (bl_refl w) _) hb1)
    clear hb1
    have lA := BA.lt
    have a0 := Blk2.c0 BA; have a1 := Blk2.c1 BA
    go_cut [3] (fun s3 w' => ∃ (G : Nat) (b : Bool) (v : Value) (l : List Nat), s3 = .pointer (some ⟨G, 0, none⟩) ∧ Blk w' G #[.bool b, v] 56 ∧ Rd w' v l ∧ Nm b l (N / (d : Int)) ∧ Below w.heap.size w w')
    case first =>
        have hS := bl_refl W0
        go_region_held3 (fun w' => ∀ b o, b < W0.heap.size → w'.cell? ⟨b, o, none⟩ = W0.cell? ⟨b, o, none⟩)
          (exact (bcell (by repeat (first | exact bl_refl _ | exact hS | apply bl_alloc | apply bl_drew | (refine bl_set ?_ _ _ (by omega) _)))).1)
          (first
            | (go_at_call_of 34 (Value.int .i64 N); refine (ofn_any N _ hN).mono ?_; rintro e wk1 ⟨b1, v1, l1, rfl, hr1, hn1, hbk⟩; have lsz1 := hbk.size; (try simp at lsz1); obtain ⟨A1, c1, rfl⟩ := hr1.sl; (replace hbl := (by first | (with_reducible exact bl_then hbl hbk) | (with_reducible exact bl_then (bl_alloc hbl _) hbk) | (with_reducible exact bl_then (bl_alloc (bl_alloc hbl _) _) hbk) | (with_reducible exact bl_then (bl_drew hbl) hbk) | (with_reducible exact bl_then (bl_drew (bl_alloc hbl _)) hbk) | (with_reducible exact bl_then (bl_drew (bl_alloc (bl_alloc hbl _) _)) hbk))); (replace hS := (by first | (with_reducible exact bl_then hS hbk) | (with_reducible exact bl_then (bl_alloc hS _) hbk) | (with_reducible exact bl_then (bl_alloc (bl_alloc hS _) _) hbk) | (with_reducible exact bl_then (bl_drew hS) hbk) | (with_reducible exact bl_then (bl_drew (bl_alloc hS _)) hbk) | (with_reducible exact bl_then (bl_drew (bl_alloc (bl_alloc hS _) _)) hbk))); (first | (replace BZ2 := BZ2.after hbk; replace BZ1 := BZ1.after hbk) | (have BZ2 := Blk.after (Blk.new _ #[.bool false, .slice none 0 0] 56) hbk; replace BZ1 := (BZ1.alloc _).after hbk) | (replace BZ1 := BZ1.after hbk) | (have BZ1 := Blk.after (Blk.alloc (Blk.new _ #[.bool false, .slice none 0 0] 56) (.cells #[.bool false, .slice none 0 0] 56)) hbk; have BZ2 := Blk.after (Blk.second _ (.cells #[.bool false, .slice none 0 0] 56) #[.bool false, .slice none 0 0] 56) hbk) | (have BZ1 := Blk.after (Blk.new _ #[.bool false, .slice none 0 0] 56) hbk) | (have BZ1 := Blk.after (Blk.drew (Blk.alloc (Blk.new _ #[.bool false, .slice none 0 0] 56) (.cells #[.bool false, .slice none 0 0] 56))) hbk; have BZ2 := Blk.after (Blk.drew (Blk.second _ (.cells #[.bool false, .slice none 0 0] 56) #[.bool false, .slice none 0 0] 56)) hbk) | (have BZ1 := Blk.after (Blk.drew (Blk.new _ #[.bool false, .slice none 0 0] 56)) hbk) | skip); clear hbk)
            | (go_at_call_of 34 (Value.int .i64 (d : Int)); refine (ofn_any (d : Int) _ hD).mono ?_; rintro e wk2 ⟨b2, v2, l2, rfl, hr2, hn2, hbk⟩; have lsz2 := hbk.size; (try simp at lsz2); obtain ⟨rfl, hm2⟩ := hn2.pos (m := d) rfl; obtain ⟨A2, c2, rfl⟩ := hr2.sl; (try replace hr1 := (by first | (with_reducible exact hr1.after hbk) | (with_reducible exact (hr1.alloc _).after hbk) | (with_reducible exact ((hr1.alloc _).alloc _).after hbk) | (with_reducible exact hr1.drew.after hbk) | (with_reducible exact (hr1.alloc _).drew.after hbk) | (with_reducible exact ((hr1.alloc _).alloc _).drew.after hbk))); (replace hbl := (by first | (with_reducible exact bl_then hbl hbk) | (with_reducible exact bl_then (bl_alloc hbl _) hbk) | (with_reducible exact bl_then (bl_alloc (bl_alloc hbl _) _) hbk) | (with_reducible exact bl_then (bl_drew hbl) hbk) | (with_reducible exact bl_then (bl_drew (bl_alloc hbl _)) hbk) | (with_reducible exact bl_then (bl_drew (bl_alloc (bl_alloc hbl _) _)) hbk))); (replace hS := (by first | (with_reducible exact bl_then hS hbk) | (with_reducible exact bl_then (bl_alloc hS _) hbk) | (with_reducible exact bl_then (bl_alloc (bl_alloc hS _) _) hbk) | (with_reducible exact bl_then (bl_drew hS) hbk) | (with_reducible exact bl_then (bl_drew (bl_alloc hS _)) hbk) | (with_reducible exact bl_then (bl_drew (bl_alloc (bl_alloc hS _) _)) hbk))); (first | (replace BZ2 := BZ2.after hbk; replace BZ1 := BZ1.after hbk) | (have BZ2 := Blk.after (Blk.new _ #[.bool false, .slice none 0 0] 56) hbk; replace BZ1 := (BZ1.alloc _).after hbk) | (replace BZ1 := BZ1.after hbk) | (have BZ1 := Blk.after (Blk.alloc (Blk.new _ #[.bool false, .slice none 0 0] 56) (.cells #[.bool false, .slice none 0 0] 56)) hbk; have BZ2 := Blk.after (Blk.second _ (.cells #[.bool false, .slice none 0 0] 56) #[.bool false, .slice none 0 0] 56) hbk) | (have BZ1 := Blk.after (Blk.new _ #[.bool false, .slice none 0 0] 56) hbk) | skip); clear hbk)
            | (go_at_call 48; refine (parts_any b1 _ _ l1 l2 N d _ (by have := len64 hn1 hN; omega) (by have := len64 hm2 hD; omega) (by first | (with_reducible exact hr1) | (with_reducible exact (hr1.alloc _)) | (with_reducible exact ((hr1.alloc _).alloc _)) | (with_reducible exact hr1.drew) | (with_reducible exact (hr1.alloc _).drew) | (with_reducible exact ((hr1.alloc _).alloc _).drew)) (by first | (with_reducible exact hr2) | (with_reducible exact (hr2.alloc _)) | (with_reducible exact ((hr2.alloc _).alloc _)) | (with_reducible exact hr2.drew) | (with_reducible exact (hr2.alloc _).drew) | (with_reducible exact ((hr2.alloc _).alloc _).drew)) hn1 hm2 (by omega)).mono ?_; rintro e wk3 ⟨bq, vq, lq, br, vr, lr, rfl, hrq, hnq, hrr, hnr, hbk⟩; have lsz3 := hbk.size; (try simp at lsz3); obtain ⟨Aq, cq, rfl⟩ := hrq.sl; obtain ⟨Ar, cr, rfl⟩ := hrr.sl; (replace hbl := (by first | (with_reducible exact bl_then hbl hbk) | (with_reducible exact bl_then (bl_alloc hbl _) hbk) | (with_reducible exact bl_then (bl_alloc (bl_alloc hbl _) _) hbk) | (with_reducible exact bl_then (bl_drew hbl) hbk) | (with_reducible exact bl_then (bl_drew (bl_alloc hbl _)) hbk) | (with_reducible exact bl_then (bl_drew (bl_alloc (bl_alloc hbl _) _)) hbk))); (replace hS := (by first | (with_reducible exact bl_then hS hbk) | (with_reducible exact bl_then (bl_alloc hS _) hbk) | (with_reducible exact bl_then (bl_alloc (bl_alloc hS _) _) hbk) | (with_reducible exact bl_then (bl_drew hS) hbk) | (with_reducible exact bl_then (bl_drew (bl_alloc hS _)) hbk) | (with_reducible exact bl_then (bl_drew (bl_alloc (bl_alloc hS _) _)) hbk))); (first | (replace BZ2 := BZ2.after hbk; replace BZ1 := BZ1.after hbk) | (have BZ2 := Blk.after (Blk.new _ #[.bool false, .slice none 0 0] 56) hbk; replace BZ1 := (BZ1.alloc _).after hbk) | (replace BZ1 := BZ1.after hbk) | (have BZ1 := Blk.after (Blk.alloc (Blk.new _ #[.bool false, .slice none 0 0] 56) (.cells #[.bool false, .slice none 0 0] 56)) hbk; have BZ2 := Blk.after (Blk.second _ (.cells #[.bool false, .slice none 0 0] 56) #[.bool false, .slice none 0 0] 56) hbk) | (have BZ1 := Blk.after (Blk.new _ #[.bool false, .slice none 0 0] 56) hbk) | skip); (try (have y0 := Blk2.c0 BZ1; have y1 := Blk2.c1 BZ1; have yf0 := BZ1.frozen 0; have yf1 := BZ1.frozen 1; have yl := BZ1.lt)); (try (have z0 := Blk2.c0 BZ2; have z1 := Blk2.c1 BZ2; have zf0 := BZ2.frozen 0; have zf1 := BZ2.frozen 1; have zl := BZ2.lt)); clear hbk))
        all_goals
          repeat (first | go_big_skip | go_step)
          go_meet
          refine ⟨_, bq, .slice Aq lq.length cq, lq, rfl, ?_, ?_, hnq, ?_⟩
          · (repeat' (first
            | (with_reducible first | assumption | exact Blk.new _ _ _ | exact Blk.second _ _ _ _)
            | (with_reducible (refine Blk.made _ _ _ _ ?_); (simp [World.setCell]; done))
            | (with_reducible first | apply Blk.alloc | apply Rd.alloc | apply bl_alloc)
            | (with_reducible refine Blk.set2 (a := .bool false) (b := .slice none 0 0) ?_ _ _)
            | (with_reducible refine Blk.far2 ?_ _ (by first | omega | (simp; omega)) _ _)
            | (with_reducible refine Rd.set2 (t := 56) (cs := #[.bool false, .slice none 0 0]) ?_ ?_ (by decide) _ _)
            | (with_reducible refine bl_set ?_ _ _ (by first | omega | (simp; omega)) _)))
          · (repeat' (first
            | (with_reducible first | assumption | exact Blk.new _ _ _ | exact Blk.second _ _ _ _)
            | (with_reducible (refine Blk.made _ _ _ _ ?_); (simp [World.setCell]; done))
            | (with_reducible first | apply Blk.alloc | apply Rd.alloc | apply bl_alloc)
            | (with_reducible refine Blk.set2 (a := .bool false) (b := .slice none 0 0) ?_ _ _)
            | (with_reducible refine Blk.far2 ?_ _ (by first | omega | (simp; omega)) _ _)
            | (with_reducible refine Rd.set2 (t := 56) (cs := #[.bool false, .slice none 0 0]) ?_ ?_ (by decide) _ _)
            | (with_reducible refine bl_set ?_ _ _ (by first | omega | (simp; omega)) _)))
          · (repeat' (first
            | (with_reducible first | assumption | exact Blk.new _ _ _ | exact Blk.second _ _ _ _)
            | (with_reducible (refine Blk.made _ _ _ _ ?_); (simp [World.setCell]; done))
            | (with_reducible first | apply Blk.alloc | apply Rd.alloc | apply bl_alloc)
            | (with_reducible refine Blk.set2 (a := .bool false) (b := .slice none 0 0) ?_ _ _)
            | (with_reducible refine Blk.far2 ?_ _ (by first | omega | (simp; omega)) _ _)
            | (with_reducible refine Rd.set2 (t := 56) (cs := #[.bool false, .slice none 0 0]) ?_ ?_ (by decide) _ _)
            | (with_reducible refine bl_set ?_ _ _ (by first | omega | (simp; omega)) _)))
    case rest =>
      clear BA a0 a1 lA hbl
      obtain ⟨G, b, v, l, rfl, BG, hrd, hnm, hb⟩ := hcut
      obtain ⟨Av, cv, rfl⟩ := hrd.sl
      have g0 := Blk2.c0 BG; have g1 := Blk2.c1 BG
      obtain ⟨X, eX⟩ : ∃ X, N / (d : Int) = X := ⟨_, rfl⟩
      rw [eX] at hnm hr hf
      clear eX
      have hX : R64 X := by have := of_decide_eq_true hf.out; exact ⟨this.1, this.2⟩
      have hlen := len64 hnm hX
      go_wp2_with fail
      refine (int_any b _ l X _ (by omega) hrd hnm).mono ?_
      rintro e w2 ⟨y, rfl, hy2, hb2⟩
      obtain rfl := hy2 hf.out
      replace hb := bl_then hb hb2
      clear hy2
      go_wp2_with fail
      go_ret
      exact ⟨ret_int hr.out.symm, hb⟩
set_option maxRecDepth 100000 in
set_option maxHeartbeats 8000000 in
theorem rround_any (N D : Int) (hN : R64 N) (hD : R64 D) (w : World) : Calls Try.prog 26 #[.agg #[.int .i64 N, .int .i64 D]] w (RetI (roundR N D) w) := by
  cases ra : rightB N D
  · have cA := fun w => rright_any N D w hN hD
    rw [ra] at cA
    have hr : roundR N D = 0 := by simp [roundR, ra]
    replace cA := hidden cA; replace hr := hidden hr; replace ra := hidden ra
    go_enter Try.func26, Try.ntmps26
    go_wp2_with fail
    refine (cA.out _).mono ?_
    rintro e w1 ⟨rfl, hb1⟩
    have hbl := bl_then (bl_alloc (bl_refl w) _) hb1
    go_wp2_with fail
    go_ret
    exact ⟨ret_int hr.out.symm, hbl⟩
  · have hp := right_pos ra
    have hlo := right_min hN ra
    obtain ⟨d, rfl⟩ := Int.eq_ofNat_of_zero_le (show 0 ≤ D by omega)
    have cA := fun w => rright_any N (d : Int) w hN hD
    rw [ra] at cA
    have hf := half_fits hlo hN.2 hp
    have hh : hfX N d = (2 * N + (d : Int)) / 2 / (d : Int) := hf_eq
    rw [← hh] at hf
    have hr : roundR N (d : Int) = hfX N d := by rw [hh]; simp [roundR, ra]
    have hP : RetH (hfX N d) = fun w e w' => e = .returned (.tuple #[.int .i64 (hfX N d), .bool true]) ∧ Below w.heap.size w w' := by unfold RetH; rw [hf]; rfl
    replace cA := hidden cA; replace hr := hidden hr; replace ra := hidden ra; replace hf := hidden hf; replace hh := hidden hh; replace hP := hidden hP
    go_enter Try.func26, Try.ntmps26
    go_upto_region 3 with (go_at_call 45; refine (cA.out _).mono ?_; rintro e W0 ⟨rfl, hb1⟩; have BA := (Blk.new w #[.int .i64 N, .int .i64 (d : Int)] 24).after hb1; have hbl := bl_then (bl_alloc (bl_refl w) _) hb1)
    clear hb1
    have lA := BA.lt
    have a0 := Blk2.c0 BA; have a1 := Blk2.c1 BA
    have hS := bl_refl W0
    go_region_held3 (fun w' => ∀ b o, b < W0.heap.size → w'.cell? ⟨b, o, none⟩ = W0.cell? ⟨b, o, none⟩)
          (exact (bcell (by repeat (first | exact bl_refl _ | exact hS | apply bl_alloc | apply bl_drew | (refine bl_set ?_ _ _ (by omega) _)))).1)
          (first
            | (go_at_call_of 34 (Value.int .i64 N); refine (ofn_any N _ hN).mono ?_; rintro e wk1 ⟨b1, v1, l1, rfl, hr1, hn1, hbk⟩; have lsz1 := hbk.size; (try simp at lsz1); obtain ⟨A1, c1, rfl⟩ := hr1.sl; (replace hbl := (by first | (with_reducible exact bl_then hbl hbk) | (with_reducible exact bl_then (bl_alloc hbl _) hbk) | (with_reducible exact bl_then (bl_alloc (bl_alloc hbl _) _) hbk) | (with_reducible exact bl_then (bl_drew hbl) hbk) | (with_reducible exact bl_then (bl_drew (bl_alloc hbl _)) hbk) | (with_reducible exact bl_then (bl_drew (bl_alloc (bl_alloc hbl _) _)) hbk))); (replace hS := (by first | (with_reducible exact bl_then hS hbk) | (with_reducible exact bl_then (bl_alloc hS _) hbk) | (with_reducible exact bl_then (bl_alloc (bl_alloc hS _) _) hbk) | (with_reducible exact bl_then (bl_drew hS) hbk) | (with_reducible exact bl_then (bl_drew (bl_alloc hS _)) hbk) | (with_reducible exact bl_then (bl_drew (bl_alloc (bl_alloc hS _) _)) hbk))); (first | (replace BZ2 := BZ2.after hbk; replace BZ1 := BZ1.after hbk) | (have BZ2 := Blk.after (Blk.new _ #[.bool false, .slice none 0 0] 56) hbk; replace BZ1 := (BZ1.alloc _).after hbk) | (replace BZ1 := BZ1.after hbk) | (have BZ1 := Blk.after (Blk.alloc (Blk.new _ #[.bool false, .slice none 0 0] 56) (.cells #[.bool false, .slice none 0 0] 56)) hbk; have BZ2 := Blk.after (Blk.second _ (.cells #[.bool false, .slice none 0 0] 56) #[.bool false, .slice none 0 0] 56) hbk) | (have BZ1 := Blk.after (Blk.new _ #[.bool false, .slice none 0 0] 56) hbk) | (have BZ1 := Blk.after (Blk.drew (Blk.alloc (Blk.new _ #[.bool false, .slice none 0 0] 56) (.cells #[.bool false, .slice none 0 0] 56))) hbk; have BZ2 := Blk.after (Blk.drew (Blk.second _ (.cells #[.bool false, .slice none 0 0] 56) #[.bool false, .slice none 0 0] 56)) hbk) | (have BZ1 := Blk.after (Blk.drew (Blk.new _ #[.bool false, .slice none 0 0] 56)) hbk) | skip); clear hbk)
            | (go_at_call_of 34 (Value.int .i64 (d : Int)); refine (ofn_any (d : Int) _ hD).mono ?_; rintro e wk2 ⟨b2, v2, l2, rfl, hr2, hn2, hbk⟩; have lsz2 := hbk.size; (try simp at lsz2); obtain ⟨rfl, hm2⟩ := hn2.pos (m := d) rfl; obtain ⟨A2, c2, rfl⟩ := hr2.sl; (try replace hr1 := (by first | (with_reducible exact hr1.after hbk) | (with_reducible exact (hr1.alloc _).after hbk) | (with_reducible exact ((hr1.alloc _).alloc _).after hbk) | (with_reducible exact hr1.drew.after hbk) | (with_reducible exact (hr1.alloc _).drew.after hbk) | (with_reducible exact ((hr1.alloc _).alloc _).drew.after hbk))); (replace hbl := (by first | (with_reducible exact bl_then hbl hbk) | (with_reducible exact bl_then (bl_alloc hbl _) hbk) | (with_reducible exact bl_then (bl_alloc (bl_alloc hbl _) _) hbk) | (with_reducible exact bl_then (bl_drew hbl) hbk) | (with_reducible exact bl_then (bl_drew (bl_alloc hbl _)) hbk) | (with_reducible exact bl_then (bl_drew (bl_alloc (bl_alloc hbl _) _)) hbk))); (replace hS := (by first | (with_reducible exact bl_then hS hbk) | (with_reducible exact bl_then (bl_alloc hS _) hbk) | (with_reducible exact bl_then (bl_alloc (bl_alloc hS _) _) hbk) | (with_reducible exact bl_then (bl_drew hS) hbk) | (with_reducible exact bl_then (bl_drew (bl_alloc hS _)) hbk) | (with_reducible exact bl_then (bl_drew (bl_alloc (bl_alloc hS _) _)) hbk))); (first | (replace BZ2 := BZ2.after hbk; replace BZ1 := BZ1.after hbk) | (have BZ2 := Blk.after (Blk.new _ #[.bool false, .slice none 0 0] 56) hbk; replace BZ1 := (BZ1.alloc _).after hbk) | (replace BZ1 := BZ1.after hbk) | (have BZ1 := Blk.after (Blk.alloc (Blk.new _ #[.bool false, .slice none 0 0] 56) (.cells #[.bool false, .slice none 0 0] 56)) hbk; have BZ2 := Blk.after (Blk.second _ (.cells #[.bool false, .slice none 0 0] 56) #[.bool false, .slice none 0 0] 56) hbk) | (have BZ1 := Blk.after (Blk.new _ #[.bool false, .slice none 0 0] 56) hbk) | skip); clear hbk)
            | (go_at_call 39; refine (half_yes b1 _ _ l1 l2 N d _ hf.out (by have := len64 hn1 hN; omega) (by have := len64 hm2 hD; omega) (by have := hN.1; have := hN.2; omega) (by have := hD.2; omega) (by first | (with_reducible exact hr1) | (with_reducible exact (hr1.alloc _)) | (with_reducible exact ((hr1.alloc _).alloc _)) | (with_reducible exact hr1.drew) | (with_reducible exact (hr1.alloc _).drew) | (with_reducible exact ((hr1.alloc _).alloc _).drew)) (by first | (with_reducible exact hr2) | (with_reducible exact (hr2.alloc _)) | (with_reducible exact ((hr2.alloc _).alloc _)) | (with_reducible exact hr2.drew) | (with_reducible exact (hr2.alloc _).drew) | (with_reducible exact ((hr2.alloc _).alloc _).drew)) hn1 hm2 (by omega)).mono ?_; rintro e wk3 ⟨rfl, hbk⟩; have lsz3 := hbk.size; (try simp at lsz3); (replace hbl := (by first | (with_reducible exact bl_then hbl hbk) | (with_reducible exact bl_then (bl_alloc hbl _) hbk) | (with_reducible exact bl_then (bl_alloc (bl_alloc hbl _) _) hbk) | (with_reducible exact bl_then (bl_drew hbl) hbk) | (with_reducible exact bl_then (bl_drew (bl_alloc hbl _)) hbk) | (with_reducible exact bl_then (bl_drew (bl_alloc (bl_alloc hbl _) _)) hbk))); (replace hS := (by first | (with_reducible exact bl_then hS hbk) | (with_reducible exact bl_then (bl_alloc hS _) hbk) | (with_reducible exact bl_then (bl_alloc (bl_alloc hS _) _) hbk) | (with_reducible exact bl_then (bl_drew hS) hbk) | (with_reducible exact bl_then (bl_drew (bl_alloc hS _)) hbk) | (with_reducible exact bl_then (bl_drew (bl_alloc (bl_alloc hS _) _)) hbk))); (first | (replace BZ2 := BZ2.after hbk; replace BZ1 := BZ1.after hbk) | (have BZ2 := Blk.after (Blk.new _ #[.bool false, .slice none 0 0] 56) hbk; replace BZ1 := (BZ1.alloc _).after hbk) | (replace BZ1 := BZ1.after hbk) | (have BZ1 := Blk.after (Blk.alloc (Blk.new _ #[.bool false, .slice none 0 0] 56) (.cells #[.bool false, .slice none 0 0] 56)) hbk; have BZ2 := Blk.after (Blk.second _ (.cells #[.bool false, .slice none 0 0] 56) #[.bool false, .slice none 0 0] 56) hbk) | (have BZ1 := Blk.after (Blk.new _ #[.bool false, .slice none 0 0] 56) hbk) | skip); clear hbk))
    all_goals
      repeat (first | go_big_skip | go_step)
      go_ret
      exact ⟨ret_int hr.out.symm, hbl⟩
end Go.Proofs.Ytpdbiofpoccjeaa.Ref
