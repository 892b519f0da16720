/- The walk over the reference's Half. -/
import Derived.Test.YtpdbiofpoccjeaaZo
namespace Go.Proofs.Ytpdbiofpoccjeaa.Ref
open Go.RowKit
/-- A number by another one, and a half, rounded down; and the number where it fits. -/
def hfX (x : Int) (d : Nat) : Int := (x + x + (d : Int)) / ((d + d : Nat) : Int)
theorem hf_eq {x : Int} {d : Nat} : hfX x d = (2 * x + (d : Int)) / 2 / (d : Int) := by
  unfold hfX
  rw [Int.ediv_ediv_of_nonneg (by omega)]
  congr 1 <;> omega
def RetH (y : Int) (w : World) (e : Ending) (w' : World) : Prop := e = .returned (.tuple #[.int .i64 (if fits y then y else 0), .bool (fits y)]) ∧ Below w.heap.size w w'
theorem half_lt {x : Int} {d : Nat} (hx : x.natAbs < 65536 ^ 10) (hd : d < 65536 ^ 10) : (hfX x d).natAbs < 65536 ^ 20 := by
  unfold hfX
  have h1 := Int.natAbs_ediv_le_natAbs (x + x + (d : Int)) ((d + d : Nat) : Int)
  omega
set_option maxRecDepth 100000 in
set_option maxHeartbeats 8000000 in
theorem half_any (b : Bool) (v u : Value) (l k : List Nat) (x : Int) (d : Nat) (w : World) (hl : l.length ≤ 10) (hk : k.length ≤ 10) (hxs : x.natAbs < 65536 ^ 10) (hds : d < 65536 ^ 10) (rv : Rd w v l) (ru : Rd w u k) (hx : Nm b l x) (hy : Nm false k (d : Int)) (hd0 : 0 < d) :
    Calls Try.prog 39 #[.agg #[.bool b, v], .agg #[.bool false, u]] w (RetH (hfX x d) w) := by
  obtain ⟨A, c, rfl⟩ := rv.sl
  obtain ⟨B, c', rfl⟩ := ru.sl
  go_enter Try.func39, Try.ntmps39
  go_upto_region 1 with (fail)
  have BA := (Blk.new w #[.bool b, .slice A l.length c] 56).alloc (.cells #[.bool false, .slice B k.length c'] 56)
  have BB : Blk ((w.alloc (.cells #[.bool b, .slice A l.length c] 56)).alloc (.cells #[.bool false, .slice B k.length c'] 56)) (w.heap.size + 1) #[.bool false, .slice B k.length c'] 56 := Blk.made _ _ _ _ (by simp)
  have hbl := bl_alloc (bl_alloc (bl_refl w) (.cells #[.bool b, .slice A l.length c] 56)) (.cells #[.bool false, .slice B k.length c'] 56)
  replace rv := (rv.alloc (.cells #[.bool b, .slice A l.length c] 56)).alloc (.cells #[.bool false, .slice B k.length c'] 56)
  replace ru := (ru.alloc (.cells #[.bool b, .slice A l.length c] 56)).alloc (.cells #[.bool false, .slice B k.length c'] 56)
  generalize (w.alloc (.cells #[.bool b, .slice A l.length c] 56)).alloc (.cells #[.bool false, .slice B k.length c'] 56) = W0 at BA BB hbl rv ru ⊢
  have lA := BA.lt; have lB := BB.lt
  have a0 := Blk2.c0 BA; have a1 := Blk2.c1 BA; have b0 := Blk2.c0 BB; have b1 := Blk2.c1 BB
  go_cut [6] (fun s6 w' => ∃ (G : Nat) (b : Bool) (v : Value) (l : List Nat), s6 = .pointer (some ⟨G, 0, none⟩) ∧ Blk w' G #[.bool b, v] 56 ∧ Rd w' v l ∧ Nm b l ((x + x + (d : Int)) / ((d + d : Nat) : Int)) ∧ Below w.heap.size w w')
  case first =>
        have hS := bl_refl W0
        go_region_held3 (fun w' => ∀ b o, b < W0.heap.size → w'.cell? ⟨b, o, none⟩ = W0.cell? ⟨b, o, none⟩)
          (exact (bcell (by repeat (first | exact bl_refl _ | exact hS | apply bl_alloc | apply bl_drew | (refine bl_set ?_ _ _ (by omega) _)))).1)
          (first
            | (go_at_call_of 46 (Value.agg #[.bool b, .slice A l.length c]); refine (Plus_any b b _ _ l l x x _ (by omega) (by omega) (by first | (with_reducible exact rv) | (with_reducible exact (rv.alloc _)) | (with_reducible exact ((rv.alloc _).alloc _)) | (with_reducible exact rv.drew) | (with_reducible exact (rv.alloc _).drew) | (with_reducible exact ((rv.alloc _).alloc _).drew)) (by first | (with_reducible exact rv) | (with_reducible exact (rv.alloc _)) | (with_reducible exact ((rv.alloc _).alloc _)) | (with_reducible exact rv.drew) | (with_reducible exact (rv.alloc _).drew) | (with_reducible exact ((rv.alloc _).alloc _).drew)) hx hx).mono ?_; rintro e wk1 ⟨b1, v1, l1, rfl, hr1, hn1, hbk⟩; have lsz1 := hbk.size; (try simp at lsz1); obtain ⟨A1, c1, rfl⟩ := hr1.sl; (try replace ru := (by first | (with_reducible exact ru.after hbk) | (with_reducible exact (ru.alloc _).after hbk) | (with_reducible exact ((ru.alloc _).alloc _).after hbk) | (with_reducible exact ru.drew.after hbk) | (with_reducible exact (ru.alloc _).drew.after hbk) | (with_reducible exact ((ru.alloc _).alloc _).drew.after hbk))); (replace hbl := (by first | (with_reducible exact bl_then hbl hbk) | (with_reducible exact bl_then (bl_alloc hbl _) hbk) | (with_reducible exact bl_then (bl_alloc (bl_alloc hbl _) _) hbk) | (with_reducible exact bl_then (bl_drew hbl) hbk) | (with_reducible exact bl_then (bl_drew (bl_alloc hbl _)) hbk) | (with_reducible exact bl_then (bl_drew (bl_alloc (bl_alloc hbl _) _)) hbk))); (replace hS := (by first | (with_reducible exact bl_then hS hbk) | (with_reducible exact bl_then (bl_alloc hS _) hbk) | (with_reducible exact bl_then (bl_alloc (bl_alloc hS _) _) hbk) | (with_reducible exact bl_then (bl_drew hS) hbk) | (with_reducible exact bl_then (bl_drew (bl_alloc hS _)) hbk) | (with_reducible exact bl_then (bl_drew (bl_alloc (bl_alloc hS _) _)) hbk))); (first | (replace BZ2 := BZ2.after hbk; replace BZ1 := BZ1.after hbk) | (have BZ2 := Blk.after (Blk.new _ #[.bool false, .slice none 0 0] 56) hbk; replace BZ1 := (BZ1.alloc _).after hbk) | (replace BZ1 := BZ1.after hbk) | (have BZ1 := Blk.after (Blk.alloc (Blk.new _ #[.bool false, .slice none 0 0] 56) (.cells #[.bool false, .slice none 0 0] 56)) hbk; have BZ2 := Blk.after (Blk.second _ (.cells #[.bool false, .slice none 0 0] 56) #[.bool false, .slice none 0 0] 56) hbk) | (have BZ1 := Blk.after (Blk.new _ #[.bool false, .slice none 0 0] 56) hbk) | (have BZ1 := Blk.after (Blk.drew (Blk.alloc (Blk.new _ #[.bool false, .slice none 0 0] 56) (.cells #[.bool false, .slice none 0 0] 56))) hbk; have BZ2 := Blk.after (Blk.drew (Blk.second _ (.cells #[.bool false, .slice none 0 0] 56) #[.bool false, .slice none 0 0] 56)) hbk) | (have BZ1 := Blk.after (Blk.drew (Blk.new _ #[.bool false, .slice none 0 0] 56)) hbk) | skip); clear hbk)
            | (go_at_call_of 46 (Value.agg #[.bool b1, .slice A1 l1.length c1]); refine (Plus_any b1 false _ _ l1 k (x + x) (d : Int) _ (by have := hn1.len (k := 11) (by omega); omega) (by omega) (by first | (with_reducible exact hr1) | (with_reducible exact (hr1.alloc _)) | (with_reducible exact ((hr1.alloc _).alloc _)) | (with_reducible exact hr1.drew) | (with_reducible exact (hr1.alloc _).drew) | (with_reducible exact ((hr1.alloc _).alloc _).drew)) (by first | (with_reducible exact ru) | (with_reducible exact (ru.alloc _)) | (with_reducible exact ((ru.alloc _).alloc _)) | (with_reducible exact ru.drew) | (with_reducible exact (ru.alloc _).drew) | (with_reducible exact ((ru.alloc _).alloc _).drew)) hn1 hy).mono ?_; rintro e wk2 ⟨b2, v2, l2, rfl, hr2, hn2, hbk⟩; have lsz2 := hbk.size; (try simp at lsz2); obtain ⟨A2, c2, rfl⟩ := hr2.sl; (try replace ru := (by first | (with_reducible exact ru.after hbk) | (with_reducible exact (ru.alloc _).after hbk) | (with_reducible exact ((ru.alloc _).alloc _).after hbk) | (with_reducible exact ru.drew.after hbk) | (with_reducible exact (ru.alloc _).drew.after hbk) | (with_reducible exact ((ru.alloc _).alloc _).drew.after hbk))); (replace hbl := (by first | (with_reducible exact bl_then hbl hbk) | (with_reducible exact bl_then (bl_alloc hbl _) hbk) | (with_reducible exact bl_then (bl_alloc (bl_alloc hbl _) _) hbk) | (with_reducible exact bl_then (bl_drew hbl) hbk) | (with_reducible exact bl_then (bl_drew (bl_alloc hbl _)) hbk) | (with_reducible exact bl_then (bl_drew (bl_alloc (bl_alloc hbl _) _)) hbk))); (replace hS := (by first | (with_reducible exact bl_then hS hbk) | (with_reducible exact bl_then (bl_alloc hS _) hbk) | (with_reducible exact bl_then (bl_alloc (bl_alloc hS _) _) hbk) | (with_reducible exact bl_then (bl_drew hS) hbk) | (with_reducible exact bl_then (bl_drew (bl_alloc hS _)) hbk) | (with_reducible exact bl_then (bl_drew (bl_alloc (bl_alloc hS _) _)) hbk))); (first | (replace BZ2 := BZ2.after hbk; replace BZ1 := BZ1.after hbk) | (have BZ2 := Blk.after (Blk.new _ #[.bool false, .slice none 0 0] 56) hbk; replace BZ1 := (BZ1.alloc _).after hbk) | (replace BZ1 := BZ1.after hbk) | (have BZ1 := Blk.after (Blk.alloc (Blk.new _ #[.bool false, .slice none 0 0] 56) (.cells #[.bool false, .slice none 0 0] 56)) hbk; have BZ2 := Blk.after (Blk.second _ (.cells #[.bool false, .slice none 0 0] 56) #[.bool false, .slice none 0 0] 56) hbk) | (have BZ1 := Blk.after (Blk.new _ #[.bool false, .slice none 0 0] 56) hbk) | skip); clear hbk)
            | (go_at_call_of 46 (Value.agg #[.bool false, .slice B k.length c']); refine (Plus_any false false _ _ k k (d : Int) (d : Int) _ (by omega) (by omega) (by first | (with_reducible exact ru) | (with_reducible exact (ru.alloc _)) | (with_reducible exact ((ru.alloc _).alloc _)) | (with_reducible exact ru.drew) | (with_reducible exact (ru.alloc _).drew) | (with_reducible exact ((ru.alloc _).alloc _).drew)) (by first | (with_reducible exact ru) | (with_reducible exact (ru.alloc _)) | (with_reducible exact ((ru.alloc _).alloc _)) | (with_reducible exact ru.drew) | (with_reducible exact (ru.alloc _).drew) | (with_reducible exact ((ru.alloc _).alloc _).drew)) hy hy).mono ?_; rintro e wk3 ⟨b3, v3, l3, rfl, hr3, hn3, hbk⟩; have lsz3 := hbk.size; (try simp at lsz3); obtain ⟨rfl, hm3⟩ := hn3.pos (m := d + d) (by omega); obtain ⟨A3, c3, rfl⟩ := hr3.sl; (try replace hr2 := (by first | (with_reducible exact hr2.after hbk) | (with_reducible exact (hr2.alloc _).after hbk) | (with_reducible exact ((hr2.alloc _).alloc _).after hbk) | (with_reducible exact hr2.drew.after hbk) | (with_reducible exact (hr2.alloc _).drew.after hbk) | (with_reducible exact ((hr2.alloc _).alloc _).drew.after hbk))); (replace hbl := (by first | (with_reducible exact bl_then hbl hbk) | (with_reducible exact bl_then (bl_alloc hbl _) hbk) | (with_reducible exact bl_then (bl_alloc (bl_alloc hbl _) _) hbk) | (with_reducible exact bl_then (bl_drew hbl) hbk) | (with_reducible exact bl_then (bl_drew (bl_alloc hbl _)) hbk) | (with_reducible exact bl_then (bl_drew (bl_alloc (bl_alloc hbl _) _)) hbk))); (replace hS := (by first | (with_reducible exact bl_then hS hbk) | (with_reducible exact bl_then (bl_alloc hS _) hbk) | (with_reducible exact bl_then (bl_alloc (bl_alloc hS _) _) hbk) | (with_reducible exact bl_then (bl_drew hS) hbk) | (with_reducible exact bl_then (bl_drew (bl_alloc hS _)) hbk) | (with_reducible exact bl_then (bl_drew (bl_alloc (bl_alloc hS _) _)) hbk))); (first | (replace BZ2 := BZ2.after hbk; replace BZ1 := BZ1.after hbk) | (have BZ2 := Blk.after (Blk.new _ #[.bool false, .slice none 0 0] 56) hbk; replace BZ1 := (BZ1.alloc _).after hbk) | (replace BZ1 := BZ1.after hbk) | (have BZ1 := Blk.after (Blk.alloc (Blk.new _ #[.bool false, .slice none 0 0] 56) (.cells #[.bool false, .slice none 0 0] 56)) hbk; have BZ2 := Blk.after (Blk.second _ (.cells #[.bool false, .slice none 0 0] 56) #[.bool false, .slice none 0 0] 56) hbk) | (have BZ1 := Blk.after (Blk.new _ #[.bool false, .slice none 0 0] 56) hbk) | skip); clear hbk)
            | (go_at_call 48; refine (parts_any b2 _ _ l2 l3 (x + x + (d : Int)) (d + d) _ (by have := hn2.len (k := 11) (by omega); omega) (by have := hm3.len (k := 11) (by simp only [Int.natAbs_natCast]; omega); omega) (by first | (with_reducible exact hr2) | (with_reducible exact (hr2.alloc _)) | (with_reducible exact ((hr2.alloc _).alloc _)) | (with_reducible exact hr2.drew) | (with_reducible exact (hr2.alloc _).drew) | (with_reducible exact ((hr2.alloc _).alloc _).drew)) (by first | (with_reducible exact hr3) | (with_reducible exact (hr3.alloc _)) | (with_reducible exact ((hr3.alloc _).alloc _)) | (with_reducible exact hr3.drew) | (with_reducible exact (hr3.alloc _).drew) | (with_reducible exact ((hr3.alloc _).alloc _).drew)) hn2 hm3 (by omega)).mono ?_; rintro e wk4 ⟨bq, vq, lq, br, vr, lr, rfl, hrq, hnq, hrr, hnr, hbk⟩; have lsz4 := hbk.size; (try simp at lsz4); obtain ⟨Aq, cq, rfl⟩ := hrq.sl; obtain ⟨Ar, cr, rfl⟩ := hrr.sl; (replace hbl := (by first | (with_reducible exact bl_then hbl hbk) | (with_reducible exact bl_then (bl_alloc hbl _) hbk) | (with_reducible exact bl_then (bl_alloc (bl_alloc hbl _) _) hbk) | (with_reducible exact bl_then (bl_drew hbl) hbk) | (with_reducible exact bl_then (bl_drew (bl_alloc hbl _)) hbk) | (with_reducible exact bl_then (bl_drew (bl_alloc (bl_alloc hbl _) _)) hbk))); (replace hS := (by first | (with_reducible exact bl_then hS hbk) | (with_reducible exact bl_then (bl_alloc hS _) hbk) | (with_reducible exact bl_then (bl_alloc (bl_alloc hS _) _) hbk) | (with_reducible exact bl_then (bl_drew hS) hbk) | (with_reducible exact bl_then (bl_drew (bl_alloc hS _)) hbk) | (with_reducible exact bl_then (bl_drew (bl_alloc (bl_alloc hS _) _)) hbk))); (first | (replace BZ2 := BZ2.after hbk; replace BZ1 := BZ1.after hbk) | (have BZ2 := Blk.after (Blk.new _ #[.bool false, .slice none 0 0] 56) hbk; replace BZ1 := (BZ1.alloc _).after hbk) | (replace BZ1 := BZ1.after hbk) | (have BZ1 := Blk.after (Blk.alloc (Blk.new _ #[.bool false, .slice none 0 0] 56) (.cells #[.bool false, .slice none 0 0] 56)) hbk; have BZ2 := Blk.after (Blk.second _ (.cells #[.bool false, .slice none 0 0] 56) #[.bool false, .slice none 0 0] 56) hbk) | (have BZ1 := Blk.after (Blk.new _ #[.bool false, .slice none 0 0] 56) hbk) | skip); (try (have y0 := Blk2.c0 BZ1; have y1 := Blk2.c1 BZ1; have yf0 := BZ1.frozen 0; have yf1 := BZ1.frozen 1; have yl := BZ1.lt)); (try (have z0 := Blk2.c0 BZ2; have z1 := Blk2.c1 BZ2; have zf0 := BZ2.frozen 0; have zf1 := BZ2.frozen 1; have zl := BZ2.lt)); clear hbk))
        all_goals
          repeat (first | go_big_skip | go_step)
          go_meet
          refine ⟨_, bq, .slice Aq lq.length cq, lq, rfl, ?_, ?_, hnq, ?_⟩
          · (repeat' (first
            | (with_reducible first | assumption | exact Blk.new _ _ _ | exact Blk.second _ _ _ _)
            | (with_reducible (refine Blk.made _ _ _ _ ?_); (simp [World.setCell]; done))
            | (with_reducible first | apply Blk.alloc | apply Rd.alloc | apply bl_alloc)
            | (with_reducible refine Blk.set2 (a := .bool false) (b := .slice none 0 0) ?_ _ _)
            | (with_reducible refine Blk.far2 ?_ _ (by first | omega | (simp; omega)) _ _)
            | (with_reducible refine Rd.set2 (t := 56) (cs := #[.bool false, .slice none 0 0]) ?_ ?_ (by decide) _ _)
            | (with_reducible refine bl_set ?_ _ _ (by first | omega | (simp; omega)) _)))
          · (repeat' (first
            | (with_reducible first | assumption | exact Blk.new _ _ _ | exact Blk.second _ _ _ _)
            | (with_reducible (refine Blk.made _ _ _ _ ?_); (simp [World.setCell]; done))
            | (with_reducible first | apply Blk.alloc | apply Rd.alloc | apply bl_alloc)
            | (with_reducible refine Blk.set2 (a := .bool false) (b := .slice none 0 0) ?_ _ _)
            | (with_reducible refine Blk.far2 ?_ _ (by first | omega | (simp; omega)) _ _)
            | (with_reducible refine Rd.set2 (t := 56) (cs := #[.bool false, .slice none 0 0]) ?_ ?_ (by decide) _ _)
            | (with_reducible refine bl_set ?_ _ _ (by first | omega | (simp; omega)) _)))
          · (repeat' (first
            | (with_reducible first | assumption | exact Blk.new _ _ _ | exact Blk.second _ _ _ _)
            | (with_reducible (refine Blk.made _ _ _ _ ?_); (simp [World.setCell]; done))
            | (with_reducible first | apply Blk.alloc | apply Rd.alloc | apply bl_alloc)
            | (with_reducible refine Blk.set2 (a := .bool false) (b := .slice none 0 0) ?_ _ _)
            | (with_reducible refine Blk.far2 ?_ _ (by first | omega | (simp; omega)) _ _)
            | (with_reducible refine Rd.set2 (t := 56) (cs := #[.bool false, .slice none 0 0]) ?_ ?_ (by decide) _ _)
            | (with_reducible refine bl_set ?_ _ _ (by first | omega | (simp; omega)) _)))
  case rest =>
    clear BA BB a0 a1 b0 b1 lA lB hbl
    obtain ⟨G, b, v, l, rfl, BG, hrd, hnm, hb⟩ := hcut
    obtain ⟨Av, cv, rfl⟩ := hrd.sl
    have g0 := Blk2.c0 BG; have g1 := Blk2.c1 BG
    have hX : (x + x + (d : Int)) / ((d + d : Nat) : Int) = hfX x d := rfl
    rw [hX] at hnm
    have hlen : l.length ≤ 20 := hnm.len (half_lt hxs hds)
    cases hf : fits (hfX x d)
    · have hP : RetH (hfX x d) w = fun e w' => e = .returned (.tuple #[.int .i64 0, .bool false]) ∧ Below w.heap.size w w' := by unfold RetH; rw [hf]; rfl
      replace hP := hidden hP
      go_wp2_with fail
      refine (int_any b _ l (hfX x d) _ (by omega) hrd hnm).mono ?_
      rintro e w2 ⟨y, rfl, hy2, hb2⟩
      replace hb := bl_then hb hb2
      clear hy2
      go_wp2_with fail
      go_ret2
      rw [hP.out]
      exact ⟨rfl, hb⟩
    · have hP : RetH (hfX x d) w = fun e w' => e = .returned (.tuple #[.int .i64 (hfX x d), .bool true]) ∧ Below w.heap.size w w' := by unfold RetH; rw [hf]; rfl
      replace hP := hidden hP
      go_wp2_with fail
      refine (int_any b _ l (hfX x d) _ (by omega) hrd hnm).mono ?_
      rintro e w2 ⟨y, rfl, hy2, hb2⟩
      obtain rfl := hy2 hf
      replace hb := bl_then hb hb2
      clear hy2
      go_wp2_with fail
      go_ret2
      rw [hP.out]
      exact ⟨rfl, hb⟩
end Go.Proofs.Ytpdbiofpoccjeaa.Ref
