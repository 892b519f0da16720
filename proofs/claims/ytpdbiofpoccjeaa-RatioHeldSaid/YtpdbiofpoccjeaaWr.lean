/- The walk over package ratio's told: the ratio of two numbers. -/
import Derived.Test.YtpdbiofpoccjeaaWq
namespace Go.Proofs.Ytpdbiofpoccjeaa
open Go.RowKit
/-- Is there a ratio of n to d? And its two numbers (0, where there is none). -/
def toldOk (n : Int) (d : Nat) : Bool := decide (d ≠ 0 ∧ n.natAbs / Nat.gcd n.natAbs d ≤ 9223372036854775807 ∧ d / Nat.gcd n.natAbs d ≤ 9223372036854775807)
def toldN (n : Int) (d : Nat) : Int := if toldOk n d then n / (Nat.gcd n.natAbs d : Int) else 0
def toldD (n : Int) (d : Nat) : Int := if toldOk n d then ((d / Nat.gcd n.natAbs d : Nat) : Int) else 0
def RetR (N D : Int) (ok : Bool) (w : World) (e : Ending) (w' : World) : Prop := e = .returned (.tuple #[.agg #[.int .i64 N, .int .i64 D], .bool ok]) ∧ Below w.heap.size w w'
/-- What told hands back. -/
def RetT (n : Int) (d : Nat) (w : World) (e : Ending) (w' : World) : Prop := RetR (toldN n d) (toldD n d) (toldOk n d) w e w'
theorem toldOk_no {n : Int} {d : Nat} (h : ¬ (d ≠ 0 ∧ n.natAbs / Nat.gcd n.natAbs d ≤ 9223372036854775807 ∧ d / Nat.gcd n.natAbs d ≤ 9223372036854775807)) : toldOk n d = false ∧ toldN n d = 0 ∧ toldD n d = 0 := by
  have h' : toldOk n d = false := decide_eq_false h
  simp [toldN, toldD, h']
theorem toldOk_yes {n : Int} {d : Nat} (hd : 0 < d) (h1 : n.natAbs / Nat.gcd n.natAbs d ≤ 9223372036854775807) (h2 : d / Nat.gcd n.natAbs d ≤ 9223372036854775807) :
    toldOk n d = true ∧ toldN n d = n / (Nat.gcd n.natAbs d : Int) ∧ toldD n d = ((d / Nat.gcd n.natAbs d : Nat) : Int) := by
  have h' : toldOk n d = true := decide_eq_true ⟨by omega, h1, h2⟩
  simp [toldN, toldD, h']
theorem ret_ratio {N D N' D' : Int} {ok : Bool} (h1 : N = N') (h2 : D = D') : Ending.returned (.tuple #[.agg #[.int .i64 N, .int .i64 D], .bool ok]) = .returned (.tuple #[.agg #[.int .i64 N', .int .i64 D'], .bool ok]) := by rw [h1, h2]
theorem told_pos {n pl ql : Int} {d : Nat} (hn : 0 ≤ n) (hp : 0 * 18446744073709551616 + pl = ((n.natAbs / Nat.gcd n.natAbs d : Nat) : Int)) (hq : 0 * 18446744073709551616 + ql = ((d / Nat.gcd n.natAbs d : Nat) : Int)) :
    Ending.returned (.tuple #[.agg #[.int .i64 pl, .int .i64 ql], .bool true]) = .returned (.tuple #[.agg #[.int .i64 (n / (Nat.gcd n.natAbs d : Int)), .int .i64 ((d / Nat.gcd n.natAbs d : Nat) : Int)], .bool true]) := by
  refine ret_ratio ?_ (by omega)
  have e : (n.natAbs : Int) = n := by omega
  rw [Int.natCast_ediv, e] at hp
  omega
theorem told_neg {n pl ql : Int} {d : Nat} (hn : n ≤ 0) (hp : 0 * 18446744073709551616 + pl = ((n.natAbs / Nat.gcd n.natAbs d : Nat) : Int)) (hq : 0 * 18446744073709551616 + ql = ((d / Nat.gcd n.natAbs d : Nat) : Int)) :
    Ending.returned (.tuple #[.agg #[.int .i64 (-pl), .int .i64 ql], .bool true]) = .returned (.tuple #[.agg #[.int .i64 (n / (Nat.gcd n.natAbs d : Int)), .int .i64 ((d / Nat.gcd n.natAbs d : Nat) : Int)], .bool true]) := by
  refine ret_ratio ?_ (by omega)
  have e : (n.natAbs : Int) = -n := by omega
  have dv : (Nat.gcd n.natAbs d : Int) ∣ -n := by rw [← e]; exact Int.natCast_dvd_natCast.2 (Nat.gcd_dvd_left _ _)
  rw [Int.natCast_ediv, e] at hp
  have := Int.neg_ediv_of_dvd dv
  rw [Int.neg_neg] at this
  omega
theorem told_no (b : Bool) (h l dh dl n : Int) (_ : Sg b h l n) (hd : Wd dh dl 0) (w : World) :
    Calls Try.prog 31 #[.agg #[.bool b, .int .u64 h, .int .u64 l], .agg #[.int .u64 dh, .int .u64 dl]] w (RetT n 0 w) := by
  have hq := fun w => eq_zero hd w
  have hx := toldOk_no (n := n) (d := 0) (by simp)
  replace hx := hidden hx
  go_enter Try.func31, Try.ntmps31
  go_wp2_with fail
  simp [bodyPost, results, Try.results31, go_sem]
  unfold RetT
  rw [hx.out.1, hx.out.2.1, hx.out.2.2]
  exact ⟨rfl, by repeat (first | exact bl_refl _ | refine bl_set ?_ _ _ (by omega) _ | apply bl_alloc)⟩
set_option maxRecDepth 10000 in
set_option maxHeartbeats 2000000 in
theorem told_yes (b : Bool) (h l dh dl n : Int) (d : Nat) (hn : Sg b h l n) (hd : Wd dh dl d) (hd0 : 0 < d) (w : World) :
    Calls Try.prog 31 #[.agg #[.bool b, .int .u64 h, .int .u64 l], .agg #[.int .u64 dh, .int .u64 dl]] w (RetT n d w) := by
  have hq := fun w => eq_zero hd w
  have d0 : (d == 0) = false := by simpa using (by omega : ¬ d = 0)
  rw [d0] at hq
  have hwn := hn.wd
  replace hwn := hidden hwn
  replace hn := hidden hn
  have hg0 : 0 < Nat.gcd n.natAbs d := Nat.gcd_pos_of_pos_right _ hd0
  go_enter Try.func31, Try.ntmps31
  go_wp2_with fail
  refine (common_any h l dh dl n.natAbs d hwn.out hd _).mono ?_
  rintro e w1 ⟨gh, gl, rfl, hg, hb1⟩
  have BN : Blk w1 w.heap.size #[.bool b, .int .u64 h, .int .u64 l] 49 := (((Blk.new _ _ _).alloc _).alloc _).after hb1
  have BD : Blk w1 (w.heap.size + 1) #[.int .u64 dh, .int .u64 dl] 47 := ((Blk.made _ _ _ _ (by simp)).alloc _).after hb1
  have BR : Blk w1 (w.heap.size + 1 + 1) #[.int .i64 0, .int .i64 0] 24 := (Blk.made _ _ _ _ (by simp)).after hb1
  have hbl := bl_then (bl_alloc (bl_alloc (bl_alloc (bl_refl w) _) _) _) hb1
  clear hb1 hq
  go_upto_region 4 with (fail)
  have hG := BR.lt
  have BG := Blk.new w1 #[.int .u64 gh, .int .u64 gl] 47
  replace BN := BN.alloc (.cells #[.int .u64 gh, .int .u64 gl] 47)
  replace BD := BD.alloc (.cells #[.int .u64 gh, .int .u64 gl] 47)
  replace BR := BR.alloc (.cells #[.int .u64 gh, .int .u64 gl] 47)
  replace hbl := bl_alloc hbl (.cells #[.int .u64 gh, .int .u64 gl] 47)
  generalize w1.alloc (.cells #[.int .u64 gh, .int .u64 gl] 47) = W0 at BG BN BD BR hbl ⊢
  obtain ⟨G, eG⟩ : ∃ G, G = w1.heap.size := ⟨_, rfl⟩
  rw [← eG] at BG hG ⊢
  clear eG
  go_cut [7, 8] (fun s7 s8 w' => ∃ (X Y : Nat) (ph pl qh ql : Int), s7 = .pointer (some ⟨X, 0, none⟩) ∧ s8 = .pointer (some ⟨Y, 0, none⟩) ∧ w.heap.size + 1 + 1 < X ∧ w.heap.size + 1 + 1 < Y ∧ Blk w' X #[.int .u64 ph, .int .u64 pl] 47 ∧ Blk w' Y #[.int .u64 qh, .int .u64 ql] 47 ∧ Hid (Wd ph pl (n.natAbs / Nat.gcd n.natAbs d)) ∧ Hid (Wd qh ql (d / Nat.gcd n.natAbs d)) ∧ Blk w' w.heap.size #[.bool b, .int .u64 h, .int .u64 l] 49 ∧ Blk w' (w.heap.size + 1 + 1) #[.int .i64 0, .int .i64 0] 24 ∧ Below w.heap.size w w')
  case first =>
    have cn1 := BN.cell 1; have cn2 := BN.cell 2; have cd0 := BD.cell 0; have cd1 := BD.cell 1; have cg0 := BG.cell 0; have cg1 := BG.cell 1
    have lN := BN.lt; have lD := BD.lt; have lG := BG.lt
    simp at cn1 cn2 cd0 cd1 cg0 cg1
    go_region_held3 (fun w' => ∀ b o, b < W0.heap.size → w'.cell? ⟨b, o, none⟩ = W0.cell? ⟨b, o, none⟩)
      (exact (bcell (by repeat (first | exact bl_refl _ | exact hbl3 | exact hbl2 | apply bl_alloc | apply bl_drew | (refine bl_set ?_ _ _ (by omega) _)))).1)
      (first
        | (go_at_call_of 53 (Value.agg #[.int .u64 h, .int .u64 l]); refine (div_any h l gh gl _ _ hwn.out hg hg0 _).mono ?_; rintro e w2 ⟨ph, pl, rfl, hp, hb2⟩; have hbl2 : Below W0.heap.size W0 w2 := bl_then (by repeat (first | exact bl_refl _ | apply bl_alloc | apply bl_drew)) hb2; have lV := hbl2.size; (try (have BU : Blk w2 W0.heap.size #[.int .u64 0, .int .u64 0] 47 := (by first | exact (Blk.new W0.drew _ _).after hb2 | exact ((Blk.new W0.drew _ _).alloc _).after hb2))); (try (have u0 := BU.cell 0; have u1 := BU.cell 1; have u2 := BU.frozen 0; have u3 := BU.frozen 1; have u4 := BU.lt; simp at u0 u1)); (try (have BV : Blk w2 (W0.heap.size + 1) #[.int .u64 0, .int .u64 0] 47 := (Blk.second W0.drew _ _ _).after hb2)); (try (have v0 := BV.cell 0; have v1 := BV.cell 1; have v2 := BV.frozen 0; have v3 := BV.frozen 1; have v4 := BV.lt; simp at v0 v1)))
        | (go_at_call_of 53 (Value.agg #[.int .u64 dh, .int .u64 dl]); refine (div_any dh dl gh gl _ _ hd hg hg0 _).mono ?_; rintro e w3 ⟨qh, ql, rfl, hq, hb3⟩; have hbl3 : Below W0.heap.size W0 w3 := bl_then (by repeat (first | exact hbl2 | apply bl_alloc)) hb3; have lW := hbl2.size; have lW3 := hbl3.size; (try (have BP : Blk w3 W0.heap.size #[.int .u64 0, .int .u64 0] 47 := (by first | exact BU.after hb3 | exact (BU.alloc _).after hb3))); (try (have p0 := BP.cell 0; have p1 := BP.cell 1; have p2 := BP.frozen 0; have p3 := BP.frozen 1; have p4 := BP.lt; simp at p0 p1)); (try (have BQ : Blk w3 (W0.heap.size + 1) #[.int .u64 0, .int .u64 0] 47 := BV.after hb3)); (try (have q0 := BQ.cell 0; have q1 := BQ.cell 1; have q2 := BQ.frozen 0; have q3 := BQ.frozen 1; have q4 := BQ.lt; simp at q0 q1)); (try (have BX : Blk w3 w2.heap.size #[.int .u64 0, .int .u64 0] 47 := (by first | exact (Blk.new w2 _ _).after hb3 | exact ((Blk.new w2 _ _).alloc _).after hb3))); (try (have x0 := BX.cell 0; have x1 := BX.cell 1; have x2 := BX.frozen 0; have x3 := BX.frozen 1; have x4 := BX.lt; simp at x0 x1)); (try (have BY : Blk w3 (w2.heap.size + 1) #[.int .u64 0, .int .u64 0] 47 := (Blk.second w2 _ _ _).after hb3)); (try (have y0 := BY.cell 0; have y1 := BY.cell 1; have y2 := BY.frozen 0; have y3 := BY.frozen 1; have y4 := BY.lt; simp at y0 y1))))
    all_goals
      have FN := BN.after hbl3
      have FR := BR.after hbl3
      have hblw := bl_then hbl hbl3
      have lw := hbl.size
      have lV := hbl2.size
      have lW3 := hbl3.size
      clear cn1 cn2 cd0 cd1 cg0 cg1
      repeat (first | go_big_skip | go_step)
      go_meet
      refine ⟨_, _, ph, pl, qh, ql, rfl, rfl, ?_, ?_, ?_, ?_, hp, hq, ?_, ?_, ?_⟩
      · first | omega | (simp; omega)
      · first | omega | (simp; omega)
      · (repeat (first | (with_reducible first | assumption | exact Blk.new _ _ _ | exact Blk.second _ _ _ _) | (with_reducible (refine Blk.made _ _ _ _ ?_); (simp [World.setCell]; done)) | (with_reducible first | apply Blk.alloc | refine Blk.set2 (a := .int .u64 0) (b := .int .u64 0) ?_ _ _) | (with_reducible refine Blk.far2 ?_ _ (by omega) _ _)))
      · (repeat (first | (with_reducible first | assumption | exact Blk.new _ _ _ | exact Blk.second _ _ _ _) | (with_reducible (refine Blk.made _ _ _ _ ?_); (simp [World.setCell]; done)) | (with_reducible first | apply Blk.alloc | refine Blk.set2 (a := .int .u64 0) (b := .int .u64 0) ?_ _ _) | (with_reducible refine Blk.far2 ?_ _ (by omega) _ _)))
      · (repeat (first | (with_reducible first | assumption | exact Blk.new _ _ _ | exact Blk.second _ _ _ _) | (with_reducible (refine Blk.made _ _ _ _ ?_); (simp [World.setCell]; done)) | (with_reducible first | apply Blk.alloc | refine Blk.set2 (a := .int .u64 0) (b := .int .u64 0) ?_ _ _) | (with_reducible refine Blk.far2 ?_ _ (by omega) _ _)))
      · (repeat (first | (with_reducible first | assumption | exact Blk.new _ _ _ | exact Blk.second _ _ _ _) | (with_reducible (refine Blk.made _ _ _ _ ?_); (simp [World.setCell]; done)) | (with_reducible first | apply Blk.alloc | refine Blk.set2 (a := .int .u64 0) (b := .int .u64 0) ?_ _ _) | (with_reducible refine Blk.far2 ?_ _ (by omega) _ _)))
      · repeat (first | (with_reducible first | exact hblw | apply bl_alloc) | (with_reducible refine bl_set ?_ _ _ (by omega) _))
  case rest =>
    clear BN BD BR BG hbl hG
    obtain ⟨X, Y, ph, pl, qh, ql, rfl, rfl, hX, hY, BX, BY, hp, hq, BN, BR, hbl⟩ := hcut
    have pW := hp.out; have qW := hq.out
    have p0 := pW.h0; have p1 := pW.l0; have p2 := pW.l1; have q0 := qW.h0; have q1 := qW.l0; have q2 := qW.l1
    have x0 := BX.cell 0; have x1 := BX.cell 1; have y0 := BY.cell 0; have y1 := BY.cell 1
    have r0 := BR.cell 0; have r1 := BR.cell 1; have r2 := BR.frozen 0; have r3 := BR.frozen 1
    have b0 := BN.cell 0
    simp at x0 x1 y0 y1 r0 r1 b0
    clear pW qW
    by_cases hok : n.natAbs / Nat.gcd n.natAbs d ≤ 9223372036854775807 ∧ d / Nat.gcd n.natAbs d ≤ 9223372036854775807
    · obtain ⟨hok1, hok2⟩ := hok
      have ep := hp.out.eq
      have eq := hq.out.eq
      obtain rfl : ph = 0 := by omega
      obtain rfl : qh = 0 := by omega
      have e1 : decide ((9223372036854775807 : Int) < pl) = false := by simp; omega
      have e2 : decide ((9223372036854775807 : Int) < ql) = false := by simp; omega
      have c1 : pl ≤ 9223372036854775807 := by omega
      have c2 : ql ≤ 9223372036854775807 := by omega
      replace ep := hidden ep
      replace eq := hidden eq
      have hT := toldOk_yes (n := n) (d := d) hd0 hok1 hok2
      replace hT := hidden hT
      replace hok1 := hidden hok1
      replace hok2 := hidden hok2
      cases b with
      | true =>
        have hw0 := BR.lt
        have hw1 := BN.lt
        have E := ((BR.set 0 (.int .i64 (-pl))).set 1 (.int .i64 ql)).alloc (.cells #[.int .i64 (-pl), .int .i64 ql] 24)
        have E0 := E.cell 0; have E1 := E.cell 1
        simp at E0 E1
        go_wp2_with fail
        simp [bodyPost, results, Try.results31, go_sem, E0, E1]
        unfold RetT
        rw [hT.out.1, hT.out.2.1, hT.out.2.2]
        refine ⟨told_neg (hn.out.lo rfl) ep.out eq.out, by repeat (first | exact hbl | apply bl_alloc | refine bl_set ?_ _ _ (by omega) _)⟩
      | false =>
        have hw0 := BR.lt
        have hw1 := BN.lt
        have E := ((BR.set 0 (.int .i64 (pl))).set 1 (.int .i64 ql)).alloc (.cells #[.int .i64 (pl), .int .i64 ql] 24)
        have E0 := E.cell 0; have E1 := E.cell 1
        simp at E0 E1
        go_wp2_with fail
        simp [bodyPost, results, Try.results31, go_sem, E0, E1]
        unfold RetT
        rw [hT.out.1, hT.out.2.1, hT.out.2.2]
        refine ⟨told_pos (hn.out.hi rfl) ep.out eq.out, by repeat (first | exact hbl | apply bl_alloc | refine bl_set ?_ _ _ (by omega) _)⟩
    · have hT := toldOk_no (n := n) (d := d) (fun h => hok h.2)
      replace hT := hidden hT
      have ep := hp.out.eq
      have eq := hq.out.eq
      have hw0 := BR.lt
      have E := (BR.set 0 (.int .i64 0)).set 1 (.int .i64 0)
      have E0 := E.cell 0; have E1 := E.cell 1
      simp at E0 E1
      by_cases a1 : ph = 0
      · subst a1
        by_cases a2 : qh = 0
        · subst a2
          by_cases a3 : 9223372036854775807 < pl
          · have e1 : decide ((9223372036854775807 : Int) < pl) = true := by simpa using a3
            clear ep eq
            repeat (first | go_big_skip | go_step)
            simp [bodyPost, results, Try.results31, go_sem, E0, E1]
            unfold RetT
            rw [hT.out.1, hT.out.2.1, hT.out.2.2]
            refine ⟨rfl, by repeat (first | exact hbl | apply bl_alloc | refine bl_set ?_ _ _ (by omega) _)⟩
          · have a4 : 9223372036854775807 < ql := by
              have : ¬ d / Nat.gcd n.natAbs d ≤ 9223372036854775807 := fun h => hok ⟨by omega, h⟩
              omega
            have e1 : decide ((9223372036854775807 : Int) < pl) = false := by simpa using a3
            have e2 : decide ((9223372036854775807 : Int) < ql) = true := by simpa using a4
            clear ep eq
            repeat (first | go_big_skip | go_step)
            simp [bodyPost, results, Try.results31, go_sem, E0, E1]
            unfold RetT
            rw [hT.out.1, hT.out.2.1, hT.out.2.2]
            refine ⟨rfl, by repeat (first | exact hbl | apply bl_alloc | refine bl_set ?_ _ _ (by omega) _)⟩
        · have e1 : (qh != 0) = true := by simpa using a2
          clear ep eq
          repeat (first | go_big_skip | go_step)
          simp [bodyPost, results, Try.results31, go_sem, E0, E1]
          unfold RetT
          rw [hT.out.1, hT.out.2.1, hT.out.2.2]
          refine ⟨rfl, by repeat (first | exact hbl | apply bl_alloc | refine bl_set ?_ _ _ (by omega) _)⟩
      · have e1 : (ph != 0) = true := by simpa using a1
        clear ep eq
        repeat (first | go_big_skip | go_step)
        simp [bodyPost, results, Try.results31, go_sem, E0, E1]
        unfold RetT
        rw [hT.out.1, hT.out.2.1, hT.out.2.2]
        refine ⟨rfl, by repeat (first | exact hbl | apply bl_alloc | refine bl_set ?_ _ _ (by omega) _)⟩
theorem told_any (b : Bool) (h l dh dl n : Int) (d : Nat) (hn : Sg b h l n) (hd : Wd dh dl d) (w : World) :
    Calls Try.prog 31 #[.agg #[.bool b, .int .u64 h, .int .u64 l], .agg #[.int .u64 dh, .int .u64 dl]] w (RetT n d w) := by
  rcases Nat.eq_zero_or_pos d with h0 | h0
  · subst h0
    exact told_no b h l dh dl n hn hd w
  · exact told_yes b h l dh dl n d hn hd h0 w
end Go.Proofs.Ytpdbiofpoccjeaa
