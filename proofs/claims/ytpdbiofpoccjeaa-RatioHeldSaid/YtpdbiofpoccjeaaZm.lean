/- The walk over the reference's Told. -/
import Derived.Test.YtpdbiofpoccjeaaZl
import Derived.Test.YtpdbiofpoccjeaaXb
namespace Go.Proofs.Ytpdbiofpoccjeaa.Ref
open Go.RowKit
/-- What lies in memory when both numbers have their signs. -/
structure TD (w wr : World) (bn : Bool) (sn sd : Value) (ln ld : List Nat) (n : Int) (d : Nat) : Prop where
  b0 : Blk wr w.heap.size #[.bool bn, sn] 56
  b1 : Blk wr (w.heap.size + 1) #[.bool false, sd] 56
  b2 : Blk wr (w.heap.size + 1 + 1) #[.int .i64 0, .int .i64 0] 24
  rn : Rd wr sn ln
  nn : Nm bn ln n
  rd : Rd wr sd ld
  nd : Nm false ld (d : Int)
  bl : Below w.heap.size w wr
theorem TD.after {w wr w1 : World} {bn : Bool} {sn sd : Value} {ln ld : List Nat} {n : Int} {d : Nat} (h : TD w wr bn sn sd ln ld n d) (hb : Below wr.heap.size wr w1) : TD w w1 bn sn sd ln ld n d :=
  ⟨h.b0.after hb, h.b1.after hb, h.b2.after hb, h.rn.after hb, h.nn, h.rd.after hb, h.nd, bl_then h.bl hb⟩
theorem TD.alloc {w wr : World} {bn : Bool} {sn sd : Value} {ln ld : List Nat} {n : Int} {d : Nat} (h : TD w wr bn sn sd ln ld n d) (o : Obj) : TD w (wr.alloc o) bn sn sd ln ld n d := h.after (bl_alloc (bl_refl wr) o)
theorem TD.drew {w wr : World} {bn : Bool} {sn sd : Value} {ln ld : List Nat} {n : Int} {d : Nat} (h : TD w wr bn sn sd ln ld n d) : TD w wr.drew bn sn sd ln ld n d := h.after (bl_drew (bl_refl wr))
theorem Cn.alloc {w wr : World} {g : Nat} {v : Value} {l : List Nat} {n : Nat} (h : Cn w wr g v l n) (o : Obj) : Cn w (wr.alloc o) g v l n := h.after (bl_alloc (bl_refl wr) o)
/-- A fresh block of a struct, written. -/
theorem Cn.put {w wr : World} {g : Nat} {v : Value} {l : List Nat} {n : Nat} (h : Blk wr g #[.bool false, .slice none 0 0] 56) (hr : Rd wr v l) (hn : Nm false l (n : Int)) : Cn w ((wr.setCell ⟨g, 0, none⟩ (.bool false)).setCell ⟨g, 1, none⟩ v) g v l n := Cn.set h hr hn
/-- Another block has been written. -/
theorem TD.set2 {w wr : World} {bn : Bool} {sn sd : Value} {ln ld : List Nat} {n : Int} {d : Nat} (h : TD w wr bn sn sd ln ld n d) {g : Nat} {cs : Array Value} (hg : Blk wr g cs 56) (hlt : w.heap.size + 1 + 1 < g) (u0 u1 : Value) :
    TD w ((wr.setCell ⟨g, 0, none⟩ u0).setCell ⟨g, 1, none⟩ u1) bn sn sd ln ld n d :=
  ⟨h.b0.far2 _ (by omega) _ _, h.b1.far2 _ (by omega) _ _, h.b2.far2 _ (by omega) _ _, h.rn.set2 hg (by decide) _ _, h.nn, h.rd.set2 hg (by decide) _ _, h.nd, bl_set (bl_set h.bl _ _ (by omega) _) _ _ (by omega) _⟩
theorem told0 (bn bd : Bool) (v u : Value) (ln ld : List Nat) (n : Int) (w : World) (rn : Rd w v ln) (rd : Rd w u ld) (hd : Nm bd ld 0) :
    Calls Try.prog 33 #[.agg #[.bool bn, v], .agg #[.bool bd, u]] w (RetT n 0 w) := by
  obtain ⟨A, c, rfl⟩ := rn.sl
  obtain ⟨B, d, rfl⟩ := rd.sl
  have h0 : ld.length = 0 := hd.zero.2 rfl
  have e0 : ((ld.length : Int) == 0) = true := by simp [h0]
  have e1 : (ld.length == 0) = true := by simp [h0]
  have hx := toldOk_no (n := n) (d := 0) (by simp)
  replace hx := hidden hx
  clear rn rd hd h0
  go_enter Try.func33, Try.ntmps33
  go_wp2_with fail
  simp [bodyPost, results, Try.results33, go_sem]
  unfold RetT
  rw [hx.out.1, hx.out.2.1, hx.out.2.2]
  exact ⟨rfl, by repeat (first | exact bl_refl _ | refine bl_set ?_ _ _ (by omega) _ | apply bl_alloc)⟩
set_option maxRecDepth 100000 in
set_option maxHeartbeats 8000000 in
theorem told_any (bn bd : Bool) (v u : Value) (ln ld : List Nat) (n d : Int) (w : World) (lln : ln.length ≤ 200) (lld : ld.length ≤ 200) (rn : Rd w v ln) (rd : Rd w u ld) (hn : Nm bn ln n) (hd : Nm bd ld d) (hd0 : d ≠ 0) :
    Calls Try.prog 33 #[.agg #[.bool bn, v], .agg #[.bool bd, u]] w (RetT (if d < 0 then -n else n) d.natAbs w) := by
  obtain ⟨A, c, rfl⟩ := rn.sl
  obtain ⟨B, c', rfl⟩ := rd.sl
  have h0 : ld.length ≠ 0 := fun h => hd0 (hd.zero.1 h)
  have e0 : ((ld.length : Int) == 0) = false := by simpa using h0
  have e1 : (ld.length == 0) = false := by simpa using h0
  have hsg := hidden hd.sg
  obtain ⟨N, eN⟩ : ∃ N, (if d < 0 then -n else n) = N := ⟨_, rfl⟩
  obtain ⟨D, eD⟩ : ∃ D, d.natAbs = D := ⟨_, rfl⟩
  rw [eN, eD]
  have hD0 : 0 < D := by omega
  have hK : N.natAbs < 65536 ^ 200 ∧ D < 65536 ^ 200 := by
    have h1 := hn.hi; have h2 := hd.hi
    have h3 : 65536 ^ ln.length ≤ 65536 ^ 200 := Nat.pow_le_pow_right (by omega) lln
    have h4 : 65536 ^ ld.length ≤ 65536 ^ 200 := Nat.pow_le_pow_right (by omega) lld
    have h5 : N.natAbs = n.natAbs := by rw [← eN]; split <;> omega
    omega
  obtain ⟨K, eK⟩ : ∃ K, 65536 ^ 200 = K := ⟨_, rfl⟩
  rw [eK] at hK
  replace eK := hidden eK; replace eN := hidden eN; replace eD := hidden eD
  have RN := hidden rn; have RD := hidden rd; have HN := hidden hn; have HD := hidden hd
  clear rn rd hn hd h0
  go_enter Try.func33, Try.ntmps33
  go_upto_if 24 with (fail)
  have BN : Blk (((w.alloc (.cells #[.bool bn, .slice A ln.length c] 56)).alloc (.cells #[.bool bd, .slice B ld.length c'] 56)).alloc (.cells #[.int .i64 0, .int .i64 0] 24)) w.heap.size #[.bool bn, .slice A ln.length c] 56 := ((Blk.new _ _ _).alloc _).alloc _
  have BD : Blk (((w.alloc (.cells #[.bool bn, .slice A ln.length c] 56)).alloc (.cells #[.bool bd, .slice B ld.length c'] 56)).alloc (.cells #[.int .i64 0, .int .i64 0] 24)) (w.heap.size + 1) #[.bool bd, .slice B ld.length c'] 56 := (Blk.made _ _ _ _ (by simp)).alloc _
  have BR : Blk (((w.alloc (.cells #[.bool bn, .slice A ln.length c] 56)).alloc (.cells #[.bool bd, .slice B ld.length c'] 56)).alloc (.cells #[.int .i64 0, .int .i64 0] 24)) (w.heap.size + 1 + 1) #[.int .i64 0, .int .i64 0] 24 := Blk.made _ _ _ _ (by simp)
  have hbl : Below w.heap.size w (((w.alloc (.cells #[.bool bn, .slice A ln.length c] 56)).alloc (.cells #[.bool bd, .slice B ld.length c'] 56)).alloc (.cells #[.int .i64 0, .int .i64 0] 24)) := bl_alloc (bl_alloc (bl_alloc (bl_refl w) _) _) _
  generalize ((w.alloc (.cells #[.bool bn, .slice A ln.length c] 56)).alloc (.cells #[.bool bd, .slice B ld.length c'] 56)).alloc (.cells #[.int .i64 0, .int .i64 0] 24) = W0 at BN BD BR hbl ⊢
  go_cut [] from 25 to 28 (fun w' => ∃ (bn' : Bool) (sn sd : Value) (ln' ld' : List Nat), TD w w' bn' sn sd ln' ld' N D)
  case first =>
    cases bd
    · have hN : N = n := by have h1 := eN.out; have := hsg.out; simp at this; rw [if_neg (by omega)] at h1; exact h1.symm
      have hdd : d = (D : Int) := by have := eD.out; have := hsg.out; simp at this; omega
      replace hN := hidden hN; replace hdd := hidden hdd
      clear hsg hd0
      repeat (first | go_big_skip | go_step)
      go_meet
      exact ⟨bn, _, _, ln, ld, BN, BD, BR, RN.out.after hbl, hN.out ▸ HN.out, RD.out.after hbl, hdd.out ▸ HD.out, hbl⟩
    · have hN : N = -n := by have h1 := eN.out; have := hsg.out; simp at this; rw [if_pos (by omega)] at h1; exact h1.symm
      have hdd : -d = (D : Int) := by have := eD.out; have := hsg.out; simp at this; omega
      replace hN := hidden hN; replace hdd := hidden hdd
      clear hsg hd0
      have n0 := Blk2.c0 BN; have n1 := Blk2.c1 BN; have f0 := BN.frozen 0; have f1 := BN.frozen 1
      go_upto_region 5 with (go_at_call 38; refine (neg_any bn _ ln n _ (by omega) (RN.out.after hbl) HN.out).mono ?_; rintro e w2 ⟨b2, v2, l2, rfl, hr2, hn2, hb2⟩; obtain ⟨A2, c2, rfl⟩ := hr2.sl; replace BN := BN.after hb2; replace BD := BD.after hb2; replace BR := BR.after hb2; replace hbl := bl_then hbl hb2; replace hn2 := hidden hn2; clear n0 n1 f0 f1; have n0 := Blk2.c0 BN; have n1 := Blk2.c1 BN; have f0 := BN.frozen 0; have f1 := BN.frozen 1)
      have BN' := BN.set2 (.bool b2) (.slice A2 l2.length c2)
      have BD' := BD.far2 w.heap.size (by omega) (.bool b2) (.slice A2 l2.length c2)
      have BR' := BR.far2 w.heap.size (by omega) (.bool b2) (.slice A2 l2.length c2)
      have hr2' := hr2.set2 BN (by decide) (.bool b2) (.slice A2 l2.length c2)
      have hbl' := bl_set (bl_set hbl w.heap.size 0 (Nat.le_refl _) (.bool b2)) w.heap.size 1 (Nat.le_refl _) (.slice A2 l2.length c2)
      generalize (w2.setCell ⟨w.heap.size, 0, none⟩ (.bool b2)).setCell ⟨w.heap.size, 1, none⟩ (.slice A2 l2.length c2) = W3 at BN' BD' BR' hr2' hbl' ⊢
      clear BN BD BR hr2 hbl hb2 n0 n1 f0 f1
      have n0 := Blk2.c0 BD'; have n1 := Blk2.c1 BD'; have f0 := BD'.frozen 0; have f1 := BD'.frozen 1
      go_wp2_with (first | (go_at_call 38; refine (neg_any true _ ld d _ (by omega) (RD.out.after hbl') HD.out).mono ?_; rintro e w4 ⟨b4, v4, l4, rfl, hr4, hn4, hb4⟩; obtain ⟨A4, c4, rfl⟩ := hr4.sl; obtain ⟨rfl, hn5⟩ := hn4.pos (m := D) hdd.out; have CN := BN'.after hb4; have CD := BD'.after hb4; have CR := BR'.after hb4; have cbl := bl_then hbl' hb4; have hr2c := hr2'.after hb4; replace hn5 := hidden hn5; clear n0 n1 f0 f1; have n0 := Blk2.c0 CD; have n1 := Blk2.c1 CD; have f0 := CD.frozen 0; have f1 := CD.frozen 1))
      go_meet
      exact ⟨b2, _, _, l2, l4, CN.far2 _ (by omega) _ _, CD.set2 _ _, CR.far2 _ (by omega) _ _, hr2c.set2 CD (by decide) _ _, hN.out ▸ hn2.out, hr4.set2 CD (by decide) _ _, hn5.out, bl_set (bl_set cbl _ _ (by omega) _) _ _ (by omega) _⟩
  case rest =>
  clear BN BD BR hbl RN RD HN HD lln lld hsg hd0 eN eD e0 e1
  obtain ⟨bn, sn, sd, ln, ld, T⟩ := hcut
  obtain ⟨An, cn, rfl⟩ := T.rn.sl
  obtain ⟨Ad, cd, rfl⟩ := T.rd.sl
  have hln : ln.length ≤ 200 := T.nn.len (by rw [eK.out]; exact hK.1)
  have hld : ld.length ≤ 200 := T.nd.len (by rw [eK.out]; simpa using hK.2)
  have n1 := Blk2.c1 T.b0
  go_upto_region 7 with (go_at_call 54; refine (whole_any false _ ln _ (by omega) T.nn.dg T.rn).mono ?_; rintro e w5 ⟨b5, v5, l5, rfl, hr5, hn5, hb5⟩; obtain ⟨rfl, hn6⟩ := hn5.pos (m := val ln) (by simp [sgd]); obtain ⟨A5, c5, rfl⟩ := hr5.sl; have hlt5 := T.b2.lt; have hz5 := hb5.size; replace T := T.after hb5)
  have hvl : val ln = N.natAbs := T.nn.val
  rw [hvl] at hn6
  replace hvl := hidden hvl
  have CA : Cn w (w5.alloc (.cells #[.bool false, .slice A5 l5.length c5] 56)) w5.heap.size (.slice A5 l5.length c5) l5 N.natAbs := ⟨Blk.new _ _ _, hr5.alloc _, hn6⟩
  replace T := T.after (bl_alloc (bl_refl w5) (.cells #[.bool false, .slice A5 l5.length c5] 56))
  have hGa : w.heap.size + 1 + 1 < w5.heap.size := by omega
  generalize w5.alloc (.cells #[.bool false, .slice A5 l5.length c5] 56) = W6 at T CA ⊢
  generalize w5.heap.size = Ga at CA hGa ⊢
  clear hr5 hn5 hb5 hlt5 hz5 hn6
  have d0 := Blk2.c0 T.b1; have d1 := Blk2.c1 T.b1
  go_upto_block 0 with (fail)
  have CB : Cn w (W6.alloc (.cells #[.bool false, .slice Ad ld.length cd] 56)) W6.heap.size (.slice Ad ld.length cd) ld D := ⟨Blk.new _ _ _, T.rd.alloc _, T.nd⟩
  have hGb := CA.blk.lt
  replace CA := CA.after (bl_alloc (bl_refl W6) (.cells #[.bool false, .slice Ad ld.length cd] 56))
  replace T := T.after (bl_alloc (bl_refl W6) (.cells #[.bool false, .slice Ad ld.length cd] 56))
  generalize W6.alloc (.cells #[.bool false, .slice Ad ld.length cd] 56) = W7 at T CA CB ⊢
  generalize W6.heap.size = Gb at CB hGb ⊢
  clear d0 d1 n1
  go_wp2_with fail
  go_loopg [] D (fun kk wr => ∃ (x y : Nat) (va vb : Value) (la lb : List Nat), Hid (y = kk) ∧ Hid (Nat.gcd x y = Nat.gcd N.natAbs D) ∧ Hid (x < K ∧ y < K) ∧ TD w wr bn (.slice An ln.length cn) (.slice Ad ld.length cd) ln ld N D ∧ Cn w wr Ga va la x ∧ Cn w wr Gb vb lb y)
  case atStart => exact ⟨N.natAbs, D, _, _, _, _, rfl, rfl, hK, T, CA, CB⟩
  case round =>
    clear T CA CB
    obtain ⟨x, y, va, vb, la, lb, hk, hg, hxy, T, CA, CB⟩ := hrel
    obtain ⟨Aa, ca, rfl⟩ := CA.rd.sl
    obtain ⟨Ab, cb, rfl⟩ := CB.rd.sl
    have hla : la.length ≤ 200 := CA.nm.len (by rw [eK.out]; simpa using hxy.out.1)
    have hlb : lb.length ≤ 200 := CB.nm.len (by rw [eK.out]; simpa using hxy.out.2)
    have b0 := Blk2.c0 CB.blk; have b1 := Blk2.c1 CB.blk
    by_cases hy : y = 0
    · have hl0 : lb.length = 0 := CB.nm.zero.2 (by omega)
      have e3 : decide (0 < lb.length) = false := by simp [hl0]
      have hgx : x = Nat.gcd N.natAbs D := by have := hg.out; rw [hy, Nat.gcd_zero_right] at this; exact this
      replace hl0 := hidden hl0; replace hgx := hidden hgx
      clear hg hy
      go_upto_region 12 with (fail)
      clear e3 hl0 hlb hk CB b0 b1
      have hx0 : 0 < x := by rw [hgx.out]; exact Nat.gcd_pos_of_pos_right _ hD0
      have hlr := T.b2.lt
      have hlA := CA.blk.lt
      have eK' := hidden eK.out
      go_cut [10] (fun s10 w' => ∃ (Gp : Nat) (vp : Value) (lp : List Nat), s10 = .pointer (some ⟨Gp, 0, none⟩) ∧ w.heap.size + 1 + 1 < Gp ∧ TD w w' bn (.slice An ln.length cn) (.slice Ad ld.length cd) ln ld N D ∧ Cn w w' Ga (.slice Aa la.length ca) la x ∧ Cn w w' Gp vp lp (N.natAbs / x))
      case first =>
        have lN := T.b0.lt; have cn1 := Blk2.c1 T.b0; have ca0 := Blk2.c0 CA.blk; have ca1 := Blk2.c1 CA.blk
        go_region_held3 (fun w' => ∀ b o, b < wr.heap.size → w'.cell? ⟨b, o, none⟩ = wr.cell? ⟨b, o, none⟩)
          (exact (bcell (by repeat (first | exact bl_refl _ | exact hbl3 | exact hbl2 | apply bl_alloc | apply bl_drew | (refine bl_set ?_ _ _ (by omega) _)))).1)
          (first
            | (go_at_call 54; refine (whole_any false _ ln _ (by omega) T.nn.dg (T.rn.after (by repeat (first | (with_reducible first | exact bl_refl _ | exact hbl2 | apply bl_alloc | apply bl_drew))))).mono ?_; rintro e w2 ⟨b1, v1, l1, rfl, hr1, hn1, hb1⟩; obtain ⟨rfl, hm1⟩ := hn1.pos (m := N.natAbs) (by rw [hvl.out]; simp [sgd]); obtain ⟨A1, c1, rfl⟩ := hr1.sl; have hbl2 : Below wr.heap.size wr w2 := bl_then (by repeat (first | (with_reducible first | exact bl_refl _ | exact hbl2 | apply bl_alloc | apply bl_drew))) hb1; have lV := hbl2.size; (try (have BU : Blk w2 wr.heap.size #[.bool false, .slice none 0 0] 56 := (by first | exact (Blk.new wr.drew _ _).after hb1 | exact ((Blk.new wr.drew _ _).alloc _).after hb1))); (try (have u0 := BU.cell 0; have u1 := BU.cell 1; have u2 := BU.frozen 0; have u3 := BU.frozen 1; have u4 := BU.lt; simp at u0 u1)); (try (have BV : Blk w2 (wr.heap.size + 1) #[.bool false, .slice none 0 0] 56 := (Blk.second wr.drew _ _ _).after hb1)); (try (have v0 := BV.cell 0; have v1' := BV.cell 1; have v2' := BV.frozen 0; have v3' := BV.frozen 1; have v4 := BV.lt; simp at v0 v1')))
            | (go_at_call 48; refine (parts_any false _ _ l1 la (N.natAbs : Int) x _ (hm1.len (by rw [eK'.out]; simpa using hK.1) |> fun h => by omega) (by omega) (hr1.after (by repeat (first | (with_reducible first | exact bl_refl _ | exact hbl2 | apply bl_alloc | apply bl_drew)))) (CA.rd.after (by repeat (first | (with_reducible first | exact bl_refl _ | exact hbl2 | apply bl_alloc | apply bl_drew)))) hm1 CA.nm hx0).mono ?_; rintro e w3 ⟨p1, v2, l2, p2, v3, l3, rfl, hr2, hn2, hr3, hn3, hb2⟩; obtain ⟨rfl, hm2⟩ := hn2.pos (m := N.natAbs / x) (Int.natCast_ediv _ x).symm; obtain ⟨A2, c2, rfl⟩ := hr2.sl; obtain ⟨A3, c3, rfl⟩ := hr3.sl; have hbl3 : Below wr.heap.size wr w3 := bl_then (by repeat (first | exact hbl2 | apply bl_alloc)) hb2; have lW := hbl2.size; have lW3 := hbl3.size; have lX := hb2.size; (try (have BP : Blk w3 wr.heap.size #[.bool false, .slice none 0 0] 56 := (by first | exact BU.after hb2 | exact (BU.alloc _).after hb2))); (try (have p0 := BP.cell 0; have p1' := BP.cell 1; have p2' := BP.frozen 0; have p3 := BP.frozen 1; have p4 := BP.lt; simp at p0 p1')); (try (have BQ : Blk w3 (wr.heap.size + 1) #[.bool false, .slice none 0 0] 56 := BV.after hb2)); (try (have q0 := BQ.cell 0; have q1 := BQ.cell 1; have q2 := BQ.frozen 0; have q3 := BQ.frozen 1; have q4 := BQ.lt; simp at q0 q1)); (try (have BX : Blk w3 w2.heap.size #[.bool false, .slice none 0 0] 56 := (by first | exact (Blk.new w2 _ _).after hb2 | exact ((Blk.new w2 _ _).alloc _).after hb2))); (try (have x0 := BX.cell 0; have x1 := BX.cell 1; have x2 := BX.frozen 0; have x3 := BX.frozen 1; have x4 := BX.lt; simp at x0 x1)); (try (have BY : Blk w3 (w2.heap.size + 1) #[.bool false, .slice none 0 0] 56 := (Blk.second w2 _ _ _).after hb2)); (try (have y0 := BY.cell 0; have y1 := BY.cell 1; have y2 := BY.frozen 0; have y3 := BY.frozen 1; have y4 := BY.lt; simp at y0 y1))))
        all_goals
          have T3 := T.after hbl3
          have CA3 := CA.after hbl3
          clear cn1 ca0 ca1
          repeat (first | go_big_skip | go_step)
        all_goals
          go_meet
          refine ⟨_, .slice A2 l2.length c2, l2, rfl, ?_, ?_, ?_, ⟨?_, ?_, hm2⟩⟩
          · first | omega | (simp; omega)
          · (repeat' (first
            | (with_reducible first | assumption | exact Blk.new _ _ _ | exact Blk.second _ _ _ _)
            | (with_reducible (refine Blk.made _ _ _ _ ?_); (simp [World.setCell]; done))
            | (with_reducible first | apply Blk.alloc | apply TD.alloc | apply Cn.alloc | apply Rd.alloc)
            | (with_reducible refine Blk.set2 (a := .bool false) (b := .slice none 0 0) ?_ _ _)
            | (with_reducible refine Blk.far2 ?_ _ (by first | omega | (simp; omega)) _ _)
            | (with_reducible refine TD.set2 (cs := #[.bool false, .slice none 0 0]) ?_ ?_ (by first | omega | (simp; omega)) _ _)
            | (with_reducible refine Cn.far (u := .slice none 0 0) ?_ ?_ (by first | omega | (simp; omega)) _ _)
            | (with_reducible refine Rd.set2 (t := 56) (cs := #[.bool false, .slice none 0 0]) ?_ ?_ (by decide) _ _)))
          · (repeat' (first
            | (with_reducible first | assumption | exact Blk.new _ _ _ | exact Blk.second _ _ _ _)
            | (with_reducible (refine Blk.made _ _ _ _ ?_); (simp [World.setCell]; done))
            | (with_reducible first | apply Blk.alloc | apply TD.alloc | apply Cn.alloc | apply Rd.alloc)
            | (with_reducible refine Blk.set2 (a := .bool false) (b := .slice none 0 0) ?_ _ _)
            | (with_reducible refine Blk.far2 ?_ _ (by first | omega | (simp; omega)) _ _)
            | (with_reducible refine TD.set2 (cs := #[.bool false, .slice none 0 0]) ?_ ?_ (by first | omega | (simp; omega)) _ _)
            | (with_reducible refine Cn.far (u := .slice none 0 0) ?_ ?_ (by first | omega | (simp; omega)) _ _)
            | (with_reducible refine Rd.set2 (t := 56) (cs := #[.bool false, .slice none 0 0]) ?_ ?_ (by decide) _ _)))
          · (repeat' (first
            | (with_reducible first | assumption | exact Blk.new _ _ _ | exact Blk.second _ _ _ _)
            | (with_reducible (refine Blk.made _ _ _ _ ?_); (simp [World.setCell]; done))
            | (with_reducible first | apply Blk.alloc | apply TD.alloc | apply Cn.alloc | apply Rd.alloc)
            | (with_reducible refine Blk.set2 (a := .bool false) (b := .slice none 0 0) ?_ _ _)
            | (with_reducible refine Blk.far2 ?_ _ (by first | omega | (simp; omega)) _ _)
            | (with_reducible refine TD.set2 (cs := #[.bool false, .slice none 0 0]) ?_ ?_ (by first | omega | (simp; omega)) _ _)
            | (with_reducible refine Cn.far (u := .slice none 0 0) ?_ ?_ (by first | omega | (simp; omega)) _ _)
            | (with_reducible refine Rd.set2 (t := 56) (cs := #[.bool false, .slice none 0 0]) ?_ ?_ (by decide) _ _)))
          · (repeat' (first
            | (with_reducible first | assumption | exact Blk.new _ _ _ | exact Blk.second _ _ _ _)
            | (with_reducible (refine Blk.made _ _ _ _ ?_); (simp [World.setCell]; done))
            | (with_reducible first | apply Blk.alloc | apply TD.alloc | apply Cn.alloc | apply Rd.alloc)
            | (with_reducible refine Blk.set2 (a := .bool false) (b := .slice none 0 0) ?_ _ _)
            | (with_reducible refine Blk.far2 ?_ _ (by first | omega | (simp; omega)) _ _)
            | (with_reducible refine TD.set2 (cs := #[.bool false, .slice none 0 0]) ?_ ?_ (by first | omega | (simp; omega)) _ _)
            | (with_reducible refine Cn.far (u := .slice none 0 0) ?_ ?_ (by first | omega | (simp; omega)) _ _)
            | (with_reducible refine Rd.set2 (t := 56) (cs := #[.bool false, .slice none 0 0]) ?_ ?_ (by decide) _ _)))
      case rest =>
      clear T CA hlr hlA
      obtain ⟨Gp, vp, lp, rfl, hGp, T, CA, CP⟩ := hcut
      obtain ⟨Ap, cp, rfl⟩ := CP.rd.sl
      have d0 := Blk2.c0 T.b1; have d1 := Blk2.c1 T.b1; have a0 := Blk2.c0 CA.blk; have a1 := Blk2.c1 CA.blk
      go_upto_region 14 with (go_at_call 48; refine (parts_any false _ _ ld la (D : Int) x _ (by omega) (by omega) T.rd CA.rd T.nd CA.nm hx0).mono ?_; rintro e w2 ⟨p1, v1, l1, p2, v2, l2, rfl, hr1, hn1, hr2, hn2, hb2⟩; obtain ⟨rfl, hn1⟩ := hn1.pos (m := D / x) (Int.natCast_ediv D x).symm; obtain ⟨A1, c1, rfl⟩ := hr1.sl; obtain ⟨A2, c2, rfl⟩ := hr2.sl)
      have CP' := (CP.after hb2).alloc (.cells #[.bool false, .slice A1 l1.length c1] 56) |>.alloc (.cells #[.bool p2, .slice A2 l2.length c2] 56)
      have TT := ((T.after hb2).alloc (.cells #[.bool false, .slice A1 l1.length c1] 56)).alloc (.cells #[.bool p2, .slice A2 l2.length c2] 56)
      have CQ : Cn w ((w2.alloc (.cells #[.bool false, .slice A1 l1.length c1] 56)).alloc (.cells #[.bool p2, .slice A2 l2.length c2] 56)) w2.heap.size (.slice A1 l1.length c1) l1 (D / x) := ⟨(Blk.new _ _ _).alloc _, (hr1.alloc _).alloc _, hn1⟩
      generalize (w2.alloc (.cells #[.bool false, .slice A1 l1.length c1] 56)).alloc (.cells #[.bool p2, .slice A2 l2.length c2] 56) = W3 at CP' TT CQ ⊢
      generalize w2.heap.size = Gq at CQ ⊢
      clear T CA CP hb2 hr1 hr2 hn2 d0 d1 a0 a1
      have hlp : lp.length ≤ 200 := CP'.nm.len (by rw [eK'.out]; have := Nat.div_le_self N.natAbs x; simp only [Int.natAbs_natCast]; omega)
      have hl1 : l1.length ≤ 200 := CQ.nm.len (by rw [eK'.out]; have := Nat.div_le_self D x; simp only [Int.natAbs_natCast]; omega)
      have a0 := Blk2.c0 CP'.blk; have a1 := Blk2.c1 CP'.blk
      go_upto_region 15 with (go_at_call 49; refine (int_any false _ lp ((N.natAbs / x : Nat) : Int) _ (by omega) CP'.rd CP'.nm).mono ?_; rintro e w4 ⟨z1, rfl, hz1, hb4⟩)
      replace TT := TT.after hb4
      replace CQ := CQ.after hb4
      clear a0 a1 CP' hb4
      have a0 := Blk2.c0 CQ.blk; have a1 := Blk2.c1 CQ.blk
      go_upto_region 16 with (go_at_call 49; refine (int_any false _ l1 ((D / x : Nat) : Int) _ (by omega) CQ.rd CQ.nm).mono ?_; rintro e w5 ⟨z2, rfl, hz2, hb5⟩)
      replace TT := TT.after hb5
      clear a0 a1 CQ hb5
      have cast1 : ((N.natAbs / x : Nat) : Int) = (N.natAbs : Int) / (x : Int) := Int.natCast_ediv _ _
      have cast2 : ((D / x : Nat) : Int) = (D : Int) / (x : Int) := Int.natCast_ediv _ _
      have fN : ∀ m : Nat, fits (m : Int) = decide (m ≤ 9223372036854775807) := fun m => by unfold fits; exact decide_eq_decide.2 (by omega)
      have k1 := fN (N.natAbs / x)
      have k2 := fN (D / x)
      have hsg := TT.nn.sg
      have r0 := Blk2.c0 TT.b2; have r1 := Blk2.c1 TT.b2; have f0 := TT.b2.frozen 0; have f1 := TT.b2.frozen 1; have bn0 := Blk2.c0 TT.b0
      replace hsg := hidden hsg
      clear fN eK hK eK' hln hld hvl hxy hlp hl1 hGa hGb hGp
      have E := fun a b => TT.b2.set2 a b
      by_cases hok1 : N.natAbs / x ≤ 9223372036854775807
      · have z1e := hz1 (by rw [k1]; exact decide_eq_true hok1)
        rw [decide_eq_true hok1, cast1] at k1
        by_cases hok2 : D / x ≤ 9223372036854775807
        · have z2e := hz2 (by rw [k2]; exact decide_eq_true hok2)
          rw [decide_eq_true hok2, cast2] at k2
          have hT := toldOk_yes (n := N) (d := D) hD0 (by rw [← hgx.out]; exact hok1) (by rw [← hgx.out]; exact hok2)
          replace hT := hidden hT
          have b10 : 0 ≤ z1 := by rw [z1e]; exact Int.natCast_nonneg _
          have b11 : z1 ≤ 9223372036854775807 := by rw [z1e]; exact Int.ofNat_le.2 hok1
          have hp : Hid (0 * 18446744073709551616 + z1 = ((N.natAbs / Nat.gcd N.natAbs D : Nat) : Int)) := by show _ = _; rw [← hgx.out, ← z1e]; omega
          have hq : Hid (0 * 18446744073709551616 + z2 = ((D / Nat.gcd N.natAbs D : Nat) : Int)) := by show _ = _; rw [← hgx.out, ← z2e]; omega
          replace z1e := hidden z1e; replace z2e := hidden z2e; replace hok1 := hidden hok1; replace hok2 := hidden hok2; replace cast1 := hidden cast1; replace cast2 := hidden cast2
          clear hz1 hz2
          cases bn
          · have hN0 : 0 ≤ N := by have := hsg.out; simp at this; exact this
            clear hsg
            go_wp2_with fail
            simp [bodyPost, results, Try.results33, go_sem, r0, r1]
            unfold RetT
            rw [hT.out.1, hT.out.2.1, hT.out.2.2]
            exact ⟨told_pos hN0 hp.out hq.out, bl_set (bl_set TT.bl _ _ (by omega) _) _ _ (by omega) _⟩
          · have hN0 : N ≤ 0 := by have := hsg.out; simp at this; omega
            clear hsg
            go_wp2_with fail
            simp [bodyPost, results, Try.results33, go_sem, r0, r1]
            unfold RetT
            rw [hT.out.1, hT.out.2.1, hT.out.2.2]
            exact ⟨told_neg hN0 hp.out hq.out, bl_set (bl_set TT.bl _ _ (by omega) _) _ _ (by omega) _⟩
        · rw [decide_eq_false hok2, cast2] at k2
          have hT := toldOk_no (n := N) (d := D) (fun h => hok2 (by rw [hgx.out]; exact h.2.2))
          replace hT := hidden hT
          replace z1e := hidden z1e; replace hok1 := hidden hok1; replace hok2 := hidden hok2; replace cast1 := hidden cast1; replace cast2 := hidden cast2
          clear hz1 hz2 hsg
          repeat (first | go_big_skip | go_step)
          simp [bodyPost, results, Try.results33, go_sem, r0, r1]
          unfold RetT
          rw [hT.out.1, hT.out.2.1, hT.out.2.2]
          exact ⟨rfl, bl_set (bl_set TT.bl _ _ (by omega) _) _ _ (by omega) _⟩
      · rw [decide_eq_false hok1, cast1] at k1
        have hT := toldOk_no (n := N) (d := D) (fun h => hok1 (by rw [hgx.out]; exact h.2.1))
        replace hT := hidden hT
        replace hok1 := hidden hok1; replace cast1 := hidden cast1; replace cast2 := hidden cast2
        clear hz1 hz2 hsg k2
        repeat (first | go_big_skip | go_step)
        simp [bodyPost, results, Try.results33, go_sem, r0, r1]
        unfold RetT
        rw [hT.out.1, hT.out.2.1, hT.out.2.2]
        exact ⟨rfl, bl_set (bl_set TT.bl _ _ (by omega) _) _ _ (by omega) _⟩
    · have hl0 : 0 < lb.length := by
        rcases Nat.eq_zero_or_pos lb.length with h | h
        · exact absurd (CB.nm.zero.1 h) (by omega)
        · exact h
      have e3 : decide (0 < lb.length) = true := by simpa using hl0
      have hy0 : 0 < y := by omega
      have a0 := Blk2.c0 CA.blk; have a1 := Blk2.c1 CA.blk
      go_upto_region 10 with (go_at_call 48; refine (parts_any false _ _ la lb (x : Int) y _ (by omega) (by omega) CA.rd CB.rd CA.nm CB.nm hy0).mono ?_; rintro e w2 ⟨p1, v1, l1, p2, v2, l2, rfl, hr1, hn1, hr2, hn2, hb2⟩; obtain ⟨rfl, hn2⟩ := hn2.pos (m := x % y) (Int.natCast_emod x y).symm; obtain ⟨A1, c1, rfl⟩ := hr1.sl; obtain ⟨A2, c2, rfl⟩ := hr2.sl)
      have CR : Cn w ((w2.alloc (.cells #[.bool p1, .slice A1 l1.length c1] 56)).alloc (.cells #[.bool false, .slice A2 l2.length c2] 56)) (w2.heap.size + 1) (.slice A2 l2.length c2) l2 (x % y) := ⟨Blk.made _ _ _ _ (by simp), (hr2.alloc _).alloc _, hn2⟩
      have hbe : Below wr.heap.size wr ((w2.alloc (.cells #[.bool p1, .slice A1 l1.length c1] 56)).alloc (.cells #[.bool false, .slice A2 l2.length c2] 56)) := bl_alloc (bl_alloc hb2 _) _
      have hGr : wr.heap.size < w2.heap.size + 1 := by have := hb2.size; omega
      have la' := CA.blk.lt; have lb' := CB.blk.lt
      have TT := T.after hbe
      have CA' := CA.after hbe
      have CB' := CB.after hbe
      generalize (w2.alloc (.cells #[.bool p1, .slice A1 l1.length c1] 56)).alloc (.cells #[.bool false, .slice A2 l2.length c2] 56) = W3 at CR TT CA' CB' ⊢
      generalize w2.heap.size + 1 = Gr at CR hGr ⊢
      clear T CA CB hbe hr1 hr2 hn1 hn2 hb2 a0 a1 b0 b1
      have a0 := Blk2.c0 CA'.blk; have a1 := Blk2.c1 CA'.blk; have b0 := Blk2.c0 CB'.blk; have b1 := Blk2.c1 CB'.blk
      have f0 := CA'.blk.frozen 0; have f1 := CA'.blk.frozen 1
      go_upto_region 11 with (fail)
      have TA := TT.set2 CA'.blk hGa (.bool false) (.slice Ab lb.length cb)
      have CA2 := Cn.set (w := w) CA'.blk CB'.rd CB'.nm
      have CB2 := CB'.far CA'.blk (by omega) (.bool false) (.slice Ab lb.length cb)
      have CR2 := CR.far CA'.blk (by omega) (.bool false) (.slice Ab lb.length cb)
      generalize (W3.setCell ⟨Ga, 0, none⟩ (.bool false)).setCell ⟨Ga, 1, none⟩ (.slice Ab lb.length cb) = W4 at TA CA2 CB2 CR2 ⊢
      clear TT CA' CB' CR a0 a1 b0 b1 f0 f1
      have a0 := Blk2.c0 CR2.blk; have a1 := Blk2.c1 CR2.blk; have b0 := Blk2.c0 CB2.blk; have b1 := Blk2.c1 CB2.blk
      have f0 := CB2.blk.frozen 0; have f1 := CB2.blk.frozen 1
      go_wp2_with fail
      go_roundg (x % y)
      case measure => have := Nat.mod_lt x hy0; have := hk.out; omega
      case rel =>
        refine ⟨y, x % y, _, _, _, _, rfl, ?_, ⟨hxy.out.2, by have := Nat.mod_lt x hy0; have := hxy.out.2; omega⟩, TA.set2 CB2.blk (by omega) _ _, CA2.far CB2.blk (by omega) _ _, Cn.set (w := w) CB2.blk CR2.rd CR2.nm⟩
        show _ = _
        rw [← hg.out, Nat.gcd_comm x y, Nat.gcd_rec y x, Nat.gcd_comm]
end Go.Proofs.Ytpdbiofpoccjeaa.Ref
