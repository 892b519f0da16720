/- compose: ComposeSums, walked. -/
import Derived.StillTailTactics
import Derived.Deep.QuietTactic
import Derived.BigQuiet
import Derived.Lib.Hide
import Derived.Test.YtajjailmmbcolaaDf
namespace Go.Proofs.Ytajjailmmbcolaa
open Go Go.Proofs Go.RowKit Go.Shelf Go.Maps Go.Proofs.YtajjailmmbcolaaW.PrintWords Go.Proofs.YtajjailmmbcolaaW.PrintLast Go.Proofs.YtajjailmmbcolaaW.PrintMore PComposeTells
set_option linter.unusedSimpArgs false
set_option linter.unusedVariables false

theorem lawrest_calls (x n : Int) (h0 : 1 ≤ n) (h1 : n ≤ 1000) (w : World) : Calls Try.prog 15 #[.int .i64 x, .int .i64 n] w fun e w' => e = .returned (.int .i64 (rst x n)) ∧ w' = w := by
  have a1 := Int.tmod_lt_of_pos x (show 0 < n by omega)
  have a2 : -n < Int.tmod x n := by
    have := Int.tmod_lt_of_pos (-x) (show 0 < n by omega)
    rw [Int.neg_tmod] at this
    omega
  have hz : (n == 0) = false := by simp; omega
  have hz' : ¬ n = 0 := by omega
  have hm : ∀ y : Int, 0 ≤ y → y % n = Int.tmod y n := fun y hy => (Int.tmod_eq_emod_of_nonneg hy).symm
  have H := Lib.hid hm
  clear hm
  go_enter Try.func15, Try.ntmps15
  go_wp2
  go_ret
  refine ⟨?_, rfl⟩
  show Ending.returned (.int .i64 ((x.tmod n + n) % n)) = _
  rw [H.out _ (by omega)]
  rfl

theorem c_pt {W : World} {A : Option Addr} {n : Nat} {ps : List S59} (h : Kd.C k59 W A n ps) (j : Nat) (hj : j < n) : ∃ ad, A = some ad ∧ W.cell? (ad.add (j * 3)) = some (.int .i64 (rd_T59 ps j).f0) ∧ W.cell? ⟨(ad.add (j * 3)).block, (ad.add (j * 3)).off + 1, none⟩ = some (.int .i64 (rd_T59 ps j).f1) ∧ W.cell? ⟨(ad.add (j * 3)).block, (ad.add (j * 3)).off + 2, none⟩ = some (.bool (rd_T59 ps j).f2) := by
  have := at_T59 h (j : Int) (by omega) (by omega)
  simpa using this
theorem jd_own {G : Gs} {own : Nat → Ol} (hn : ∀ x, ¬ Loop G x) (k : Nat) : ∃ t, (jd G own k).1 = (own k).1 ++ t := by
  rw [jd_eq (T := fun _ => True) (fun _ _ _ _ => trivial) (fun x _ => hn x) trivial (own := own)]
  generalize flt G.length (G.getD k []) = l
  suffices H : ∀ (o : Ol), ∃ t, (l.foldl (fun o x => addPart o x.1.2.1 x.1.2.2 (jd G own (gn x))) o).1 = o.1 ++ t from H _
  induction l with
  | nil => exact fun o => ⟨[], by simp⟩
  | cons x l ih =>
    intro o
    obtain ⟨t, ht⟩ := ih (addPart o x.1.2.1 x.1.2.2 (jd G own (gn x)))
    simp only [List.foldl_cons]
    exact ⟨_, by rw [ht]; simp only [addPart, List.append_assoc]; rfl⟩
/-- Of the first i parts: the points, the depth. -/
noncomputable def SA (G : Gs) (own : Nat → Ol) (k : Nat) (ps : List Pt) (i : Nat) : Nat := ((flt G.length (ps.take i)).foldl (fun o x => addPart o x.1.2.1 x.1.2.2 (jd G own (gn x))) (own k)).1.length
noncomputable def DA (G : Gs) (ps : List Pt) (i : Nat) : Int := (flt G.length (ps.take i)).foldl (fun d x => max d (Bd G (gn x) + 1)) 0
theorem SA_skip {G : Gs} {own : Nat → Ol} {k : Nat} {ps : List Pt} {i : Nat} (h : i < ps.length) (hn : ¬ (0 ≤ ps[i].1 ∧ ps[i].1 < (G.length : Int))) : SA G own k ps (i + 1) = SA G own k ps i ∧ DA G ps (i + 1) = DA G ps i := by
  unfold SA DA
  rw [take_succ' ps i h, flt_append, flt_none hn, List.append_nil]
  exact ⟨rfl, rfl⟩
theorem SA_take {G : Gs} {own : Nat → Ol} {k : Nat} {ps : List Pt} {i : Nat} (h : i < ps.length) (hn : 0 ≤ ps[i].1 ∧ ps[i].1 < (G.length : Int)) : SA G own k ps (i + 1) = SA G own k ps i + (jd G own ps[i].1.toNat).1.length ∧ DA G ps (i + 1) = max (DA G ps i) (Bd G ps[i].1.toNat + 1) := by
  unfold SA DA
  rw [take_succ' ps i h, flt_append, flt_one hn, List.foldl_append, List.foldl_append]
  simp [addPart, gn]
theorem SA_end {G : Gs} {own : Nat → Ol} {k : Nat} (hk : k < G.length) (hn : ∀ x, ¬ Loop G x) : SA G own k G[k] G[k].length = (jd G own k).1.length := by
  unfold SA
  rw [List.take_length, jd_eq (T := fun _ => True) (fun _ _ _ _ => trivial) (fun x _ => hn x) trivial (own := own), List.getD_eq_getElem?_getD, List.getElem?_eq_getElem hk]
  rfl
theorem DA_kid {G : Gs} {k : Nat} (hk : k < G.length) (hn : ∀ x, ¬ Loop G x) (hb : Bd G k ≤ 4) : DA G G[k] G[k].length = Bd G k ∧ ∀ q ∈ kids G k, Bd G q ≤ 3 := by
  have he := (bests_Bd (T := fun x => x < G.length) (fun x _ q hq => kid_lt hq) (fun x _ => hn x) (fun x h => h)).eq k hk
  rw [he] at hb ⊢
  obtain ⟨h1, h2, _⟩ := foldB_big (kids G k) 0 (by omega) (by omega) hb
  refine ⟨?_, h2⟩
  rw [h1]
  unfold DA kids
  rw [List.take_length, List.foldl_map, List.getD_eq_getElem?_getD, List.getElem?_eq_getElem hk]
  rfl
theorem part_kid {G : Gs} {k : Nat} (hk : k < G.length) {i : Nat} (hi : i < G[k].length) (h : 0 ≤ G[k][i].1 ∧ G[k][i].1 < (G.length : Int)) : G[k][i].1.toNat ∈ kids G k :=
  (mem_kids hk).2 ⟨i, hi, by omega, by omega⟩

set_option maxRecDepth 100000 in
set_option maxHeartbeats 4000000 in
theorem Sums_calls (v : Value) (l : List Int) (n : Int) (w : World) (hmade : ∀ W, Below w.heap.size w W → Calls Try.prog 11 #[v, .bool false] W (FlatFont false l W)) : Calls Try.prog 6 #[v, .int .i64 n] w fun e w' => e = .returned (.bool true) ∧ Below w.heap.size w w' := by
  have HM := Lib.hid hmade
  clear hmade
  go_enter Try.func6, Try.ntmps6
  go_wp2_with fail
  refine (awake_calls w).mono ?_
  rintro e w1 ⟨rfl, hb1⟩
  go_wp2_with fail
  refine (HM.out w1 hb1).mono ?_
  rintro e w2 ⟨f, gs, hGd, d0, d1, d2, d3, d4, d5, d6, d7, d8, rfl, hF, _, hb2⟩
  clear d0 d1 d2 d3 d4 d5 d6 d7 d8
  have hfew := good_few hGd
  have hrise := good_rise hGd
  have hnl := no_loop hrise
  have hends := made_ends hGd
  have hle : (gsS gs).length ≤ 8 := by rw [gsS_len]; exact hGd.le
  clear hGd hrise
  generalize gsS gs = G at *
  generalize ownS gs = own at *
  have hB2 := hb1.trans (hb2.mono hb1.size)
  have hN := hfew.pos
  have HFew := Lib.hid hfew
  have HF := Lib.hid hF
  have HNL := Lib.hid hnl
  have HEN := Lib.hid hends
  clear hfew hF hnl hends hb1 hb2 HM
  have hbx := Bx.new w2 (f.cells G.length) 32
  have hBW : Below w2.heap.size w2 (w2.alloc (.cells (f.cells G.length) 32)) := (Below.refl _ _).alloc (Nat.le_refl _) _
  have hsW : (w2.alloc (.cells (f.cells G.length) 32)).heap.size = w2.heap.size + 1 := by rw [World.size_alloc]
  simp only [Fv.cells] at hbx hBW hsW ⊢
  go_wp2_with fail
  generalize World.alloc w2 _ = W3 at hbx hBW hsW ⊢
  refine (lawrest_calls n G.length (by omega) (by omega) W3).mono ?_
  rintro e w3 ⟨rfl, rfl⟩
  obtain ⟨k, hk⟩ : ∃ k : Nat, rst n (G.length : Int) = (k : Int) := ⟨(rst n G.length).toNat, by have := rst_range n G.length (by omega) (by omega); omega⟩
  have hkl : k < G.length := by have := rst_range n G.length (by omega) (by omega); omega
  rw [hk]
  clear hk
  have f0 := hbx.cell 0
  have f1 := hbx.cell 1
  have f2 := hbx.cell 2
  have f3 := hbx.cell 3
  have f4 := hbx.cell 4
  have f5 := hbx.cell 5
  have f6 := hbx.cell 6
  have f7 := hbx.cell 7
  have f8 := hbx.cell 8
  go_wp2_with fail
  have hfl : Hid (∀ (g : Int) (W : World), Below w2.heap.size w2 W → Calls Try.prog 16 #[.agg (f.cells G.length), .int .i64 g] W (FlatP G own g W)) := fun g W hW => Flat_calls f G own w2 HF.out (fun g _ _ _ h => by have := HEN.out g; omega) g W hW
  have hdp : Hid (∀ (g : Int) (W : World), Below w2.heap.size w2 W → Calls Try.prog 17 #[.agg (f.cells G.length), .int .i64 g] W (DeepP G g W)) := fun g W hW => Deep_calls f G w2.heap.size HF.out.N g W (HF.out.gl.below (fun k hk => hW.block k hk) (Nat.le_refl _)) hW.size
  have h1 := hfl.out k w3 hBW
  simp only [Fv.cells] at h1
  refine h1.mono ?_
  clear h1
  rintro e w4 ⟨o, c, vp, ve, rfl, hA, hR, hR', hb4⟩
  obtain ⟨A3, c3, rfl⟩ := Kd.R_slice hR
  obtain ⟨A4, c4, rfl⟩ := Kd.R_slice hR'
  have hB4 := hBW.trans (hb4.mono (by omega))
  have hbx4 := hbx.kept (hb4.block _ (by omega))
  have hs4 := hb4.size
  have HA : Hid ((o = ([], []) ∧ (c = 34 ∨ c = 2)) ∨ (c = 0 ∧ Bd G k ≤ 4 ∧ (jd G own k).1.length ≤ 1000 ∧ o = jd G own k)) := by
    rcases hA with ⟨h1, h2, m, hD⟩ | ⟨_, _, _, _, h2, h3⟩ | ⟨_, _, h3, h4, h5, h6⟩
    · refine .inl ⟨h2, ?_⟩
      rcases hD with ⟨h3, _⟩ | ⟨_, ⟨x, _, h4⟩, _⟩ | ⟨_, _, _, _, h5⟩ | ⟨_, _, _, _, h5⟩
      · omega
      · exact absurd h4 (HNL.out x)
      · exact .inl h5
      · exact absurd h5 h1
    · exact .inl ⟨h2, .inr h3⟩
    · exact .inr ⟨h6, by simpa using h3, by simpa using h4, by simpa using h5⟩
  clear hA f0 f1 f2 f3 f4 f5 f6 f7 f8 hbx
  rcases HA.out with ⟨rfl, hc⟩ | ⟨rfl, hbd, hlen, rfl⟩
  · have hcn : (c == 0) = false := by
      have : c ≠ 0 := by omega
      simpa using this
    have hcm : (c == 34 || c == 2) = true := by
      rcases hc with rfl | rfl <;> rfl
    clear hR hR'
    go_wp2_with fail
    all_goals
      go_ret
      exact ⟨rfl, hB2.trans ((hB4.alloc (by omega) _).mono hB2.size)⟩
  · obtain ⟨b, oo, A, ca, A', ca', ha, hc3, hc4, hC3, hC4, hbl⟩ := HF.out.ou k hkl
    obtain ⟨_, pa, pc, hc5, hplen, hps⟩ := (ha ▸ HF.out.gl : GlyphsAt w2.heap.size w2 (some ⟨b, oo, none⟩) G).at' k hkl
    have HPS := Lib.hid hps
    have HC5 := Lib.hid hc5
    clear hps hc5
    have hx5 := Bx.new w4 #[.slice A3 (jd G own k).1.length c3, .slice A4 (jd G own k).2.length c4] 39
    have hB5 := hB4.alloc hB4.size (.cells #[.slice A3 (jd G own k).1.length c3, .slice A4 (jd G own k).2.length c4] 39)
    have hbx5 := hbx4.alloc (.cells #[.slice A3 (jd G own k).1.length c3, .slice A4 (jd G own k).2.length c4] 39)
    have hR5 := Kd.R_alloc hR (.cells #[.slice A3 (jd G own k).1.length c3, .slice A4 (jd G own k).2.length c4] 39)
    have hs5 : (w4.alloc (.cells #[.slice A3 (jd G own k).1.length c3, .slice A4 (jd G own k).2.length c4] 39)).heap.size = w4.heap.size + 1 := by rw [World.size_alloc]
    have g3 : (w4.alloc (.cells #[.slice A3 (jd G own k).1.length c3, .slice A4 (jd G own k).2.length c4] 39)).cell? ⟨b, oo + k * 9 + 3, none⟩ = _ := (World.cell?_of_block (hB5.block b hbl)).trans hc3
    have g4 : (w4.alloc (.cells #[.slice A3 (jd G own k).1.length c3, .slice A4 (jd G own k).2.length c4] 39)).cell? ⟨b, oo + k * 9 + 3 + 1, none⟩ = _ := (World.cell?_of_block (hB5.block b hbl)).trans hc4
    have q0 : (0 : Int) ≤ (k : Int) := by omega
    have q1 : (k : Int) < (G.length : Int) := by omega
    have z2 := hbx5.cell 1
    rw [ha] at z2
    clear hc3 hc4 hR hR'
    have HR5 := Lib.hid hR5
    have HC3 := Lib.hid hC3
    clear hR5 hC3 hC4
    go_wp2_with fail
    have hx6 := Bx.new (w4.alloc (.cells #[.slice A3 (jd G own k).1.length c3, .slice A4 (jd G own k).2.length c4] 39)) #[.slice A (own k).1.length ca, .slice A' (own k).2.length ca'] 39
    have hx56 := hx5.alloc (.cells #[.slice A (own k).1.length ca, .slice A' (own k).2.length ca'] 39)
    have hB6 := hB5.alloc (by omega) (.cells #[.slice A (own k).1.length ca, .slice A' (own k).2.length ca'] 39)
    have hbx6 := hbx5.alloc (.cells #[.slice A (own k).1.length ca, .slice A' (own k).2.length ca'] 39)
    have hR6 := Kd.R_alloc HR5.out (.cells #[.slice A (own k).1.length ca, .slice A' (own k).2.length ca'] 39)
    have hs6 : ((w4.alloc (.cells #[.slice A3 (jd G own k).1.length c3, .slice A4 (jd G own k).2.length c4] 39)).alloc (.cells #[.slice A (own k).1.length ca, .slice A' (own k).2.length ca'] 39)).heap.size = w4.heap.size + 2 := by simp [World.size_alloc]
    rw [hs5] at hx6
    clear g3 g4 z2 hx5 hB5 hbx5 HR5 hs5 HA
    generalize World.alloc (World.alloc w4 _) (.cells #[.slice A (own k).1.length ca, .slice A' (own k).2.length ca'] 39) = W6 at hx6 hx56 hB6 hbx6 hR6 hs6 ⊢
    obtain ⟨hDk, hKd⟩ := DA_kid hkl HNL.out hbd
    have HSe := Lib.hid (SA_end (own := own) hkl HNL.out)
    have HDk := Lib.hid hDk
    have HKd := Lib.hid hKd
    have HFp := Lib.hid HFew.out.part
    have HR6 := Lib.hid hR6
    have hpart : Hid (∀ (i : Nat) (h : i < G[k].length), 0 ≤ G[k][i].1 → (0 ≤ G[k][i].1 ∧ G[k][i].1 < (G.length : Int)) ∧ G[k][i].1.toNat ∈ kids G k ∧ (jd G own G[k][i].1.toNat).1.length ≤ 1000) := fun i h h0 => by
      have h1 := HFp.out k hkl _ (List.getElem_mem h)
      have h2 := part_kid hkl h ⟨h0, h1.2⟩
      refine ⟨⟨h0, h1.2⟩, h2, ?_⟩
      have := (jd_le (own := own) (T := fun _ => True) (fun _ _ _ _ => trivial) (fun x _ => HNL.out x) trivial h2).1
      omega
    have hS0 : SA G own k G[k] 0 = (own k).1.length := by simp [SA, flt]
    have hD0 : DA G G[k] 0 = 0 := by simp [DA, flt]
    clear hDk hKd HFp hR6
    have HC3' := Lib.hid (Kd.C_below HC3.out hB6)
    generalize hpsq : G[k] = ps at *
    go_loopw [11, 12, 13] (fun v11 v12 v13 wr => Hid (∃ i : Nat, v13 = .int .i64 i ∧ i ≤ ps.length ∧ v11 = .int .i64 (SA G own k ps i : Nat) ∧ SA G own k ps i ≤ 1000000 + 1000 * i ∧ v12 = .int .i64 (DA G ps i) ∧ (0 ≤ DA G ps i ∧ DA G ps i ≤ 100) ∧ Hid (Below W6.heap.size W6 wr))) (fun _ _ v13 _ => ps.length - (intOf v13).toNat)
    case atStart =>
      exact ⟨0, rfl, Nat.zero_le _, by rw [hS0], by rw [hS0]; have := HF.out.pt k; omega, by rw [hD0], by rw [hD0]; omega, Below.refl _ _⟩
    case round =>
      obtain ⟨i, rfl, hi, rfl, hSb, rfl, hDb, hbr⟩ := hrel.out
      clear hrel
      have hbs := hbr.out.size
      have hBr : Hid (Below w2.heap.size w2 wr) := hB6.trans (hbr.out.mono (by omega))
      have hbxr := hbx6.kept (hbr.out.block _ (by omega))
      have f0 := hbxr.cell 0
      have f1 := hbxr.cell 1
      have f2 := hbxr.cell 2
      have f3 := hbxr.cell 3
      have f4 := hbxr.cell 4
      have f5 := hbxr.cell 5
      have f6 := hbxr.cell 6
      have f7 := hbxr.cell 7
      have f8 := hbxr.cell 8
      rw [ha] at f1
      have g5 : wr.cell? ⟨b, oo + k * 9 + 5, none⟩ = _ := (World.cell?_of_block (hBr.out.block b hbl)).trans HC5.out
      by_cases hlt : i < ps.length
      · obtain ⟨pb, po, rfl, hpb, hp0, _, _⟩ := HPS.out i hlt
        replace hp0 : wr.cell? ⟨pb, po + i * 3, none⟩ = _ := (World.cell?_of_block (hBr.out.block pb hpb)).trans hp0
        have q2 : (0 : Int) ≤ (i : Int) := by omega
        have q3 : (i : Int) < (ps.length : Int) := by omega
        by_cases hneg : ps[i].1 < 0
        · have hd : decide (ps[i].1 < 0) = true := decide_eq_true hneg
          obtain ⟨e1, e2⟩ := SA_skip (G := G) (own := own) (k := k) hlt (by omega)
          have E1 := Lib.hid e1
          have E2 := Lib.hid e2
          clear e1 e2
          go_wp2
          go_roundw
          case rel => exact ⟨i + 1, by go_num, by omega, by rw [E1.out], by rw [E1.out]; omega, by rw [E2.out], by rw [E2.out]; exact hDb, hbr⟩
          case measure => simp [intOf]; omega
        · have hd : decide (ps[i].1 < 0) = false := decide_eq_false hneg
          obtain ⟨hin, hkid, hjl⟩ := hpart.out i hlt (by omega)
          have hbd3 := HKd.out _ hkid
          obtain ⟨e1, e2⟩ := SA_take (G := G) (own := own) (k := k) hlt hin
          have hbdr := Bd_range G ps[i].1.toNat
          have E1 := Lib.hid e1
          have E3 := Lib.hid e2
          have E4 : Hid (SA G own k ps (i + 1) ≤ 1000000 + 1000 * (i + 1)) := by show _ ≤ _; rw [e1]; omega
          have E5 : Hid (0 ≤ DA G ps (i + 1) ∧ DA G ps (i + 1) ≤ 100) := by show _ ∧ _; rw [e2]; omega
          clear e1 e2
          go_wp2_with fail
          have h1 := hfl.out ps[i].1 wr hBr.out
          simp only [Fv.cells, ha] at h1
          refine h1.mono ?_
          clear h1
          rintro e w7 ⟨o', c', vp, ve, rfl, hA, hR, hR', hb7⟩
          have hA' : c' = 0 ∧ o' = jd G own ps[i].1.toNat := by
            rcases hA with ⟨h1, _, m, hD⟩ | ⟨_, _, _, h4, _⟩ | ⟨_, _, _, _, h5, h6⟩
            · rcases hD with ⟨h3, _⟩ | ⟨_, ⟨x, _, h4⟩, _⟩ | ⟨_, _, h4, _⟩ | ⟨_, _, _, _, h5⟩
              · exact absurd hin h3
              · exact absurd h4 (HNL.out x)
              · omega
              · exact absurd h5 h1
            · omega
            · exact ⟨h6, h5⟩
          obtain ⟨rfl, rfl⟩ := hA'
          obtain ⟨A5, c5, rfl⟩ := Kd.R_slice hR
          obtain ⟨A6, c6, rfl⟩ := Kd.R_slice hR'
          have hs7 := hb7.size
          have hbx7 := hbxr.kept (hb7.block _ (by omega))
          have hBr7 := hBr.out.trans (hb7.mono (by omega))
          have hbr7 := hbr.out.trans (hb7.mono hbs)
          clear f0 f1 f2 f3 f4 f5 f6 f7 f8 g5 hp0 hA hR hR'
          have hb8 := hBr7.alloc (by omega) (.cells #[.slice A5 (jd G own ps[i].1.toNat).1.length c5, .slice A6 (jd G own ps[i].1.toNat).2.length c6] 39)
          have hb86 := hbr7.alloc (by omega) (.cells #[.slice A5 (jd G own ps[i].1.toNat).1.length c5, .slice A6 (jd G own ps[i].1.toNat).2.length c6] 39)
          have hx8 := Bx.new w7 #[.slice A5 (jd G own ps[i].1.toNat).1.length c5, .slice A6 (jd G own ps[i].1.toNat).2.length c6] 39
          have hbx8 := hbx7.alloc (.cells #[.slice A5 (jd G own ps[i].1.toNat).1.length c5, .slice A6 (jd G own ps[i].1.toNat).2.length c6] 39)
          have f0 := hbx8.cell 0
          have f1 := hbx8.cell 1
          have f2 := hbx8.cell 2
          have f3 := hbx8.cell 3
          have f4 := hbx8.cell 4
          have f5 := hbx8.cell 5
          have f6 := hbx8.cell 6
          have f7 := hbx8.cell 7
          have f8 := hbx8.cell 8
          rw [ha] at f1
          have hs8 : (w7.alloc (.cells #[.slice A5 (jd G own ps[i].1.toNat).1.length c5, .slice A6 (jd G own ps[i].1.toNat).2.length c6] 39)).heap.size = w7.heap.size + 1 := by rw [World.size_alloc]
          go_wp2_with fail
          generalize World.alloc w7 _ = w8 at hb8 hb86 hx8 hbx8 f0 f1 f2 f3 f4 f5 f6 f7 f8 hs8 ⊢
          have h1 := hdp.out ps[i].1 w8 hb8
          simp only [Fv.cells, ha] at h1
          refine h1.mono ?_
          clear h1 f0 f1 f2 f3 f4 f5 f6 f7 f8
          rintro e w9 ⟨m, c'', rfl, hD, hb9⟩
          have hD' : c'' = 0 ∧ m = Bd G ps[i].1.toNat := by
            rcases hD with ⟨h3, _⟩ | ⟨_, ⟨x, _, h4⟩, _⟩ | ⟨_, _, h4, _⟩ | ⟨_, _, _, h4, h5⟩
            · exact absurd hin h3
            · exact absurd h4 (HNL.out x)
            · omega
            · exact ⟨h5, h4⟩
          obtain ⟨rfl, rfl⟩ := hD'
          have hs9 := hb9.size
          have hx9 := hx8.kept (hb9.block _ (by omega))
          have z0 := hx9.cell 0
          have hbr9 := Lib.hid (hb86.trans (hb9.mono (by omega)))
          clear hb86 hb9 hb8 hx8 hbx8 hD hb7 hbx7 hBr7 hbr7
          go_wp2_with fail
          exact ⟨⟨i + 1, by simp, by omega, by rw [E1.out]; simp, E4.out, by rw [E3.out], E5.out, hbr9⟩, by simp [intOf]; omega⟩
      · obtain rfl : i = ps.length := by omega
        have HSi : Hid (SA G own k ps ps.length = (jd G own k).1.length) := HSe
        rw [HSe.out, HDk.out]
        go_wp2_with fail
        have h1 := hdp.out k wr hBr.out
        simp only [Fv.cells, ha] at h1
        refine h1.mono ?_
        clear h1 f0 f1 f2 f3 f4 f5 f6 f7 f8 g5
        rintro e w9 ⟨m, c'', rfl, hD, hb9⟩
        have hD' : m = Bd G k := by
          rcases hD with ⟨h3, _⟩ | ⟨_, ⟨x, _, h4⟩, _⟩ | ⟨_, _, h4, _⟩ | ⟨_, _, _, h4, h5⟩
          · omega
          · exact absurd h4 (HNL.out x)
          · simp only [Int.toNat_natCast] at h4; omega
          · simpa using h4
        subst hD'
        have hs9 := hb9.size
        have hx59 := (hx56.kept (hbr.out.block _ (by omega))).kept (hb9.block _ (by omega))
        have hx69 := (hx6.kept (hbr.out.block _ (by omega))).kept (hb9.block _ (by omega))
        have hBe : Below W6.heap.size W6 w9 := hbr.out.trans (hb9.mono (by omega))
        have hR9 := Kd.R_below HR6.out hBe
        have hC9 := Kd.C_below HC3'.out hBe
        have hB9 : Below w2.heap.size w2 w9 := hBr.out.trans (hb9.mono (by omega))
        have HR9 := Lib.hid hR9
        have HC9 := Lib.hid hC9
        have HB9 := Lib.hid hB9
        clear hD hR9 hC9 hB9 hb9 hBe hbxr hSb hDb hbr hBr HSi
        go_wp2_with fail
        obtain ⟨tl, htl⟩ := jd_own (own := own) HNL.out k
        have hJL : (own k).1.length ≤ (jd G own k).1.length := by rw [htl]; simp
        have hRd : Hid (∀ j : Nat, j < (own k).1.length → rd_T59 (jd G own k).1 j = rd_T59 (own k).1 j) := fun j hj => by
          rw [htl]
          simp [rd_T59, List.getD_eq_getElem?_getD, List.getElem?_append_left hj]
        have hol : (own k).1.length ≤ 1000000 := HF.out.pt k
        clear htl
        go_loopw [21] (fun v21 wr => ∃ j : Nat, v21 = .int .i64 j ∧ j ≤ (own k).1.length ∧ Hid (Below w9.heap.size w9 wr)) (fun v21 _ => (own k).1.length - (intOf v21).toNat)
        case atStart => exact ⟨0, rfl, Nat.zero_le _, Below.refl _ _⟩
        case round =>
          obtain ⟨j, rfl, hj, hbj⟩ := hrel
          have hx5r := hx59.kept (hbj.out.block _ (by omega))
          have hx6r := hx69.kept (hbj.out.block _ (by omega))
          have z5 := hx5r.cell 0
          have z6 := hx6r.cell 0
          by_cases hlt : j < (own k).1.length
          · obtain ⟨ad, rfl, p0, p1, p2⟩ := c_pt (r_c (Kd.R_below HR9.out hbj.out)) j (by omega)
            obtain ⟨ad', rfl, p3, p4, p5⟩ := c_pt (Kd.C_below HC9.out hbj.out) j hlt
            rw [hRd.out j hlt] at p0 p1 p2
            have q4 : (0 : Int) ≤ (j : Int) := by omega
            have q5 : (j : Int) < ((own k).1.length : Int) := by omega
            have q6 : (j : Int) < ((jd G own k).1.length : Int) := by omega
            have q7 : decide (((jd G own k).1.length : Int) ≤ (j : Int)) = false := decide_eq_false (by omega)
            have q8 : decide ((jd G own k).1.length ≤ j) = false := decide_eq_false (by omega)
            go_upto_region 25 with (fail)
            go_quiet (fail)
            clear q7 q8 p0 p1 p2 p3 p4 p5
            go_wp2_with fail
            exact ⟨⟨j + 1, by simp, by omega, ⟨hbj.out.os, hbj.out.tape, hbj.out.output, hbj.out.size, hbj.out.block⟩⟩, by simp [intOf]; omega⟩
          · obtain rfl : j = (own k).1.length := by omega
            go_wp2_with fail
            go_ret
            refine ⟨?_, hB2.trans ((HB9.out.trans (hbj.out.mono (by omega))).mono hB2.size)⟩
            rfl
theorem Sums_any (v : Value) (l : List Int) (n : Int) (w : World) (hv : Rn w v l) (hl : l.length * 8 ≤ 140737488351232) (_ : ∀ x ∈ l, (Lit.int .i64 x).wf = true) (_ : (Lit.int .i64 n).wf = true) :
    Calls Try.prog 6 #[v, .int .i64 n] w fun e w' => e = .returned (.bool true) ∧ Below w.heap.size w w' :=
  Sums_calls v l n w fun _ hW => (made_calls false (hv.below hW) hl).mono fun _ _ h => made_flat h
end Go.Proofs.Ytajjailmmbcolaa
