/- ComposeAhead, walked. -/
import Derived.StillTailTactics
import Derived.Deep.QuietTactic
import Derived.BigQuiet
import Derived.Lib.Hide
import Derived.Maps.Own
import Derived.Maps.OwnOps
import Derived.Test.YtajjailmmbcolaaCs
namespace Go.Proofs.Ytajjailmmbcolaa
open Go Go.Proofs Go.RowKit Go.Shelf Go.Maps
set_option linter.unusedSimpArgs false

/-- A font that a call hands back. -/
def FontP (Q : Gs → Prop) (w : World) (e : Ending) (w' : World) : Prop :=
  ∃ (f : Fv) (G : Gs), Q G ∧ e = .returned (.agg (f.cells G.length)) ∧ GlyphsAt w'.heap.size w' f.a G ∧ Below w.heap.size w w'
/-- What a font by numbers is like. -/
structure Few (G : Gs) : Prop where
  pos : 1 ≤ G.length
  le : G.length ≤ 1000000
  part : ∀ g (h : g < G.length), ∀ p ∈ G[g], -1 ≤ p.1 ∧ p.1 < (G.length : Int)

theorem GlyphsAt.at' {n₀ : Nat} {W : World} {b o : Nat} {G : Gs} (h : GlyphsAt n₀ W (some ⟨b, o, none⟩) G) (i : Nat) (hi : i < G.length) :
    b < n₀ ∧ ∃ pa pc, W.cell? ⟨b, o + i * 9 + 5, none⟩ = some (.slice pa G[i].length pc) ∧ G[i].length ≤ 1000000 ∧ PartsAt n₀ W pa G[i] := by
  obtain ⟨b', o', pa, pc, e, h1, h2, h3, h4⟩ := h i hi
  injection e with e
  injection e with e1 e2
  subst e1 e2
  exact ⟨h1, pa, pc, h2, h3, h4⟩
theorem GlyphsAt.where' {n₀ : Nat} {W : World} {a : Option Addr} {G : Gs} (h : GlyphsAt n₀ W a G) (hi : 1 ≤ G.length) : ∃ b o, a = some ⟨b, o, none⟩ := by
  obtain ⟨b, o, _, _, ha, _⟩ := h 0 (by omega)
  exact ⟨b, o, ha⟩
/-- None of the first k parts leads to g. -/
def Away (G : Gs) (g k : Nat) : Prop := ∀ (hg : g < G.length) (j : Nat) (h : j < G[g].length), j < k → ∀ p : Nat, G[g][j].1 = (p : Int) → p < G.length → p ≠ g ∧ ¬ From G (kids G p) g
theorem Away.loop {G : Gs} {g : Nat} (hg : g < G.length) (h : Away G g G[g].length) (hL : Loop G g) : False := by
  obtain ⟨p, hp, h1⟩ := loop_part hL
  obtain ⟨j, hj, e, hlt⟩ := (mem_kids hg).1 hp
  obtain ⟨h2, h3⟩ := h hg j hj hj p e hlt
  rcases h1 with h1 | h1
  · exact h2 h1
  · exact h3 h1
theorem Away.step {G : Gs} {g k : Nat} (hg : g < G.length) (hk : k < G[g].length) (h : Away G g k) {L : List Nat} (hL : ∀ x, x ∈ L ↔ (0 ≤ G[g][k].1 ∧ G[g][k].1 < (G.length : Int)) ∧ (x = G[g][k].1.toNat ∨ From G (kids G G[g][k].1.toNat) x)) (hn : g ∉ L) : Away G g (k + 1) := by
  intro hg' j hj hjk p e hlt
  by_cases hjk' : j < k
  · exact h hg' j hj hjk' p e hlt
  · obtain rfl : j = k := by omega
    have h1 := fun h => hn ((hL g).2 h)
    have hp : G[g][j].1.toNat = p := by omega
    rw [hp] at h1
    have h2 : 0 ≤ G[g][j].1 ∧ G[g][j].1 < (G.length : Int) := by omega
    refine ⟨fun e' => h1 ⟨h2, .inl e'.symm⟩, fun e' => h1 ⟨h2, .inr e'⟩⟩
theorem cells_load {w : World} {b : Nat} {f : Fv} {n : Nat} {t : TypeId} (h : Bx w b (f.cells n) t) : ∀ i, w.cell? ⟨b, i, none⟩ = (f.cells n)[i]? := fun i => h.cell i

set_option maxRecDepth 100000 in
set_option maxHeartbeats 4000000 in
theorem Ahead_calls (v : Value) (w : World) (hmade : ∀ W, Below w.heap.size w W → Calls Try.prog 11 #[v, .bool true] W (FontP Few W)) : Calls Try.prog 3 #[v] w fun e w' => e = .returned (.bool true) ∧ Below w.heap.size w w' := by
  have HM := Lib.hid hmade
  clear hmade
  go_enter Try.func3, Try.ntmps3
  go_wp2_with fail
  refine (awake_calls w).mono ?_
  rintro e w1 ⟨rfl, hb1⟩
  go_wp2_with fail
  refine (HM.out w1 hb1).mono ?_
  rintro e w2 ⟨⟨u, a, c, r2, r3, r4, r5, r6, r7, r8⟩, G, hF, rfl, hG, hb2⟩
  obtain ⟨b, o, ha⟩ := hG.where' hF.pos
  simp only at ha hG
  subst ha
  have hB2 := hb1.trans (hb2.mono hb1.size)
  have hN := hF.le
  have HF := Lib.hid hF
  clear hF hb1 hb2 HM
  simp only [Fv.cells]
  go_wp2_with fail
  have hbx := Bx.new w2 ((Fv.mk u (some ⟨b, o, none⟩) c r2 r3 r4 r5 r6 r7 r8).cells G.length) 32
  have hBW : Below w2.heap.size w2 (w2.alloc (.cells ((Fv.mk u (some ⟨b, o, none⟩) c r2 r3 r4 r5 r6 r7 r8).cells G.length) 32)) := (Below.refl _ _).alloc (Nat.le_refl _) _
  have hsW : (w2.alloc (.cells ((Fv.mk u (some ⟨b, o, none⟩) c r2 r3 r4 r5 r6 r7 r8).cells G.length) 32)).heap.size = w2.heap.size + 1 := by rw [World.size_alloc]
  have ho := Order_calls (Fv.mk u (some ⟨b, o, none⟩) c r2 r3 r4 r5 r6 r7 r8) G w2.heap.size hN _ (hG.below (fun k hk => hBW.block k hk) (Nat.le_refl _)) (by rw [hsW]; omega)
  generalize hW : w2.alloc (.cells ((Fv.mk u (some ⟨b, o, none⟩) c r2 r3 r4 r5 r6 r7 r8).cells G.length) 32) = W at hbx hBW hsW ho
  simp only [Fv.cells] at hW ho
  rw [hW]
  clear hW
  refine ho.mono ?_
  clear ho
  rintro e w3 ⟨hb3, ⟨g, rfl, hg, hL, hmin⟩ | ⟨v3, rfl, hno, hO⟩⟩
  · have hBk3 : Below w2.heap.size w2 w3 := hBW.trans (hb3.mono (by omega))
    have hG3 : GlyphsAt w2.heap.size w3 (some ⟨b, o, none⟩) G := hG.below (fun k hk => hBk3.block k hk) (Nat.le_refl _)
    have hbx3 := hbx.kept (hb3.block _ (by omega))
    obtain ⟨hbl, pa, pc, hcell, hplen, hps⟩ := hG3.at' g hg
    have f0 := hbx3.cell 0
    have f1 := hbx3.cell 1
    simp only [Fv.cells] at f0 f1
    have hgN : decide ((G.length : Int) ≤ (g : Int)) = false := decide_eq_false (by omega)
    have hg0 : decide ((g : Int) < 0) = false := decide_eq_false (by omega)
    clear hmin
    go_wp2_with fail
    have HL := Lib.hid hL
    clear hL hgN hg0
    go_loopw [8] (fun i wr => ∃ k : Nat, i = .int .i64 k ∧ k ≤ G[g].length ∧ Hid (Away G g k) ∧ Below w3.heap.size w3 wr) (fun i _ => G[g].length - (intOf i).toNat)
    case atStart => exact ⟨0, rfl, Nat.zero_le _, fun _ j _ h => absurd h (Nat.not_lt_zero _), Below.refl _ _⟩
    case round =>
      obtain ⟨k, rfl, hk, hA, hbr⟩ := hrel
      by_cases hlt : k < G[g].length
      · have hs3 := hb3.size
        have hs4 := hbr.size
        have hbxr := hbx3.kept (hbr.block _ (by omega))
        have hcellr : wr.cell? ⟨b, o + g * 9 + 5, none⟩ = _ := (World.cell?_of_block (hbr.block b (by omega))).trans hcell
        obtain ⟨pb, po, rfl, hpb, hp0, _, _⟩ := hps k hlt
        replace hp0 : wr.cell? ⟨pb, po + k * 3, none⟩ = _ := (World.cell?_of_block (hbr.block pb (by omega))).trans hp0
        clear hcell
        have f0 := hbxr.cell 0
        have f1 := hbxr.cell 1
        have f2 := hbxr.cell 2
        have f3 := hbxr.cell 3
        have f4 := hbxr.cell 4
        have f5 := hbxr.cell 5
        have f6 := hbxr.cell 6
        have f7 := hbxr.cell 7
        have f8 := hbxr.cell 8
        simp only [Fv.cells] at f0 f1 f2 f3 f4 f5 f6 f7 f8
        have q0 : (0 : Int) ≤ (k : Int) := by omega
        have q1 : (k : Int) < (G[g].length : Int) := by omega
        have q2 : (0 : Int) ≤ (g : Int) := by omega
        have q3 : (g : Int) < (G.length : Int) := by omega
        go_upto_region 10 with (fail)
        go_still_tail 11, (by kernel_rfl)
        have hbd : Below w3.heap.size w3 wr.drew := hbr.drew
        change wpList _ _ _ _ _ wr.drew
        generalize wr.drew = wd at hbd
        have hsd := hbd.size
        clear f0 f1 f2 f3 f4 f5 f6 f7 f8 hp0 hcellr hbxr hbr
        go_wp2_with fail
        have hall := All_calls (Fv.mk u (some ⟨b, o, none⟩) c r2 r3 r4 r5 r6 r7 r8) G w2.heap.size hN G[g][k].1 wd (hG3.below (fun j hj => hbd.block j (by omega)) (Nat.le_refl _)) (by omega)
        simp only [Fv.cells] at hall
        refine hall.mono ?_
        clear hall
        rintro e w4 ⟨L, _, hmemL, hL2, hb4, aL, capL, rfl, hcapL, hcL⟩
        have HmL := Lib.hid hmemL
        clear hmemL
        have hb34 := hbd.trans (hb4.mono hsd)
        go_wp2_with fail
        go_loop [10] (fun i => ∃ j : Nat, i = .int .i64 j ∧ j ≤ L.length ∧ Hid (∀ h, h < j → L.getD h 0 ≠ g)) (fun i => L.length - (intOf i).toNat)
        case atStart => exact ⟨0, rfl, Nat.zero_le _, fun h hh => absurd hh (Nat.not_lt_zero _)⟩
        case round =>
          obtain ⟨j, rfl, hj, hne⟩ := hrel
          by_cases hjl : j < L.length
          · rcases hcL with rfl | ⟨bL, rfl, _, hcL⟩
            · exact absurd hjl (by simp)
            · have hcj := (hcL j hjl).1
              have q4 : (j : Int) < (L.length : Int) := by omega
              by_cases he : L.getD j 0 = g
              · rw [he] at hcj
                go_wp2
                go_ret
                exact ⟨rfl, hB2.trans ((hBk3.mono hB2.size).trans (hb34.mono (by have := hB2.size; have := hBW.size; omega)))⟩
              · have hgl : L.getD j 0 = L[j] := by simp [List.getD_eq_getElem?_getD, hjl]
                rw [hgl] at hcj
                have he' : (((L[j] : Nat) : Int) == (g : Int)) = false := by
                  rw [hgl] at he
                  simpa using (fun e => he (by omega))
                clear hgl
                have hE := Lib.hid he
                clear he
                go_wp2
                refine ⟨⟨j + 1, by go_num, by omega, fun h hh => ?_⟩, by simp [intOf]; omega⟩
                by_cases e : h = j
                · rw [e]; exact hE.out
                · exact hne.out h (by omega)
          · have hnL : Hid (g ∉ L) := fun hm => by
              obtain ⟨i, hi, e⟩ := List.getElem_of_mem hm
              exact hne.out i (by omega) (by simp [List.getD_eq_getElem?_getD, hi, e])
            go_wp2
            go_roundw
            case rel => first | exact ⟨k + 1, by go_num, by omega, hA.out.step hg hlt HmL.out hnL.out, hb34⟩ | exact ⟨k + 1, by go_num, by omega, hA.out.step hg hlt HmL.out hnL.out⟩
            case measure => simp [intOf]; omega
      · exfalso
        obtain rfl : k = G[g].length := by omega
        exact hA.out.loop hg HL.out
  · have hBk3 : Below w2.heap.size w2 w3 := hBW.trans (hb3.mono (by omega))
    have hG3 : GlyphsAt w2.heap.size w3 (some ⟨b, o, none⟩) G := hG.below (fun k hk => hBk3.block k hk) (Nat.le_refl _)
    have hbx3 := hbx.kept (hb3.block _ (by omega))
    have hs3 := hb3.size
    have hB3 : Below w.heap.size w w3 := hB2.trans (hBk3.mono hB2.size)
    have hOl := ord_len hno G.length (Nat.le_refl _)
    obtain ⟨hnd, hOlt, _⟩ := ord_props G G.length
    have hah := ord_ahead G G.length
    have hne : ord G G.length ≠ [] := fun e => by rw [e] at hOl; have := HF.out.pos; simp at hOl; omega
    obtain ⟨bl, cap, rfl, hcap, hbb, hbl, hcl⟩ := hO.cells hne
    clear hO hne
    generalize ord G G.length = O at *
    have hOL := Lib.hid hOl
    have HND := Lib.hid hnd
    have HOLT := Lib.hid hOlt
    have HAH := Lib.hid hah
    have HCL := Lib.hid hcl
    have hO1 : O.length ≤ 1000000 := by omega
    have hO2 : O.length ≤ G.length := by omega
    clear hOl hnd hOlt hah hcl hno
    have hmm := @run_makeMap Try.prog
    go_wp2_with fail
    have hM0 : Mk (w3.alloc (.map #[] 0)) w3.heap.size [] := World.ownsMap_made _ _ _ _
    have hB4 : Below w3.heap.size w3 (w3.alloc (.map #[] 0)) := (Below.refl _ _).alloc (Nat.le_refl _) _
    have hs4 : (w3.alloc (.map #[] 0)).heap.size = w3.heap.size + 1 := by rw [World.size_alloc]
    generalize w3.alloc (.map #[] 0) = W4 at hM0 hB4 hs4 ⊢
    clear hmm
    go_loopw [12] (fun i wr => ∃ k : Nat, i = .int .i64 k ∧ k ≤ O.length ∧ Hid (Mk wr w3.heap.size (O.take k)) ∧ Hid (Below w3.heap.size w3 wr)) (fun i _ => O.length - (intOf i).toNat)
    case atStart => exact ⟨0, rfl, Nat.zero_le _, hM0, hB4⟩
    case round =>
      obtain ⟨k, rfl, hk, hM, hbr⟩ := hrel
      have hs5 := hbr.out.size
      have hbxr := hbx3.kept (hbr.out.block _ (by omega))
      have f1 := hbxr.cell 1
      simp only [Fv.cells] at f1
      by_cases hlt : k < O.length
      · have hgl : O.getD k 0 = O[k] := by simp [List.getD_eq_getElem?_getD, hlt]
        have hcx : wr.cell? ⟨bl, k, none⟩ = some (.int .i64 ((O[k] : Nat) : Int)) := by
          rw [← hgl]
          exact (World.cell?_of_block (hbr.out.block bl (by omega))).trans (HCL.out k hlt).1
        clear hgl
        have hxlt := HOLT.out O[k] (List.getElem_mem hlt)
        obtain ⟨hbg, pa, pc, hcell, hplen, hps⟩ := hG3.at' O[k] hxlt
        have hcellr : wr.cell? ⟨b, o + O[k] * 9 + 5, none⟩ = _ := (World.cell?_of_block (hbr.out.block b (by omega))).trans hcell
        have hcell0 := hcell
        clear hcell
        have hnot : O[k] ∉ O.take k := fun hm => by
          obtain ⟨i, hi, e⟩ := List.mem_take_iff_getElem.1 hm
          have := (List.pairwise_iff_getElem.1 HND.out) i k (by omega) hlt (by omega)
          exact this e
        have hlook : ∀ n, (Instr.lookup 49 (.map (some w3.heap.size)) (.int .i64 ((O[k] : Nat) : Int)) false).run Try.prog (wr.drewN n) = .ok (.bool false) (wr.drewN n) := fun n => by
          have := Mk.look (w := wr.drewN n) (World.ownsMap.kept hM.out (row := none) ⟨rfl, rfl, rfl, Nat.le_refl _, fun _ _ _ => rfl⟩ (by simp)) O[k] (by omega)
          rwa [decide_eq_false hnot] at this
        clear hnot
        generalize hxe : O[k] = x at *
        have HX := Lib.hid hxe
        clear hxe
        have q0 : (0 : Int) ≤ (k : Int) := by omega
        have q1 : (k : Int) < (O.length : Int) := by omega
        have q2 : (0 : Int) ≤ (x : Int) := by omega
        have q3 : (x : Int) < (G.length : Int) := by omega
        have d1 : decide ((x : Int) < 0) = false := decide_eq_false (by omega)
        have d2 : decide ((G.length : Int) ≤ (x : Int)) = false := decide_eq_false (by omega)
        have d3 : decide (G.length ≤ x) = false := decide_eq_false (by omega)
        go_upto_region 21 with (fail)
        go_quiet (fail)
        clear d1 d2 d3 hlook
        go_wp2_with fail
        have hMq : Mk (wr.drewN nq) w3.heap.size (O.take k) := World.ownsMap.kept hM.out (row := none) ⟨rfl, rfl, rfl, Nat.le_refl _, fun _ _ _ => rfl⟩ (by simp)
        have hbq : Below w3.heap.size w3 (wr.drewN nq) := ⟨hbr.out.os, hbr.out.tape, hbr.out.output, hbr.out.size, hbr.out.block⟩
        generalize wr.drewN nq = wq at hMq hbq ⊢
        clear hcx hcellr f1 hbxr hs5 hM hbr
        go_loopw [13] (fun i wr => ∃ j : Nat, i = .int .i64 j ∧ j ≤ G[x].length ∧ Hid (Mk wr w3.heap.size (O.take k)) ∧ Hid (Below w3.heap.size w3 wr)) (fun i _ => G[x].length - (intOf i).toNat)
        case atStart => exact ⟨0, rfl, Nat.zero_le _, hMq, hbq⟩
        case round =>
          obtain ⟨j, rfl, hj, hM, hbr⟩ := hrel
          have hs5 := hbr.out.size
          have hbxr := hbx3.kept (hbr.out.block _ (by omega))
          have f1 := hbxr.cell 1
          simp only [Fv.cells] at f1
          have hcx : wr.cell? ⟨bl, k, none⟩ = some (.int .i64 (x : Int)) := by
            rw [← HX.out]
            have := (World.cell?_of_block (hbr.out.block bl (by omega))).trans (HCL.out k hlt).1
            simpa [List.getD_eq_getElem?_getD, hlt] using this
          have hcellr : wr.cell? ⟨b, o + x * 9 + 5, none⟩ = some (.slice pa G[x].length pc) := (World.cell?_of_block (hbr.out.block b (by omega))).trans hcell0
          by_cases hjl : j < G[x].length
          · have q4 : (0 : Int) ≤ (j : Int) := by omega
            have q5 : (j : Int) < (G[x].length : Int) := by omega
            obtain ⟨pb, po, rfl, hpb, hp0, _, _⟩ := hps j hjl
            replace hp0 : wr.cell? ⟨pb, po + j * 3, none⟩ = _ := (World.cell?_of_block (hbr.out.block pb (by omega))).trans hp0
            have hpart := HF.out.part x hxlt G[x][j] (List.getElem_mem hjl)
            go_upto_region 24 with (fail)
            go_quiet (fail)
            rename Nat => n1
            go_upto_region 26 with (fail)
            go_quiet (fail)
            have hMe : Mk ((wr.drewN n1).drewN nq) w3.heap.size (O.take k) := World.ownsMap.kept hM.out (row := none) ⟨rfl, rfl, rfl, Nat.le_refl _, fun _ _ _ => rfl⟩ (by simp)
            have hbe : Below w3.heap.size w3 ((wr.drewN n1).drewN nq) := ⟨hbr.out.os, hbr.out.tape, hbr.out.output, hbr.out.size, hbr.out.block⟩
            generalize (wr.drewN n1).drewN nq = we at hMe hbe ⊢
            clear f1 hcx hcellr hp0 hbxr hs5 hM hbr hMq hbq
            have HMe := Lib.hid hMe
            have HBe := Lib.hid hbe
            by_cases hp : 0 ≤ G[x][j].1
            · have d1 : decide (0 ≤ G[x][j].1) = true := decide_eq_true hp
              have hin : G[x][j].1.toNat ∈ O.take k := by
                have hq : G[x][j].1.toNat ∈ kids G O[k] := by
                  rw [HX.out]
                  exact (mem_kids hxlt).2 ⟨j, hjl, by omega, by omega⟩
                exact HAH.out k hlt _ hq
              have hlook := hMe.look G[x][j].1.toNat (by omega)
              rw [decide_eq_true hin, show ((G[x][j].1.toNat : Nat) : Int) = G[x][j].1 from by omega] at hlook
              clear hin hMe hbe
              go_wp2
              go_roundw
              case rel => exact ⟨j + 1, by go_num, by omega, HMe, HBe⟩
              case measure => simp [intOf]; omega
            · have d1 : decide (0 ≤ G[x][j].1) = false := decide_eq_false hp
              clear hMe hbe
              go_wp2
              go_roundw
              case rel => exact ⟨j + 1, by go_num, by omega, HMe, HBe⟩
              case measure => simp [intOf]; omega
          · obtain rfl : j = G[x].length := by omega
            go_upto_region 24 with (fail)
            go_quiet (fail)
            have hMe : Mk (wr.drewN nq) w3.heap.size (O.take k) := World.ownsMap.kept hM.out (row := none) ⟨rfl, rfl, rfl, Nat.le_refl _, fun _ _ _ => rfl⟩ (by simp)
            have hbe : Below w3.heap.size w3 (wr.drewN nq) := ⟨hbr.out.os, hbr.out.tape, hbr.out.output, hbr.out.size, hbr.out.block⟩
            replace hcx : (wr.drewN nq).cell? ⟨bl, k, none⟩ = some (.int .i64 (x : Int)) := hcx
            generalize wr.drewN nq = we at hMe hbe hcx ⊢
            clear f1 hcellr hbxr hs5 hM hbr hMq hbq
            have hml : (O.take k).length < maxLen := by have := List.length_take_le k O; unfold maxLen; omega
            have hwx := wf_nat (k := x) (by omega)
            have HBe := Lib.hid hbe
            have htk : Hid (O.take k ++ [x] = O.take (k + 1)) := by
              show _ = _
              rw [take_succ' O k hlt, HX.out]
            go_wp2_with (at_mapUpdate; refine wpList_mapUpdate_own _ rfl _ _ _ 49 rfl 3 4 (Maps.int_keyed Try.underlying3) Try.underlying49 _ w3.heap.size (O.take k).length _ rfl hMe hml _ _ _ rfl rfl (Maps.keyOf_int_mk Try.underlying3 hwx) _ [] (plainElem_bool Try.underlying4 true) ?_; intro w6 hown6 hgrow6; have HM6 : Hid (Mk w6 w3.heap.size (O.take (k + 1))) := (by rw [← htk.out]; unfold Mk; rw [DM_snoc, List.length_append]; exact hown6); have HB6 : Hid (Below w3.heap.size w3 w6) := HBe.out.grown hgrow6 HBe.out.size (fun j hj => by injection hj with hj; omega))
            refine ⟨⟨k + 1, by go_num, by omega, HM6, HB6⟩, by simp [intOf]; omega⟩
      · obtain rfl : k = O.length := by omega
        have hlast : Hid (Below w.heap.size w wr) := hB3.trans (hbr.out.mono hB3.size)
        have d1 : ((O.length : Int) == (G.length : Int)) = true := by simp [hOL.out]
        have d2 : decide ((O.length : Int) = (G.length : Int)) = true := by simp [hOL.out]
        have d3 : (O.length == G.length) = true := by simp [hOL.out]
        clear hM hbr
        go_wp2
        go_ret
        exact ⟨rfl, hlast.out⟩
end Go.Proofs.Ytajjailmmbcolaa
