/- compose: Order. -/
import Derived.Test.YtajjailmmbcolaaCe
namespace Go.Proofs.Ytajjailmmbcolaa
open Go Go.Proofs Go.RowKit Go.Shelf
attribute [local go_sem] Oper.semAt_some

/-- What Order hands back. -/
def OrderP (G : Gs) (w : World) (e : Ending) (w' : World) : Prop := Below w.heap.size w w' ∧
  ((∃ g : Nat, e = .returned (.tuple #[.slice none 0 0, .int .i64 g, .int .i64 33]) ∧ g < G.length ∧ Loop G g ∧ ∀ h, h < g → ¬ Loop G h) ∨
   (∃ v, e = .returned (.tuple #[v, .int .i64 0, .int .i64 0]) ∧ (∀ h, h < G.length → ¬ Loop G h) ∧ Ow w' w.heap.size v (ord G G.length)))
set_option maxRecDepth 100000 in
set_option maxHeartbeats 4000000 in
theorem Order_calls (f : Fv) (G : Gs) (n₀ : Nat) (hN : G.length ≤ 1000000) (w : World) (hG : GlyphsAt n₀ w f.a G) (hn₀ : n₀ ≤ w.heap.size) :
    Calls Try.prog 12 #[.agg (f.cells G.length)] w (OrderP G w) := by
  have hmm := @run_makeMap Try.prog
  refine (callsIn_wide (n := 6)).1 ?_
  refine callsIn_of_wp Try.func12 rfl trivial ?_ rfl
  simp only [Try.ntmps12, List.size_toArray, List.length_cons, List.length_nil, Nat.reduceAdd, Nat.reduceSub, Array.replicate_succ, Array.replicate_zero, List.push_toArray, List.append_toArray, List.nil_append, List.cons_append, Fv.cells]
  have hB0 : Below w.heap.size w (w.alloc (.cells (f.cells G.length) 32)) := (Below.refl _ w).alloc (Nat.le_refl _) _
  have hb0 := Bx.new w (f.cells G.length) 32
  have hs0 := World.size_alloc w (.cells (f.cells G.length) 32)
  gi_wp2
  simp only [Fv.cells] at hB0 hb0 hs0
  generalize hW0 : w.alloc (.cells _ 32) = W0 at hB0 hb0 hs0 ⊢
  gi_loopw [13] (fun i wr => ∃ k : Nat, k ≤ G.length ∧ i = .int .i64 k ∧ (∀ h, h < k → ¬ Loop G h) ∧ Below W0.heap.size W0 wr)
    (fun i _ => G.length - (intOf i).toNat)
  case atStart => exact ⟨0, Nat.zero_le _, rfl, by simp, Below.refl _ _⟩
  case round =>
    obtain ⟨k, hk, rfl, hno, hbw⟩ := hrel
    have hfr := hb0.kept (hbw.block w.heap.size (by omega))
    have f0 := hfr.cell 0
    have f1 := hfr.cell 1
    have f2 := hfr.cell 2
    have f3 := hfr.cell 3
    have f4 := hfr.cell 4
    have f5 := hfr.cell 5
    have f6 := hfr.cell 6
    have f7 := hfr.cell 7
    have f8 := hfr.cell 8
    by_cases hlt : k < G.length
    · have hun := under_calls f G n₀ hN k hlt wr (hG.below (fun j hj => (hbw.block j (by omega)).trans (hB0.block j (by omega))) (Nat.le_refl _)) (by have := hbw.size; omega)
      simp only [Fv.cells] at hun
      have q1 : (k : Int) < (G.length : Int) := by omega
      gi_wp2_with (refine ⟨trivial, ?_⟩; gi_at_call 21; refine (callsIn_wide.2 hun).mono ?_; rintro e w1 ⟨ys, rfl, hgr, hb1, hM1⟩; have hlook := hM1.look k (by omega))
      · rename_i hin
        refine bodyPost_ret (results_tmp3 rfl _ _ _) rfl ?_
        exact ⟨(hB0.trans (hbw.mono (by omega))).trans (hb1.mono (by have := hbw.size; omega)), .inl ⟨k, rfl, hlt, (hgr.mem_iff k).1 hin, hno⟩⟩
      · rename_i hin
        refine ⟨⟨k + 1, by omega, by simp, fun h hh => ?_, hbw.trans (hb1.mono hbw.size)⟩, by simp [intOf]; omega⟩
        by_cases e : h = k
        · subst e; exact fun hl => hin ((hgr.mem_iff h).2 hl)
        · exact hno h (by omega)
    · obtain rfl : k = G.length := by omega
      clear hlt hk
      have hws := hbw.size
      have hM0 := World.ownsMap_made wr Try.prog 3 (plainElem (H := Unit) Try.prog 4)
      have hb2 := Bx.new (wr.alloc (.map #[] 0)) #[.map (some wr.heap.size)] 49
      have hfr2 := (hfr.alloc (.map #[] 0)).alloc (.cells #[.map (some wr.heap.size)] 49)
      have f0' := hfr2.cell 0
      have f1' := hfr2.cell 1
      simp only [World.size_alloc] at hb2
      gi_wp2
      have hM2 : Mk ((wr.alloc (.map #[] 0)).alloc (.cells #[.map (some wr.heap.size)] 49)) wr.heap.size [] := hM0.alloc _
      have hbw2 : Below W0.heap.size W0 ((wr.alloc (.map #[] 0)).alloc (.cells #[.map (some wr.heap.size)] 49)) := (hbw.alloc hws _).alloc (by simp [World.size_alloc]; omega) _
      have hs2 : ((wr.alloc (.map #[] 0)).alloc (.cells #[.map (some wr.heap.size)] 49)).heap.size = wr.heap.size + 2 := by simp [World.size_alloc]
      generalize (wr.alloc (.map #[] 0)).alloc (.cells #[.map (some wr.heap.size)] 49) = W2 at *
      generalize hm : wr.heap.size = m at *
      clear f0 f1 f2 f3 f4 f5 f6 f7 f8 f0' f1' hfr hM0 hmm
      gi_loopw [28, 8] (fun i v w3 => ∃ k : Nat, k ≤ G.length ∧ i = .int .i64 k ∧ Mk w3 m (ord G k) ∧ Ow w3 W2.heap.size v (ord G k) ∧ Bk m W2.heap.size W2 w3)
        (fun i _ _ => G.length - (intOf i).toNat)
      case atStart => exact ⟨0, Nat.zero_le _, rfl, hM2, Ow.nil _ _, Bk.refl _ _ _⟩
      case round =>
        obtain ⟨k, hk, rfl, hM3, hO3, hk3⟩ := hrel
        obtain ⟨hnd, hlt0, hlen⟩ := ord_props G k
        have hs3 := hk3.size
        have g1 := (hfr2.kept (hk3.block _ (by omega) (by omega))).cell 1
        have hwm : w.heap.size < m := by omega
        by_cases hlt : k < G.length
        · have q1 : (k : Int) < (G.length : Int) := by omega
          gi_wp2
          clear g1
          gi_loopw [33, 8] (fun i v w4 => ∃ j : Nat, j ≤ G.length ∧ i = .int .i64 j ∧ v = u8 ∧ (∀ h, h < j → isReady G (ord G k) h = false) ∧ Mk w4 m (ord G k) ∧ Ow w4 W2.heap.size v (ord G k) ∧ Bk m W2.heap.size W2 w4)
            (fun i _ _ => G.length - (intOf i).toNat)
          case atStart => exact ⟨0, Nat.zero_le _, rfl, rfl, by simp, hM3, hO3, hk3⟩
          case round =>
            obtain ⟨j, hj, rfl, rfl, hnr, hM4, hO4, hk4⟩ := hrel
            have hs4 := hk4.size
            have hf4 := hfr2.kept (hk4.block _ (by omega) (by omega))
            have g1 := hf4.cell 1
            have hb4 := hb2.kept (hk4.block _ (by omega) (by omega))
            by_cases hlj : j < G.length
            · have q2 : (j : Int) < (G.length : Int) := by omega
              have hrdy := ready_calls f G n₀ m w.heap.size (m + 1) hN (by omega) j hlj (ord G k) wr (hG.below (fun i hi => ((hk4.block i (by omega) (by omega)).trans (hbw2.block i (by omega))).trans (hB0.block i (by omega))) (Nat.le_refl _)) hM4 (by omega) hf4 hb4
              by_cases hr : isReady G (ord G k) j = true
              · have hr' := hr
                unfold isReady at hr'
                rw [hr'] at hrdy
                have hpk := pick_some hlj hr hnr
                have hord : ord G (k + 1) = ord G k ++ [j] := by simp only [ord, grow, hpk]
                have hml : (ord G k).length < maxLen := by unfold maxLen; omega
                have hj' : j < 9223372036854775808 := by omega
                gi_wp2_with (first
                  | (refine ⟨trivial, ?_⟩; gi_at_call 22; refine (callsIn_wide.2 hrdy).mono ?_; rintro e w5 ⟨rfl, hb5⟩; have c5 := (hb4.kept (hb5.block _ hb4.lt)).cell 0; have hM5 : Mk w5 m (ord G k) := World.ownsMap.kept hM4 (row := none) ⟨hb5.os, hb5.tape, hb5.output, hb5.size, fun i hi _ => hb5.block i hi⟩ (by simp); have hO5 := hO4.below hb5; have hk5 : Bk m W2.heap.size W2 w5 := hk4.trans (Bk.of_below (hb5.mono hs4)))
                  | (gi_at_mapUpdate; refine wpListIn_mapUpdate_own _ rfl _ _ _ 49 rfl 3 4 (Maps.int_keyed Try.underlying3) Try.underlying49 _ m (ord G k).length _ rfl hM5 hml _ _ _ rfl rfl (Maps.keyOf_int_mk Try.underlying3 (wf_nat hj')) _ [] (plainElem_bool Try.underlying4 true) ?_; intro w6 hown6 hgrow6; have hM6 : Mk w6 m (ord G (k + 1)) := (by unfold Mk; rw [hord, DM_snoc, List.length_append]; exact hown6); have hne : some m ≠ u8.ownBlock := (fun e => by have := (World.ownsRow.lt hO5 m e.symm).1; omega); have hO6 : Ow w6 W2.heap.size u8 (ord G k) := World.ownsRow.kept hO5 hgrow6 (.inr hne.symm); have hk6 : Bk m W2.heap.size W2 w6 := hk5.trans (Bk.of_grown hgrow6 hk5.size); have hs6 := hk6.size)
                  | (gi_at_builtin; refine wpListIn_push W2.heap.size rfl (.tmp 41) (.tmp 43) 22 3 8 rfl Try.underlying22 info3 rfl rfl u8 (ord G k) j rfl rfl hO6 hs6 (by omega) ?_; intro v7 w7 hO7 hb7 hk7; have hM7 : Mk w7 m (ord G (k + 1)) := World.ownsMap.kept (row := u8.ownBlock) hM6 ⟨hb7.os, hb7.tape, hb7.output, hb7.size, hk7⟩ hne; have hk8 : Bk m W2.heap.size W2 w7 := hk6.trans (Bk.of_below hb7)))
                refine ⟨⟨k + 1, by omega, by simp, hM7, by rw [hord]; exact hO7, hk8⟩, by simp [intOf]; omega⟩
              · have hr0 : isReady G (ord G k) j = false := by simpa using hr
                have hr' := hr0
                unfold isReady at hr'
                rw [hr'] at hrdy
                gi_wp2_with (refine ⟨trivial, ?_⟩; gi_at_call 22; refine (callsIn_wide.2 hrdy).mono ?_; rintro e w5 ⟨rfl, hb5⟩; have hM5 : Mk w5 m (ord G k) := World.ownsMap.kept hM4 (row := none) ⟨hb5.os, hb5.tape, hb5.output, hb5.size, fun i hi _ => hb5.block i hi⟩ (by simp); have hO5 := hO4.below hb5; have hk5 : Bk m W2.heap.size W2 w5 := hk4.trans (Bk.of_below (hb5.mono hs4)))
                refine ⟨⟨j + 1, by omega, by simp, rfl, fun h hh => ?_, hM5, hO5, hk5⟩, by simp [intOf]; omega⟩
                by_cases e : h = j
                · rw [e]; exact hr0
                · exact hnr h (by omega)
            · obtain rfl : j = G.length := by omega
              have hpk := pick_none hnr
              have hord : ord G (k + 1) = ord G k := by simp only [ord, grow, hpk]
              gi_wp2
              refine ⟨⟨k + 1, by omega, by simp, by rw [hord]; exact hM4, by rw [hord]; exact hO4, hk4⟩, by simp [intOf]; omega⟩
        · obtain rfl : k = G.length := by omega
          gi_wp2
          refine bodyPost_ret (results_tmp3 rfl _ _ _) rfl ?_
          exact ⟨(hB0.trans (hbw2.mono (by omega))).trans ((hk3.mono (by omega)).below (by omega)), .inr ⟨u8, rfl, hno, hO3.mono (by omega)⟩⟩
end Go.Proofs.Ytajjailmmbcolaa
