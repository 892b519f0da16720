/- compose: below. -/
import Derived.Test.YtajjailmmbcolaaCb
namespace Go.Proofs.Ytajjailmmbcolaa
open Go Go.Proofs Go.RowKit Go.Shelf
attribute [local go_sem] Oper.semAt_some

theorem Bk.from {m B B0 : Nat} {a b : World} (h : Bk m B a b) (hB : a.heap.size ≤ B) (hm : m < B0) : KeepsFrom B0 a b :=
  ⟨h.size, fun k o hk ho _ => (h.block k (by have := (Array.getElem?_eq_some_iff.1 ho).1; omega) (by omega)).trans ho⟩
theorem nodup_len_le {xs ys : List Nat} (hn : xs.Nodup) (hs : ∀ x ∈ xs, x ∈ ys) : xs.length ≤ ys.length := by
  induction xs generalizing ys with
  | nil => simp
  | cons x xs ih =>
    rw [List.nodup_cons] at hn
    have hx := hs x (by simp)
    have := ih (ys := ys.erase x) hn.2 (fun y hy => (List.mem_erase_of_ne (fun e => hn.1 (by rw [← e]; exact hy))).2 (hs y (List.mem_cons_of_mem _ hy)))
    rw [List.length_erase_of_mem hx] at this
    have := List.length_pos_of_mem hx
    simp only [List.length_cons]
    omega
theorem Bk.own {β : Type} {m B : Nat} {w : World} (hw : B ≤ w.heap.size) : OwnFrom B (fun (_ : β) W => Bk m B w W) := fun _ _ _ _ h hg hr =>
  ⟨hg.os.trans h.os, hg.tape.trans h.tape, hg.output.trans h.output, Nat.le_trans h.size hg.size, fun k hk hm =>
    (hg.block k (Nat.lt_of_lt_of_le (Nat.lt_of_lt_of_le hk hw) h.size) (fun e => by have := (hr k e.symm).1; omega)).trans (h.block k hk hm)⟩
theorem Bx.own {β : Type} {B b : Nat} {cs : Array Value} {t : TypeId} : OwnFrom B (fun (_ : β) W => Bx W b cs t) := fun _ _ _ _ h hg hr =>
  h.kept (hg.block b h.lt (fun e => by
    obtain ⟨_, o, ho, hc⟩ := hr b e.symm
    rw [show _ = _ from h] at ho
    cases ho; cases hc))
theorem Mk.own {β : Type} {B m : Nat} {xs : β → List Nat} (hm : m < B) : OwnFrom B (fun s W => Mk W m (xs s)) := fun _ _ _ _ h hg hr =>
  World.ownsMap.kept h hg (fun e => by have := (hr m e.symm).1; omega)
set_option maxRecDepth 100000 in
set_option maxHeartbeats 4000000 in
theorem below_calls (f : Fv) (G : Gs) (n₀ m : Nat) (hN : G.length ≤ 1000000) (hm : n₀ ≤ m) : ∀ (d : Nat) (g : Nat) (xs : List Nat) (w : World), G.length - xs.length < d → g < G.length → xs.Nodup → (∀ x ∈ xs, x < G.length) →
    GlyphsAt n₀ w f.a G → Mk w m xs → n₀ ≤ w.heap.size →
    Calls Try.prog 37 #[.agg (f.cells G.length), .int .i64 g, .map (some m)] w fun e w' => (∃ v, e = .returned v) ∧ ∃ ys, Grown G (kids G g) xs ys ∧ Bk m w.heap.size w w' ∧ Mk w' m ys := by
  intro d
  induction d with
  | zero => intro g xs w hd; omega
  | succ d ih =>
    intro g xs w hd hg hnd hlt hG hM hn₀
    refine (callsIn_wide (n := 6)).1 ?_
    refine callsIn_of_wp_marks Try.func37 rfl trivial ?_ rfl
    simp only [Try.ntmps37, List.size_toArray, List.length_cons, List.length_nil, Nat.reduceAdd, Nat.reduceSub, Array.replicate_succ, Array.replicate_zero, List.push_toArray, List.append_toArray, List.nil_append, List.cons_append, Fv.cells]
    have hmw := hM.lt
    have hpi := parts_in Fence.wide (6 - 1) trivial rfl f G.length g ((w.alloc (.cells (f.cells G.length) 32)).alloc (.cells #[.map (some m)] 49))
    obtain ⟨W0, hW0⟩ : ∃ W0, (((w.alloc (.cells (f.cells G.length) 32)).alloc (.cells #[.map (some m)] 49)).alloc (.cells (f.cells G.length) 32)).alloc (.cells #[.int .i64 g] 3) = W0 := ⟨_, rfl⟩
    rw [hW0] at hpi
    have hsz : W0.heap.size = w.heap.size + 4 := by rw [← hW0]; simp [World.size_alloc]
    have hb0 : Bx W0 w.heap.size (f.cells G.length) 32 := hW0 ▸ (((Bx.new _ _ _).alloc _).alloc _).alloc _
    have hb1 := ((Bx.new (w.alloc (.cells (f.cells G.length) 32)) #[.map (some m)] 49).alloc (.cells (f.cells G.length) 32)).alloc (.cells #[.int .i64 g] 3)
    have hb2 := (Bx.new ((w.alloc (.cells (f.cells G.length) 32)).alloc (.cells #[.map (some m)] 49)) (f.cells G.length) 32).alloc (.cells #[.int .i64 g] 3)
    have hb3 := Bx.new (((w.alloc (.cells (f.cells G.length) 32)).alloc (.cells #[.map (some m)] 49)).alloc (.cells (f.cells G.length) 32)) #[.int .i64 g] 3
    rw [hW0] at hb1 hb2 hb3
    simp only [World.size_alloc] at hb1 hb2 hb3
    have hM0 : Mk W0 m xs := hW0 ▸ (((hM.alloc _).alloc _).alloc _).alloc _
    have hB0 : Bk m w.heap.size w W0 := hW0 ▸ ((((Bk.refl m _ w).alloc (Nat.le_refl _) _).alloc (by simp [World.size_alloc]) _).alloc (by simp [World.size_alloc]; omega) _).alloc (by simp [World.size_alloc]; omega) _
    have hG0 : GlyphsAt n₀ W0 f.a G := hG.below (fun k hk => hB0.block k (by omega) (by omega)) (Nat.le_refl _)
    clear hW0
    simp only [Fv.cells, World.size_alloc] at hpi
    gi_wp2_with (refine ⟨trivial, ?_⟩; gi_at_call 23; refine hpi.mono ?_; rintro e w' ⟨rfl, rfl⟩)
    clear hpi
    refine wpIn_rangeFunc_ownH rfl (by omega) (gf := 38) (lb := #[.pointer (some ⟨w.heap.size + 1 + 1, 0, none⟩), .pointer (some ⟨w.heap.size + 1 + 1 + 1, 0, none⟩)]) rfl trivial (enters_of Try.func38 (by kernel_rfl) rfl)
      (parts_stops Fence.wide (6 - 1) trivial trivial rfl (by omega) (w.heap.size + 1 + 1) (w.heap.size + 1 + 1 + 1) m w'.heap.size n₀ f G g hg hm (by omega) (by omega) (by omega) (by omega) w' (Nat.le_refl _) hb2 hb3 hG0)
      bk_t (bk_b (Nat.le_refl _)) (Below.refl _ _) (fun _ => rfl)
      (fun pre W => ∃ ys, Grown G (pre.map gn) xs ys ∧ Mk W m ys ∧ Bk m w'.heap.size w' W)
      (fun _ _ _ => False)
      (fun pre X Y row hs hg hr => by obtain ⟨ys, h1, h2, h3⟩ := hs; exact ⟨ys, h1, Mk.own (xs := fun _ : Unit => ys) (by omega) () X Y row h2 hg hr, Bk.own (Nat.le_refl _) () X Y row h3 hg hr⟩)
      (fun _ _ _ _ _ hs _ _ => hs)
      ⟨xs, Grown.nil hnd hlt, hM0, Bk.refl _ _ _⟩
      (fun x a' W => ∃ b, w'.heap.size ≤ b ∧ Bx W b #[.int .i64 x.1.1, .int .i64 x.1.2.1, .int .i64 x.1.2.2] 48 ∧ a' = { tmps := #[.agg (f.cells G.length), .int .i64 g, .map (some m), .pointer (some ⟨w.heap.size, 0, none⟩), undef, .pointer (some ⟨w.heap.size + 1, 0, none⟩), .pointer (some ⟨b, 0, none⟩), .agg (f.cells G.length), .int .i64 g, .func (.func 38) #[] #[.pointer (some ⟨w.heap.size + 1 + 1, 0, none⟩), .pointer (some ⟨w.heap.size + 1 + 1 + 1, 0, none⟩)], ptV x.1, undef, undef, undef, undef, undef, undef, undef, undef, undef, undef, undef, undef, undef], defers := [] })
      (fun x a' _ X Y row hs hg hr => by obtain ⟨b, h1, h2, h3⟩ := hs; exact ⟨b, h1, Bx.own () X Y row h2 hg hr, h3⟩)
      ?assign ?body ?done ?stop
    case assign =>
      rintro l pre x W K ⟨ys, h1, h2, h3⟩ hK
      simp only [ptV]
      gi_wp2
      exact hK _ _ ((KeepsOthers.alloc _ _).from _) ((Bk.refl m _ W).alloc h3.size _) ⟨ys, h1, h2.alloc _, h3.alloc h3.size _⟩ ⟨W.heap.size, h3.size, Bx.new _ _ _, rfl⟩
    case body =>
      rintro l pre x a' W hl _ ⟨ys, h1, h2, h3⟩ ⟨b, hb, hbx, rfl⟩ _
      have hlen := nodup_len h1.nodup h1.lt
      have hgx := gn_lt x
      have c0 := hbx.cell 0
      have c1 := (hb1.kept (h3.block _ (by omega) (by omega))).cell 0
      have hlook := h2.look (gn x) (by omega)
      rw [← gn_eq] at hlook
      have hbl : b < W.heap.size := hbx.lt
      simp only [ptV, Fv.cells]
      by_cases hin : gn x ∈ ys
      · rw [decide_eq_true hin] at hlook
        gi_wp2
        refine ⟨KeepsFrom.refl _ _, Bk.refl _ _ _, ys, ?_, h2, h3⟩
        rw [List.map_append]
        exact h1.there hin
      · rw [decide_eq_false hin] at hlook
        have hnd' : (ys ++ [gn x]).Nodup := by
          rw [List.nodup_append]
          exact ⟨h1.nodup, by simp, fun p hp q hq => by rw [List.mem_singleton.1 hq]; exact fun e => hin (e ▸ hp)⟩
        have hlt' : ∀ y ∈ ys ++ [gn x], y < G.length := fun y hy => by
          rcases List.mem_append.1 hy with hy | hy
          · exact h1.lt y hy
          · rw [List.mem_singleton.1 hy]; exact hgx
        have hlen' := nodup_len hnd' hlt'
        have hwf : (Lit.int .i64 x.1.1).wf = true := by rw [gn_eq]; exact wf_nat (by omega)
        have hlx : xs.length ≤ ys.length := by
          have := nodup_len_le hnd h1.sub
          exact this
        have hml : ys.length < maxLen := by unfold maxLen; omega
        simp only [List.length_append, List.length_singleton] at hlen'
        gi_wp2_with (first
          | (gi_at_mapUpdate; refine wpListIn_mapUpdate_own _ rfl _ _ _ 49 rfl 3 4 (Maps.int_keyed Try.underlying3) Try.underlying49 _ m ys.length _ rfl h2 hml _ _ _ rfl rfl (Maps.keyOf_int_mk Try.underlying3 hwf) _ [] (plainElem_bool Try.underlying4 true) ?_; intro w1 hown1 hgrow1; have hM1 : Mk w1 m (ys ++ [gn x]) := (by rw [gn_eq] at hown1; unfold Mk; rw [DM_snoc, List.length_append]; exact hown1); have hb4 : Bk m W.heap.size W w1 := Bk.of_grown hgrow1 (Nat.le_refl _); have h4 : Bk m w'.heap.size w' w1 := h3.trans (hb4.mono h3.size); have hf := hb0.kept (h4.block _ (by omega) (by omega)); have f0 := hf.cell 0; have f1 := hf.cell 1; have f2 := hf.cell 2; have f3 := hf.cell 3; have f4 := hf.cell 4; have f5 := hf.cell 5; have f6 := hf.cell 6; have f7 := hf.cell 7; have f8 := hf.cell 8; have c0' := (hbx.kept (hb4.block b hbl (by omega))).cell 0; have c1' := (hb1.kept (h4.block _ (by omega) (by omega))).cell 0; have hih := ih (gn x) (ys ++ [gn x]) w1 (by simp only [List.length_append, List.length_singleton]; omega) hgx hnd' hlt' (hG0.below (fun k hk => h4.block k (by omega) (by omega)) (Nat.le_refl _)) hM1 (by have := h4.size; omega); rw [← gn_eq] at hih; simp only [Fv.cells] at f0 f1 f2 f3 f4 f5 f6 f7 f8 hih)
          | (refine ⟨trivial, ?_⟩; gi_at_call 37; refine (CallsIn.inRound l (callsIn_wide.2 hih)).mono ?_; rintro e w2 ⟨⟨v, rfl⟩, zs, hgr, hbk, hM2⟩))
        have hb5 : Bk m W.heap.size W w2 := hb4.trans (hbk.mono hb4.size)
        refine ⟨hb5.from (Nat.le_refl _) (by omega), hb5.mono h3.size, zs, ?_, hM2, h3.trans (hb5.mono h3.size)⟩
        rw [List.map_append]
        exact h1.more hgr
    case done =>
      rintro D zs W hD rfl ⟨ys, h1, h2, h3⟩ hK
      gi_wp2
      refine ⟨by simp, .inl ⟨_, _, rfl, run_takeDeferred hK, ?_⟩⟩
      have hkids : kids G g = (flt G.length G[g]).map gn := by simp [kids, hg]
      refine ⟨_, results_none rfl _ _ _, ⟨_, rfl⟩, ys, by rw [hkids]; exact h1, ?_, ?_⟩
      · exact hB0.trans ((h3.mono (by omega)).trans (Bk.of_below (belowK_b (w := w') (by omega) W D _ _ hD hK rfl rfl)))
      · exact World.ownsMap.kept h2 (grownBy_putObj' W D _) (fun e => by cases e; omega)
    case stop =>
      rintro D c pre W _ _ h _
      exact h.elim
end Go.Proofs.Ytajjailmmbcolaa
