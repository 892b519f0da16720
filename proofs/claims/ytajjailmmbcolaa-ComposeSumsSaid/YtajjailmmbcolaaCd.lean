/- compose: under, Order$1. -/
import Derived.Test.YtajjailmmbcolaaCc
namespace Go.Proofs.Ytajjailmmbcolaa
open Go Go.Proofs Go.RowKit Go.Shelf
attribute [local go_sem] Oper.semAt_some

theorem Bk.below {m B : Nat} {a b : World} (h : Bk m B a b) (hm : B ≤ m) : Below B a b := ⟨h.os, h.tape, h.output, h.size, fun k hk => h.block k hk (by omega)⟩
set_option maxRecDepth 100000 in
set_option maxHeartbeats 2000000 in
theorem under_calls (f : Fv) (G : Gs) (n₀ : Nat) (hN : G.length ≤ 1000000) (g : Nat) (hg : g < G.length) (w : World) (hG : GlyphsAt n₀ w f.a G) (hn₀ : n₀ ≤ w.heap.size) :
    Calls Try.prog 21 #[.agg (f.cells G.length), .int .i64 g] w fun e w' => ∃ ys, e = .returned (.map (some (w.heap.size + 1))) ∧ Grown G (kids G g) [] ys ∧ Below w.heap.size w w' ∧ Mk w' (w.heap.size + 1) ys := by
  have hmm := @run_makeMap Try.prog
  refine (callsIn_wide (n := 6)).1 ?_
  refine callsIn_of_wp Try.func21 rfl trivial ?_ rfl
  simp only [Try.ntmps21, List.size_toArray, List.length_cons, List.length_nil, Nat.reduceAdd, Nat.reduceSub, Array.replicate_succ, Array.replicate_zero, List.push_toArray, List.append_toArray, List.nil_append, List.cons_append, Fv.cells]
  have hG1 : GlyphsAt n₀ ((w.alloc (.cells (f.cells G.length) 32)).alloc (.map #[] 0)) f.a G := hG.below (fun k hk => (((Below.refl n₀ w).alloc hn₀ _).alloc (by simp [World.size_alloc]; omega) _).block k hk) (Nat.le_refl _)
  have hM1 := World.ownsMap_made (w.alloc (.cells (f.cells G.length) 32)) Try.prog 3 (plainElem (H := Unit) Try.prog 4)
  have hbc := below_calls f G n₀ (w.heap.size + 1) hN (by omega) (G.length + 1) g [] ((w.alloc (.cells (f.cells G.length) 32)).alloc (.map #[] 0)) (by simp) hg (by simp) (by simp) hG1 (by rw [World.size_alloc] at hM1; exact hM1) (by simp [World.size_alloc]; omega)
  have hBB : Below w.heap.size w ((w.alloc (.cells (f.cells G.length) 32)).alloc (.map #[] 0)) := ((Below.refl _ w).alloc (Nat.le_refl _) _).alloc (by simp [World.size_alloc]) _
  generalize hW : (w.alloc (.cells (f.cells G.length) 32)).alloc (.map #[] 0) = W at hbc hBB
  replace hbc := hbc.mono (R' := fun e w' => (∃ v, e = .returned v) ∧ ∃ ys, Grown G (kids G g) [] ys ∧ Below w.heap.size w w' ∧ Mk w' (w.heap.size + 1) ys) (fun e w' ⟨h1, ys, h2, h3, h4⟩ => ⟨h1, ys, h2, hBB.trans ((h3.mono hBB.size).below (by omega)), h4⟩)
  rw [← hW] at hbc
  clear hW
  simp only [Fv.cells] at hbc
  gi_wp2_with (refine ⟨trivial, ?_⟩; gi_at_call 37; refine (callsIn_wide.2 hbc).mono ?_; rintro e w' ⟨⟨v, rfl⟩, ys, h1, h2, h3⟩)
  go_ret
  exact ⟨ys, rfl, h1, h2, h3⟩
theorem Below.own {β : Type} {B B' : Nat} {w : World} (hw : B ≤ w.heap.size) (hB : B ≤ B') : OwnFrom B' (fun (_ : β) W => Below B w W) := fun _ _ _ _ h hg hr =>
  ⟨hg.os.trans h.os, hg.tape.trans h.tape, hg.output.trans h.output, Nat.le_trans h.size hg.size, fun k hk =>
    (hg.block k (Nat.lt_of_lt_of_le (Nat.lt_of_lt_of_le hk hw) h.size) (fun e => by have := (hr k e.symm).1; omega)).trans (h.block k hk)⟩
theorem Bx.set {w : World} {b : Nat} {u : Value} {t : TypeId} (v : Value) (h : Bx w b #[u] t) : Bx (w.setCell ⟨b, 0, none⟩ v) b #[v] t := Boxed.set v h

set_option maxRecDepth 100000 in
set_option maxHeartbeats 4000000 in
/-- Order's ready. -/
theorem ready_calls (f : Fv) (G : Gs) (n₀ m bf bm : Nat) (hN : G.length ≤ 1000000) (hm : n₀ ≤ m) (g : Nat) (hg : g < G.length) (xs : List Nat) (w : World)
    (hG : GlyphsAt n₀ w f.a G) (hM : Mk w m xs) (hn₀ : n₀ ≤ w.heap.size) (hf : Bx w bf (f.cells G.length) 32) (hbm : Bx w bm #[.map (some m)] 49) :
    Calls Try.prog 22 #[.int .i64 g, .pointer (some ⟨bf, 0, none⟩), .pointer (some ⟨bm, 0, none⟩)] w fun e w' => e = .returned (.bool (decide ((∀ q ∈ kids G g, q ∈ xs) ∧ g ∉ xs))) ∧ Below w.heap.size w w' := by
  refine (callsIn_wide (n := 6)).1 ?_
  refine callsIn_of_wp_marks Try.func22 rfl trivial ?_ rfl
  simp only [Try.ntmps22, List.size_toArray, List.length_cons, List.length_nil, Nat.reduceAdd, Nat.reduceSub, Array.replicate_succ, Array.replicate_zero, List.push_toArray, List.append_toArray, List.nil_append, List.cons_append]
  have hmw := hM.lt
  have hbfw := hf.lt
  have hbmw := hbm.lt
  have hpi := parts_in Fence.wide (6 - 1) trivial rfl f G.length g (w.alloc (.cells #[.bool false] 4))
  obtain ⟨W0, hW0⟩ : ∃ W0, ((w.alloc (.cells #[.bool false] 4)).alloc (.cells (f.cells G.length) 32)).alloc (.cells #[.int .i64 g] 3) = W0 := ⟨_, rfl⟩
  rw [hW0] at hpi
  have hsz : W0.heap.size = w.heap.size + 3 := by rw [← hW0]; simp [World.size_alloc]
  have hb0 : Bx W0 w.heap.size #[.bool false] 4 := hW0 ▸ ((Bx.new _ _ _).alloc _).alloc _
  have hb2 := (Bx.new (w.alloc (.cells #[.bool false] 4)) (f.cells G.length) 32).alloc (.cells #[.int .i64 g] 3)
  have hb3 := Bx.new ((w.alloc (.cells #[.bool false] 4)).alloc (.cells (f.cells G.length) 32)) #[.int .i64 g] 3
  rw [hW0] at hb2 hb3
  simp only [World.size_alloc] at hb2 hb3
  have hM0 : Mk W0 m xs := hW0 ▸ ((hM.alloc _).alloc _).alloc _
  have hB0 : Below w.heap.size w W0 := hW0 ▸ (((Below.refl _ w).alloc (Nat.le_refl _) _).alloc (by simp [World.size_alloc]) _).alloc (by simp [World.size_alloc]; omega) _
  have hG0 : GlyphsAt n₀ W0 f.a G := hG.below (fun k hk => hB0.block k (by omega)) (Nat.le_refl _)
  have hbm0 : Bx W0 bm #[.map (some m)] 49 := hbm.kept (hB0.block _ hbmw)
  clear hW0
  have hf' := hf.alloc (.cells #[.bool false] 4)
  have f0 := hf'.cell 0
  have f1 := hf'.cell 1
  have f2 := hf'.cell 2
  have f3 := hf'.cell 3
  have f4 := hf'.cell 4
  have f5 := hf'.cell 5
  have f6 := hf'.cell 6
  have f7 := hf'.cell 7
  have f8 := hf'.cell 8
  simp only [Fv.cells, World.size_alloc] at hpi f0 f1 f2 f3 f4 f5 f6 f7 f8
  gi_wp2_with (refine ⟨trivial, ?_⟩; gi_at_call 23; refine hpi.mono ?_; rintro e w' ⟨rfl, rfl⟩)
  clear hpi f0 f1 f2 f3 f4 f5 f6 f7 f8
  refine wpIn_rangeFunc_ownH rfl (by omega) (gf := 38) (lb := #[.pointer (some ⟨w.heap.size + 1, 0, none⟩), .pointer (some ⟨w.heap.size + 1 + 1, 0, none⟩)]) rfl trivial (enters_of Try.func38 (by kernel_rfl) rfl)
    (parts_stops Fence.wide (6 - 1) trivial trivial rfl (by omega) (w.heap.size + 1) (w.heap.size + 1 + 1) m w'.heap.size n₀ f G g hg hm (by omega) (by omega) (by omega) (by omega) w' (Nat.le_refl _) hb2 hb3 hG0)
    bk_t (bk_b (Nat.le_refl _)) (Below.refl _ _) (fun _ => rfl)
    (fun pre W => (∀ p ∈ pre, gn p ∈ xs) ∧ Mk W m xs ∧ Bk m w'.heap.size w' W ∧ Below w.heap.size w W)
    (fun c pre W => c = .ret ∧ (∃ p ∈ pre, gn p ∉ xs) ∧ Bx W w.heap.size #[.bool false] 4 ∧ Below w.heap.size w W)
    (fun pre X Y row hs hg hr => by obtain ⟨h1, h2, h3, h4⟩ := hs; exact ⟨h1, Mk.own (xs := fun _ : Unit => xs) (by omega) () X Y row h2 hg hr, Bk.own (Nat.le_refl _) () X Y row h3 hg hr, Below.own (Nat.le_refl _) (by omega) () X Y row h4 hg hr⟩)
    (fun c pre X Y row hs hg hr => by obtain ⟨h1, h2, h3, h4⟩ := hs; exact ⟨h1, h2, Bx.own (B := w'.heap.size) () X Y row h3 hg hr, Below.own (B' := w'.heap.size) (Nat.le_refl _) (by omega) () X Y row h4 hg hr⟩)
    ⟨by simp, hM0, Bk.refl _ _ _, hB0⟩
    (fun x a' W => ∃ b, w'.heap.size ≤ b ∧ Bx W b #[.int .i64 x.1.1, .int .i64 x.1.2.1, .int .i64 x.1.2.2] 48 ∧ a' = { tmps := #[.int .i64 g, .pointer (some ⟨bf, 0, none⟩), .pointer (some ⟨bm, 0, none⟩), undef, .pointer (some ⟨w.heap.size, 0, none⟩), .pointer (some ⟨b, 0, none⟩), .agg (f.cells G.length), .int .i64 g, .func (.func 38) #[] #[.pointer (some ⟨w.heap.size + 1, 0, none⟩), .pointer (some ⟨w.heap.size + 1 + 1, 0, none⟩)], ptV x.1, undef, undef, undef, undef, undef, undef, undef, undef, undef], defers := [] })
    (fun x a' _ X Y row hs hg hr => by obtain ⟨b, h1, h2, h3⟩ := hs; exact ⟨b, h1, Bx.own () X Y row h2 hg hr, h3⟩)
    ?assign ?body ?done ?stop
  case assign =>
    rintro l pre x W K ⟨h1, h2, h3, h4⟩ hK
    simp only [ptV]
    gi_wp2
    exact hK _ _ ((KeepsOthers.alloc _ _).from _) ((Bk.refl m _ W).alloc h3.size _) ⟨h1, h2.alloc _, h3.alloc h3.size _, h4.alloc h4.size _⟩ ⟨W.heap.size, h3.size, Bx.new _ _ _, rfl⟩
  case body =>
    rintro l pre x a' W hl _ ⟨h1, h2, h3, h4⟩ ⟨b, hb, hbx, rfl⟩ _
    have hgx := gn_lt x
    have c0 := hbx.cell 0
    have c1 := (hbm.kept (h4.block _ hbmw)).cell 0
    have hr0 := hb0.kept (h3.block _ (by omega) (by omega))
    have r0 := hr0.cell 0
    have r1 := hr0.frozen 0
    have hlook := h2.look (gn x) (by omega)
    rw [← gn_eq] at hlook
    simp only [ptV, Fv.cells]
    by_cases hin : gn x ∈ xs
    · rw [decide_eq_true hin] at hlook
      gi_wp2
      exact ⟨KeepsFrom.refl _ _, Bk.refl _ _ _, fun p hp => by
        rcases List.mem_append.1 hp with hp | hp
        · exact h1 p hp
        · rw [List.mem_singleton.1 hp]; exact hin, h2, h3, h4⟩
    · rw [decide_eq_false hin] at hlook
      gi_wp2
      exact ⟨(KeepsOthers.setCell _ _ _).from _, rfl, ⟨x, by simp, hin⟩, hr0.set _, h4.setCell (p := ⟨w.heap.size, 0, none⟩) (Nat.le_refl _) _⟩
  case done =>
    rintro D zs W hD rfl ⟨h1, h2, h3, h4⟩ hK
    have c1 := (hbm.kept (h4.block _ hbmw)).cell 0
    have hr0 := hb0.kept (h3.block _ (by omega) (by omega))
    have r0 := hr0.cell 0
    have r1 := hr0.frozen 0
    have hlook := h2.look g (by omega)
    gi_wp2
    have hK' := (KeepsOthers.setCell W ⟨w.heap.size, 0, none⟩ (.bool !decide (g ∈ xs))).same D _ hK rfl
    refine ⟨by simp, .inl ⟨_, _, rfl, run_takeDeferred hK', ?_⟩⟩
    have hc5 := cell_kept ((hr0.set (.bool !decide (g ∈ xs))).cell 0) (grownBy_putObj' _ D (.deferred none)) (fun r e => by cases e; exact ⟨_, hK', rfl⟩)
    have hkids : kids G g = (flt G.length G[g]).map gn := by simp [kids, hg]
    refine ⟨.bool !decide (g ∈ xs), ?_, ?_, (h4.setCell (p := ⟨w.heap.size, 0, none⟩) (Nat.le_refl _) _).trans (belowK_b (w := w) (Nat.le_refl _) _ D _ _ (by omega) hK' rfl rfl)⟩
    · simp [results, Try.f22, go_sem, hc5]
    · have hall : ∀ q ∈ kids G g, q ∈ xs := fun q hq => by
        rw [hkids] at hq
        obtain ⟨p, hp, rfl⟩ := List.mem_map.1 hq
        exact h1 p hp
      congr 2
      by_cases hin : g ∈ xs <;> simp [hin]
      exact hall
  case stop =>
    rintro D c pre W hD hp ⟨rfl, ⟨p, hpp, hnp⟩, hr0, h4⟩ hK
    gi_wp2
    refine ⟨by simp, .inl ⟨_, _, rfl, run_takeDeferred hK, ?_⟩⟩
    have hc5 := cell_kept (hr0.cell 0) (grownBy_putObj' _ D (.deferred none)) (fun r e => by cases e; exact ⟨_, hK, rfl⟩)
    have hkids : kids G g = (flt G.length G[g]).map gn := by simp [kids, hg]
    refine ⟨.bool false, ?_, ?_, h4.trans (belowK_b (w := w) (Nat.le_refl _) W D _ _ (by omega) hK rfl rfl)⟩
    · simp [results, Try.f22, go_sem, hc5]
    · rw [decide_eq_false]
      intro hh
      exact hnp (hh.1 (gn p) (by rw [hkids]; exact List.mem_map.2 ⟨p, hp.subset hpp, rfl⟩))
end Go.Proofs.Ytajjailmmbcolaa
