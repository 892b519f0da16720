/- compose: All, walked. -/
import Derived.Test.YtajjailmmbcolaaCh
namespace Go.Proofs.Ytajjailmmbcolaa
open Go Go.Proofs Go.RowKit Go.Shelf Go.Maps
attribute [local go_sem] Oper.semAt_some

theorem ow_ne {w : World} {B r : Nat} {v : Value} {l : List Nat} {o : Obj} (h : Ow w B v l) (hr : w.heap[r]? = some o) (ho : o.isCells = false) : v.ownBlock ≠ some r := by
  rcases h.2 with ⟨rfl, _⟩ | ⟨q, cap, cur, h1, _, h3, _⟩
  · simp [Value.ownBlock]
  · rw [h1]
    intro e
    have : q = r := by simpa [Value.ownBlock] using e
    subst this
    rw [h3] at hr
    cases hr; cases ho
theorem ranges_heap {H : Type} {P : Program} {k : TypeId} {R : Value → Option (DataW H × List MemPlace)} {w : World} {b r n : Nat} {D : DataW H} {left : Lit → Bool} {cnt : Nat} (h : w.ranges P k R b r n D left cnt) :
    (∃ o, w.heap[r]? = some o ∧ o.isCells = false) ∧ ∃ o, w.heap[b]? = some o ∧ o.isCells = false := by
  obtain ⟨es, clock, since, seen, c0, hb, F, hs, hD, hr, rest⟩ := h
  exact ⟨⟨_, hr, rfl⟩, ⟨_, hb, rfl⟩⟩
/-- A truth value in a coat. -/
structure Bw where
  b : Bool
set_option maxRecDepth 100000 in
set_option maxHeartbeats 1000000 in
theorem All_out (f : Fv) (G : Gs) (g : Int) (hg : ¬ (0 ≤ g ∧ g < (G.length : Int))) (w : World) : Calls Try.prog 13 #[.agg (f.cells G.length), .int .i64 g] w (AllP G g w) := by
  refine (callsIn_wide (n := 6)).1 ?_
  refine callsIn_of_wp Try.func13 rfl trivial ?_ rfl
  simp only [Try.ntmps13, List.size_toArray, List.length_cons, List.length_nil, Nat.reduceAdd, Nat.reduceSub, Array.replicate_succ, Array.replicate_zero, List.push_toArray, List.append_toArray, List.nil_append, List.cons_append, Fv.cells]
  have his := is_in Fence.wide (6 - 1) trivial rfl f G.length g (w.alloc (.cells (f.cells G.length) 32))
  rw [decide_eq_false hg] at his
  simp only [Fv.cells] at his
  gi_wp2_with (refine ⟨trivial, ?_⟩; gi_at_call 24; refine his.mono ?_; rintro e w1 ⟨rfl, rfl⟩)
  go_ret
  exact ⟨[], by simp, fun x => by simp [hg], by simp, ((Below.refl _ w).alloc (Nat.le_refl _) _).alloc (by simp [World.size_alloc]) _, _, _, rfl, Nat.le_refl _, .inl rfl⟩

set_option maxRecDepth 100000 in
set_option maxHeartbeats 1000000 in
theorem All_in (f : Fv) (G : Gs) (n₀ : Nat) (hN : G.length ≤ 1000000) (g : Nat) (hg : g < G.length) (w : World) (hG : GlyphsAt n₀ w f.a G) (hn₀ : n₀ ≤ w.heap.size) :
    Calls Try.prog 13 #[.agg (f.cells G.length), .int .i64 g] w (AllP G g w) := by
  refine (callsIn_wide (n := 6)).1 ?_
  refine callsIn_of_wp Try.func13 rfl trivial ?_ rfl
  simp only [Try.ntmps13, List.size_toArray, List.length_cons, List.length_nil, Nat.reduceAdd, Nat.reduceSub, Array.replicate_succ, Array.replicate_zero, List.push_toArray, List.append_toArray, List.nil_append, List.cons_append, Fv.cells]
  have his := is_in Fence.wide (6 - 1) trivial rfl f G.length g (w.alloc (.cells (f.cells G.length) 32))
  have hin : (0 : Int) ≤ (g : Int) ∧ (g : Int) < (G.length : Int) := by omega
  rw [decide_eq_true hin] at his
  have hB0 : Below w.heap.size w ((w.alloc (.cells (f.cells G.length) 32)).alloc (.cells (f.cells G.length) 32)) := ((Below.refl _ w).alloc (Nat.le_refl _) _).alloc (by simp [World.size_alloc]) _
  have hb0 := (Bx.new w (f.cells G.length) 32).alloc (.cells (f.cells G.length) 32)
  have hs1 : ((w.alloc (.cells (f.cells G.length) 32)).alloc (.cells (f.cells G.length) 32)).heap.size = w.heap.size + 2 := by simp [World.size_alloc]
  generalize hW1 : (w.alloc (.cells (f.cells G.length) 32)).alloc (.cells (f.cells G.length) 32) = W1 at hB0 hb0 hs1 his
  have hO := ow_one W1 w.heap.size g (by omega)
  have hB2 : Below w.heap.size w (W1.alloc (.cells #[.int .i64 g] 3)) := hB0.alloc hB0.size _
  have hb2 := hb0.alloc (.cells #[.int .i64 g] 3)
  have f0 := hb2.cell 0
  have f1 := hb2.cell 1
  have f2 := hb2.cell 2
  have f3 := hb2.cell 3
  have f4 := hb2.cell 4
  have f5 := hb2.cell 5
  have f6 := hb2.cell 6
  have f7 := hb2.cell 7
  have f8 := hb2.cell 8
  have hs2 : (W1.alloc (.cells #[.int .i64 g] 3)).heap.size = w.heap.size + 3 := by simp [World.size_alloc]; omega
  have hun := under_calls f G n₀ hN g hg (W1.alloc (.cells #[.int .i64 g] 3)) (hG.below (fun j hj => hB2.block j (by omega)) (Nat.le_refl _)) (by omega)
  clear hW1
  rw [hs2] at hun
  simp only [Fv.cells] at his hun f0 f1 f2 f3 f4 f5 f6 f7 f8
  rw [hs1] at hO
  have hOb : ∀ w3, Below (w.heap.size + 3) (W1.alloc (.cells #[.int .i64 g] 3)) w3 → Ow w3 w.heap.size (.slice (some ⟨w.heap.size + 2, 0, none⟩) 1 1) [g] := fun w3 h => hO.below (by rw [hs2]; exact h)
  gi_wp2_with (first
    | (refine ⟨trivial, ?_⟩; gi_at_call 24; refine his.mono ?_; rintro e w1 ⟨rfl, rfl⟩)
    | (refine ⟨trivial, ?_⟩; gi_at_call 21; refine (callsIn_wide.2 hun).mono ?_; rintro e w3 ⟨ys, rfl, hgr, hb3, hM3⟩; have hO3 := hOb _ hb3; have hB3 := hB2.trans (hb3.mono (by omega)))
    | (gi_at_range; refine wpListIn_range_own _ rfl _ 49 rfl 3 4 (Maps.int_keyed Try.underlying3) Try.underlying49 _ _ _ _ rfl hM3 ?_; intro w4 hrg4 hg4 hs4))
  have hB4 : Below w.heap.size w w4 := hB3.grown hg4 (by have := hB3.size; omega) (fun j hj => by cases hj)
  have hO4 : Ow w4 w.heap.size _ _ := World.ownsRow.kept hO3 hg4 (by simp [Value.ownBlock])
  have hs3 := hb3.size
  rw [hs2] at hs3
  generalize hr : w3.heap.size = r at *
  generalize hm : w.heap.size + 3 + 1 = m at *
  clear f0 f1 f2 f3 f4 f5 f6 f7 f8 his hun
  go_frame
  gi_loopw [5] (fun v wr => ∃ (ks : List Nat) (left : Lit → Bool) (cnt : Nat), wr.ranges Try.prog 3 (plainElem (H := Unit) Try.prog 4) m r ys.length (DM ys) left cnt ∧ Left left ys ks ∧ Ow wr w.heap.size v (g :: ks) ∧ Below w.heap.size w wr)
    (fun v wr => wr.rangeLeft m r)
  case atStart => exact ⟨[], _, _, hrg4, Left.start ys, hO4, hB4⟩
  case round =>
    obtain ⟨ks, left, cnt, hrg, hL, hO5, hB5⟩ := hrel
    gi_wp2_with (gi_at_next; refine wpListIn_next_ranges _ rfl _ rfl 3 (Maps.int_keyed Try.underlying3) (plainElem Try.prog 4) (Value.int .i64) (fun c : Bw => Value.bool c.b) (fun key kl hk => by obtain ⟨x, hx, _⟩ := Maps.keyOf_int_inv Try.underlying3 hk; exact ⟨x, hx⟩) (fun v y hv => by obtain ⟨c, rfl, _⟩ := plainElem_bool_inv Try.underlying4 hv; exact ⟨⟨c⟩, rfl⟩) m r _ _ _ _ rfl hrg ?_ ?_)
    · intro hc0 hl0
      obtain ⟨b, cap, rfl, hcap, hbb, hbl, hcells⟩ := hO5.cells (by simp)
      have hks : ks.length ≤ G.length := nodup_len hL.nodup (fun x hx => hgr.lt x (hL.sub x hx))
      have hlen : (g :: ks).length ≤ 1000001 := by simp only [List.length_cons]; omega
      have hst := sort_calls wr b cap (g :: ks) hbl hcells hlen
      simp only [List.length_cons] at hst hcap
      gi_wp2_with (first
        | (refine ⟨trivial, ?_⟩; gi_at_call 25; refine (callsIn_wide.2 hst).mono ?_; rintro e w6 ⟨ss, rfl, hperm, hsort, hc6, hb6⟩; have hsl : ss.length = ks.length + 1 := hperm.length_eq; have hct := compact_calls w6 b cap ss hc6 hsort (by omega) (by omega); rw [hsl] at hct)
        | (refine ⟨trivial, ?_⟩; gi_at_call 26; refine (callsIn_wide.2 hct).mono ?_; rintro e w7 ⟨L, rfl, hL1, hL2, hL3, hL4, hb7⟩))
      go_ret
      have hw6 := hb6.size
      refine ⟨L, hL1, fun x => ?_, by omega, (hB5.trans ((hb6.mono hB5.size).below hbb)).trans ((hb7.mono (by have := hB5.size; omega)).below hbb), _, _, rfl, by omega, .inr ⟨b, rfl, hbb, hL4⟩⟩
      rw [hL2, hperm.mem_iff, List.mem_cons, hL.done hl0, hgr.mem_iff, Int.toNat_natCast]
      exact ⟨fun h => ⟨hin, h⟩, fun h => h.2⟩
    · intro x c kl yd yp w5 cnt5 hkey hlk hv hat hrg5 hlt hg5 hs5 hen
      obtain ⟨x', ex, rfl, hwf⟩ := Maps.keyOf_int_inv Try.underlying3 hkey
      obtain ⟨k, hk, ekl⟩ := hL.some _ hlk
      injection ekl with _ ekl
      injection ex with _ ex
      subst ekl ex
      have hkl := hgr.lt k hk
      have hL' := hL.step hlk
      have hks : (ks ++ [k]).length ≤ G.length := nodup_len hL'.nodup (fun x hx => hgr.lt x (hL'.sub x hx))
      rw [List.length_append, List.length_singleton] at hks
      obtain ⟨⟨o1, ho1, hc1⟩, _⟩ := ranges_heap hrg
      have hO6 : Ow w5 w.heap.size u5 (g :: ks) := World.ownsRow.kept hO5 hg5 (.inr (ow_ne hO5 ho1 hc1))
      obtain ⟨⟨o2, ho2, hc2⟩, ⟨o3, ho3, hc3⟩⟩ := ranges_heap hrg5
      have hn2 := ow_ne hO6 ho2 hc2
      have hn3 := ow_ne hO6 ho3 hc3
      have hB6 : Below w.heap.size w w5 := hB5.grown hg5 hB5.size (fun j hj => by cases hj; omega)
      have hw5 := hB6.size
      clear hs5
      gi_wp2_with (gi_at_builtin; refine wpListIn_push w.heap.size rfl (.tmp 21) (.tmp 23) 22 3 8 rfl Try.underlying22 info3 rfl rfl u5 (g :: ks) k rfl rfl hO6 hw5 (by simp only [List.length_cons]; omega) ?_; intro v7 w7 hO7 hb7 hk7)
      have hgr7 : w5.grownBy w7 u5.ownBlock := ⟨hb7.os, hb7.tape, hb7.output, hb7.size, hk7⟩
      have hrg7 := hrg5.kept hgr7 hn3.symm hn2.symm
      refine ⟨⟨ks ++ [k], _, cnt5, hrg7, hL', hO7, hB6.trans hb7⟩, ?_⟩
      rw [hrg7.left_eq, hrg.left_eq]
      exact hlt
end Go.Proofs.Ytajjailmmbcolaa
