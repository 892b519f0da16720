/- compose: Deep, walked. -/
import Derived.Test.YtajjailmmbcolaaCn
namespace Go.Proofs.Ytajjailmmbcolaa
open Go Go.Proofs Go.RowKit Go.Shelf Go.Maps
attribute [local go_sem] Oper.semAt_some

/-- A glyph, and all under it. -/
def Und (G : Gs) (g x : Nat) : Prop := x = g ∨ From G (kids G g) x
/-- What Deep answers. -/
def DeepA (G : Gs) (g : Int) (n c : Int) : Prop :=
  (¬ (0 ≤ g ∧ g < (G.length : Int)) ∧ n = 0 ∧ c = 32) ∨
  ((0 ≤ g ∧ g < (G.length : Int)) ∧ (∃ x, Und G g.toNat x ∧ Loop G x) ∧ n = 0 ∧ c = 33) ∨
  ((0 ≤ g ∧ g < (G.length : Int)) ∧ (∀ x, Und G g.toNat x → ¬ Loop G x) ∧ 4 < Bd G g.toNat ∧ n = 0 ∧ c = 34) ∨
  ((0 ≤ g ∧ g < (G.length : Int)) ∧ (∀ x, Und G g.toNat x → ¬ Loop G x) ∧ Bd G g.toNat ≤ 4 ∧ n = Bd G g.toNat ∧ c = 0)
def DeepP (G : Gs) (g : Int) (w : World) (e : Ending) (w' : World) : Prop :=
  ∃ n c : Int, e = .returned (.tuple #[.int .i64 n, .int .i64 c]) ∧ DeepA G g n c ∧ Below w.heap.size w w'
set_option maxRecDepth 100000 in
set_option maxHeartbeats 1000000 in
theorem Deep_out (f : Fv) (G : Gs) (g : Int) (hg : ¬ (0 ≤ g ∧ g < (G.length : Int))) (w : World) : Calls Try.prog 17 #[.agg (f.cells G.length), .int .i64 g] w (DeepP G g w) := by
  refine (callsIn_wide (n := 6)).1 ?_
  refine callsIn_of_wp Try.func17 rfl trivial ?_ rfl
  simp only [Try.ntmps17, List.size_toArray, List.length_cons, List.length_nil, Nat.reduceAdd, Nat.reduceSub, Array.replicate_succ, Array.replicate_zero, List.push_toArray, List.append_toArray, List.nil_append, List.cons_append, Fv.cells]
  have his := is_in Fence.wide (6 - 1) trivial rfl f G.length g (w.alloc (.cells (f.cells G.length) 32))
  rw [decide_eq_false hg] at his
  simp only [Fv.cells] at his
  gi_wp2_with (refine ⟨trivial, ?_⟩; gi_at_call 24; refine his.mono ?_; rintro e w1 ⟨rfl, rfl⟩)
  refine bodyPost_ret (results_tmp2 rfl _ _ _) rfl ?_
  exact ⟨_, _, rfl, .inl ⟨hg, rfl, rfl⟩, ((Below.refl _ w).alloc (Nat.le_refl _) _).alloc (by simp [World.size_alloc]) _⟩

theorem kids_lt {G : Gs} {ps : List Nat} (hp : ∀ p ∈ ps, p < G.length) {x : Nat} (h : From G ps x) : x < G.length := by
  induction h with
  | here h => exact hp _ h
  | step _ h2 _ => exact kid_lt h2
set_option maxRecDepth 100000 in
set_option maxHeartbeats 2000000 in
theorem Deep_in (f : Fv) (G : Gs) (n₀ : Nat) (hN : G.length ≤ 1000000) (g : Nat) (hg : g < G.length) (w : World) (hG : GlyphsAt n₀ w f.a G) (hn₀ : n₀ ≤ w.heap.size) :
    Calls Try.prog 17 #[.agg (f.cells G.length), .int .i64 g] w (DeepP G g w) := by
  have hmm := @run_makeMap Try.prog
  refine (callsIn_wide (n := 6)).1 ?_
  refine callsIn_of_wp Try.func17 rfl trivial ?_ rfl
  simp only [Try.ntmps17, List.size_toArray, List.length_cons, List.length_nil, Nat.reduceAdd, Nat.reduceSub, Array.replicate_succ, Array.replicate_zero, List.push_toArray, List.append_toArray, List.nil_append, List.cons_append, Fv.cells]
  have his := is_in Fence.wide (6 - 1) trivial rfl f G.length g (w.alloc (.cells (f.cells G.length) 32))
  have hin : (0 : Int) ≤ (g : Int) ∧ (g : Int) < (G.length : Int) := by omega
  rw [decide_eq_true hin] at his
  have hB0 : Below w.heap.size w ((w.alloc (.cells (f.cells G.length) 32)).alloc (.cells (f.cells G.length) 32)) := ((Below.refl _ w).alloc (Nat.le_refl _) _).alloc (by simp [World.size_alloc]) _
  have hb0 := (Bx.new w (f.cells G.length) 32).alloc (.cells (f.cells G.length) 32)
  have hs1 : ((w.alloc (.cells (f.cells G.length) 32)).alloc (.cells (f.cells G.length) 32)).heap.size = w.heap.size + 2 := by simp [World.size_alloc]
  generalize hW1 : (w.alloc (.cells (f.cells G.length) 32)).alloc (.cells (f.cells G.length) 32) = W1 at hB0 hb0 hs1 his
  have f0 := hb0.cell 0
  have f1 := hb0.cell 1
  have f2 := hb0.cell 2
  have f3 := hb0.cell 3
  have f4 := hb0.cell 4
  have f5 := hb0.cell 5
  have f6 := hb0.cell 6
  have f7 := hb0.cell 7
  have f8 := hb0.cell 8
  have hun := under_calls f G n₀ hN g hg W1 (hG.below (fun j hj => hB0.block j (by omega)) (Nat.le_refl _)) (by omega)
  clear hW1
  rw [hs1] at hun
  simp only [Fv.cells] at his hun f0 f1 f2 f3 f4 f5 f6 f7 f8
  have hwg := wf_nat (k := g) (by omega)
  gi_wp2_with (first
    | (refine ⟨trivial, ?_⟩; gi_at_call 24; refine his.mono ?_; rintro e w1 ⟨rfl, rfl⟩)
    | (refine ⟨trivial, ?_⟩; gi_at_call 21; refine (callsIn_wide.2 hun).mono ?_; rintro e w3 ⟨ys, rfl, hgr, hb3, hM3⟩; have hml : ys.length < maxLen := (by have := nodup_len hgr.nodup hgr.lt; unfold maxLen; omega))
    | (gi_at_mapUpdate; refine wpListIn_mapUpdate_own _ rfl _ _ _ 49 rfl 3 4 (Maps.int_keyed Try.underlying3) Try.underlying49 _ _ ys.length _ rfl hM3 hml _ _ _ rfl rfl (Maps.keyOf_int_mk Try.underlying3 hwg) _ [] (plainElem_bool Try.underlying4 true) ?_; intro w6 hown6 hgrow6; have hM6 : Mk w6 (w.heap.size + 2 + 1) (ys ++ [g]) := (by unfold Mk; rw [DM_snoc, List.length_append]; exact hown6); have hB6 : Below (w.heap.size + 2) w1 w6 := hb3.grown hgrow6 (by have := hb3.size; omega) (fun j hj => by injection hj with hj; omega))
    | (gi_at_range; refine wpListIn_range_own _ rfl _ 49 rfl 3 4 (Maps.int_keyed Try.underlying3) Try.underlying49 _ _ _ _ rfl hM6 ?_; intro w4 hrg4 hg4 hs4))
  have hB4 : Below (w.heap.size + 2) w1 w4 := hB6.grown hg4 (by have := hB6.size; omega) (fun j hj => by cases hj)
  have hs6 := hgrow6.size
  have hs3 := hb3.size
  clear f0 f1 f2 f3 f4 f5 f6 f7 f8 his hun hM3 hown6 hmm hM6
  generalize hr : w6.heap.size = r at *
  generalize hm : w.heap.size + 2 + 1 = m at *
  have hmem : ∀ x, x ∈ ys ++ [g] ↔ Und G g x := fun x => by
    rw [List.mem_append, List.mem_singleton, hgr.mem_iff]; unfold Und; exact Or.comm
  have hUl : ∀ x, Und G g x → x < G.length := fun x hx => by
    rcases hx with rfl | hx
    · exact hg
    · exact kids_lt (fun p hp => kid_lt hp) hx
  have hUk : ∀ x, Und G g x → ∀ q ∈ kids G x, Und G g q := fun x hx q hq => by
    rcases hx with rfl | hx
    · exact .inr (.here hq)
    · exact .inr (.step hx hq)
  go_frame
  gi_loopw [7] (fun v wr => ∃ (ks : List Nat) (left : Lit → Bool) (cnt : Nat), wr.ranges Try.prog 3 (plainElem (H := Unit) Try.prog 4) m r (ys ++ [g]).length (DM (ys ++ [g])) left cnt ∧ Left left (ys ++ [g]) ks ∧ (∀ k ∈ ks, ¬ Loop G k) ∧ Below (w.heap.size + 2) w1 wr)
    (fun v wr => wr.rangeLeft m r)
  case atStart => exact ⟨[], _, _, hrg4, Left.start _, by simp, hB4⟩
  case round =>
    obtain ⟨ks, left, cnt, hrg, hL, hno, hB5⟩ := hrel
    have hlen : ∀ l : List Nat, l.Nodup → (∀ x ∈ l, x ∈ ys ++ [g]) → l.length ≤ G.length := fun l h1 h2 => nodup_len h1 (fun x hx => hUl x ((hmem x).1 (h2 x hx)))
    gi_wp2_with (gi_at_next; refine wpListIn_next_ranges _ rfl _ rfl 3 (Maps.int_keyed Try.underlying3) (plainElem Try.prog 4) (Value.int .i64) (fun c : Bw => Value.bool c.b) (fun key kl hk => by obtain ⟨x, hx, _⟩ := Maps.keyOf_int_inv Try.underlying3 hk; exact ⟨x, hx⟩) (fun v y hv => by obtain ⟨c, rfl, _⟩ := plainElem_bool_inv Try.underlying4 hv; exact ⟨⟨c⟩, rfl⟩) m r _ _ _ _ rfl hrg ?_ ?_)
    · intro hc0 hl0
      have hall : ∀ x, Und G g x → ¬ Loop G x := fun x hx => hno x ((hL.done hl0 x).2 ((hmem x).2 hx))
      have hw5 := hB5.size
      have hb5 := hb0.kept (hB5.block w.heap.size (by omega))
      have f0 := hb5.cell 0
      have f1 := hb5.cell 1
      have f2 := hb5.cell 2
      have f3 := hb5.cell 3
      have f4 := hb5.cell 4
      have f5 := hb5.cell 5
      have f6 := hb5.cell 6
      have f7 := hb5.cell 7
      have f8 := hb5.cell 8
      have hB6 : Below (w.heap.size + 2) w1 (wr.alloc (.map #[] 0)) := hB5.alloc (by omega) _
      have hMi : Mi (Bd G) (wr.alloc (.map #[] 0)) wr.heap.size [] := World.ownsMap_made _ _ _ _
      have hbe := bestD_calls f G n₀ wr.heap.size hN (by omega) (Und G g) (rk G) (Bd G) (bests_Bd hUk hall hUl) (fun x _ => Bd_range G x) (rk G g + 1) g [] (wr.alloc (.map #[] 0)) (Nat.lt_succ_self _) (.inl rfl) (by simp) (by simp)
        (hG.below (fun j hj => (hB6.block j (by omega)).trans (hB0.block j (by omega))) (Nat.le_refl _)) hMi (by simp [World.size_alloc]; omega)
      simp only [World.size_alloc] at hbe
      have hrun := @run_makeMap Try.prog
      simp only [Fv.cells] at hbe f0 f1 f2 f3 f4 f5 f6 f7 f8
      have hend : ∀ w9, Bk wr.heap.size (wr.heap.size + 1) (wr.alloc (.map #[] 0)) w9 → Below w.heap.size w w9 := fun w9 h =>
        hB0.trans ((hB5.mono (by omega)).trans (Below.trans ((Below.refl _ wr).alloc (by omega) _) ((h.mono (by omega)).below (by omega))))
      by_cases hd : 4 < Bd G g
      · have hd' : decide (4 < Bd G g) = true := decide_eq_true hd
        gi_wp2_with (refine ⟨trivial, ?_⟩; gi_at_call 31; refine (callsIn_wide.2 hbe).mono ?_; rintro e w9 ⟨rfl, zs, _, _, _, _, hbk, _⟩; have hB9 := hend _ hbk)
        refine bodyPost_ret (results_tmp2 rfl _ _ _) rfl ?_
        exact ⟨_, _, rfl, .inr (.inr (.inl ⟨hin, hall, hd, rfl, rfl⟩)), hB9⟩
      · have hd' : decide (4 < Bd G g) = false := decide_eq_false hd
        gi_wp2_with (refine ⟨trivial, ?_⟩; gi_at_call 31; refine (callsIn_wide.2 hbe).mono ?_; rintro e w9 ⟨rfl, zs, _, _, _, _, hbk, _⟩; have hB9 := hend _ hbk)
        refine bodyPost_ret (results_tmp2 rfl _ _ _) rfl ?_
        exact ⟨_, _, rfl, .inr (.inr (.inr ⟨hin, hall, by simpa using hd, rfl, rfl⟩)), hB9⟩
    · intro x c kl yd yp w5 cnt5 hkey hlk hv hat hrg5 hlt hg5 hs5 hen
      obtain ⟨x', ex, rfl, hwf⟩ := Maps.keyOf_int_inv Try.underlying3 hkey
      obtain ⟨k, hk, ekl⟩ := hL.some _ hlk
      injection ekl with _ ekl
      injection ex with _ ex
      subst ekl ex
      have hkl := hUl k ((hmem k).1 hk)
      have hL' := hL.step hlk
      have hB6 : Below (w.heap.size + 2) w1 w5 := hB5.grown hg5 (by have := hB5.size; omega) (fun j hj => by injection hj with hj; omega)
      have hw5 := hB6.size
      have hb5 := hb0.kept (hB6.block w.heap.size (by omega))
      have f0 := hb5.cell 0
      have f1 := hb5.cell 1
      have f2 := hb5.cell 2
      have f3 := hb5.cell 3
      have f4 := hb5.cell 4
      have f5 := hb5.cell 5
      have f6 := hb5.cell 6
      have f7 := hb5.cell 7
      have f8 := hb5.cell 8
      have hun := under_calls f G n₀ hN k hkl w5 (hG.below (fun j hj => (hB6.block j (by omega)).trans (hB0.block j (by omega))) (Nat.le_refl _)) (by omega)
      simp only [Fv.cells] at hun f0 f1 f2 f3 f4 f5 f6 f7 f8
      clear hs5
      gi_wp2_with (refine ⟨trivial, ?_⟩; gi_at_call 21; refine (callsIn_wide.2 hun).mono ?_; rintro e w7 ⟨zs, rfl, hgz, hb7, hM7⟩; have hlook := hM7.look k (by omega))
      · rename_i hin7
        refine bodyPost_ret (results_tmp2 rfl _ _ _) rfl ?_
        exact ⟨_, _, rfl, .inr (.inl ⟨hin, ⟨k, (hmem k).1 hk, (hgz.mem_iff k).1 hin7⟩, rfl, rfl⟩), hB0.trans ((hB6.mono (by omega)).trans (hb7.mono (by omega)))⟩
      · rename_i hin7
        have hg7 : w5.grownBy w7 none := ⟨hb7.os, hb7.tape, hb7.output, hb7.size, fun i hi _ => hb7.block i hi⟩
        have hrg7 := hrg5.kept hg7 (by simp) (by simp)
        refine ⟨⟨ks ++ [k], _, cnt5, by rw [List.length_append, List.length_singleton]; exact hrg7, hL', fun j hj => ?_, hB6.trans (hb7.mono (by omega))⟩, ?_⟩
        · rcases List.mem_append.1 hj with hj | hj
          · exact hno j hj
          · rw [List.mem_singleton.1 hj]; exact fun hl => hin7 ((hgz.mem_iff k).2 hl)
        · rw [hrg7.left_eq, hrg.left_eq]
          exact hlt
theorem Deep_calls (f : Fv) (G : Gs) (n₀ : Nat) (hN : G.length ≤ 1000000) (g : Int) (w : World) (hG : GlyphsAt n₀ w f.a G) (hn₀ : n₀ ≤ w.heap.size) :
    Calls Try.prog 17 #[.agg (f.cells G.length), .int .i64 g] w (DeepP G g w) := by
  by_cases hg : 0 ≤ g ∧ g < (G.length : Int)
  · obtain ⟨k, rfl⟩ : ∃ k : Nat, g = (k : Int) := ⟨g.toNat, by omega⟩
    exact Deep_in f G n₀ hN k (by omega) w hG hn₀
  · exact Deep_out f G g hg w
theorem All_calls (f : Fv) (G : Gs) (n₀ : Nat) (hN : G.length ≤ 1000000) (g : Int) (w : World) (hG : GlyphsAt n₀ w f.a G) (hn₀ : n₀ ≤ w.heap.size) :
    Calls Try.prog 13 #[.agg (f.cells G.length), .int .i64 g] w (AllP G g w) := by
  by_cases hg : 0 ≤ g ∧ g < (G.length : Int)
  · obtain ⟨k, rfl⟩ : ∃ k : Nat, g = (k : Int) := ⟨g.toNat, by omega⟩
    exact All_in f G n₀ hN k (by omega) w hG hn₀
  · exact All_out f G g hg w
end Go.Proofs.Ytajjailmmbcolaa
