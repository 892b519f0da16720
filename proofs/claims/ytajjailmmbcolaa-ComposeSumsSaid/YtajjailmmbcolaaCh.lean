/- compose: All. -/
import Derived.Maps.RangeWalk
import Derived.Sort.MapsRangeIn
import Derived.Test.YtajjailmmbcolaaCg
namespace Go.Proofs.Ytajjailmmbcolaa
open Go Go.Proofs Go.RowKit Go.Shelf Go.Maps
attribute [local go_sem] Oper.semAt_some

theorem DM_has (xs : List Nat) (kl : Lit) (h : Maps.has (DM xs) kl = true) : ∃ k, k ∈ xs ∧ kl = .int .i64 (k : Int) := by
  induction xs using snoc_ind with
  | h0 => simp [DM, Maps.has] at h
  | h1 xs x ih =>
    by_cases e : kl = .int .i64 (x : Int)
    · exact ⟨x, by simp, e⟩
    · rw [DM_snoc, has_put_other e] at h
      obtain ⟨k, h1, h2⟩ := ih h
      exact ⟨k, by simp [h1], h2⟩
theorem DM_has_at (xs : List Nat) (k : Nat) : Maps.has (DM xs) (.int .i64 (k : Int)) = decide (k ∈ xs) := by
  induction xs using snoc_ind with
  | h0 => simp [DM, Maps.has]
  | h1 xs x ih =>
    rw [DM_snoc]
    by_cases e : k = x
    · subst e
      rw [has_put_same (isMap_DM xs) (by trivial)]
      simp
    · rw [has_put_other (fun h => e (by simp at h; omega)), ih]
      simp [e]
/-- What is still to come of a set of marks. -/
structure Left (left : Lit → Bool) (ys ks : List Nat) : Prop where
  some : ∀ kl, left kl = true → ∃ k, k ∈ ys ∧ kl = .int .i64 (k : Int)
  at' : ∀ k : Nat, left (.int .i64 (k : Int)) = decide (k ∈ ys ∧ k ∉ ks)
  sub : ∀ k ∈ ks, k ∈ ys
  nodup : ks.Nodup
theorem Left.start (ys : List Nat) : Left (Maps.has (DM ys)) ys [] :=
  ⟨fun kl h => DM_has ys kl h, fun k => by rw [DM_has_at]; simp, by simp, by simp⟩
theorem Left.step {left : Lit → Bool} {ys ks : List Nat} (h : Left left ys ks) {k : Nat} (hk : left (.int .i64 (k : Int)) = true) : Left (fun z => left z && !z.sameKey (.int .i64 (k : Int))) ys (ks ++ [k]) := by
  have h0 := h.at' k
  rw [hk] at h0
  have h1 := of_decide_eq_true h0.symm
  refine ⟨fun kl hl => h.some kl (by simp at hl; exact hl.1), fun j => ?_, ?_, ?_⟩
  · rw [h.at' j]
    by_cases e : j = k
    · subst e
      rw [WideAt.sameKey_self (by trivial)]
      simp
    · rw [sameKey_ne (fun h => e (by simp at h; omega))]
      simp [e]
  · intro x hx
    rcases List.mem_append.1 hx with hx | hx
    · exact h.sub x hx
    · rw [List.mem_singleton.1 hx]; exact h1.1
  · rw [List.nodup_append]
    exact ⟨h.nodup, by simp, fun p hp q hq => by rw [List.mem_singleton.1 hq]; exact fun e => h1.2 (e ▸ hp)⟩
theorem Left.done {left : Lit → Bool} {ys ks : List Nat} (h : Left left ys ks) (hd : ∀ kl, left kl = false) (x : Nat) : x ∈ ks ↔ x ∈ ys := by
  refine ⟨h.sub x, fun hx => ?_⟩
  have := h.at' x
  rw [hd] at this
  have := of_decide_eq_false this.symm
  simp [hx] at this
  exact this

def AllP (G : Gs) (g : Int) (w : World) (e : Ending) (w' : World) : Prop := ∃ L : List Nat, L.Pairwise (· < ·) ∧ (∀ x, x ∈ L ↔ (0 ≤ g ∧ g < (G.length : Int)) ∧ (x = g.toNat ∨ From G (kids G g.toNat) x)) ∧ L.length ≤ 1000001 ∧ Below w.heap.size w w' ∧
  ∃ a cap, e = .returned (.slice a L.length cap) ∧ L.length ≤ cap ∧ (L = [] ∨ ∃ b, a = some ⟨b, 0, none⟩ ∧ w.heap.size ≤ b ∧ Cells w' b L)
theorem ow_one (w : World) (B d : Nat) (hB : B ≤ w.heap.size) : Ow (w.alloc (.cells #[.int .i64 (d : Int)] 3)) B (.slice (some ⟨w.heap.size, 0, none⟩) 1 1) [d] := by
  refine ⟨by simp [nv], .inr ⟨w.heap.size, 1, #[.int .i64 (d : Int)], rfl, hB, World.alloc_heap_new w _, by simp, by unfold maxLen; omega, by simp, ?_⟩⟩
  simp [nv]
theorem Ow.cells {w : World} {B : Nat} {v : Value} {l : List Nat} (h : Ow w B v l) (hl : l ≠ []) : ∃ b cap, v = .slice (some ⟨b, 0, none⟩) l.length cap ∧ l.length ≤ cap ∧ B ≤ b ∧ b < w.heap.size ∧ Cells w b l := by
  have h0 := h
  rcases h.2 with ⟨h1, h2⟩ | ⟨g, cap, cur, h1, hb, h3, h4, h5, h6⟩
  · exact absurd (List.eq_nil_of_length_eq_zero h2) hl
  · refine ⟨g, cap, h1, h4, hb, (Array.getElem?_eq_some_iff.1 h3).1, fun i hi => ⟨?_, by simp [World.frozen?, h3]⟩⟩
    have hc := World.ownsRow.cells h0 (g := g) (by rw [h1]; rfl) i _ (nv_get l i hi)
    have ha : (⟨g, 0, none⟩ : Addr).add i = ⟨g, 0 + i, none⟩ := by unfold Addr.add; split <;> simp_all
    rw [ha, Nat.zero_add] at hc
    exact hc
end Go.Proofs.Ytajjailmmbcolaa
