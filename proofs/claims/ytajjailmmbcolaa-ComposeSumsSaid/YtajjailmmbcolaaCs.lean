/- compose: the order, plain: each glyph once, behind its parts. -/
import Derived.Test.YtajjailmmbcolaaCr
namespace Go.Proofs.Ytajjailmmbcolaa
open Go Go.Proofs

theorem pick_spec {G : Gs} {xs : List Nat} {g : Nat} (h : pick G xs = some g) : g < G.length ∧ (∀ q ∈ kids G g, q ∈ xs) ∧ g ∉ xs := by
  unfold pick at h
  have hr := List.find?_some h
  have hm := List.mem_of_find?_eq_some h
  simp only [isReady, decide_eq_true_eq] at hr
  exact ⟨by simpa using hm, hr⟩
/-- Parts stand ahead. -/
theorem ord_ahead (G : Gs) (k : Nat) : ∀ i (h : i < (ord G k).length), ∀ q ∈ kids G (ord G k)[i], q ∈ (ord G k).take i := by
  induction k with
  | zero => intro i h; simp [ord] at h
  | succ k ih =>
    intro i h q hq
    simp only [ord, grow] at h hq ⊢
    cases hp : pick G (ord G k) with
    | none => simp only [hp] at h hq ⊢; exact ih i h q hq
    | some g =>
      simp only [hp] at h hq ⊢
      by_cases hi : i < (ord G k).length
      · rw [List.getElem_append_left hi] at hq
        rw [List.take_append_of_le_length (by omega)]
        exact ih i hi q hq
      · have he : i = (ord G k).length := by simp at h; omega
        subst he
        rw [List.getElem_append_right (by omega)] at hq
        simp at hq
        rw [List.take_append_of_le_length (by omega), List.take_length]
        exact (pick_spec hp).2.1 q hq
theorem min_exists {p : Nat → Prop} (r : Nat → Nat) : ∀ (d x : Nat), r x < d → p x → ∃ y, p y ∧ ∀ z, p z → r y ≤ r z := by
  intro d
  induction d with
  | zero => intro x h; omega
  | succ d ih =>
    intro x hd hx
    by_cases h : ∃ z, p z ∧ r z < r x
    · obtain ⟨z, hz, hlt⟩ := h
      exact ih z (by omega) hz
    · exact ⟨x, hx, fun z hz => by
        by_cases e : r z < r x
        · exact absurd ⟨z, hz, e⟩ h
        · omega⟩
theorem missing {N : Nat} {xs : List Nat} (hl : xs.length < N) : ∃ g, g < N ∧ g ∉ xs := by
  by_cases h : ∃ g, g < N ∧ g ∉ xs
  · exact h
  · exfalso
    have hs : ∀ x ∈ List.range N, x ∈ xs := fun x hx => by
      by_cases e : x ∈ xs
      · exact e
      · exact absurd ⟨x, by simpa using hx, e⟩ h
    have := nodup_len_le (List.nodup_range (n := N)) hs
    simp at this
    omega
theorem ord_len {G : Gs} (hn : ∀ g, g < G.length → ¬ Loop G g) : ∀ k, k ≤ G.length → (ord G k).length = k := by
  intro k
  induction k with
  | zero => intro _; rfl
  | succ k ih =>
    intro hk
    have hlen := ih (by omega)
    obtain ⟨g, hg, hgx⟩ := missing (N := G.length) (xs := ord G k) (by omega)
    obtain ⟨y, ⟨hy1, hy2⟩, hy3⟩ := min_exists (p := fun g => g < G.length ∧ g ∉ ord G k) (rk G) (rk G g + 1) g (Nat.lt_succ_self _) ⟨hg, hgx⟩
    have hr : isReady G (ord G k) y = true := by
      simp only [isReady, decide_eq_true_eq]
      refine ⟨fun q hq => ?_, hy2⟩
      by_cases e : q ∈ ord G k
      · exact e
      · have h1 := rk_lt hq (hn q (kid_lt hq))
        have h2 := hy3 q ⟨kid_lt hq, e⟩
        omega
    simp only [ord, grow]
    cases hp : pick G (ord G k) with
    | none =>
      unfold pick at hp
      rw [List.find?_eq_none] at hp
      exact absurd hr (hp y (by simpa using hy1))
    | some z => simp [hlen]
/-- A loop goes by one of the parts. -/
theorem loop_part {G : Gs} {g : Nat} (h : Loop G g) : ∃ p ∈ kids G g, p = g ∨ From G (kids G p) g := by
  have key : ∀ ps x, From G ps x → ∃ p ∈ ps, p = x ∨ From G (kids G p) x := by
    intro ps x hx
    induction hx with
    | here h => exact ⟨_, h, .inl rfl⟩
    | step _ h2 ih =>
      obtain ⟨p, hp, h3⟩ := ih
      refine ⟨p, hp, .inr ?_⟩
      rcases h3 with rfl | h3
      · exact .here h2
      · exact .step h3 h2
  exact key _ _ h
/-- Which parts there are. -/
theorem mem_kids {G : Gs} {g p : Nat} (hg : g < G.length) : p ∈ kids G g ↔ ∃ j, ∃ h : j < G[g].length, G[g][j].1 = (p : Int) ∧ p < G.length := by
  simp only [kids, List.getD_eq_getElem?_getD, List.getElem?_eq_getElem hg, Option.getD_some, List.mem_map, flt, List.mem_filterMap]
  constructor
  · rintro ⟨x, ⟨y, hy, hx⟩, rfl⟩
    obtain ⟨j, hj, rfl⟩ := List.getElem_of_mem hy
    refine ⟨j, hj, ?_, gn_lt x⟩
    split at hx
    · cases hx
      rename_i hr
      show G[g][j].1 = ((G[g][j].1.toNat : Nat) : Int)
      omega
    · cases hx
  · rintro ⟨j, hj, h1, h2⟩
    have hr : 0 ≤ G[g][j].1 ∧ G[g][j].1 < (G.length : Int) := by omega
    refine ⟨⟨G[g][j], hr⟩, ⟨G[g][j], List.getElem_mem hj, dif_pos hr⟩, ?_⟩
    unfold gn
    simp only
    omega
end Go.Proofs.Ytajjailmmbcolaa
