/- compose: the chapter's examples, plain; orders of fonts without loops. -/
import Derived.Test.YtajjailmmbcolaaCp
namespace Go.Proofs.Ytajjailmmbcolaa
open Go Go.Proofs Go.RowKit Go.Shelf Go.Maps

theorem from_above {G : Gs} {m : Nat} {ps : List Nat} {x : Nat} (hk : ∀ g, ∀ q ∈ kids G g, g < q) (hp : ∀ p ∈ ps, m < p) (h : From G ps x) : m < x := by
  induction h with
  | here h => exact hp _ h
  | step _ h2 ih => have := hk _ _ h2; omega
theorem no_loop {G : Gs} (hk : ∀ g, ∀ q ∈ kids G g, g < q) (g : Nat) : ¬ Loop G g := fun h => by
  have := from_above hk (hk g) h
  omega
theorem kids_out {G : Gs} {g : Nat} (h : G.length ≤ g) : kids G g = [] := by
  simp [kids, List.getD_eq_getElem?_getD, List.getElem?_eq_none h, flt]
def G3 : Gs := [[(1, 0, 0), (2, 0, 0)], [(2, 0, 0)], []]
def G2 : Gs := [[(1, 0, 0)], [(1, 0, 0)]]
theorem G3_rise : ∀ g, ∀ q ∈ kids G3 g, g < q := by
  intro g q hq
  rcases g with _ | _ | _ | g
  · have : kids G3 0 = [1, 2] := by decide
    rw [this] at hq; simp at hq; omega
  · have : kids G3 1 = [2] := by decide
    rw [this] at hq; simp at hq; omega
  · have : kids G3 2 = [] := by decide
    rw [this] at hq; simp at hq
  · rw [kids_out (by simp [G3])] at hq; simp at hq
theorem G3_ord : ord G3 G3.length = [2, 1, 0] := by decide
theorem G2_loop1 : Loop G2 1 := .here (by decide)
theorem G2_loop0 : ¬ Loop G2 0 := by
  have h : ∀ x, From G2 (kids G2 0) x → x = 1 := by
    intro x hx
    induction hx with
    | here h =>
      have : kids G2 0 = [1] := by decide
      rw [this] at h; simpa using h
    | step _ h2 ih =>
      subst ih
      have : kids G2 1 = [1] := by decide
      rw [this] at h2; simpa using h2
  exact fun hl => by have := h 0 hl; omega
/-- A depth, by enough steps. -/
theorem rk_le (G : Gs) (g : Nat) : rk G g ≤ G.length := by
  unfold rk
  have := List.length_filter_le (fun y => @decide (From G (kids G g) y) (Classical.propDecidable _)) (List.range G.length)
  simpa using this
theorem Bd_eq {G : Gs} {g : Nat} (hn : ∀ x, Und G g x → ¬ Loop G x) (n : Nat) (h : G.length + 1 ≤ n) : Bd G g = Bf G n g := by
  have hUk : ∀ x, Und G g x → ∀ q ∈ kids G x, Und G g q := fun x hx q hq => by
    rcases hx with rfl | hx
    · exact .inr (.here hq)
    · exact .inr (.step hx hq)
  have := rk_le G g
  exact (Bf_stable hUk hn (rk G g + 1) g (.inl rfl) (Nat.lt_succ_self _) n (by omega)).symm
theorem G3_deep : Bd G3 0 = 2 := by
  rw [Bd_eq (fun x _ => no_loop G3_rise x) 4 (by decide)]
  decide
theorem ord3 {w : World} {e : Ending} {w' : World} (h : OrderP G3 w e w') : Below w.heap.size w w' ∧ ∃ v, e = .returned (.tuple #[v, .int .i64 0, .int .i64 0]) ∧ Rn w' v [2, 1, 0] := by
  obtain ⟨h1, ⟨g, _, _, hl, _⟩ | ⟨v, h2, _, h3⟩⟩ := h
  · exact absurd hl (no_loop G3_rise g)
  · refine ⟨h1, v, h2, ?_⟩
    rw [G3_ord] at h3
    have := rn_ow h3 (by simp)
    simpa [ints] using this
theorem ord2 {w : World} {e : Ending} {w' : World} (h : OrderP G2 w e w') : Below w.heap.size w w' ∧ e = .returned (.tuple #[.slice none 0 0, .int .i64 1, .int .i64 33]) := by
  obtain ⟨h1, ⟨g, h2, hlt, hl, hn⟩ | ⟨v, h2, hno, h3⟩⟩ := h
  · refine ⟨h1, ?_⟩
    have : g = 1 := by
      have hg2 : g < 2 := hlt
      have h0 : g ≠ 0 := fun e => G2_loop0 (e ▸ hl)
      omega
    rw [h2, this]; rfl
  · exact absurd G2_loop1 (hno 1 (by decide))
theorem deep3 {w : World} {e : Ending} {w' : World} (h : DeepP G3 0 w e w') : Below w.heap.size w w' ∧ e = .returned (.tuple #[.int .i64 2, .int .i64 0]) := by
  obtain ⟨n, c, he, h1, h2⟩ := h
  refine ⟨h2, ?_⟩
  rcases h1 with ⟨h, _⟩ | ⟨_, ⟨x, _, hx⟩, _⟩ | ⟨_, _, h, _⟩ | ⟨_, _, _, rfl, rfl⟩
  · exact absurd (by decide) h
  · exact absurd hx (no_loop G3_rise x)
  · have := G3_deep; simp at h; omega
  · rw [he]; simp [G3_deep]
theorem sorted_eq : ∀ {a b : List Nat}, a.Pairwise (· < ·) → b.Pairwise (· < ·) → (∀ x, x ∈ a ↔ x ∈ b) → a = b
  | [], [], _, _, _ => rfl
  | [], y :: b, _, _, h => by have := (h y).2 (by simp); simp at this
  | x :: a, [], _, _, h => by have := (h x).1 (by simp); simp at this
  | x :: a, y :: b, ha, hb, h => by
    rw [List.pairwise_cons] at ha hb
    have hxy : x = y := by
      rcases List.mem_cons.1 ((h x).1 (by simp)) with e | e
      · exact e
      · rcases List.mem_cons.1 ((h y).2 (by simp)) with e' | e'
        · exact e'.symm
        · have := hb.1 x e; have := ha.1 y e'; omega
    subst hxy
    rw [sorted_eq ha.2 hb.2 (fun z => ?_)]
    have hz := h z
    simp only [List.mem_cons] at hz
    constructor
    · intro h1
      rcases hz.1 (.inr h1) with e | e
      · have := ha.1 z h1; omega
      · exact e
    · intro h1
      rcases hz.2 (.inr h1) with e | e
      · have := hb.1 z h1; omega
      · exact e
theorem all3 {w : World} {e : Ending} {w' : World} (h : AllP G3 1 w e w') : Below w.heap.size w w' ∧ ∃ v, e = .returned v ∧ Rn w' v [1, 2] := by
  obtain ⟨L, h1, h2, h3, h4, a, cap, he, h6, h5⟩ := h
  refine ⟨h4, _, he, ?_⟩
  have hf : ∀ x, From G3 (kids G3 1) x ↔ x = 2 := by
    intro x
    have hk1 : kids G3 1 = [2] := by decide
    rw [hk1]
    constructor
    · intro hx
      induction hx with
      | here h => simpa using h
      | step _ hq ih =>
        subst ih
        have : kids G3 2 = [] := by decide
        rw [this] at hq; simp at hq
    · rintro rfl; exact .here (by simp)
  have hL : L = [1, 2] := sorted_eq h1 (by decide) (fun x => by
    rw [h2 x]
    show (_ ∧ (x = 1 ∨ From G3 (kids G3 1) x)) ↔ _
    rw [hf x]
    have : (0 : Int) ≤ 1 ∧ (1 : Int) < ((List.length G3 : Nat) : Int) := by decide
    simp [this])
  subst hL
  rcases h5 with h5 | ⟨b, rfl, _, hc⟩
  · cases h5
  · have := rn_cells hc (by simp) h6
    simpa [ints] using this
end Go.Proofs.Ytajjailmmbcolaa
