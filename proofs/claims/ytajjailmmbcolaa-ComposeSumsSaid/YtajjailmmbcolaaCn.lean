/- compose: Deep, plain: a rank where nothing is part of itself; the depth. -/
import Derived.Test.YtajjailmmbcolaaCm
namespace Go.Proofs.Ytajjailmmbcolaa
open Go Go.Proofs

open Classical in
/-- How many glyphs lie under one. -/
noncomputable def rk (G : Gs) (x : Nat) : Nat := ((List.range G.length).filter fun y => decide (From G (kids G x) y)).length
theorem kid_lt {G : Gs} {x q : Nat} (h : q ∈ kids G x) : q < G.length := by
  unfold kids at h
  obtain ⟨p, _, rfl⟩ := List.mem_map.1 h
  exact gn_lt p
theorem filter_lt {α : Type} (p q : α → Bool) (l : List α) (h : ∀ x ∈ l, p x = true → q x = true) (hx : ∃ x ∈ l, p x = false ∧ q x = true) : (l.filter p).length < (l.filter q).length := by
  induction l with
  | nil => obtain ⟨x, hx, _⟩ := hx; cases hx
  | cons a l ih =>
    have hle : (l.filter p).length ≤ (l.filter q).length := by
      clear ih hx
      induction l with
      | nil => simp
      | cons b l ih =>
        have := ih (fun x hx => h x (by simp at hx ⊢; rcases hx with h | h <;> simp [h]))
        have hb := h b (by simp)
        cases hp : p b <;> cases hq : q b <;> simp_all <;> omega
    have ha := h a (by simp)
    by_cases hl : ∃ x ∈ l, p x = false ∧ q x = true
    · have := ih (fun x hx => h x (List.mem_cons_of_mem _ hx)) hl
      cases hp : p a <;> cases hq : q a <;> simp_all <;> omega
    · obtain ⟨x, hx, h1, h2⟩ := hx
      rcases List.mem_cons.1 hx with rfl | hx
      · simp [h1, h2]; omega
      · exact absurd ⟨x, hx, h1, h2⟩ hl
open Classical in
theorem rk_lt {G : Gs} {x q : Nat} (h : q ∈ kids G x) (hn : ¬ Loop G q) : rk G q < rk G x := by
  unfold rk
  refine filter_lt _ _ _ (fun y _ hy => ?_) ⟨q, by simpa using kid_lt h, decide_eq_false hn, decide_eq_true (From.here h)⟩
  exact decide_eq_true (From.under (.here h) (of_decide_eq_true hy))
/-- How deep, by so many steps. -/
def Bf (G : Gs) : Nat → Nat → Int
  | 0, _ => 0
  | n + 1, g => foldB (fun a b => max a (b + 1)) 5 (Bf G n) 0 (kids G g)
theorem foldB_congr {join : Int → Int → Int} {most : Int} {B B' : Nat → Int} (n : Int) (ps : List Nat) (h : ∀ q ∈ ps, B q = B' q) : foldB join most B n ps = foldB join most B' n ps := by
  unfold foldB
  induction ps generalizing n with
  | nil => rfl
  | cons p ps ih =>
    simp only [List.foldl_cons]
    rw [h p (by simp)]
    exact ih _ (fun q hq => h q (by simp [hq]))
theorem foldB_range {B : Nat → Int} (n : Int) (ps : List Nat) (h : 0 ≤ n ∧ n ≤ 5) : 0 ≤ foldB (fun a b => max a (b + 1)) 5 B n ps ∧ foldB (fun a b => max a (b + 1)) 5 B n ps ≤ 5 := by
  unfold foldB
  induction ps generalizing n with
  | nil => exact h
  | cons p ps ih =>
    simp only [List.foldl_cons]
    exact ih _ (by omega)
noncomputable def Bd (G : Gs) (g : Nat) : Int := Bf G (rk G g + 1) g
theorem Bf_stable {G : Gs} {T : Nat → Prop} (hk : ∀ x, T x → ∀ q ∈ kids G x, T q) (hn : ∀ x, T x → ¬ Loop G x) : ∀ (d : Nat) (g : Nat), T g → rk G g < d → ∀ n, rk G g + 1 ≤ n → Bf G n g = Bd G g := by
  intro d
  induction d with
  | zero => intro g _ h; omega
  | succ d ih =>
    intro g hT hd n hn'
    obtain ⟨m, rfl⟩ : ∃ m, n = m + 1 := ⟨n - 1, by omega⟩
    unfold Bd
    show foldB _ 5 (Bf G m) 0 (kids G g) = foldB _ 5 (Bf G (rk G g)) 0 (kids G g)
    refine foldB_congr _ _ (fun q hq => ?_)
    have hlt := rk_lt hq (hn q (hk g hT q hq))
    rw [ih q (hk g hT q hq) (by omega) m (by omega), ih q (hk g hT q hq) (by omega) (rk G g) (by omega)]
theorem Bd_range (G : Gs) (g : Nat) : 0 ≤ Bd G g ∧ Bd G g ≤ 5 := foldB_range 0 _ (by omega)
theorem bests_Bd {G : Gs} {T : Nat → Prop} (hk : ∀ x, T x → ∀ q ∈ kids G x, T q) (hn : ∀ x, T x → ¬ Loop G x) (hl : ∀ x, T x → x < G.length) : Bests G T (rk G) (fun _ => 0) (fun a b => max a (b + 1)) 5 (Bd G) := by
  refine ⟨fun g hg q hq => ⟨hk g hg q hq, rk_lt hq (hn q (hk g hg q hq))⟩, hl, fun g hg => ?_, fun g _ => ?_⟩
  · have e : Bd G g = foldB (fun a b => max a (b + 1)) 5 (Bf G (rk G g)) 0 (kids G g) := by unfold Bd; rfl
    rw [e]
    refine foldB_congr _ _ (fun q hq => ?_)
    exact Bf_stable hk hn _ q (hk g hg q hq) (Nat.lt_succ_self _) _ (rk_lt hq (hn q (hk g hg q hq)))
  · have h := Bd_range G g
    obtain ⟨k, hk'⟩ : ∃ k : Nat, Bd G g = (k : Int) := ⟨(Bd G g).toNat, by omega⟩
    rw [hk']
    exact wf_nat (by omega)
end Go.Proofs.Ytajjailmmbcolaa
