/- compose: rows of numbers as the print reads them. -/
import Derived.Test.YtajjailmmbcolaaCo
import Derived.Test.YtajjailmmbcolaaPComposeTellsx9
namespace Go.Proofs.Ytajjailmmbcolaa
open Go Go.Proofs Go.RowKit Go.Shelf Go.Maps Go.Proofs.YtajjailmmbcolaaW.PrintWords

/-- A slice that reads as a row of numbers. -/
def Rn (w : World) (v : Value) (l : List Int) : Prop := ∃ A c, v = .slice A l.length c ∧ l.length ≤ c ∧ (Kd.int .i64).C w A l.length l
theorem ad_add (b o j : Nat) : (⟨b, o, none⟩ : Addr).add j = ⟨b, o + j, none⟩ := by unfold Addr.add; split <;> simp_all
theorem c_int {w : World} {b o : Nat} {l : List Int} (hl : l.length ≤ 9223372036854775807) (h : ∀ j (_ : j < l.length), w.cell? ⟨b, o + j, none⟩ = some (.int .i64 l[j])) : (Kd.int .i64).C w (some ⟨b, o, none⟩) l.length l := by
  refine ⟨rfl, hl, fun _ => ⟨_, rfl, fun j p hj => ?_⟩⟩
  obtain ⟨hlt, rfl⟩ := List.getElem?_eq_some_iff.1 hj
  refine ⟨[.int .i64 l[j]], rfl, rfl, fun i u hu => ?_⟩
  have h1 : (Kd.int .i64).sz = 1 := rfl
  rw [h1, ad_add, Nat.mul_one]
  rcases i with _ | i
  · simp at hu
    rw [← hu]
    exact h j hlt
  · simp at hu
theorem c_int_get {w : World} {A : Option Addr} {l : List Int} {n : Nat} (h : (Kd.int .i64).C w A n l) (j : Nat) (hj : j < l.length) : ∃ ad, A = some ad ∧ w.cell? (ad.add j) = some (.int .i64 l[j]) := by
  obtain ⟨h1, _, h3⟩ := h
  obtain ⟨ad, e, hc⟩ := h3 (by omega)
  obtain ⟨c, hc1, hc2, hc3⟩ := hc j l[j] (List.getElem?_eq_getElem hj)
  have hk : c = [.int .i64 l[j]] := hc2
  have h1 : (Kd.int .i64).sz = 1 := rfl
  have := hc3 0 (.int .i64 l[j]) (by rw [hk]; rfl)
  rw [h1, Nat.mul_one, Nat.add_zero] at this
  exact ⟨ad, e, this⟩
theorem rn_ow {w : World} {B : Nat} {v : Value} {l : List Nat} (h : Ow w B v l) (hl : l.length ≤ 1000000) : Rn w v (ints l) := by
  have hil : (ints l).length = l.length := by simp [ints]
  by_cases e : l = []
  · subst e
    rcases h.2 with ⟨rfl, _⟩ | ⟨g, cap, cur, rfl, _⟩
    · exact ⟨none, 0, rfl, Nat.le_refl _, rfl, by simp [ints], fun h => (by simp [ints] at h)⟩
    · exact ⟨_, cap, rfl, Nat.zero_le _, rfl, by simp [ints], fun h => (by simp [ints] at h)⟩
  · obtain ⟨b, cap, rfl, hcap, _, _, hc⟩ := h.cells e
    refine ⟨some ⟨b, 0, none⟩, cap, by rw [hil], by omega, c_int (by omega) (fun j hj => ?_)⟩
    rw [Nat.zero_add, (hc j (by omega)).1]
    simp [ints, List.getD_eq_getElem?_getD, List.getElem?_eq_getElem (show j < l.length by omega)]
theorem rn_cells {w : World} {b cap : Nat} {l : List Nat} (hc : Cells w b l) (hl : l.length ≤ 1000001) (hcap : l.length ≤ cap) : Rn w (.slice (some ⟨b, 0, none⟩) l.length cap) (ints l) := by
  have hil : (ints l).length = l.length := by simp [ints]
  refine ⟨some ⟨b, 0, none⟩, cap, by rw [hil], by omega, c_int (by omega) (fun j hj => ?_)⟩
  rw [Nat.zero_add, (hc j (by omega)).1]
  simp [ints, List.getD_eq_getElem?_getD, List.getElem?_eq_getElem (show j < l.length by omega)]
theorem rn_bx {w : World} {b : Nat} (l : List Int) {t : TypeId} (h : Bx w b (l.map (Value.int .i64)).toArray t) (hl : l.length ≤ 1000000) : Rn w (.slice (some ⟨b, 0, none⟩) l.length l.length) l := by
  refine ⟨some ⟨b, 0, none⟩, _, rfl, Nat.le_refl _, c_int (by omega) (fun j hj => ?_)⟩
  rw [Nat.zero_add, h.cell j]
  simp [hj]
theorem Rn.below {w w1 : World} {v : Value} {l : List Int} (h : Rn w v l) (hb : Below w.heap.size w w1) : Rn w1 v l := by
  obtain ⟨A, c, h1, h2, h3⟩ := h
  exact ⟨A, c, h1, h2, Kd.C_below h3 hb⟩
theorem wr1 (i : Nat) (h : i ≤ 1000000000) : wrap64 ((i : Int) + 1) = ((i + 1 : Nat) : Int) := by
  rw [IntWalk.wrap64_in _ ⟨by omega, by omega⟩]; rfl
/-- Nums. -/
theorem nums_l0 (a b : List Int) (he : a.length = b.length) (hl : a.length ≤ 1000000000) : ∀ (d i k : Nat), a.length - i < d → i ≤ a.length → d ≤ k → (∀ j, j < i → a[j]? = b[j]?) → PComposeTells.fleuronref04_Nums.l0 k a b i = some (decide (a = b)) := by
  intro d
  induction d with
  | zero => intro i k h; omega
  | succ d ih =>
    intro i k hd hi hk hp
    obtain ⟨k, rfl⟩ : ∃ m, k = m + 1 := ⟨k - 1, by omega⟩
    unfold PComposeTells.fleuronref04_Nums.l0
    by_cases h1 : i < a.length
    · rw [if_pos (by omega), if_pos (by omega), if_pos (by omega)]
      have ra : rd a i = a[i] := by unfold rd; simp [List.getD_eq_getElem?_getD, h1]
      have rb : rd b i = b[i] := by unfold rd; simp [List.getD_eq_getElem?_getD, he ▸ h1]
      rw [ra, rb]
      by_cases h2 : a[i] = b[i]
      · rw [if_pos h2]
        rw [wr1 i (by omega)]
        refine ih (i + 1) k (by omega) (by omega) (by omega) (fun j hj => ?_)
        by_cases e : j = i
        · subst e; rw [List.getElem?_eq_getElem h1, List.getElem?_eq_getElem (he ▸ h1), h2]
        · exact hp j (by omega)
      · rw [if_neg h2]
        have : a ≠ b := fun e => h2 (by subst e; rfl)
        simp [this]
    · rw [if_neg (by omega)]
      have : a = b := List.ext_getElem? (fun j => by
        by_cases e : j < i
        · exact hp j e
        · rw [List.getElem?_eq_none (by omega), List.getElem?_eq_none (by omega)])
      simp [this]
theorem nums_f (a b : List Int) (hl : a.length ≤ 1000000000) : PComposeTells.fleuronref04_Nums.f (a.length + 1) a b = some (decide (a = b)) := by
  unfold PComposeTells.fleuronref04_Nums.f
  by_cases he : a.length = b.length
  · rw [if_pos (by omega)]
    exact nums_l0 a b he hl (a.length + 1) 0 _ (by omega) (by omega) (by omega) (by simp)
  · rw [if_neg (by omega)]
    have : a ≠ b := fun e => he (by rw [e])
    simp [this]
theorem nums_calls {w : World} {v u : Value} {a b : List Int} (hv : Rn w v a) (hu : Rn w u b) (hl : a.length ≤ 1000000000) :
    Calls Try.prog 19 #[v, u] w fun e w' => e = .returned (.bool (decide (a = b))) ∧ Below w.heap.size w w' := by
  obtain ⟨A, c, rfl, h1, h2⟩ := hv
  obtain ⟨A', c', rfl, h1', h2'⟩ := hu
  refine (PComposeTells.fleuronref04_Nums.calls (a.length + 1) A c a A' c' b _ w h2 h1 h2' h1' (nums_f a b hl)).mono ?_
  rintro e w' ⟨h, hd⟩
  exact ⟨h, hd.below⟩
end Go.Proofs.Ytajjailmmbcolaa
