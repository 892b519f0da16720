/- compose: slices.Sort, slices.Compact at rows of numbers. -/
import Derived.Test.YtajjailmmbcolaaCf
import Derived.Test.YtajjailmmbcolaaShelf
namespace Go.Proofs.Ytajjailmmbcolaa
open Go Go.Proofs Go.RowKit Go.Shelf Go.Sort

/-- A row's cells, none of them frozen. -/
def Cells (w : World) (b : Nat) (zs : List Nat) : Prop := ∀ j, j < zs.length → w.cell? ⟨b, j, none⟩ = some (.int .i64 ((zs.getD j 0 : Nat) : Int)) ∧ w.frozen? ⟨b, j, none⟩ = false
def ints (zs : List Nat) : List Int := zs.map fun d : Nat => (d : Int)
theorem ints_toNat (S : List Int) (h : ∀ x ∈ S, 0 ≤ x) : ints (S.map Int.toNat) = S := by
  induction S with
  | nil => rfl
  | cons x S ih =>
    have := h x (by simp)
    simp only [ints, List.map_cons, List.cons.injEq]
    exact ⟨by omega, ih (fun y hy => h y (by simp [hy]))⟩
theorem ints_get (zs : List Nat) (j : Nat) (h : j < zs.length) : (ints zs).toArray[j]! = ((zs.getD j 0 : Nat) : Int) := by
  simp [ints, h, List.getD_eq_getElem?_getD]
theorem Cells.holds {w : World} {b : Nat} {zs : List Nat} (h : Cells w b zs) : Holds (Value.int .i64) w b 0 (ints zs).toArray := by
  intro j hj
  have hj' : j < zs.length := by simpa [ints] using hj
  rw [ints_get zs j hj', Nat.zero_add]
  exact h j hj'
theorem Holds.cells {w : World} {b : Nat} {zs : List Nat} (h : Holds (Value.int .i64) w b 0 (ints zs).toArray) : Cells w b zs := by
  intro j hj
  have := h j (by simpa [ints] using hj)
  rw [ints_get zs j hj, Nat.zero_add] at this
  exact this
theorem bk_putRow {w : World} {n b : Nat} {d : Array Int} {os : Array Obj} {B : Nat} (hB : B ≤ w.heap.size) : Bk b B w (Go.Sort.grow (putRow (Value.int .i64) (Sort.ahead w n) b 0 d) os) := by
  refine ⟨rfl, rfl, rfl, by simp, fun k hk hne => ?_⟩
  rw [heap_grow_old _ _ (by simp; omega)]
  unfold putRow mapBlock
  simp only [heap_ahead]
  rw [Array.getElem?_modify, if_neg (fun e => hne e.symm)]
theorem sort_calls (w : World) (b cap : Nat) (zs : List Nat) (hb : b < w.heap.size) (hc : Cells w b zs) (hl : zs.length ≤ 1000001) :
    Calls Try.prog 25 #[.slice (some ⟨b, 0, none⟩) zs.length cap] w fun e w' => ∃ ss, e = .returned (.tuple #[]) ∧ ss.Perm zs ∧ ss.Pairwise (· ≤ ·) ∧ Cells w' b ss ∧ Bk b w.heap.size w w' := by
  have hlen : (ints zs).length = zs.length := by simp [ints]
  have h := Try.slices_Sort_int b 0 cap (ints zs) w hc.holds hb (by omega)
  rw [hlen] at h
  refine h.mono ?_
  rintro e w' ⟨rfl, n, os, rfl⟩
  have hp := List.mergeSort_perm (ints zs) (fun x y => decide (x ≤ y))
  have hs := List.pairwise_mergeSort (le := fun x y : Int => decide (x ≤ y)) (by intro a b c; simp; omega) (by intro a b; simp; omega) (ints zs)
  generalize hS : (ints zs).mergeSort (fun x y => decide (x ≤ y)) = S at *
  have h0 : ∀ x ∈ S, 0 ≤ x := by
    intro x hx
    have := hp.mem_iff.1 hx
    simp only [ints, List.mem_map] at this
    obtain ⟨d, _, rfl⟩ := this
    omega
  have hi := ints_toNat S h0
  refine ⟨S.map Int.toNat, rfl, ?_, ?_, ?_, bk_putRow (Nat.le_refl _)⟩
  · have := hp.map Int.toNat
    simpa [ints, Function.comp_def] using this
  · rw [List.pairwise_map]
    refine hs.imp (fun {a b} hab => ?_)
    have : a ≤ b := by simpa using hab
    omega
  · refine Holds.cells ?_
    rw [hi]
    have hsz : S.toArray.size = (ints zs).toArray.size := by simpa using hp.length_eq
    refine holds_grow _ _ _ _ _ _ (by simpa using hb) ?_
    exact holds_putRow _ _ _ _ _ _ (holds_ahead _ _ _ _ _ _ hc.holds) hsz
open Go.Lib in
theorem compact_upTo (l : List Nat) (hs : l.Pairwise (· ≤ ·)) : ∀ m, m ≤ l.length → ∃ L, compactUpTo (ints l).toArray m = ints L ∧ L.Pairwise (· < ·) ∧ (∀ x, x ∈ L ↔ x ∈ l.take m) ∧ ∀ x ∈ L, x ≤ l.getD (m - 1) 0
  | 0, _ => ⟨[], rfl, by simp, by simp, by simp⟩
  | m + 1, h => by
    obtain ⟨L, h1, h2, h3, h4⟩ := compact_upTo l hs m (by omega)
    have hm : m < l.length := by omega
    have htk := take_succ' l m hm
    have hg : l[m] = l.getD m 0 := by simp [List.getD_eq_getElem?_getD, hm]
    have hle : ∀ x ∈ L, x ≤ l.getD m 0 := fun x hx => by
      obtain ⟨i, hi, rfl⟩ := List.mem_take_iff_getElem.1 ((h3 x).1 hx)
      rw [← hg]
      exact List.pairwise_iff_getElem.1 hs i m (by omega) hm (by omega)
    rw [compactUpTo_succ, h1, ints_get l m hm]
    by_cases hk : keeps (ints l).toArray m = true
    · refine ⟨L ++ [l.getD m 0], by rw [if_pos hk]; simp [ints], ?_, ?_, ?_⟩
      · rw [List.pairwise_append]
        refine ⟨h2, by simp, fun x hx y hy => ?_⟩
        rw [List.mem_singleton.1 hy]
        have hx1 := hle x hx
        have hx2 := h4 x hx
        unfold keeps at hk
        rcases Nat.eq_zero_or_pos m with rfl | hpos
        · have := (h3 x).1 hx; simp at this
        · rw [ints_get l m hm, ints_get l (m - 1) (by omega)] at hk
          simp only [decide_eq_true_eq] at hk
          have : l.getD m 0 ≠ l.getD (m - 1) 0 := fun e => by rw [e] at hk; simp at hk; omega
          have hle2 : l.getD (m - 1) 0 ≤ l.getD m 0 := by
            have h0 : m - 1 < l.length := by omega
            have := List.pairwise_iff_getElem.1 hs (m - 1) m h0 hm (by omega)
            simpa [List.getD_eq_getElem?_getD, hm, h0] using this
          omega
      · intro x
        rw [htk, List.mem_append, List.mem_append, h3 x, hg]
      · intro x hx
        rcases List.mem_append.1 hx with hx | hx
        · exact hle x hx
        · rw [List.mem_singleton.1 hx]; exact Nat.le_refl _
    · refine ⟨L, by simp [hk], h2, ?_, hle⟩
      intro x
      rw [htk, List.mem_append, h3 x, hg]
      constructor
      · exact .inl
      · rintro (hx | hx)
        · exact hx
        · rw [List.mem_singleton.1 hx]
          unfold keeps at hk
          rcases Nat.eq_zero_or_pos m with rfl | hpos
          · simp at hk
          · rw [ints_get l m hm, ints_get l (m - 1) (by omega)] at hk
            simp only [decide_eq_true_eq, not_or, Decidable.not_not] at hk
            have e : l.getD m 0 = l.getD (m - 1) 0 := by omega
            rw [e]
            have h0 : m - 1 < l.length := by omega
            refine List.mem_take_iff_getElem.2 ⟨m - 1, by omega, ?_⟩
            simp [List.getD_eq_getElem?_getD, h0]
theorem ints_append (a b : List Nat) : ints (a ++ b) = ints a ++ ints b := by simp [ints]
theorem ints_rep (n : Nat) : List.replicate n (0 : Int) = ints (List.replicate n 0) := by simp [ints]
theorem compact_calls (w : World) (b cap : Nat) (zs : List Nat) (hc : Cells w b zs) (hs : zs.Pairwise (· ≤ ·)) (hl : zs.length ≤ 1000001) (hcap : zs.length ≤ cap) :
    Calls Try.prog 26 #[.slice (some ⟨b, 0, none⟩) zs.length cap] w fun e w' => ∃ L, e = .returned (.slice (some ⟨b, 0, none⟩) L.length cap) ∧ L.Pairwise (· < ·) ∧ (∀ x, x ∈ L ↔ x ∈ zs) ∧ L.length ≤ zs.length ∧ Cells w' b L ∧ Bk b w.heap.size w w' := by
  have hlen : (ints zs).length = zs.length := by simp [ints]
  have h := Try.slices_Compact_int b 0 cap (ints zs) w hc.holds (by omega) (by omega)
  rw [hlen] at h
  obtain ⟨L, h1, h2, h3, _⟩ := compact_upTo zs hs zs.length (Nat.le_refl _)
  have hcomp : Go.Lib.compact (ints zs) = ints L := by unfold Go.Lib.compact; rw [hlen]; exact h1
  have hll : L.length ≤ zs.length := by
    have := Go.Lib.compact_length_le (ints zs)
    rw [hcomp, hlen] at this
    simpa [ints] using this
  rw [hcomp] at h
  refine h.mono ?_
  rintro e w' ⟨rfl, q, rfl⟩
  have hL : (ints L).length = L.length := by simp [ints]
  refine ⟨L, by rw [hL], h2, by simpa using h3, hll, ?_, ?_⟩
  · rw [ints_rep, ← ints_append]
    have hh := holds_putRow (Value.int .i64) (Sort.ahead w q) b 0 (ints zs).toArray (ints (L ++ List.replicate (zs.length - (ints L).length) 0)).toArray (holds_ahead _ _ _ _ _ _ hc.holds) (by simp [ints]; omega)
    have hcc := Holds.cells hh
    intro j hj
    have := hcc j (by simp; omega)
    have e : (L ++ List.replicate (zs.length - (ints L).length) 0).getD j 0 = L.getD j 0 := by simp [List.getD_eq_getElem?_getD, List.getElem?_append, hj]
    rw [e] at this
    exact this
  · have := bk_putRow (w := w) (n := q) (b := b) (d := (ints L ++ List.replicate (zs.length - (ints L).length) 0).toArray) (os := #[]) (Nat.le_refl _)
    simpa using this
end Go.Proofs.Ytajjailmmbcolaa
