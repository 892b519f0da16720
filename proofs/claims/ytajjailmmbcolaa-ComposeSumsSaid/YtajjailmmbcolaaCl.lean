/- compose: best, words. -/
import Derived.Test.YtajjailmmbcolaaCi
import Derived.Test.YtajjailmmbcolaaCk
namespace Go.Proofs.Ytajjailmmbcolaa
open Go Go.Proofs Go.RowKit Go.Shelf Go.Maps

/-- What is known, as a datum: of each of xs its B. -/
def DI (B : Nat → Int) (xs : List Nat) : DataW Unit := xs.foldl (fun D (x : Nat) => D.put (.int .i64 (x : Int)) (.lit (.int .i64 (B x)))) (.map [])
theorem DI_snoc (B : Nat → Int) (xs : List Nat) (x : Nat) : DI B (xs ++ [x]) = (DI B xs).put (.int .i64 (x : Int)) (.lit (.int .i64 (B x))) := by simp [DI]
theorem isMap_DI_from (B : Nat → Int) (xs : List Nat) : ∀ D : DataW Unit, IsMap D → IsMap (xs.foldl (fun D (x : Nat) => D.put (.int .i64 (x : Int)) (.lit (.int .i64 (B x)))) D) := by
  induction xs with
  | nil => exact fun D h => h
  | cons x xs ih => exact fun D h => ih _ (by obtain ⟨es, rfl⟩ := h; exact ⟨_, rfl⟩)
theorem isMap_DI (B : Nat → Int) (xs : List Nat) : IsMap (DI B xs) := isMap_DI_from B xs _ ⟨_, rfl⟩
theorem DI_at (B : Nat → Int) (xs : List Nat) (k : Nat) (hk : k ∈ xs) (z : DataW Unit) : (DI B xs).atKey (.int .i64 (k : Int)) z = .lit (.int .i64 (B k)) := by
  induction xs using snoc_ind with
  | h0 => simp at hk
  | h1 xs x ih =>
    rw [DI_snoc]
    by_cases e : k = x
    · subst e
      rw [atKey_put_same (isMap_DI B xs) (by trivial)]
    · rw [atKey_put_other (fun h => e (by simp at h; omega)), ih (by simpa [e] using hk)]
theorem DI_has (B : Nat → Int) (xs : List Nat) (k : Nat) : Maps.has (DI B xs) (.int .i64 (k : Int)) = decide (k ∈ xs) := by
  induction xs using snoc_ind with
  | h0 => simp [DI, Maps.has]
  | h1 xs x ih =>
    rw [DI_snoc]
    by_cases e : k = x
    · subst e
      rw [has_put_same (isMap_DI B xs) (by trivial)]
      simp
    · rw [has_put_other (fun h => e (by simp at h; omega)), ih]
      simp [e]
abbrev Mi (B : Nat → Int) (w : World) (m : Nat) (xs : List Nat) : Prop := w.ownsMap Try.prog 3 (plainElem (H := Unit) Try.prog 3) m xs.length (DI B xs)
theorem Mi.own {β : Type} {B : Nat → Int} {A m : Nat} {xs : List Nat} (hm : m < A) : OwnFrom A (fun (_ : β) W => Mi B W m xs) := fun _ _ _ _ h hg hr =>
  World.ownsMap.kept h hg (fun e => by have := (hr m e.symm).1; omega)
/-- What a round makes of a number. -/
def foldB (join : Int → Int → Int) (most : Int) (B : Nat → Int) (n : Int) (ps : List Nat) : Int := ps.foldl (fun n q => min (join n (B q)) most) n
theorem foldB_snoc (join : Int → Int → Int) (most : Int) (B : Nat → Int) (n : Int) (ps : List Nat) (q : Nat) : foldB join most B n (ps ++ [q]) = min (join (foldB join most B n ps) (B q)) most := by simp [foldB]
/-- All that best asks of its numbers: of a set of glyphs, each lower than what has it. -/
structure Bests (G : Gs) (T : Nat → Prop) (r : Nat → Nat) (own : Nat → Int) (join : Int → Int → Int) (most : Int) (B : Nat → Int) : Prop where
  kid : ∀ g, T g → ∀ q ∈ kids G g, T q ∧ r q < r g
  lt : ∀ g, T g → g < G.length
  eq : ∀ g, T g → B g = foldB join most B (own g) (kids G g)
  wfB : ∀ g, T g → (Lit.int .i64 (B g)).wf = true
end Go.Proofs.Ytajjailmmbcolaa
