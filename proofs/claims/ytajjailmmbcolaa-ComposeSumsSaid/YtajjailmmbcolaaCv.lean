/- compose: a font by numbers as the laws take it; ComposeAhead over any row of numbers. -/
import Derived.Test.YtajjailmmbcolaaMe
namespace Go.Proofs.Ytajjailmmbcolaa
open Go Go.Proofs Go.RowKit Go.Proofs.YtajjailmmbcolaaW.PrintWords Go.Proofs.YtajjailmmbcolaaW.PrintMore PComposeTells

/-- What Made hands back: a font by numbers, of its own. -/
def MadeP (loops : Bool) (l : List Int) (w : World) (e : Ending) (w' : World) : Prop :=
  ∃ (gs : List S45) (v1 : Value), PComposeTells.Good loops 16 gs ∧ gs.length = nl l ∧ e = .returned (.agg #[.int .i64 0, v1, .slice none 0 0, .slice none 0 0, .slice none 0 0, .slice none 0 0, .slice none 0 0, .slice none 0 0, .slice none 0 0]) ∧ Kd.S k45 45 w' w.heap.size (fun _ => True) v1 gs ∧ Below w.heap.size w w'
theorem made_calls (loops : Bool) {v : Value} {l : List Int} {w : World} (hv : Rn w v l) (hl : l.length * 8 ≤ 140737488351232) : Calls Try.prog 11 #[v, .bool loops] w (MadeP loops l w) := by
  obtain ⟨A, c, rfl, hc, hr⟩ := hv
  refine (Made_calls loops A c l w hr hc hl).mono ?_
  rintro e w' ⟨gs, v1, h1, h2, h3, h4, h5⟩
  exact ⟨gs, v1, h1, h2, h3, h4, h5⟩
theorem made_font {loops : Bool} {l : List Int} {w : World} {e : Ending} {w' : World} (h : MadeP loops l w e w') : FontP Few w e w' := by
  obtain ⟨gs, v1, hg, _, rfl, hS, hb⟩ := h
  obtain ⟨a, c, rfl, hG⟩ := glyphs_atS hS (fun g hgm => by
    obtain ⟨i, hi, rfl⟩ := List.getElem_of_mem hgm
    obtain ⟨ps, e, h1, _⟩ := hg.each i hi
    rw [e]
    show ps.length ≤ _
    omega)
  exact ⟨⟨0, a, c, no3, no3, no3, no3, no3, no3, no3⟩, gsS gs, good_few hg, rfl, hG, hb⟩
theorem Ahead_any (v : Value) (l : List Int) (w : World) (hv : Rn w v l) (hl : l.length * 8 ≤ 140737488351232) (_ : ∀ x ∈ l, (Lit.int .i64 x).wf = true) :
    Calls Try.prog 3 #[v] w fun e w' => e = .returned (.bool true) ∧ Below w.heap.size w w' :=
  Ahead_calls v w fun _ hW => (made_calls true (hv.below hW) hl).mono fun _ _ h => made_font h
end Go.Proofs.Ytajjailmmbcolaa
