/- compose: fonts by numbers, plain: what Made makes. -/
import Derived.IntWalk
import Derived.Test.YtajjailmmbcolaaPComposeTellsx0
namespace Go.Proofs.Ytajjailmmbcolaa
open Go Go.Proofs Go.RowKit Go.Proofs.YtajjailmmbcolaaW.PrintWords
namespace PComposeTells

def outlS (i : Nat) : S39 := if i % 3 = 2 then ⟨[], []⟩ else ⟨[⟨(i : Int), 1, true⟩, ⟨10 * (i : Int), 2, false⟩], [1]⟩
def mkS (i : Nat) (ps : List S48) : S45 := ⟨⟨#[]⟩, 0, false, outlS i, ps, [], [], []⟩
structure OkPart (loops : Bool) (n i : Nat) (p : S48) : Prop where
  lo : -1 ≤ p.f0
  hi : p.f0 < (n : Int)
  rise : loops = false → p.f0 < 0 ∨ (i : Int) < p.f0
  x0 : 0 ≤ p.f1
  x1 : p.f1 < 50
  y0 : -25 ≤ p.f2
  y1 : p.f2 < 25
/-- A font by numbers. -/
structure Good (loops : Bool) (c : Nat) (gs : List S45) : Prop where
  pos : 1 ≤ gs.length
  le : gs.length ≤ 8
  each : ∀ i (h : i < gs.length), ∃ ps, gs[i] = mkS i ps ∧ ps.length ≤ c ∧ ∀ p ∈ ps, OkPart loops gs.length i p
theorem wr_in (n : Int) (h0 : -1000000 ≤ n) (h1 : n ≤ 1000000) : wrap64 n = n := IntWalk.wrap64_in n ⟨by omega, by omega⟩
def bare (k : Nat) : List S45 := (List.range k).map fun i => mkS i []
theorem bare_len (k : Nat) : (bare k).length = k := by simp [bare]
theorem bare_succ (k : Nat) : bare (k + 1) = bare k ++ [mkS k []] := by simp [bare, List.range_succ]
theorem bare_good (loops : Bool) (n : Nat) (h1 : 1 ≤ n) (h2 : n ≤ 8) : Good loops 1 (bare n) :=
  ⟨by rw [bare_len]; exact h1, by rw [bare_len]; exact h2, fun i h => ⟨[], by simp [bare], by simp, by simp⟩⟩
theorem Good.mono {loops : Bool} {c c' : Nat} {gs : List S45} (h : Good loops c gs) (hc : c ≤ c') : Good loops c' gs :=
  ⟨h.pos, h.le, fun i hi => by obtain ⟨ps, h1, h2, h3⟩ := h.each i hi; exact ⟨ps, h1, by omega, h3⟩⟩
theorem Good.put {loops : Bool} {c : Nat} {gs : List S45} (h : Good loops c gs) (a : Nat) (ha : a < gs.length) (p : S48) (hp : OkPart loops gs.length a p) :
    Good loops (c + 1) (gs.set a ⟨(rd_T45 gs a).f0, (rd_T45 gs a).f1, (rd_T45 gs a).f2, ⟨(rd_T45 gs a).f3.f0, (rd_T45 gs a).f3.f1⟩, (rd_T45 gs a).f4 ++ [p], (rd_T45 gs a).f5, (rd_T45 gs a).f6, (rd_T45 gs a).f7⟩) := by
  refine ⟨by simpa using h.pos, by simpa using h.le, fun i hi => ?_⟩
  have hi' : i < gs.length := by simpa using hi
  have hr : rd_T45 gs a = gs[a] := by simp [rd_T45, List.getD_eq_getElem?_getD, ha]
  simp only [List.length_set]
  by_cases e : a = i
  · subst e
    obtain ⟨ps, h1, h2, h3⟩ := h.each a ha
    refine ⟨ps ++ [p], ?_, by simp; omega, fun q hq => ?_⟩
    · rw [List.getElem_set_self, hr, h1]; rfl
    · rcases List.mem_append.1 hq with hq | hq
      · exact h3 q hq
      · rw [List.mem_singleton.1 hq]; exact hp
  · obtain ⟨ps, h1, h2, h3⟩ := h.each i hi'
    exact ⟨ps, by rw [List.getElem_set_ne e]; exact h1, by omega, h3⟩
end PComposeTells
end Go.Proofs.Ytajjailmmbcolaa
