/- compose: a font by numbers as compose reads it. -/
import Derived.Test.YtajjailmmbcolaaCt
import Derived.Test.YtajjailmmbcolaaMdc
namespace Go.Proofs.Ytajjailmmbcolaa
open Go Go.Proofs Go.RowKit Go.Proofs.YtajjailmmbcolaaW.PrintWords Go.Proofs.YtajjailmmbcolaaW.PrintMore PComposeTells

/-- The parts of a font's glyphs. -/
def ptS (p : S48) : Pt := (p.f0, p.f1, p.f2)
def gsS (gs : List S45) : Gs := gs.map fun g => g.f4.map ptS
theorem gsS_len (gs : List S45) : (gsS gs).length = gs.length := by simp [gsS]
theorem gsS_get (gs : List S45) (i : Nat) (h : i < gs.length) : (gsS gs)[i]'(by rw [gsS_len]; exact h) = gs[i].f4.map ptS := by simp [gsS]
theorem parts_atS {W : World} {base : Nat} {ok : Nat → Prop} {v : Value} {ps : List S48} (h : Kd.R k48 48 W base ok v ps) : ∃ a c, v = .slice a (ps.map ptS).length c ∧ PartsAt W.heap.size W a (ps.map ptS) := by
  by_cases hp : 0 < ps.length
  · obtain ⟨g, cap, rfl, _, hlt, _⟩ := Kd.R_form h hp
    refine ⟨some ⟨g, 0, none⟩, cap, by simp, fun j hj => ?_⟩
    have hj' : j < ps.length := by simpa using hj
    obtain ⟨c, hc1, hM, hcc⟩ := Kd.R_getA h (⟨0, 0, 0⟩ : S48) (j : Int) (by omega) (by omega)
    have hx : ps.getD (j : Int).toNat ⟨0, 0, 0⟩ = ps[j] := by simp [List.getD_eq_getElem?_getD, hj']
    rw [hx] at hM
    have hcs := k48_openM hM
    subst hcs
    have hz : k48.sz = 3 := rfl
    rw [hz] at hcc
    have e : ((j : Int)).toNat = j := by simp
    rw [e] at hcc
    have h0 := hcc 0 _ rfl
    have h1 := hcc 1 _ rfl
    have h2 := hcc 2 _ rfl
    simp only [ad_add, Nat.zero_add, Nat.add_zero] at h0 h1 h2
    refine ⟨g, 0, rfl, hlt, ?_, ?_, ?_⟩
    · simpa [ptS] using h0
    · simpa [ptS] using h1
    · simpa [ptS] using h2
  · have hn : ps = [] := List.eq_nil_of_length_eq_zero (by omega)
    subst hn
    obtain ⟨A, c, rfl⟩ := Kd.R_slice h
    exact ⟨A, c, rfl, fun j hj => by simp at hj⟩
theorem glyphs_atS {W : World} {base : Nat} {ok : Nat → Prop} {v : Value} {gs : List S45} (h : Kd.S k45 45 W base ok v gs) (hps : ∀ g ∈ gs, g.f4.length ≤ 1000000) : ∃ a c, v = .slice a (gsS gs).length c ∧ GlyphsAt W.heap.size W a (gsS gs) := by
  by_cases hp : 0 < gs.length
  · obtain ⟨g, cap, rfl, _, hlt, _⟩ := Kd.S_form h hp
    refine ⟨some ⟨g, 0, none⟩, cap, by rw [gsS_len], fun i hi => ?_⟩
    have hi' : i < gs.length := by rw [gsS_len] at hi; exact hi
    obtain ⟨c, hc1, hM, hcc⟩ := Kd.S_get h z45 (i : Int) (by omega) (by omega)
    have hx : gs.getD (i : Int).toNat z45 = gs[i] := by simp [List.getD_eq_getElem?_getD, hi']
    rw [hx] at hM
    obtain ⟨v3, v4, v5, v6, v7, v8, rfl, _, _, g5, _⟩ := k45_openM hM
    obtain ⟨pa, pc, rfl, hpa⟩ := parts_atS g5
    have h5 := hcc 5 _ rfl
    have hz : k45.sz = 9 := rfl
    have e : ((i : Int)).toNat = i := by simp
    rw [hz, e, ad_add, Nat.zero_add] at h5
    refine ⟨g, 0, pa, pc, rfl, hlt, ?_, ?_, ?_⟩
    · rw [gsS_get gs i hi', Nat.zero_add]; exact h5
    · rw [gsS_get gs i hi', List.length_map]; exact hps _ (List.getElem_mem hi')
    · rw [gsS_get gs i hi']; exact hpa
  · have hn : gs = [] := List.eq_nil_of_length_eq_zero (by omega)
    subst hn
    obtain ⟨A, c, rfl⟩ := Kd.S_slice h
    exact ⟨A, c, rfl, fun j hj => by simp [gsS] at hj⟩
theorem good_few {loops : Bool} {c : Nat} {gs : List S45} (h : PComposeTells.Good loops c gs) : Few (gsS gs) := by
  refine ⟨by rw [gsS_len]; exact h.pos, by rw [gsS_len]; have := h.le; omega, fun i hi p hp => ?_⟩
  have hi' : i < gs.length := by rw [gsS_len] at hi; exact hi
  rw [gsS_get gs i hi'] at hp
  obtain ⟨q, hq, rfl⟩ := List.mem_map.1 hp
  obtain ⟨ps, e, _, h3⟩ := h.each i hi'
  rw [e] at hq
  have := h3 q hq
  rw [gsS_len]
  exact ⟨this.lo, this.hi⟩
theorem good_rise {c : Nat} {gs : List S45} (h : PComposeTells.Good false c gs) : ∀ g, ∀ q ∈ kids (gsS gs) g, g < q := by
  intro g q hq
  by_cases hg : g < (gsS gs).length
  · have hg' : g < gs.length := by rw [gsS_len] at hg; exact hg
    obtain ⟨j, hj, e, _⟩ := (mem_kids hg).1 hq
    obtain ⟨ps, e1, _, h3⟩ := h.each g hg'
    have hm : ∃ x ∈ (gsS gs)[g], x.1 = (q : Int) := ⟨_, List.getElem_mem hj, e⟩
    rw [gsS_get gs g hg'] at hm
    obtain ⟨x, hx, e2⟩ := hm
    obtain ⟨p, hp, rfl⟩ := List.mem_map.1 hx
    rw [e1] at hp
    have := (h3 p hp).rise rfl
    have e3 : p.f0 = (q : Int) := e2
    omega
  · rw [kids_out (by omega)] at hq; simp at hq
end Go.Proofs.Ytajjailmmbcolaa
