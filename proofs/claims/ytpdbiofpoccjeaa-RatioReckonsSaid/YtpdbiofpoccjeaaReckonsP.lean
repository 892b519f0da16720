/- RatioReckons returns true for every input, and leaves its arguments as they were: no condition. -/
import Derived.Test.YtpdbiofpoccjeaaRows
import Derived.Test.YtpdbiofpoccjeaaZw
import Derived.ProofKit
import Derived.OpenShut
import Derived.Below
namespace Go.Proofs.Ytpdbiofpoccjeaa.ratioReckons
open Go.ChangeShapes Go.WideShapes Go.ChangeAt Go.RowKit

theorem own : ownKnob Try.prog.godebug = none := by kernel_rfl
theorem laidOut : laidOutB Try.prog = true := by kernel_rfl
theorem opened24 {W : World} {b0 : Nat} {v : Value} (h : Value.okWide Try.prog W .any b0 24 v) : ∃ c0 c1 : Int, v = .agg #[.int .i64 c0, .int .i64 c1] ∧ R64 c0 ∧ R64 c1 := by
  have hct : Try.prog.cellTypes Try.prog.depth 24 = some [2, 2] := by kernel_rfl
  have hcs : Try.prog.cellsOf 24 = 2 := by kernel_rfl
  obtain ⟨cs, rfl, hsz, ts, hts, _, hall⟩ : ∃ cs, v = .agg cs ∧ cs.size = Try.prog.cellsOf 24 ∧ Row.okWide Try.prog W .any b0 24 cs := by
    simpa only [Value.okWide, Try.underlying24] using h
  rw [hct] at hts
  obtain rfl := Option.some.inj hts
  rw [hcs] at hsz
  obtain ⟨c0, c1, rfl⟩ : ∃ c0 c1, cs = #[c0, c1] := by
    rcases cs with ⟨l⟩
    match l, hsz with
    | [c0, c1], _ => exact ⟨c0, c1, rfl⟩
  obtain ⟨u0, e0, o0⟩ := hall 0 c0 rfl
  obtain rfl : 2 = u0 := by simpa using e0
  obtain ⟨x0, rfl, r0⟩ : ∃ x : Int, c0 = .int .i64 x ∧ R64 x := by
    simp only [Cell.okWide, Cell.ok, Try.underlying2] at o0
    cases c0 <;> simp_all [IntKind.has, IntKind.min, IntKind.max, IntKind.signed, IntKind.bits]
    exact ⟨by omega, by omega⟩
  obtain ⟨u1, e1, o1⟩ := hall 1 c1 rfl
  obtain rfl : 2 = u1 := by simpa using e1
  obtain ⟨x1, rfl, r1⟩ : ∃ x : Int, c1 = .int .i64 x ∧ R64 x := by
    simp only [Cell.okWide, Cell.ok, Try.underlying2] at o1
    cases c1 <;> simp_all [IntKind.has, IntKind.min, IntKind.max, IntKind.signed, IntKind.bits]
    exact ⟨by omega, by omega⟩
  exact ⟨x0, x1, rfl, r0, r1⟩
set_option maxRecDepth 100000 in
theorem lifted (os : Os) (started : os.Started) (H : Type) (enc : TypeId × Value → H) :
    ReturnsInHanded {} Try.checked os 10 .any (Rows.ratioReckonsSpec.pre6 enc Try.prog Try.f10 Rows.ratioReckonsRow.domain false) (Rows.ratioReckonsSpec.post enc Try.prog Try.f10 false true false false) := by
  refine returnsInHanded_of_change (C := Try.checked) own started (by kernel_rfl) Try.func10
    (ChangeSpec.witness6 (enc := enc) (C := Try.checked) false ⟨#[], #[.agg #[.int .i64 0, .int .i64 0], .agg #[.int .i64 0, .int .i64 0]], []⟩ 8 (by kernel_rfl) (by kernel_rfl) (by kernel_rfl) (by kernel_rfl)) ?_
  intro W base args ds gs before hval0 hW hcnd _
  have hval : ∀ (j : Nat) t v, Try.f10.params[j]? = some t → args[j]? = some v → Value.okWide Try.prog W .any base t v := hval0
  have hW' := hW
  obtain ⟨p, q, hA0, hV, rfl, hfz, hnd⟩ := hW
  have hA : DataW.TrodAll enc Try.prog W 0 (fun _ => true) true Try.f10.params.toList args.toList ds p := hA0
  rw [Try.params10] at hA hval
  obtain ⟨v0, vs0, d0, ds0, p0, q0, hargs, rfl, rfl, h0, r0⟩ := trodAll_cons hA
  obtain ⟨v1, vs1, d1, ds1, p1, q1, rfl, rfl, rfl, h1, r1⟩ := trodAll_cons r0
  obtain ⟨rfl, rfl, rfl⟩ := trodAll_nil r1
  obtain rfl : args = #[v0, v1] := by cases args; simp_all
  obtain ⟨rfl, rfl⟩ := trodVars_none hV
  obtain ⟨a00, a01, rfl, s00, s01⟩ := opened24 (hval 0 24 v0 rfl rfl)
  have lt0 : ∀ x ∈ p0, x.block < W.heap.size := by obtain ⟨m, hm⟩ := h0; exact DataW.trod_lt m _ _ _ hm
  obtain ⟨a10, a11, rfl, s10, s11⟩ := opened24 (hval 1 24 v1 rfl rfl)
  have lt1 : ∀ x ∈ p1, x.block < W.heap.size := by obtain ⟨m, hm⟩ := h1; exact DataW.trod_lt m _ _ _ hm
  clear hA0 hval0
  refine (Ref.reckons_any a00 a01 a10 a11 s00 s01 s10 s11 W).mono fun e W' ⟨he, bel⟩ => ?_
  subst he
  exact ⟨_, rfl, _, _, _, [], _, [], hW', trodAll_mk1 (shut_bool Try.underlying4 _), (trodAll_cons_mk (Below.trod laidOut (by kernel_rfl) (of_decide_eq_true (by kernel_rfl)) h0 bel lt0) (trodAll_cons_mk (Below.trod laidOut (by kernel_rfl) (of_decide_eq_true (by kernel_rfl)) h1 bel lt1) trodAll_mk0)), rfl, bel.frame _, fun h => by cases h⟩

theorem over : Rows.ratioReckonsRow.holds Try.pinned (OpenSpec.ofChange Rows.ratioReckonsSpec) :=
  OpenClaim.holds_of_wide 10 Try.f10 rfl rfl rfl rfl rfl rfl rfl ⟨rfl, rfl, rfl, rfl, rfl⟩ rfl rfl rfl rfl rfl (by kernel_rfl) Try.func10 (by kernel_rfl)
    (of_decide_eq_true (by kernel_rfl)) (by unfold Func.isWrapper; first | (rw [if_pos (by decide +kernel)]; kernel_rfl) | (rw [if_neg (by decide +kernel)]; exact ⟨rfl, rfl⟩))
    (fun os started H enc _ => lifted os started H enc)

theorem proved : Rows.RatioReckonsSaid := over
#print axioms proved
end Go.Proofs.Ytpdbiofpoccjeaa.ratioReckons
