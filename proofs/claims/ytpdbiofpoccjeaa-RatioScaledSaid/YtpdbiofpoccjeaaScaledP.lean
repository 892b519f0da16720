/- RatioScaled returns true for every input, and leaves its arguments as they were: no condition. -/
import Derived.Test.YtpdbiofpoccjeaaRows
import Derived.Test.YtpdbiofpoccjeaaYd
import Derived.ProofKit
import Derived.OpenShut
import Derived.Below
namespace Go.Proofs.Ytpdbiofpoccjeaa.ratioScaled
open Go.ChangeShapes Go.WideShapes Go.ChangeAt Go.RowKit

theorem own : ownKnob Try.prog.godebug = none := by kernel_rfl
theorem laidOut : laidOutB Try.prog = true := by kernel_rfl
theorem opened31 {W : World} {b0 : Nat} {v : Value} (h : Value.okWide Try.prog W .any b0 31 v) : ∃ c0 c1 c2 : Int, v = .agg #[.int .i64 c0, .int .i64 c1, .int .i64 c2] ∧ R64 c0 ∧ R64 c1 ∧ R64 c2 := by
  have hct : Try.prog.cellTypes Try.prog.depth 31 = some [2, 2, 2] := by kernel_rfl
  have hcs : Try.prog.cellsOf 31 = 3 := by kernel_rfl
  obtain ⟨cs, rfl, hsz, ts, hts, _, hall⟩ : ∃ cs, v = .agg cs ∧ cs.size = Try.prog.cellsOf 31 ∧ Row.okWide Try.prog W .any b0 31 cs := by
    simpa only [Value.okWide, Try.underlying31] using h
  rw [hct] at hts
  obtain rfl := Option.some.inj hts
  rw [hcs] at hsz
  obtain ⟨c0, c1, c2, rfl⟩ : ∃ c0 c1 c2, cs = #[c0, c1, c2] := by
    rcases cs with ⟨l⟩
    match l, hsz with
    | [c0, c1, c2], _ => exact ⟨c0, c1, c2, rfl⟩
  obtain ⟨u0, e0, o0⟩ := hall 0 c0 rfl
  obtain rfl : 2 = u0 := by simpa using e0
  obtain ⟨x0, rfl, r0⟩ : ∃ x : Int, c0 = .int .i64 x ∧ R64 x := by
    simp only [Cell.okWide, Cell.ok, Try.underlying2] at o0
    cases c0 <;> simp_all [IntKind.has, IntKind.min, IntKind.max, IntKind.signed, IntKind.bits]
    exact ⟨by omega, by omega⟩
  obtain ⟨u1, e1, o1⟩ := hall 1 c1 rfl
  obtain rfl : 2 = u1 := by simpa using e1
  obtain ⟨x1, rfl, r1⟩ : ∃ x : Int, c1 = .int .i64 x ∧ R64 x := by
    simp only [Cell.okWide, Cell.ok, Try.underlying2] at o1
    cases c1 <;> simp_all [IntKind.has, IntKind.min, IntKind.max, IntKind.signed, IntKind.bits]
    exact ⟨by omega, by omega⟩
  obtain ⟨u2, e2, o2⟩ := hall 2 c2 rfl
  obtain rfl : 2 = u2 := by simpa using e2
  obtain ⟨x2, rfl, r2⟩ : ∃ x : Int, c2 = .int .i64 x ∧ R64 x := by
    simp only [Cell.okWide, Cell.ok, Try.underlying2] at o2
    cases c2 <;> simp_all [IntKind.has, IntKind.min, IntKind.max, IntKind.signed, IntKind.bits]
    exact ⟨by omega, by omega⟩
  exact ⟨x0, x1, x2, rfl, r0, r1, r2⟩
set_option maxRecDepth 100000 in
theorem lifted (os : Os) (started : os.Started) (H : Type) (enc : TypeId × Value → H) :
    ReturnsInHanded {} Try.checked os 6 .any (Rows.ratioScaledSpec.pre6 enc Try.prog Try.f6 Rows.ratioScaledRow.domain false) (Rows.ratioScaledSpec.post enc Try.prog Try.f6 false true false false) := by
  refine returnsInHanded_of_change (C := Try.checked) own started (by kernel_rfl) Try.func6
    (ChangeSpec.witness6 (enc := enc) (C := Try.checked) false ⟨#[], #[.agg #[.int .i64 0, .int .i64 0, .int .i64 0], .int .i64 0], []⟩ 8 (by kernel_rfl) (by kernel_rfl) (by kernel_rfl) (by kernel_rfl)) ?_
  intro W base args ds gs before hval0 hW hcnd _
  have hval : ∀ (j : Nat) t v, Try.f6.params[j]? = some t → args[j]? = some v → Value.okWide Try.prog W .any base t v := hval0
  have hW' := hW
  obtain ⟨p, q, hA0, hV, rfl, hfz, hnd⟩ := hW
  have hA : DataW.TrodAll enc Try.prog W 0 (fun _ => true) true Try.f6.params.toList args.toList ds p := hA0
  rw [Try.params6] at hA hval
  obtain ⟨v0, vs0, d0, ds0, p0, q0, hargs, rfl, rfl, h0, r0⟩ := trodAll_cons hA
  obtain ⟨v1, vs1, d1, ds1, p1, q1, rfl, rfl, rfl, h1, r1⟩ := trodAll_cons r0
  obtain ⟨rfl, rfl, rfl⟩ := trodAll_nil r1
  obtain rfl : args = #[v0, v1] := by cases args; simp_all
  obtain ⟨rfl, rfl⟩ := trodVars_none hV
  obtain ⟨a00, a01, a02, rfl, s00, s01, s02⟩ := opened31 (hval 0 31 v0 rfl rfl)
  have lt0 : ∀ x ∈ p0, x.block < W.heap.size := by obtain ⟨m, hm⟩ := h0; exact DataW.trod_lt m _ _ _ hm
  obtain ⟨a1, rfl, rfl, rfl, w1⟩ := open_int Try.underlying2 (hval 1 2 v1 rfl rfl) h1
  have s1 : R64 a1 := by simp [Lit.wf, IntKind.min, IntKind.max, IntKind.signed, IntKind.bits] at w1; exact ⟨by omega, by omega⟩
  clear hA0 hval0
  refine (scaled_any a00 a01 a02 a1 s00 s01 s02 s1 W).mono fun e W' ⟨he, bel⟩ => ?_
  subst he
  exact ⟨_, rfl, _, _, _, [], _, [], hW', trodAll_mk1 (shut_bool Try.underlying4 _), (trodAll_cons_mk (Below.trod laidOut (by kernel_rfl) (of_decide_eq_true (by kernel_rfl)) h0 bel lt0) (trodAll_cons_mk (shut_int Try.underlying2 w1) trodAll_mk0)), rfl, bel.frame _, fun h => by cases h⟩

theorem over : Rows.ratioScaledRow.holds Try.pinned (OpenSpec.ofChange Rows.ratioScaledSpec) :=
  OpenClaim.holds_of_wide 6 Try.f6 rfl rfl rfl rfl rfl rfl rfl ⟨rfl, rfl, rfl, rfl, rfl⟩ rfl rfl rfl rfl rfl (by kernel_rfl) Try.func6 (by kernel_rfl)
    (of_decide_eq_true (by kernel_rfl)) (by unfold Func.isWrapper; first | (rw [if_pos (by decide +kernel)]; kernel_rfl) | (rw [if_neg (by decide +kernel)]; exact ⟨rfl, rfl⟩))
    (fun os started H enc _ => lifted os started H enc)

theorem proved : Rows.RatioScaledSaid := over
#print axioms proved
end Go.Proofs.Ytpdbiofpoccjeaa.ratioScaled
