/- RatioOrder returns true for every input, and leaves its arguments as they were: no condition. -/
import Derived.Test.YtpdbiofpoccjeaaRows
import Derived.Test.YtpdbiofpoccjeaaYg
import Derived.ProofKit
import Derived.OpenShut
import Derived.Below
namespace Go.Proofs.Ytpdbiofpoccjeaa.ratioOrder
open Go.ChangeShapes Go.WideShapes Go.ChangeAt Go.RowKit

theorem own : ownKnob Try.prog.godebug = none := by kernel_rfl
theorem laidOut : laidOutB Try.prog = true := by kernel_rfl
theorem opened40 {W : World} {b0 : Nat} {v : Value} (h : Value.okWide Try.prog W .any b0 40 v) : ∃ c0 c1 : Int, v = .agg #[.int .i64 c0, .int .i64 c1] ∧ R64 c0 ∧ R64 c1 := by
  have hct : Try.prog.cellTypes Try.prog.depth 40 = some [2, 2] := by kernel_rfl
  have hcs : Try.prog.cellsOf 40 = 2 := by kernel_rfl
  obtain ⟨cs, rfl, hsz, ts, hts, _, hall⟩ : ∃ cs, v = .agg cs ∧ cs.size = Try.prog.cellsOf 40 ∧ Row.okWide Try.prog W .any b0 40 cs := by
    simpa only [Value.okWide, Try.underlying40] using h
  rw [hct] at hts
  obtain rfl := Option.some.inj hts
  rw [hcs] at hsz
  obtain ⟨c0, c1, rfl⟩ : ∃ c0 c1, cs = #[c0, c1] := by
    rcases cs with ⟨l⟩
    match l, hsz with
    | [c0, c1], _ => exact ⟨c0, c1, rfl⟩
  obtain ⟨u0, e0, o0⟩ := hall 0 c0 rfl
  obtain rfl : 2 = u0 := by simpa using e0
  obtain ⟨x0, rfl, r0⟩ : ∃ x : Int, c0 = .int .i64 x ∧ R64 x := by
    simp only [Cell.okWide, Cell.ok, Try.underlying2] at o0
    cases c0 <;> simp_all [IntKind.has, IntKind.min, IntKind.max, IntKind.signed, IntKind.bits]
    exact ⟨by omega, by omega⟩
  obtain ⟨u1, e1, o1⟩ := hall 1 c1 rfl
  obtain rfl : 2 = u1 := by simpa using e1
  obtain ⟨x1, rfl, r1⟩ : ∃ x : Int, c1 = .int .i64 x ∧ R64 x := by
    simp only [Cell.okWide, Cell.ok, Try.underlying2] at o1
    cases c1 <;> simp_all [IntKind.has, IntKind.min, IntKind.max, IntKind.signed, IntKind.bits]
    exact ⟨by omega, by omega⟩
  exact ⟨x0, x1, rfl, r0, r1⟩
set_option maxRecDepth 100000 in
theorem lifted (os : Os) (started : os.Started) (H : Type) (enc : TypeId × Value → H) :
    ReturnsInHanded {} Try.checked os 12 .any (Rows.ratioOrderSpec.pre6 enc Try.prog Try.f12 Rows.ratioOrderRow.domain false) (Rows.ratioOrderSpec.post enc Try.prog Try.f12 false true false false) := by
  refine returnsInHanded_of_change (C := Try.checked) own started (by kernel_rfl) Try.func12
    (ChangeSpec.witness6 (enc := enc) (C := Try.checked) false ⟨#[], #[.agg #[.int .i64 0, .int .i64 0], .agg #[.int .i64 0, .int .i64 0], .agg #[.int .i64 0, .int .i64 0]], []⟩ 8 (by kernel_rfl) (by kernel_rfl) (by kernel_rfl) (by kernel_rfl)) ?_
  intro W base args ds gs before hval0 hW hcnd _
  have hval : ∀ (j : Nat) t v, Try.f12.params[j]? = some t → args[j]? = some v → Value.okWide Try.prog W .any base t v := hval0
  have hW' := hW
  obtain ⟨p, q, hA0, hV, rfl, hfz, hnd⟩ := hW
  have hA : DataW.TrodAll enc Try.prog W 0 (fun _ => true) true Try.f12.params.toList args.toList ds p := hA0
  rw [Try.params12] at hA hval
  obtain ⟨v0, vs0, d0, ds0, p0, q0, hargs, rfl, rfl, h0, r0⟩ := trodAll_cons hA
  obtain ⟨v1, vs1, d1, ds1, p1, q1, rfl, rfl, rfl, h1, r1⟩ := trodAll_cons r0
  obtain ⟨v2, vs2, d2, ds2, p2, q2, rfl, rfl, rfl, h2, r2⟩ := trodAll_cons r1
  obtain ⟨rfl, rfl, rfl⟩ := trodAll_nil r2
  obtain rfl : args = #[v0, v1, v2] := by cases args; simp_all
  obtain ⟨rfl, rfl⟩ := trodVars_none hV
  obtain ⟨a00, a01, rfl, s00, s01⟩ := opened40 (hval 0 40 v0 rfl rfl)
  have lt0 : ∀ x ∈ p0, x.block < W.heap.size := by obtain ⟨m, hm⟩ := h0; exact DataW.trod_lt m _ _ _ hm
  obtain ⟨a10, a11, rfl, s10, s11⟩ := opened40 (hval 1 40 v1 rfl rfl)
  have lt1 : ∀ x ∈ p1, x.block < W.heap.size := by obtain ⟨m, hm⟩ := h1; exact DataW.trod_lt m _ _ _ hm
  obtain ⟨a20, a21, rfl, s20, s21⟩ := opened40 (hval 2 40 v2 rfl rfl)
  have lt2 : ∀ x ∈ p2, x.block < W.heap.size := by obtain ⟨m, hm⟩ := h2; exact DataW.trod_lt m _ _ _ hm
  clear hA0 hval0
  refine (order_any a00 a01 a10 a11 a20 a21 s00 s01 s10 s11 s20 s21 W).mono fun e W' ⟨he, bel⟩ => ?_
  subst he
  exact ⟨_, rfl, _, _, _, [], _, [], hW', trodAll_mk1 (shut_bool Try.underlying4 _), (trodAll_cons_mk (Below.trod laidOut (by kernel_rfl) (of_decide_eq_true (by kernel_rfl)) h0 bel lt0) (trodAll_cons_mk (Below.trod laidOut (by kernel_rfl) (of_decide_eq_true (by kernel_rfl)) h1 bel lt1) (trodAll_cons_mk (Below.trod laidOut (by kernel_rfl) (of_decide_eq_true (by kernel_rfl)) h2 bel lt2) trodAll_mk0))), rfl, bel.frame _, fun h => by cases h⟩

theorem over : Rows.ratioOrderRow.holds Try.pinned (OpenSpec.ofChange Rows.ratioOrderSpec) :=
  OpenClaim.holds_of_wide 12 Try.f12 rfl rfl rfl rfl rfl rfl rfl ⟨rfl, rfl, rfl, rfl, rfl⟩ rfl rfl rfl rfl rfl (by kernel_rfl) Try.func12 (by kernel_rfl)
    (of_decide_eq_true (by kernel_rfl)) (by unfold Func.isWrapper; first | (rw [if_pos (by decide +kernel)]; kernel_rfl) | (rw [if_neg (by decide +kernel)]; exact ⟨rfl, rfl⟩))
    (fun os started H enc _ => lifted os started H enc)

theorem proved : Rows.RatioOrderSaid := over
#print axioms proved
end Go.Proofs.Ytpdbiofpoccjeaa.ratioOrder
