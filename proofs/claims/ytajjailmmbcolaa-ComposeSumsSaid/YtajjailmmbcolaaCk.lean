/- A region that draws its order, within a round of a range over a function: by the laws of the plain walk. -/
import Derived.OrdersHeld
import Derived.OrdersIn
import Derived.TacticsIn
import Derived.RangeFuncCalls
import Derived.Deep.RegionHeld
namespace Go.Proofs.Ytajjailmmbcolaa
open Go

/-- Q, but 'False' where the machine has outgrown its room. -/
def NoOut (Q : Exit → Act → World → Prop) : Exit → Act → World → Prop
  | .outgrown, _, _ => False
  | e, a, w => Q e a w
theorem NoOut.imp {Q : Exit → Act → World → Prop} : ∀ (e : Exit) (a : Act) (w : World), NoOut Q e a w → Q e a w := fun e a w h => by
  cases e <;> first | exact h | exact (h : False).elim
theorem noOut_lets {Q : Exit → Act → World → Prop} (h : LetsOut (NoOut Q)) : False := by
  unfold LetsOut at h
  obtain ⟨a, w, h⟩ := h
  exact h
variable {P : Program} {l n : Nat} {ops : Array Oper} {Q : Exit → Act → World → Prop}
theorem oper_in {o : Oper} (hd : ∀ c, o.op ≠ .defer c) {a : Act} {w : World} {K : Act → World → Prop} (h : o.wp P a w K Q) : o.wpIn (Fence.wide.inRound l) n P a w K Q := by
  refine ⟨fun _ _ => trivial, ?_⟩
  rw [show (Fence.wide.inRound l).round = some l from rfl, Oper.semAt_some l _ _ hd]
  unfold Oper.wp at h
  generalize (execOp a.eval o).run P w = r at h
  cases r with
  | ok x w' =>
    cases x with
    | enter f args =>
      refine ⟨fun h => (by simp [Fence.wide, Fence.inRound] at h), CallsIn.inRound l (callsIn_wide.2 h)⟩
    | row r args =>
      refine ⟨fun h => (by simp [Fence.wide, Fence.inRound] at h), fun c cs _ => ?_⟩
      obtain ⟨v, w1, r, s⟩ := h c cs
      exact ⟨v, w1, r, stepsIn_wide.2 s⟩
    | round l f tmps assign body => exact (h : False).elim
    | _ => exact h
  | halt x w' => cases x <;> exact h
theorem opIn {i : Nat} (hd : ∀ o, ops[i]? = some o → ∀ c, o.op ≠ .defer c) (hL : ¬ LetsOut Q) {a : Act} {w : World} {K K' : Act → World → Prop} (hK : ∀ a w, K a w → K' a w) (h : wpOp P ops Q i K a w) : wpOpIn (Fence.wide.inRound l) n P ops Q i K' a w := by
  unfold wpOp at h
  unfold wpOpIn
  cases ho : ops[i]? with
  | none => rw [ho] at h; exact hK _ _ h
  | some o =>
    rw [ho] at h
    simp only at h ⊢
    by_cases hw : Region.wanted o (yielded ops a.tmps) = true
    · rw [if_pos hw] at h ⊢
      rcases h with h | ⟨_, h⟩
      · exact oper_in (hd o ho) (Oper.wp_mono hK h)
      · exact (hL h).elim
    · rw [if_neg hw] at h ⊢
      exact ⟨fun _ _ => trivial, hK _ _ h⟩
theorem anyIn (md : Region.Mode) (hd : ∀ (i : Nat) o, ops[i]? = some o → ∀ c, o.op ≠ .defer c) (hL : ¬ LetsOut Q) : ∀ (fuel : Nat) (listed : Array Bool) (a : Act) (w : World), wpAny P md ops Q fuel listed a w → wpAnyIn (Fence.wide.inRound l) n P md ops Q fuel listed a w
  | 0, _, _, _, h => h
  | fuel + 1, _, _, _, h => ⟨h.1, fun i hi => opIn (hd i) hL (fun a w hh => anyIn md hd hL fuel _ a w hh) (h.2 i hi)⟩
def noDefer (o : Oper) : Bool := match o.op with | .defer _ => false | _ => true
theorem noDefer_spec {ops : Array Oper} (h : ops.all noDefer = true) : ∀ (i : Nat) o, ops[i]? = some o → ∀ c, o.op ≠ .defer c := by
  intro i o ho c e
  have hm := Array.all_eq_true_iff_forall_mem.1 h o (Array.mem_of_getElem? ho)
  unfold noDefer at hm
  rw [e] at hm
  cases hm
/-- The beginning. -/
theorem region_in_round {S : World → Prop} {id : Nat} {a : Act} {w : World} (hm : P.follows .mixedOrders = true) (hd : ∀ (i : Nat) o, ops[i]? = some o → ∀ c, o.op ≠ .defer c) (hS : S w.drew)
    (h : S w.drew → wpAnyH P .any ops (NoOut Q) S ops.size (Array.replicate ops.size false) a w.drew) : (Code.region id ops true).wpIn (Fence.wide.inRound l) n P Q a w :=
  wpIn_mono (wpIn_region_any hm (anyIn _ hd noOut_lets _ _ _ _ (wpAny_of_held _ _ _ _ (h hS)))) NoOut.imp
end Go.Proofs.Ytajjailmmbcolaa
