/- The walks over the reference's digit, whole. -/
import Derived.Test.YtpdbiofpoccjeaaZa
namespace Go.Proofs.Ytpdbiofpoccjeaa.Ref
open Go.RowKit
/-- One of them; 0 beyond. -/
def dg (l : List Nat) (i : Nat) : Int := ((l.getD i 0 : Nat) : Int)
theorem digit_any (v : Value) (l : List Nat) (i : Nat) (w : World) (hl : l.length ≤ 1000000) (h : Rd w v l) :
    Calls Try.prog 58 #[v, .int .i64 (i : Int)] w fun e w' => e = .returned (.int .i64 (dg l i)) ∧ w = w' := by
  rcases h.form with ⟨rfl, rfl⟩ | ⟨g, c, rfl, hc, hm, hg, hcell⟩
  · have h0 : decide ((i : Int) < 0) = false := by simp
    clear h
    go_enter Try.func58, Try.ntmps58
    go_wp2
    go_ret
    exact ⟨ret_int (by simp [dg]), rfl⟩
  · clear h
    by_cases hi : i < l.length
    · have c0 := hcell i hi
      have e0 : ((l.getD i 0 : Nat) : Int) = dg l i := rfl
      rw [e0] at c0
      clear hcell e0
      have hi' : (i : Int) < (l.length : Int) := by omega
      have hn : (0 : Int) ≤ (i : Int) := by omega
      go_enter Try.func58, Try.ntmps58
      go_wp2
      go_ret
      exact ⟨rfl, rfl⟩
    · have h0 : decide ((i : Int) < (l.length : Int)) = false := by simp; omega
      have h1 : dg l i = 0 := by simp [dg, List.getElem?_eq_none (show l.length ≤ i by omega)]
      have H := hidden h1
      clear hcell h1
      go_enter Try.func58, Try.ntmps58
      go_wp2
      go_ret
      exact ⟨ret_int H.out.symm, rfl⟩
end Go.Proofs.Ytpdbiofpoccjeaa.Ref
