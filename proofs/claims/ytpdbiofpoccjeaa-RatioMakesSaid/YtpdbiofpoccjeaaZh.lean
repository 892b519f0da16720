/- The walk over the reference's Int. -/
import Derived.Test.YtpdbiofpoccjeaaZg
import Derived.Test.YtpdbiofpoccjeaaWy
namespace Go.Proofs.Ytpdbiofpoccjeaa.Ref
open Go.RowKit
theorem high_step {l : List Nat} {k m : Nat} (h : m * 65536 ^ (k + 1) + V l (k + 1) = val l) : (m * 65536 + l.getD k 0) * 65536 ^ k + V l k = val l := by
  rw [V_succ, Nat.pow_succ] at h
  rw [← h, Nat.add_mul, Nat.mul_comm (l.getD k 0), Nat.mul_assoc m, Nat.mul_comm 65536 (65536 ^ k)]
  omega
theorem high_le {l : List Nat} {k m : Nat} (h : m * 65536 ^ k + V l k = val l) : m ≤ val l := by
  have : m * 1 ≤ m * 65536 ^ k := Nat.mul_le_mul_left _ (Nat.pow_pos (by omega))
  omega
theorem small_val {b : Bool} {l : List Nat} {n : Int} (h : Nm b l n) (h4 : l.length ≤ 4) : val l < 18446744073709551616 := by
  have := val_lt l h.dg
  have h2 : 65536 ^ l.length ≤ 65536 ^ 4 := Nat.pow_le_pow_right (by omega) h4
  omega
theorem great_val {b : Bool} {l : List Nat} {n : Int} (h : Nm b l n) (h4 : ¬ l.length ≤ 4) : fits n = false := by
  have h1 := h.low (k := l.length - 1) (by omega)
  have h2 : 65536 ^ 4 ≤ 65536 ^ (l.length - 1) := Nat.pow_le_pow_right (by omega) (by omega)
  unfold fits
  simp
  omega
set_option maxHeartbeats 1000000 in
theorem int_any (b : Bool) (v : Value) (l : List Nat) (n : Int) (w : World) (hl : l.length ≤ 100000) (h : Rd w v l) (hn : Nm b l n) :
    Calls Try.prog 49 #[.agg #[.bool b, v]] w (RetFl n w) := by
  obtain ⟨A, c, rfl, hfacts⟩ : ∃ A c, v = .slice A l.length c ∧ (0 < l.length → ∃ g, A = some ⟨g, 0, none⟩ ∧ g < w.heap.size ∧ ∀ i, i < l.length → w.cell? ⟨g, i, none⟩ = some (.int .i64 (dg l i))) := by
    rcases h.form with ⟨rfl, rfl⟩ | ⟨g, c, rfl, hc, hm, hg, hcell⟩
    · exact ⟨none, 0, rfl, by simp⟩
    · exact ⟨_, c, rfl, fun _ => ⟨g, rfl, hg, hcell⟩⟩
  have HF := hidden hfacts; have HN := hidden hn
  clear h hn hfacts
  have hbl := bl_alloc (bl_refl w) (.cells #[.bool b, .slice A l.length c] 56)
  by_cases h4 : l.length ≤ 4
  · have hv := small_val HN.out h4
    have e4 : decide ((4 : Int) < (l.length : Int)) = false := by simp; omega
    go_enter Try.func49, Try.ntmps49
    go_wp2_with fail
    go_loop [4, 5] (fun m i => ∃ k q : Nat, k ≤ l.length ∧ m = .int .u64 (q : Int) ∧ i = .int .i64 ((k : Int) - 1) ∧ Hid (q * 65536 ^ k + V l k = val l)) (fun _ i => (intOf i + 1).toNat)
    case atStart =>
      refine ⟨l.length, 0, by omega, rfl, rfl, ?_⟩
      show _ = _
      rw [V_all l _ (Nat.le_refl _)]; simp
    case round =>
      obtain ⟨k, q, hk, rfl, rfl, hq⟩ := hrel
      rcases k with _ | m
      · have hq1 : q = val l := by have := hq.out; rw [V_zero] at this; simpa using this
        have hab : q = n.natAbs := hq1.trans HN.out.val
        have hsg := HN.out.sg
        replace hab := hidden hab; replace hsg := hidden hsg
        have hql : q < 18446744073709551616 := by omega
        replace hq1 := hidden hq1
        clear hq
        cases b
        · go_wp2
          go_ret2
          have h1 := hab.out; have h2 := hsg.out
          show RetFl n w (.returned (.tuple #[.int .i64 (wrap64 (q : Int)), .bool (decide ((q : Int) ≤ 9223372036854775807))])) _
          refine ret_fl ?_ ?_ hbl
          · simp at h2; unfold fits; exact decide_eq_decide.2 (by omega)
          · intro h3; unfold fits at h3; simp at h2 h3; unfold wrap64; omega
        · go_wp2
          go_ret2
          have h1 := hab.out; have h2 := hsg.out
          show RetFl n w (.returned (.tuple #[.int .i64 (wrap64 (IntKind.u64.wrap (-(q : Int)))), .bool (decide ((q : Int) ≤ 9223372036854775808))])) _
          refine ret_fl ?_ ?_ hbl
          · simp at h2; unfold fits; exact decide_eq_decide.2 (by omega)
          · intro h3; unfold fits at h3; simp at h2 h3; rw [IntKind.wrap_u64]; unfold wrap64; omega
      · rw [show (((m + 1 : Nat) : Int) - 1) = (m : Int) by omega]
        obtain ⟨g, rfl, hg, hcell⟩ := HF.out (by omega)
        have c0 := hcell m (by omega)
        replace hcell := hidden hcell
        have hst := high_step hq.out
        have hle := high_le hst
        replace hst := hidden hst
        obtain ⟨d0, d1⟩ := dg_bd HN.out.dg m
        have hdn := hidden (dg_nat l m)
        have hs : (q : Int) * 65536 + dg l m < 18446744073709551616 := by have := hdn.out; omega
        have e0 : (0 : Int) ≤ (m : Int) := by omega
        have lt : (m : Int) < (l.length : Int) := by omega
        clear hq hle
        go_wp2
        go_round
        case rel =>
          refine ⟨m, q * 65536 + l.getD m 0, by omega, ?_, rfl, hst⟩
          rw [hdn.out]
          exact congrArg _ (by omega)
        case measure => simp [intOf]
  · have hf := hidden (great_val HN.out h4)
    have e4 : decide ((4 : Int) < (l.length : Int)) = true := by simp; omega
    clear h4
    go_enter Try.func49, Try.ntmps49
    go_wp2
    go_ret2
    exact ret_fl hf.out.symm (fun h => by rw [hf.out] at h; cases h) hbl
end Go.Proofs.Ytpdbiofpoccjeaa.Ref
