/- The walk over the reference's Times. -/
import Derived.Test.YtpdbiofpoccjeaaZi
import Derived.Deep.OwnRows
import Derived.IntWalk
import Derived.Outline
namespace Go.Proofs.Ytpdbiofpoccjeaa.Ref
open Go.RowKit
/-- What lies in memory in the midst of a product. -/
structure TW (w wr : World) (p q : Bool) (sa sb : Value) (out : List Nat) : Prop where
  b0 : Blk wr w.heap.size #[.bool p, sa] 56
  b1 : Blk wr (w.heap.size + 1) #[.bool q, sb] 56
  b2 : Blk wr (w.heap.size + 1 + 1) #[.bool false, .slice none 0 0] 56
  b3 : Blk wr (w.heap.size + 1 + 1 + 1) (nv out).toArray 3
  bl : Below w.heap.size w wr
theorem digit_q (v : Value) (l : List Nat) (i : Nat) (w : World) (hl : l.length ≤ 1000000) (h : Rd w v l) :
    Calls Try.prog 58 #[v, .int .i64 (i : Int)] w fun e w' => e = .returned (.int .i64 (dg l i)) ∧ w' = w := (digit_any v l i w hl h).mono fun _ _ ⟨h1, h2⟩ => ⟨h1, h2.symm⟩
set_option maxRecDepth 100000 in
set_option maxHeartbeats 4000000 in
theorem times_any (p q : Bool) (v u : Value) (a b : List Nat) (x y : Int) (w : World) (la : a.length ≤ 1000) (lb : b.length ≤ 1000) (rv : Rd w v a) (ru : Rd w u b) (hx : Nm p a x) (hy : Nm q b y) :
    Calls Try.prog 37 #[.agg #[.bool p, v], .agg #[.bool q, u]] w (RetN (x * y) w) := by
  obtain ⟨A, c, rfl, hfacts⟩ : ∃ A c, v = .slice A a.length c ∧ (0 < a.length → ∃ g, A = some ⟨g, 0, none⟩ ∧ g < w.heap.size ∧ ∀ i, i < a.length → w.cell? ⟨g, i, none⟩ = some (.int .i64 (dg a i))) := by
    rcases rv.form with ⟨rfl, rfl⟩ | ⟨g, c, rfl, hc, hm, hg, hcell⟩
    · exact ⟨none, 0, rfl, by simp⟩
    · exact ⟨_, c, rfl, fun _ => ⟨g, rfl, hg, hcell⟩⟩
  obtain ⟨B, d, rfl⟩ := ru.sl
  have HF := hidden hfacts; have RU := hidden ru; have HX := hidden hx; have HY := hidden hy
  clear rv ru hx hy hfacts
  have hmk : ∀ W : World, (Instr.makeSlice 54 (.int .i64 ((a.length : Int) + (b.length : Int) + 1)) (.int .i64 ((a.length : Int) + (b.length : Int) + 1))).run Try.prog W = .ok (.slice (some ⟨W.heap.size, 0, none⟩) (a.length + b.length + 1) (a.length + b.length + 1)) (W.alloc (.cells (madeCells #[.int .i64 0] (a.length + b.length + 1)) 3)) := by
    intro W
    have h := run_make_row' (P := Try.prog) 54 3 (.int .i64 0) 8 Try.underlying54 info3 rfl .i64 .i64 (a.length + b.length + 1) (by omega) (by omega) W
    rwa [show (((a.length + b.length + 1 : Nat)) : Int) = (a.length : Int) + (b.length : Int) + 1 by omega] at h
  go_enter Try.func37, Try.ntmps37
  go_wp2_with fail
  go_loopw [6] (fun i wr => ∃ (k : Nat) (out : List Nat), k ≤ a.length ∧ i = .int .i64 (k : Int) ∧ Hid (Out a b out k) ∧ TW w wr p q (.slice A a.length c) (.slice B b.length d) out) (fun i _ => a.length - (intOf i).toNat)
  case atStart =>
    exact ⟨0, _, by omega, rfl, out_first a b, ⟨(((Blk.new _ _ _).alloc _).alloc _).alloc _, ((Blk.made _ _ _ _ (by simp)).alloc _).alloc _, (Blk.made _ _ _ _ (by simp)).alloc _, row_made _ _ _ (by simp), bl_alloc (bl_alloc (bl_alloc (bl_alloc (bl_refl w) _) _) _) _⟩⟩
  case round =>
    obtain ⟨i, out, hi, rfl, ho, T⟩ := hrel
    have c01 := T.b0.cell 1; have c11 := T.b1.cell 1
    simp at c01 c11
    by_cases hend : i = a.length
    · have e1 : decide (i < a.length) = false := by simp; omega
      have hfin : Hid (val out = val a * val b) := by
        have := ho.out.2.2
        rw [hend, V_all a _ (Nat.le_refl _)] at this
        exact this
      have hrd := hidden (row_rd T.b3 ho.out.1 (by omega))
      have hdg := hidden ho.out.2.1
      have hl1 := hidden ho.out.1
      have c00 := T.b0.cell 0; have c10 := T.b1.cell 0
      simp at c00 c10
      clear hend
      go_wp2_with fail
      refine (whole_any _ _ out _ (by have := hl1.out; omega) hdg.out hrd.out).mono ?_
      rintro e w1 ⟨b1, v1, l1, rfl, hr1, hn1, hb1⟩
      obtain ⟨A1, c1, rfl⟩ := hr1.sl
      have BR := T.b2.after hb1
      have hbl := bl_then T.bl hb1
      have r0 := BR.cell 0; have r1 := BR.cell 1; have f0 := BR.frozen 0; have f1 := BR.frozen 1
      simp at r0 r1
      replace hr1 := hidden hr1; replace hn1 := hidden hn1
      clear hb1 T c00 c10 c01 c11
      go_wp2
      simp [bodyPost, results, Try.results37, go_sem, r0, r1]
      exact ⟨_, _, _, rfl, hr1.out.set2 BR (by decide) _ _, (sgd_mul HX.out HY.out hfin.out : sgd (!(p == q)) (val out) = x * y) ▸ hn1.out, bl_set (bl_set hbl _ _ (by omega) _) _ _ (by omega) _⟩
    · have e1 : decide (i < a.length) = true := by simp; omega
      have hlt : i < a.length := by omega
      obtain ⟨g, rfl, hg, hcell⟩ := HF.out (by omega)
      replace hcell := hidden (hcell i hlt)
      replace HF := True.intro
      clear HF hend
      go_wp2_with fail
      go_loopw [7, 8] (fun cy k wr => ∃ (m s : Nat) (out : List Nat), m ≤ a.length + b.length ∧ cy = .int .i64 (s : Int) ∧ k = .int .i64 (m : Int) ∧ Hid (Mid a b out i m s) ∧ TW w wr p q (.slice (some ⟨g, 0, none⟩) a.length c) (.slice B b.length d) out) (fun _ k _ => a.length + b.length + 1 - (intOf k).toNat)
      case atStart => exact ⟨0, 0, _, by omega, rfl, rfl, mid_first ho.out, T⟩
      case round =>
        clear T ho c01 c11
        obtain ⟨m, s, out, hm, rfl, rfl, hM, T⟩ := hrel
        have c01 := T.b0.cell 1; have c11 := T.b1.cell 1
        simp at c01 c11
        by_cases hgo : m < b.length ∨ 0 < s
        · have hj : i + m < a.length + b.length := by
            rcases hgo with h | h
            · omega
            · exact mid_lt hM.out hlt HX.out.dg HY.out.dg h
          obtain ⟨j, ej⟩ : ∃ j, i + m = j := ⟨_, rfl⟩
          have hst := mid_step hM.out (by have := hM.out.1; omega) HX.out.dg HY.out.dg
          have o1 := hM.out.2.1.getD (i + m)
          have a1 := HX.out.dg.getD i
          have b1 := HY.out.dg.getD m
          have hs1 := hM.out.2.2.1
          have hp : a.getD i 0 * b.getD m 0 ≤ 65535 * 65535 := Nat.mul_le_mul (by omega) (by omega)
          rw [ej] at hst o1 hj
          have c3 := row_cell T.b3 j (by have := hM.out.1; omega)
          have en := hidden (dg_nat out j)
          have r3 : dg a i * dg b m = ((a.getD i 0 * b.getD m 0 : Nat) : Int) := by rw [dg_nat, dg_nat, Int.natCast_mul]
          obtain ⟨pr, epr⟩ : ∃ pr, a.getD i 0 * b.getD m 0 = pr := ⟨_, rfl⟩
          rw [epr] at r3 hst hp
          obtain ⟨s1, es1⟩ : ∃ s1, out.getD j 0 + pr = s1 := ⟨_, rfl⟩
          have r5 : dg out j + (pr : Int) = (s1 : Int) := by have := en.out; omega
          obtain ⟨xx, ex⟩ : ∃ xx, s1 + s = xx := ⟨_, rfl⟩
          have r7 : (s1 : Int) + (s : Int) = (xx : Int) := by omega
          rw [es1, ex] at hst
          obtain ⟨dd, edd⟩ : ∃ dd, xx % 65536 = dd := ⟨_, rfl⟩
          obtain ⟨s', es'⟩ : ∃ s', xx / 65536 = s' := ⟨_, rfl⟩
          have r9 : (xx : Int) % 65536 = (dd : Int) := by omega
          have r10 : (xx : Int) / 65536 = (s' : Int) := by omega
          have r1 : (i : Int) + (m : Int) = (j : Int) := by omega
          rw [edd, es'] at hst
          have bxx : xx ≤ 4294967295 := by omega
          have bs1 : s1 ≤ 4294967295 := by omega
          have bpr : pr ≤ 4294967295 := by omega
          have r2 : IntKind.i64.wrap (j : Int) = (j : Int) := IntWalk.i64_in _ (by omega)
          have r4 : IntKind.i64.wrap (pr : Int) = (pr : Int) := IntWalk.i64_in _ (by omega)
          have r6 : IntKind.i64.wrap (s1 : Int) = (s1 : Int) := IntWalk.i64_in _ (by omega)
          have r8 : IntKind.i64.wrap (xx : Int) = (xx : Int) := IntWalk.i64_in _ (by omega)
          have l1 : (0 : Int) ≤ (j : Int) := by omega
          have l2 : (j : Int) < (a.length : Int) + (b.length : Int) + 1 := by omega
          have l3 : (0 : Int) ≤ (i : Int) := by omega
          have l4 : (i : Int) < (a.length : Int) := by omega
          have hB3 := T.b3
          have l5 := hB3.lt
          have hT2 := row_set hB3 j dd
          replace hst := hidden hst
          replace hT2 := hidden hT2
          replace hB3 := hidden hB3
          have hrB := hidden (RU.out.after T.bl)
          have cA : wr.cell? ⟨g, i, none⟩ = some (.int .i64 (dg a i)) := by rw [T.bl.cell (p := ⟨g, i, none⟩) hg]; exact hcell.out
          have f3 := T.b3.frozen j
          have e2 : decide (m < b.length) = true ∨ (decide (m < b.length) = false ∧ decide (0 < s) = true) := by
            by_cases h : m < b.length
            · exact .inl (decide_eq_true h)
            · exact .inr ⟨decide_eq_false h, by simp; omega⟩
          clear hM hgo ej epr es1 ex edd es' o1 a1 b1 hp en hcell
          rcases e2 with e2 | ⟨e2, e3⟩
          all_goals
            go_wp2_with fail
            go_quiet ((go_at_call 58; exact Calls.quiet_of_same (digit_q _ b m _ (by omega) (hrB.out.drewN _))))
            go_wp2
            go_roundw
            case rel =>
              exact ⟨m + 1, s', _, by omega, rfl, by go_num, hst.out, ⟨(T.b0.drewN _).far _ _ (by omega) _, (T.b1.drewN _).far _ _ (by omega) _, (T.b2.drewN _).far _ _ (by omega) _, row_set (T.b3.drewN _) j dd, bl_set (bl_drewN T.bl _) _ _ (by omega) _⟩⟩
            case measure => simp [intOf]; omega
        · have e2 : decide (m < b.length) = false := by simp; omega
          have e3 : decide (0 < s) = false := by simp; omega
          have hs0 : s = 0 := by omega
          have hout := hidden (mid_last (hs0 ▸ hM.out) (by omega))
          clear hgo hs0 hM
          go_wp2
          go_roundw
          case rel => exact ⟨i + 1, _, by omega, by go_num, hout.out, T⟩
          case measure => simp [intOf]; omega
end Go.Proofs.Ytpdbiofpoccjeaa.Ref
