/- The walk over the reference's less. -/
import Derived.Test.YtpdbiofpoccjeaaZd
namespace Go.Proofs.Ytpdbiofpoccjeaa.Ref
open Go.RowKit
theorem dg_nat (l : List Nat) (k : Nat) : dg l k = ((l.getD k 0 : Nat) : Int) := rfl
theorem less_step {a b out : List Nat} {k q d q' : Nat} (h : val out + V b k = V a k + 65536 ^ k * q) (hl : out.length = k) (e : d + b.getD k 0 + q = a.getD k 0 + 65536 * q') :
    val (out ++ [d]) + V b (k + 1) = V a (k + 1) + 65536 ^ (k + 1) * q' := by
  rw [val_snoc, hl, V_succ, V_succ, Nat.pow_succ]
  have h1 : 65536 ^ k * (d + b.getD k 0 + q) = 65536 ^ k * (a.getD k 0 + 65536 * q') := by rw [e]
  rw [Nat.mul_add, Nat.mul_add, Nat.mul_add, ← Nat.mul_assoc] at h1
  omega
theorem V_rest (l : List Nat) (k : Nat) : ∃ r, val l = V l k + 65536 ^ k * r := by
  by_cases h : k ≤ l.length
  · refine ⟨val (l.drop k), ?_⟩
    have := val_append (l.take k) (l.drop k)
    rw [List.take_append_drop, List.length_take, Nat.min_eq_left h] at this
    exact this
  · exact ⟨0, by rw [V_all l k (by omega)]; omega⟩
theorem less_end {a b out : List Nat} {q : Nat} (h : val out + V b a.length = V a a.length + 65536 ^ a.length * q) (hl : out.length = a.length) (ho : Dgs out) (ha : Dgs a) (hle : val b ≤ val a) : val out + val b = val a := by
  obtain ⟨r, hr⟩ := V_rest b a.length
  have h1 := val_lt a ha
  have h2 := val_lt out ho
  rw [hl] at h2
  rw [V_all a _ (Nat.le_refl _)] at h
  rcases Nat.eq_zero_or_pos r with rfl | hr0
  · rcases Nat.eq_zero_or_pos q with rfl | hq0
    · omega
    · have : 65536 ^ a.length * 1 ≤ 65536 ^ a.length * q := Nat.mul_le_mul_left _ hq0
      omega
  · have : 65536 ^ a.length * 1 ≤ 65536 ^ a.length * r := Nat.mul_le_mul_left _ hr0
    omega
theorem less_any (v u : Value) (a b : List Nat) (w : World) (ha : Dgs a) (hb : Dgs b) (la : a.length ≤ 100000) (lb : b.length ≤ 100000) (hle : val b ≤ val a) (ra : Rd w v a) (rb : Rd w u b) :
    Calls Try.prog 64 #[v, u] w (RetD (fun l => Dgs l ∧ l.length ≤ 100000 ∧ val l + val b = val a) w) := by
  obtain ⟨A, c, rfl⟩ := ra.sl
  obtain ⟨B, c', rfl⟩ := rb.sl
  have HA := hidden ha; have HB := hidden hb; have RA := hidden ra; have RB := hidden rb; have HL := hidden hle
  clear ha hb ra rb hle
  have ho := ow_empty (w := w) (B := w.heap.size) (Nat.le_refl _)
  have hb0 := bl_alloc (bl_refl w) (.cells #[] 3)
  replace ho := hidden ho
  go_enter Try.func64, Try.ntmps64
  go_wp2_with fail
  go_loopw [5, 6, 7] (fun o cy i wr => ∃ (k q : Nat) (out : List Nat), k ≤ a.length ∧ i = .int .i64 (k : Int) ∧ cy = .int .i64 (q : Int) ∧ q ≤ 1 ∧ Hid (Ow wr w.heap.size o out) ∧ Hid (out.length = k ∧ Dgs out ∧ val out + V b k = V a k + 65536 ^ k * q) ∧ Below w.heap.size w wr) (fun _ _ i _ => a.length - (intOf i).toNat)
  case atStart =>
    exact ⟨0, 0, [], by omega, rfl, rfl, by omega, ho, ⟨rfl, fun _ h => by simp at h, by simp [V_zero, val]⟩, hb0⟩
  case round =>
    obtain ⟨k, q, out, hk, rfl, rfl, hq, hO, hv, hbl⟩ := hrel
    obtain ⟨A1, c1, rfl⟩ := hO.out.rd.sl
    have hlk := hidden hv.out.1
    have hsz := hbl.size
    by_cases hend : k = a.length
    · have hfin : Hid (Dgs out ∧ out.length ≤ 100000 ∧ val out + val b = val a) := by
        refine ⟨hv.out.2.1, by rw [hlk.out]; omega, ?_⟩
        have h1 := hv.out.2.2
        have h2 := hlk.out
        rw [hend] at h1 h2
        exact less_end h1 h2 hv.out.2.1 HA.out HL.out
      have e1 : decide (k < a.length) = false := by simp; omega
      clear hend
      go_wp2
      go_ret
      exact ⟨_, out, rfl, hO.out.rd, hfin.out, hbl⟩
    · have e1 : decide (k < a.length) = true := by simp; omega
      obtain ⟨a0, a1⟩ := dg_bd HA.out k
      obtain ⟨b0, b1⟩ := dg_bd HB.out k
      have hlen : k < a.length := by omega
      have hD := hidden (dg_nat a k)
      have hE := hidden (dg_nat b k)
      have hA := HA.out.getD k; have hB := HB.out.getD k
      by_cases hneg : dg a k - dg b k - (q : Int) < 0
      · have en : decide (dg a k - dg b k - (q : Int) < 0) = true := by simpa using hneg
        obtain ⟨d, hd⟩ : ∃ d : Nat, dg a k - dg b k - (q : Int) + 65536 = (d : Int) := ⟨(dg a k - dg b k - (q : Int) + 65536).toNat, by omega⟩
        have hd' : d < 65536 := by omega
        have hstep := hidden (less_step (d := d) (q' := 1) hv.out.2.2 hv.out.1 (by have := hD.out; have := hE.out; omega))
        have hdn := hidden (hv.out.2.1.snoc hd')
        replace hd := hidden hd
        clear hend hv hd'
        go_wp2_with fail
        refine (digit_any _ a k _ (by omega) (RA.out.after hbl)).mono ?_
        rintro e w' ⟨rfl, rfl⟩
        go_wp2_with fail
        refine (digit_any _ b k _ (by omega) (RB.out.after hbl)).mono ?_
        rintro e w' ⟨rfl, rfl⟩
        go_wp2_with (at_builtin; go_loud ((refine wpList_push (w0 := w) w.heap.size rfl (.tmp 29) (.tmp 31) 54 3 8 rfl Try.underlying54 info3 rfl rfl (.slice A1 out.length c1) out _ d hd.out rfl rfl hO.out hbl hsz (by rw [hlk.out]; omega) ?_; intro v1 w1 ho1 hb1 _; replace ho1 := hidden ho1)))
        go_roundw
        case rel => exact ⟨k + 1, 1, _, by omega, by go_num, rfl, by omega, ho1, ⟨by simp [hlk.out], hdn.out, hstep.out⟩, hb1⟩
        case measure => simp [intOf]; omega
      · have en : decide (dg a k - dg b k - (q : Int) < 0) = false := by simpa using hneg
        obtain ⟨d, hd⟩ : ∃ d : Nat, dg a k - dg b k - (q : Int) = (d : Int) := ⟨(dg a k - dg b k - (q : Int)).toNat, by omega⟩
        have hd' : d < 65536 := by omega
        have hstep := hidden (less_step (d := d) (q' := 0) hv.out.2.2 hv.out.1 (by have := hD.out; have := hE.out; omega))
        have hdn := hidden (hv.out.2.1.snoc hd')
        replace hd := hidden hd
        clear hend hv hd'
        go_wp2_with fail
        refine (digit_any _ a k _ (by omega) (RA.out.after hbl)).mono ?_
        rintro e w' ⟨rfl, rfl⟩
        go_wp2_with fail
        refine (digit_any _ b k _ (by omega) (RB.out.after hbl)).mono ?_
        rintro e w' ⟨rfl, rfl⟩
        go_wp2_with (at_builtin; go_loud ((refine wpList_push (w0 := w) w.heap.size rfl (.tmp 29) (.tmp 31) 54 3 8 rfl Try.underlying54 info3 rfl rfl (.slice A1 out.length c1) out _ d hd.out rfl rfl hO.out hbl hsz (by rw [hlk.out]; omega) ?_; intro v1 w1 ho1 hb1 _; replace ho1 := hidden ho1)))
        go_roundw
        case rel => exact ⟨k + 1, 0, _, by omega, by go_num, rfl, by omega, ho1, ⟨by simp [hlk.out], hdn.out, hstep.out⟩, hb1⟩
        case measure => simp [intOf]; omega
end Go.Proofs.Ytpdbiofpoccjeaa.Ref
