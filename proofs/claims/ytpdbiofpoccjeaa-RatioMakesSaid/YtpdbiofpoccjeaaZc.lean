/- The walk over the reference's whole. -/
import Derived.Test.YtpdbiofpoccjeaaZb
namespace Go.Proofs.Ytpdbiofpoccjeaa.Ref
open Go.RowKit
/-- The row's shape, for a walk that cuts it: an address (or none), a capacity. -/
theorem whole_any (b : Bool) (v : Value) (l : List Nat) (w : World) (hl : l.length ≤ 1000000) (hd : Dgs l) (h : Rd w v l) :
    Calls Try.prog 54 #[.bool b, v] w (RetN (sgd b (val l)) w) := by
  obtain ⟨A, c, rfl, hlc, hcm, hfacts⟩ : ∃ A c, v = .slice A l.length c ∧ l.length ≤ c ∧ c ≤ maxLen ∧ (0 < l.length → ∃ g, A = some ⟨g, 0, none⟩ ∧ g < w.heap.size ∧ ∀ i, i < l.length → w.cell? ⟨g, i, none⟩ = some (.int .i64 ((l.getD i 0 : Nat) : Int))) := by
    rcases h.form with ⟨rfl, rfl⟩ | ⟨g, c, rfl, hc, hm, hg, hcell⟩
    · exact ⟨none, 0, rfl, by simp, by simp, by simp⟩
    · exact ⟨_, c, rfl, hc, hm, fun _ => ⟨g, rfl, hg, hcell⟩⟩
  clear h
  unfold maxLen at hcm
  have Hf := hidden hfacts
  have HD := hidden hd
  clear hfacts hd
  go_enter Try.func54, Try.ntmps54
  go_wp2_with fail
  go_loop [5] (fun i => ∃ k : Nat, k ≤ l.length ∧ i = .int .i64 k ∧ Hid (val (l.take k) = val l)) (fun i => (intOf i).toNat)
  case atStart => exact ⟨l.length, by omega, rfl, (by rw [List.take_length] : val (l.take l.length) = val l)⟩
  case round =>
    obtain ⟨k, hk, rfl, hv⟩ := hrel
    by_cases hgo : ∃ m, k = m + 1 ∧ l.getD m 0 = 0
    · obtain ⟨m, rfl, hz⟩ := hgo
      obtain ⟨g, rfl, hg, hcell⟩ := Hf.out (by omega)
      have c0 := hcell m (by omega)
      rw [hz] at c0
      have hv' : Hid (val (l.take m) = val l) := by
        have := val_take_ext l m
        rw [hz] at this
        show _ = _
        rw [← hv.out, this]; simp
      clear hcell hz hv
      have e1 : ((m + 1 : Nat) : Int) - 1 = (m : Int) := by omega
      have lt : (m : Int) < (l.length : Int) := by omega
      go_wp2
      go_round
      case rel => exact ⟨m, by omega, by go_num, hv'⟩
      case measure => simp [intOf]
    · have ht : ∀ m, k = m + 1 → l.getD m 0 ≠ 0 := fun m h1 h2 => hgo ⟨m, h1, h2⟩
      have hnm := hidden (nm_whole b l k HD.out hk hv.out ht)
      replace ht := hidden ht
      clear hgo
      have hb0 := bl_alloc (bl_alloc (bl_refl w) (.cells #[.bool false, .slice none 0 0] 56)) (.cells #[] 3)
      have hb1 := fun u => bl_alloc (bl_alloc (bl_refl w) (.cells #[.bool false, u] 56)) (.cells #[] 3)
      rcases k with _ | m
      · have ho := ow_empty (w := w.alloc (.cells #[.bool false, .slice (some ⟨w.heap.size + 1, 0, none⟩) 0 0] 56)) (B := w.heap.size) (by simp)
        have hrd := ho.rd
        have hadd : ∀ ad : Addr, A = some ad → ad.add 0 = ad := by rintro ad _; unfold Addr.add; split <;> simp_all
        rw [Bool.and_eq_false_imp.2 (by simp)] at hnm
        clear Hf hv ht HD ho
        rcases A with _ | ad
        all_goals
          try (have hadd0 := hadd ad rfl)
          clear hadd
          cases b
          all_goals
            go_wp2_with fail
            simp [bodyPost, results, Try.results54, go_sem]
            exact ⟨_, _, _, rfl, by simpa using hrd, hnm.out, hb1 _⟩
      · obtain ⟨g, rfl, hg, hcell⟩ := Hf.out (by omega)
        have c0 := hcell m (by omega)
        have HR : ∀ W, Below w.heap.size w W → m + 1 = 0 ∨ ∃ q, some (⟨g, 0, none⟩ : Addr) = some ⟨q, 0, none⟩ ∧ ∀ i, i < m + 1 → W.cell? ⟨q, i, none⟩ = some (.int .i64 (((l.take (m + 1)).getD i 0 : Nat) : Int)) := by
          intro W hb
          refine .inr ⟨g, rfl, fun i hi => ?_⟩
          rw [hb.cell (p := ⟨g, i, none⟩) hg, hcell i (by omega)]
          simp [List.getD_eq_getElem?_getD, hi]
        obtain ⟨x, ex⟩ : ∃ x, l.getD m 0 = x := ⟨_, rfl⟩
        have hx : ((x : Int) == 0) = false := by simpa using (show ¬ x = 0 from ex ▸ ht.out m rfl)
        rw [ex] at c0
        replace HR := hidden (HR _ hb0)
        rw [show (b && decide (0 < m + 1)) = b by simp] at hnm
        clear ex ht hcell Hf hv HD
        have e1 : ((m + 1 : Nat) : Int) - 1 = (m : Int) := by omega
        have lt : (m : Int) < (l.length : Int) := by omega
        have lc : (m : Int) + 1 ≤ (c : Int) := by omega
        have HO := ow_empty' (w := w.alloc (.cells #[.bool false, .slice none 0 0] 56)) (B := w.heap.size) (g := w.heap.size + 1) (by simp) (by omega)
        have hz := hb0.size
        have hlen : (l.take (m + 1)).length = m + 1 := by simp; omega
        replace hlen := hidden hlen
        cases b
        all_goals
          go_wp2_with (at_builtin; go_loud ((refine wpList_join (w0 := w) w.heap.size rfl (.tmp 25) (.tmp 28) 54 3 8 rfl Try.underlying54 info3 rfl rfl (.slice (some ⟨w.heap.size + 1, 0, none⟩) 0 0) [] (some ⟨g, 0, none⟩) (m + 1) c (l.take (m + 1)) rfl rfl hlen.out HR.out HO hb0 hz (by simp) (by omega) ?_; intro v1 w1 ho hb2 hk1; have BK := hk1 w.heap.size #[.bool false, .slice none 0 0] 56 (by decide) ((Blk.new w #[.bool false, .slice none 0 0] 56).alloc _); have r0 := BK.cell 0; have r1 := BK.cell 1; have f0 := BK.frozen 0; have f1 := BK.frozen 1; simp at r0 r1; have hrd := ho.rd; obtain ⟨A1, c1, rfl⟩ := hrd.sl; clear hk1 ho)))
          simp [bodyPost, results, Try.results54, go_sem, r0, r1]
          rw [List.nil_append, hlen.out] at hrd
          exact ⟨_, _, _, rfl, hrd.set2 BK (by decide) _ _, hnm.out, bl_set (bl_set hb2 _ _ (by omega) _) _ _ (by omega) _⟩
end Go.Proofs.Ytpdbiofpoccjeaa.Ref
