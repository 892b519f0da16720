/- The walk over the reference's Of. -/
import Derived.Test.YtpdbiofpoccjeaaZf
import Derived.Test.YtpdbiofpoccjeaaWw
namespace Go.Proofs.Ytpdbiofpoccjeaa.Ref
open Go.RowKit
theorem rd_lit4 {w : World} {g : Nat} (hg : w.heap.size = g) {x0 x1 x2 x3 : Int} {d0 d1 d2 d3 : Nat} (h0 : x0 = d0) (h1 : x1 = d1) (h2 : x2 = d2) (h3 : x3 = d3) :
    Rd (w.alloc (.cells #[.int .i64 x0, .int .i64 x1, .int .i64 x2, .int .i64 x3] 3)) (.slice (some ⟨g, 0, none⟩) 4 4) [d0, d1, d2, d3] := by
  subst hg h0 h1 h2 h3
  exact World.ownsRow_lit (base := 0) (e := 3) (size := 1) w #[.int .i64 (d0 : Int), .int .i64 (d1 : Int), .int .i64 (d2 : Int), .int .i64 (d3 : Int)] 4 (Nat.zero_le _) (by unfold maxLen; omega) rfl
theorem of_val (m : Nat) : val [m % 65536, m / 65536 % 65536, m / 4294967296 % 65536, m / 281474976710656] = m := by
  simp only [val]; omega
theorem ofn_any (n : Int) (w : World) (hn : R64 n) : Calls Try.prog 34 #[.int .i64 n] w (RetN n w) := by
  obtain ⟨m, hm⟩ : ∃ m : Nat, n.natAbs = m := ⟨_, rfl⟩
  have hlt : m ≤ 9223372036854775808 := by have := hn.1; have := hn.2; omega
  have hd : Dgs [m % 65536, m / 65536 % 65536, m / 4294967296 % 65536, m / 281474976710656] := by
    intro d hd
    simp at hd
    omega
  have HD := hidden hd
  clear hd
  by_cases h : n < 0
  · have hw : IntKind.u64.wrap (-(IntKind.u64.wrap n)) = (m : Int) := by
      rw [IntKind.wrap_u64, IntKind.wrap_u64]; have := hn.1; omega
    have e1 : decide (n < 0) = true := by simpa using h
    have hfin : Hid (sgd true (val [m % 65536, m / 65536 % 65536, m / 4294967296 % 65536, m / 281474976710656]) = n) := by
      show _ = _
      rw [of_val]; simp [sgd]; omega
    clear hm h
    go_enter Try.func34, Try.ntmps34
    go_wp2_with fail
    refine (whole_any _ _ _ _ (by simp) HD.out (rd_lit4 (by simp) (by omega) (by omega) (by omega) (by omega))).mono ?_
    rintro e w1 ⟨b1, v1, l1, rfl, hr1, hn1, hb1⟩
    obtain ⟨A1, c1, rfl⟩ := hr1.sl
    have BR : Blk w1 w.heap.size #[.bool false, .slice none 0 0] 56 := ((Blk.new _ _ _).alloc _).after hb1
    have hbl := bl_then (bl_alloc (bl_alloc (bl_refl w) _) _) hb1
    have r0 := BR.cell 0; have r1 := BR.cell 1; have f0 := BR.frozen 0; have f1 := BR.frozen 1
    simp at r0 r1
    replace hr1 := hidden hr1; replace hn1 := hidden hn1
    clear hb1
    go_wp2
    simp [bodyPost, results, Try.results34, go_sem, r0, r1]
    exact ⟨_, _, _, rfl, hr1.out.set2 BR (by decide) _ _, hfin.out ▸ hn1.out, bl_set (bl_set hbl _ _ (by omega) _) _ _ (by omega) _⟩
  · obtain rfl : n = (m : Int) := by omega
    have hw : IntKind.u64.wrap (m : Int) = (m : Int) := by rw [IntKind.wrap_u64]; omega
    have e1 : decide ((m : Int) < 0) = false := by simp
    have hfin : Hid (sgd false (val [m % 65536, m / 65536 % 65536, m / 4294967296 % 65536, m / 281474976710656]) = (m : Int)) := by
      show _ = _
      rw [of_val]; simp [sgd]
    clear hm h
    go_enter Try.func34, Try.ntmps34
    go_wp2_with fail
    refine (whole_any _ _ _ _ (by simp) HD.out (rd_lit4 (by simp) (by omega) (by omega) (by omega) (by omega))).mono ?_
    rintro e w1 ⟨b1, v1, l1, rfl, hr1, hn1, hb1⟩
    obtain ⟨A1, c1, rfl⟩ := hr1.sl
    have BR : Blk w1 w.heap.size #[.bool false, .slice none 0 0] 56 := ((Blk.new _ _ _).alloc _).after hb1
    have hbl := bl_then (bl_alloc (bl_alloc (bl_refl w) _) _) hb1
    have r0 := BR.cell 0; have r1 := BR.cell 1; have f0 := BR.frozen 0; have f1 := BR.frozen 1
    simp at r0 r1
    replace hr1 := hidden hr1; replace hn1 := hidden hn1
    clear hb1
    go_wp2
    simp [bodyPost, results, Try.results34, go_sem, r0, r1]
    exact ⟨_, _, _, rfl, hr1.out.set2 BR (by decide) _ _, hfin.out ▸ hn1.out, bl_set (bl_set hbl _ _ (by omega) _) _ _ (by omega) _⟩
end Go.Proofs.Ytpdbiofpoccjeaa.Ref
