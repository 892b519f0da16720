/- The walks over the reference's Make, Right. -/
import Derived.Test.YtpdbiofpoccjeaaZm
import Derived.Test.YtpdbiofpoccjeaaYg
namespace Go.Proofs.Ytpdbiofpoccjeaa.Ref
open Go.RowKit
/-- The reference's Told, of whatever numbers. -/
theorem toldd_any (bn bd : Bool) (v u : Value) (ln ld : List Nat) (n d : Int) (w : World) (lln : ln.length ≤ 200) (lld : ld.length ≤ 200) (rn : Rd w v ln) (rd : Rd w u ld) (hn : Nm bn ln n) (hd : Nm bd ld d) :
    Calls Try.prog 33 #[.agg #[.bool bn, v], .agg #[.bool bd, u]] w (RetT (makeV n d) d.natAbs w) := by
  by_cases h : d = 0
  · subst h
    have := told0 bn bd v u ln ld (makeV n 0) w rn rd hd
    simpa using this
  · exact told_any bn bd v u ln ld n d w lln lld rn rd hn hd h
theorem len64 {b : Bool} {l : List Nat} {n : Int} (h : Nm b l n) (hn : R64 n) : l.length ≤ 4 := h.len (by have := hn.1; have := hn.2; omega)
set_option maxRecDepth 100000 in
theorem rmake_any (n d : Int) (w : World) (hn : R64 n) (hd : R64 d) : Calls Try.prog 15 #[.int .i64 n, .int .i64 d] w (RetT (makeV n d) d.natAbs w) := by
  go_enter Try.func15, Try.ntmps15
  go_wp2_with fail
  refine (ofn_any n _ hn).mono ?_
  rintro e w1 ⟨b1, v1, l1, rfl, hr1, hn1, hb1⟩
  obtain ⟨A1, c1, rfl⟩ := hr1.sl
  have B := (Blk.new w #[.int .i64 0, .int .i64 0] 24).after hb1
  have hbl := bl_then (bl_alloc (bl_refl w) _) hb1
  clear hb1
  go_wp2_with fail
  refine (ofn_any d _ hd).mono ?_
  rintro e w2 ⟨b2, v2, l2, rfl, hr2, hn2, hb2⟩
  obtain ⟨A2, c2, rfl⟩ := hr2.sl
  replace B := B.after hb2
  replace hbl := bl_then hbl hb2
  replace hr1 := hr1.after hb2
  clear hb2
  go_wp2_with fail
  have k1 := len64 hn1 hn
  have k2 := len64 hn2 hd
  refine (toldd_any b1 b2 _ _ l1 l2 n d _ (by omega) (by omega) hr1 hr2 hn1 hn2).mono ?_
  rintro e w3 ⟨rfl, hb3⟩
  replace B := B.after hb3
  replace hbl := bl_then hbl hb3
  clear hb3 hr1 hr2 hn1 hn2
  have r0 := Blk2.c0 B; have r1 := Blk2.c1 B; have f0 := B.frozen 0; have f1 := B.frozen 1; have lB := B.lt
  have E := (B.set2 (.int .i64 (toldN (makeV n d) d.natAbs)) (.int .i64 (toldD (makeV n d) d.natAbs))).alloc (.cells #[.int .i64 (toldN (makeV n d) d.natAbs), .int .i64 (toldD (makeV n d) d.natAbs)] 24)
  have E0 := Blk2.c0 E; have E1 := Blk2.c1 E
  go_wp2_with fail
  simp [bodyPost, results, Try.results15, go_sem, E0, E1]
  exact ⟨rfl, bl_alloc (bl_set (bl_set hbl _ _ (by omega) _) _ _ (by omega) _) _⟩
end Go.Proofs.Ytpdbiofpoccjeaa.Ref
