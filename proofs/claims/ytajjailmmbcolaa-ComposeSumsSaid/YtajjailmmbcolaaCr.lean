/- compose: the chapter's examples, walked. -/
import Derived.Test.YtajjailmmbcolaaCq
namespace Go.Proofs.Ytajjailmmbcolaa
open Go Go.Proofs Go.RowKit Go.Shelf Go.Maps
attribute [local go_sem] Oper.semAt_some
set_option linter.unusedSimpArgs false

def no3 : Option Addr × Nat × Nat := (none, 0, 0)
/-- A font by its glyphs alone. -/
def fv (b c : Nat) : Fv := ⟨0, some ⟨b, 0, none⟩, c, no3, no3, no3, no3, no3, no3, no3⟩
theorem fv_cells (b c n : Nat) : (fv b c).cells n = #[.int .i64 0, .slice (some ⟨b, 0, none⟩) n c, .slice none 0 0, .slice none 0 0, .slice none 0 0, .slice none 0 0, .slice none 0 0, .slice none 0 0, .slice none 0 0] := rfl
theorem parts1_at {n₀ : Nat} {W : World} {b : Nat} {k : Int} {t : TypeId} (h : Bx W b #[.int .i64 k, .int .i64 0, .int .i64 0] t) (hb : b < n₀) : PartsAt n₀ W (some ⟨b, 0, none⟩) [(k, 0, 0)] := by
  intro j hj
  obtain rfl : j = 0 := by simpa using hj
  exact ⟨b, 0, rfl, hb, h.cell 0, h.cell 1, h.cell 2⟩
theorem parts2_at {n₀ : Nat} {W : World} {b : Nat} {k l : Int} {t : TypeId} (h : Bx W b #[.int .i64 k, .int .i64 0, .int .i64 0, .int .i64 l, .int .i64 0, .int .i64 0] t) (hb : b < n₀) : PartsAt n₀ W (some ⟨b, 0, none⟩) [(k, 0, 0), (l, 0, 0)] := by
  intro j hj
  rcases j with _ | _ | j
  · exact ⟨b, 0, rfl, hb, h.cell 0, h.cell 1, h.cell 2⟩
  · exact ⟨b, 0, rfl, hb, h.cell 3, h.cell 4, h.cell 5⟩
  · simp at hj; omega
theorem parts0_at {n₀ : Nat} {W : World} {a : Option Addr} : PartsAt n₀ W a [] := fun j hj => by simp at hj
def z (b n c : Nat) : List Value := [.string ⟨#[]⟩, .int .i64 0, .bool false, .slice none 0 0, .slice none 0 0, .slice (some ⟨b, 0, none⟩) n c, .slice none 0 0, .slice none 0 0, .slice none 0 0]
theorem glyphs3_at {n₀ : Nat} {W : World} {b b0 b1 : Nat} {t : TypeId} {cs : Array Value} (h : Bx W b cs t) (hb : b < n₀) (h0 : cs[5]? = some (.slice (some ⟨b0, 0, none⟩) 2 2)) (h1 : cs[14]? = some (.slice (some ⟨b1, 0, none⟩) 1 1)) (h2 : cs[23]? = some (.slice none 0 0))
    (p0 : PartsAt n₀ W (some ⟨b0, 0, none⟩) [(1, 0, 0), (2, 0, 0)]) (p1 : PartsAt n₀ W (some ⟨b1, 0, none⟩) [(2, 0, 0)]) : GlyphsAt n₀ W (some ⟨b, 0, none⟩) G3 := by
  intro i hi
  have hi' : i < 3 := hi
  rcases i with _ | _ | _ | i
  · exact ⟨b, 0, _, 2, rfl, hb, (h.cell 5).trans h0, (show 2 ≤ 1000000 by decide), p0⟩
  · exact ⟨b, 0, _, 1, rfl, hb, (h.cell 14).trans h1, (show 1 ≤ 1000000 by decide), p1⟩
  · exact ⟨b, 0, _, 0, rfl, hb, (h.cell 23).trans h2, (show 0 ≤ 1000000 by decide), parts0_at⟩
  · omega
theorem glyphs2_at {n₀ : Nat} {W : World} {b b0 b1 : Nat} {t : TypeId} {cs : Array Value} (h : Bx W b cs t) (hb : b < n₀) (h0 : cs[5]? = some (.slice (some ⟨b0, 0, none⟩) 1 1)) (h1 : cs[14]? = some (.slice (some ⟨b1, 0, none⟩) 1 1))
    (p0 : PartsAt n₀ W (some ⟨b0, 0, none⟩) [(1, 0, 0)]) (p1 : PartsAt n₀ W (some ⟨b1, 0, none⟩) [(1, 0, 0)]) : GlyphsAt n₀ W (some ⟨b, 0, none⟩) G2 := by
  intro i hi
  have hi' : i < 2 := hi
  rcases i with _ | _ | i
  · exact ⟨b, 0, _, 1, rfl, hb, (h.cell 5).trans h0, (show 1 ≤ 1000000 by decide), p0⟩
  · exact ⟨b, 0, _, 1, rfl, hb, (h.cell 14).trans h1, (show 1 ≤ 1000000 by decide), p1⟩
  · omega

theorem four_new {w W : World} {c0 c1 c2 c3 : Array Value} {t0 t1 t2 t3 : TypeId} (h : (((w.alloc (.cells c0 t0)).alloc (.cells c1 t1)).alloc (.cells c2 t2)).alloc (.cells c3 t3) = W) :
    Bx W w.heap.size c0 t0 ∧ Bx W (w.heap.size + 1) c1 t1 ∧ Bx W (w.heap.size + 1 + 1) c2 t2 ∧ Bx W (w.heap.size + 1 + 1 + 1) c3 t3 ∧ W.heap.size = w.heap.size + 4 ∧ Below w.heap.size w W := by
  subst h
  have h1 := Bx.new (w.alloc (.cells c0 t0)) c1 t1
  have h2 := Bx.new ((w.alloc (.cells c0 t0)).alloc (.cells c1 t1)) c2 t2
  have h3 := Bx.new (((w.alloc (.cells c0 t0)).alloc (.cells c1 t1)).alloc (.cells c2 t2)) c3 t3
  simp only [World.size_alloc] at h1 h2 h3
  exact ⟨(((Bx.new _ _ _).alloc _).alloc _).alloc _, (h1.alloc _).alloc _, h2.alloc _, h3, by simp [World.size_alloc], ((((Below.refl _ w).alloc (Nat.le_refl _) _).alloc (by simp [World.size_alloc]) _).alloc (by simp [World.size_alloc]; omega) _).alloc (by simp [World.size_alloc]; omega) _⟩
theorem G3_len : G3.length = 3 := rfl
theorem G2_len : G2.length = 2 := rfl
theorem nums_true {w : World} {v u : Value} {a : List Int} (hv : Rn w v a) (hu : Rn w u a) (hl : a.length ≤ 1000000000) :
    Calls Try.prog 19 #[v, u] w fun e w' => e = .returned (.bool true) ∧ Below w.heap.size w w' := by
  have := nums_calls hv hu hl
  simpa using this
set_option maxRecDepth 100000 in
set_option maxHeartbeats 2000000 in
theorem awake_calls (w : World) : Calls Try.prog 10 #[] w fun e w' => e = .returned (.bool true) ∧ Below w.heap.size w w' := by
  refine (callsIn_wide (n := 6)).1 ?_
  refine callsIn_of_wp Try.func10 rfl trivial ?_ rfl
  simp only [Try.ntmps10, List.size_toArray, List.length_cons, List.length_nil, Nat.reduceAdd, Nat.reduceSub, Array.replicate_succ, Array.replicate_zero, List.push_toArray, List.append_toArray, List.nil_append, List.cons_append, Fv.cells]
  gi_wp2_with fail
  generalize hW1 : (((w.alloc _).alloc _).alloc _).alloc _ = W1
  obtain ⟨hx0, hx1, hx2, hx3, hs1, hB1⟩ := four_new hW1
  clear hW1
  have hG : GlyphsAt (w.heap.size + 3) W1 (some ⟨w.heap.size + 1 + 1, 0, none⟩) G3 := glyphs3_at hx2 (by omega) rfl rfl rfl (parts2_at hx0 (by omega)) (parts1_at hx1 (by omega))
  have ho := Order_calls (fv (w.heap.size + 1 + 1) 3) G3 (w.heap.size + 3) (by decide) W1 hG (by omega)
  rw [fv_cells, G3_len] at ho
  refine ⟨trivial, (callsIn_wide.2 ho).mono ?_⟩
  clear ho
  rintro e w2 h2
  obtain ⟨hb2, v2, rfl, hr2⟩ := ord3 h2
  clear h2
  have hB2 := hB1.trans (hb2.mono (by omega))
  have hy3 := hx3.kept (hb2.block _ hx3.lt)
  have hG2 : GlyphsAt (w.heap.size + 3) w2 (some ⟨w.heap.size + 1 + 1, 0, none⟩) G3 := hG.below (fun k hk => hb2.block k (by omega)) (Nat.le_refl _)
  have hs2 := hb2.size
  have f0 := hy3.cell 0
  have f1 := hy3.cell 1
  have f2 := hy3.cell 2
  have f3 := hy3.cell 3
  have f4 := hy3.cell 4
  have f5 := hy3.cell 5
  have f6 := hy3.cell 6
  have f7 := hy3.cell 7
  have f8 := hy3.cell 8
  gi_wp2_with fail
  have hd := Deep_calls (fv (w.heap.size + 1 + 1) 3) G3 (w.heap.size + 3) (by decide) 0 w2 hG2 (by omega)
  rw [fv_cells, G3_len] at hd
  refine ⟨trivial, (callsIn_wide.2 hd).mono ?_⟩
  clear hd f0 f1 f2 f3 f4 f5 f6 f7 f8
  rintro e w3 h3
  obtain ⟨hb3, rfl⟩ := deep3 h3
  clear h3
  have hB3 := hB2.trans (hb3.mono (by omega))
  have hz3 := hy3.kept (hb3.block _ hy3.lt)
  have hr3 := hr2.below hb3
  have hG3 : GlyphsAt (w.heap.size + 3) w3 (some ⟨w.heap.size + 1 + 1, 0, none⟩) G3 := hG2.below (fun k hk => hb3.block k (by omega)) (Nat.le_refl _)
  have hs3 := hb3.size
  gi_wp2_with fail
  generalize hW4 : (((w3.alloc _).alloc _).alloc _).alloc _ = W4
  obtain ⟨hu0, hu1, hu2, hu3, hs4, hB4⟩ := four_new hW4
  clear hW4
  have hH : GlyphsAt (w3.heap.size + 3) W4 (some ⟨w3.heap.size + 1 + 1, 0, none⟩) G2 := glyphs2_at hu2 (by omega) rfl rfl (parts1_at hu0 (by omega)) (parts1_at hu1 (by omega))
  have ho := Order_calls (fv (w3.heap.size + 1 + 1) 2) G2 (w3.heap.size + 3) (by decide) W4 hH (by omega)
  rw [fv_cells, G2_len] at ho
  refine ⟨trivial, (callsIn_wide.2 ho).mono ?_⟩
  clear ho
  rintro e w5 h5
  obtain ⟨hb5, rfl⟩ := ord2 h5
  clear h5
  have hs5 := hb5.size
  have hB5 := hB3.trans ((hB4.mono (by omega)).trans (hb5.mono (by omega)))
  have hb35 : Below w3.heap.size w3 w5 := hB4.trans (hb5.mono (by omega))
  have hz5 := hz3.kept (hb35.block _ hz3.lt)
  have hr5 := hr3.below hb35
  have hG5 : GlyphsAt (w.heap.size + 3) w5 (some ⟨w.heap.size + 1 + 1, 0, none⟩) G3 := hG3.below (fun k hk => hb35.block k (by omega)) (Nat.le_refl _)
  clear hx0 hx1 hx2 hx3 hG hb2 hr2 hB2 hy3 hG2 hb3 hB3 hz3 hr3 hG3 hu0 hu1 hu2 hu3 hH hb5 hb35 hB4
  gi_wp2_with fail
  have hn1 := nums_true (w := w5.alloc (.cells #[.int .i64 2, .int .i64 1, .int .i64 0] 3)) (hr5.below ((Below.refl _ _).alloc (Nat.le_refl _) _)) (rn_bx [2, 1, 0] (Bx.new w5 _ 3) (by decide)) (by decide)
  refine ⟨trivial, (callsIn_wide.2 hn1).mono ?_⟩
  clear hn1
  rintro e w6 ⟨rfl, hb6⟩
  have hb56 : Below w5.heap.size w5 w6 := ((Below.refl _ _).alloc (Nat.le_refl _) _).trans (hb6.mono (by simp [World.size_alloc]))
  have hz6 := hz5.kept (hb56.block _ hz5.lt)
  have hs6 := hb56.size
  have hG6 : GlyphsAt (w.heap.size + 3) w6 (some ⟨w.heap.size + 1 + 1, 0, none⟩) G3 := hG5.below (fun k hk => hb56.block k (by omega)) (Nat.le_refl _)
  have hB6 := hB5.trans (hb56.mono (by omega))
  have f0 := hz6.cell 0
  have f1 := hz6.cell 1
  have f2 := hz6.cell 2
  have f3 := hz6.cell 3
  have f4 := hz6.cell 4
  have f5 := hz6.cell 5
  have f6 := hz6.cell 6
  have f7 := hz6.cell 7
  have f8 := hz6.cell 8
  clear hb6 hb56 hz5 hG5 hB5 hr5
  gi_wp2_with fail
  have ha := All_calls (fv (w.heap.size + 1 + 1) 3) G3 (w.heap.size + 3) (by decide) 1 w6 hG6 (by omega)
  rw [fv_cells, G3_len] at ha
  refine ⟨trivial, (callsIn_wide.2 ha).mono ?_⟩
  clear ha f0 f1 f2 f3 f4 f5 f6 f7 f8
  rintro e w7 h7
  obtain ⟨hb7, v7, rfl, hr7⟩ := all3 h7
  clear h7
  have hs7 := hb7.size
  have hB7 := hB6.trans (hb7.mono (by omega))
  gi_wp2_with fail
  have hn1 := nums_true (w := w7.alloc (.cells #[.int .i64 1, .int .i64 2] 3)) (hr7.below ((Below.refl _ _).alloc (Nat.le_refl _) _)) (rn_bx [1, 2] (Bx.new w7 _ 3) (by decide)) (by decide)
  refine ⟨trivial, (callsIn_wide.2 hn1).mono ?_⟩
  clear hn1
  rintro e w8 ⟨rfl, hb8⟩
  have hb78 : Below w7.heap.size w7 w8 := ((Below.refl _ _).alloc (Nat.le_refl _) _).trans (hb8.mono (by simp [World.size_alloc]))
  have hB8 := hB7.trans (hb78.mono (by omega))
  clear hb8
  gi_wp2_with fail
  go_ret
  exact ⟨rfl, hB8⟩
end Go.Proofs.Ytajjailmmbcolaa
