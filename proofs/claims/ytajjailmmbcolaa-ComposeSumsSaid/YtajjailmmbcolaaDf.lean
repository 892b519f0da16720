/- compose: best, as Flat calls it; Flat; fonts by numbers with their outlines. -/
import Derived.Test.YtajjailmmbcolaaDe
import Derived.Lib.Hide
namespace Go.Proofs.Ytajjailmmbcolaa
open Go Go.Proofs Go.RowKit Go.Shelf Go.Maps
attribute [local go_sem] Oper.semAt_some
set_option linter.unusedSimpArgs false
set_option linter.unusedVariables false

/-- How many points the glyphs have. -/
def LensAt (n₀ : Nat) (W : World) (a : Option Addr) (N : Nat) (own : Nat → Ol) : Prop :=
  ∀ g, g < N → ∃ b o A c, a = some ⟨b, o, none⟩ ∧ b < n₀ ∧ W.cell? ⟨b, o + g * 9 + 3, none⟩ = some (.slice A (own g).1.length c)
theorem LensAt.below {n₀ : Nat} {W W' : World} {a : Option Addr} {N : Nat} {own : Nat → Ol} (h : LensAt n₀ W a N own) (hb : ∀ k, k < n₀ → W'.heap[k]? = W.heap[k]?) : LensAt n₀ W' a N own := fun g hg => by
  obtain ⟨b, o, A, c, h1, h2, h3⟩ := h g hg
  exact ⟨b, o, A, c, h1, h2, (World.cell?_of_block (hb b h2)).trans h3⟩
theorem foldF_range {B : Nat → Int} {T : Nat → Prop} (hrg : ∀ g, T g → 0 ≤ B g ∧ B g ≤ 1001000) (n : Nat) (hn : n ≤ 1000000) (ps : List Nat) (hp : ∀ y ∈ ps, T y) : 0 ≤ foldB (fun a b => a + b) 1001 B (n : Int) ps ∧ foldB (fun a b => a + b) 1001 B (n : Int) ps ≤ 1000000 := by
  suffices H : ∀ (ps : List Nat) (z : Int), (∀ y ∈ ps, T y) → 0 ≤ z ∧ z ≤ 1000000 → 0 ≤ foldB (fun a b => a + b) 1001 B z ps ∧ foldB (fun a b => a + b) 1001 B z ps ≤ 1000000 from H ps n hp (by omega)
  intro ps
  unfold foldB
  induction ps with
  | nil => exact fun z _ h => h
  | cons p ps ih =>
    intro z hp hz
    have := hrg p (hp p (by simp))
    simp only [List.foldl_cons]
    exact ih _ (fun y hy => hp y (by simp [hy])) (by omega)
theorem own32_calls (f : Fv) (G : Gs) (own : Nat → Ol) (n₀ g : Nat) (hg : g < G.length) (bF : Nat) (w : World) (hL : LensAt n₀ w f.a G.length own) (hF : Bx w bF (f.cells G.length) 32) :
    Calls Try.prog 32 #[.int .i64 g, .pointer (some ⟨bF, 0, none⟩)] w fun e w' => e = .returned (.int .i64 ((own g).1.length : Int)) ∧ w' = w := by
  obtain ⟨b, o, A, c, ha, hb, hc⟩ := hL g hg
  have f1 := hF.cell 1
  simp only [Fv.cells] at f1
  rw [ha] at f1
  have q0 : (0 : Int) ≤ (g : Int) := by omega
  have q1 : (g : Int) < (G.length : Int) := by omega
  refine (callsIn_wide (n := 6)).1 ?_
  refine callsIn_of_wp Try.func32 rfl trivial ?_ rfl
  simp only [Try.ntmps32, List.size_toArray, List.length_cons, List.length_nil, Nat.reduceAdd, Nat.reduceSub, Array.replicate_succ, Array.replicate_zero, List.push_toArray, List.append_toArray, List.nil_append, List.cons_append]
  gi_wp2
  go_ret
  exact ⟨rfl, rfl⟩
theorem join33_calls (a b : Int) (ha : 0 ≤ a ∧ a ≤ 1000000) (hb : 0 ≤ b ∧ b ≤ 1001000) (w : World) : Calls Try.prog 33 #[.int .i64 a, .int .i64 b] w fun e w' => e = .returned (.int .i64 (a + b)) ∧ w' = w := by
  refine (callsIn_wide (n := 6)).1 ?_
  refine callsIn_of_wp Try.func33 rfl trivial ?_ rfl
  simp only [Try.ntmps33, List.size_toArray, List.length_cons, List.length_nil, Nat.reduceAdd, Nat.reduceSub, Array.replicate_succ, Array.replicate_zero, List.push_toArray, List.append_toArray, List.nil_append, List.cons_append]
  have e1 : wrap64 (a + b) = a + b := by unfold wrap64; omega
  gi_wp2
  go_ret
  exact ⟨rfl, rfl⟩

set_option maxRecDepth 100000 in
set_option maxHeartbeats 2000000 in
theorem bestF_calls (f : Fv) (G : Gs) (own : Nat → Ol) (n₀ m : Nat) (hN : G.length ≤ 1000000) (hm : n₀ ≤ m) (T : Nat → Prop) (r : Nat → Nat) (B : Nat → Int) (HB : Bests G T r (fun g => ((own g).1.length : Int)) (fun a b => a + b) 1001 B) (hrg : ∀ g, T g → 0 ≤ B g ∧ B g ≤ 1001000) (hown : ∀ g, T g → (own g).1.length ≤ 1000000) (bF : Nat) (hbFm : bF ≠ m) (hbFn : n₀ ≤ bF) :
    ∀ (d : Nat) (g : Nat) (xs : List Nat) (w : World), r g < d → T g → xs.Nodup → (∀ x ∈ xs, T x) →
    GlyphsAt n₀ w f.a G → LensAt n₀ w f.a G.length own → Bx w bF (f.cells G.length) 32 → Mi B w m xs → n₀ ≤ w.heap.size →
    Calls Try.prog 31 #[.agg (f.cells G.length), .int .i64 g, .map (some m), .int .i64 1001, .func (.func 32) #[] #[.pointer (some ⟨bF, 0, none⟩)], .func (.func 33) #[] #[]] w fun e w' =>
      e = .returned (.int .i64 (B g)) ∧ ∃ ys, ys.Nodup ∧ (∀ y ∈ ys, T y) ∧ (∀ x ∈ xs, x ∈ ys) ∧ (∀ y ∈ ys, y ∉ xs → r y ≤ r g) ∧ Bk m w.heap.size w w' ∧ Mi B w' m ys := by
  intro d
  induction d with
  | zero => intro g xs w hd; omega
  | succ d ih =>
    intro g xs w hd hTg hnd hT hG hLn hbF hM hn₀
    have hbFl := hbF.lt
    have hOw : ∀ W, Below w.heap.size w W → Calls Try.prog 32 #[.int .i64 g, .pointer (some ⟨bF, 0, none⟩)] W fun e w' => e = .returned (.int .i64 ((own g).1.length : Int)) ∧ w' = W := fun W hB => own32_calls f G own n₀ g (HB.lt g hTg) bF W (hLn.below (fun k hk => hB.block k (by omega))) (hbF.kept (hB.block _ hbFl))
    have HOw := Lib.hid hOw
    clear hOw
    have hg := HB.lt g hTg
    refine (callsIn_wide (n := 6)).1 ?_
    refine callsIn_of_wp_marks Try.func31 rfl trivial ?_ rfl
    simp only [Try.ntmps31, List.size_toArray, List.length_cons, List.length_nil, Nat.reduceAdd, Nat.reduceSub, Array.replicate_succ, Array.replicate_zero, List.push_toArray, List.append_toArray, List.nil_append, List.cons_append, Fv.cells]
    have hmw := hM.lt
    by_cases hin : g ∈ xs
    · gi_wp2_with (gi_at_lookup; refine wpListIn_lookup_own_ok_int _ rfl _ _ 82 rfl 3 3 .i64 (Maps.int_keyed Try.underlying3) Try.underlying82 Try.underlying3 (Try.zeroValue3 _) m xs.length _ rfl (((((hM.alloc _).alloc _).alloc _).alloc _).alloc _) _ _ rfl (Maps.keyOf_int_mk Try.underlying3 (wf_nat (by omega))) ?_; intro c hat hwc; rw [DI_at B xs g hin] at hat; injection hat with hat; injection hat with _ hat; subst hat; rw [DI_has, decide_eq_true hin])
      refine ⟨_, results_tmp rfl _ _ _, rfl, xs, hnd, hT, fun x h => h, fun y h h' => absurd h h', ?_, ?_⟩
      · exact ((((((Bk.refl m _ w).alloc (Nat.le_refl _) _).alloc (by simp [World.size_alloc]) _).alloc (by simp [World.size_alloc]; omega) _).alloc (by simp [World.size_alloc]; omega) _).alloc (by simp [World.size_alloc]; omega) _).alloc (by simp [World.size_alloc]; omega) _
      · exact (((((hM.alloc _).alloc _).alloc _).alloc _).alloc _).alloc _
    · have hpi := parts_in Fence.wide (6 - 1) trivial rfl f G.length g ((((((w.alloc (.cells (f.cells G.length) 32)).alloc (.cells #[.map (some m)] 82)).alloc (.cells #[.int .i64 1001] 3)).alloc (.cells #[.func (.func 32) #[] #[.pointer (some ⟨bF, 0, none⟩)]] 83)).alloc (.cells #[.func (.func 33) #[] #[]] 53)).alloc (.cells #[.int .i64 ((own g).1.length : Int)] 3))
      obtain ⟨W0, hW0⟩ : ∃ W0, (((((((w.alloc (.cells (f.cells G.length) 32)).alloc (.cells #[.map (some m)] 82)).alloc (.cells #[.int .i64 1001] 3)).alloc (.cells #[.func (.func 32) #[] #[.pointer (some ⟨bF, 0, none⟩)]] 83)).alloc (.cells #[.func (.func 33) #[] #[]] 53)).alloc (.cells #[.int .i64 ((own g).1.length : Int)] 3)).alloc (.cells (f.cells G.length) 32)).alloc (.cells #[.int .i64 g] 3) = W0 := ⟨_, rfl⟩
      rw [hW0] at hpi
      have hsz : W0.heap.size = w.heap.size + 8 := by rw [← hW0]; simp [World.size_alloc]
      have hb0 := (((((((Bx.new w (f.cells G.length) 32).alloc (.cells #[.map (some m)] 82)).alloc (.cells #[.int .i64 1001] 3)).alloc (.cells #[.func (.func 32) #[] #[.pointer (some ⟨bF, 0, none⟩)]] 83)).alloc (.cells #[.func (.func 33) #[] #[]] 53)).alloc (.cells #[.int .i64 ((own g).1.length : Int)] 3)).alloc (.cells (f.cells G.length) 32)).alloc (.cells #[.int .i64 g] 3)
      have hb1 := ((((((Bx.new (w.alloc (.cells (f.cells G.length) 32)) #[.map (some m)] 82).alloc (.cells #[.int .i64 1001] 3)).alloc (.cells #[.func (.func 32) #[] #[.pointer (some ⟨bF, 0, none⟩)]] 83)).alloc (.cells #[.func (.func 33) #[] #[]] 53)).alloc (.cells #[.int .i64 ((own g).1.length : Int)] 3)).alloc (.cells (f.cells G.length) 32)).alloc (.cells #[.int .i64 g] 3)
      have hb2 := (((((Bx.new ((w.alloc (.cells (f.cells G.length) 32)).alloc (.cells #[.map (some m)] 82)) #[.int .i64 1001] 3).alloc (.cells #[.func (.func 32) #[] #[.pointer (some ⟨bF, 0, none⟩)]] 83)).alloc (.cells #[.func (.func 33) #[] #[]] 53)).alloc (.cells #[.int .i64 ((own g).1.length : Int)] 3)).alloc (.cells (f.cells G.length) 32)).alloc (.cells #[.int .i64 g] 3)
      have hb3 := ((((Bx.new (((w.alloc (.cells (f.cells G.length) 32)).alloc (.cells #[.map (some m)] 82)).alloc (.cells #[.int .i64 1001] 3)) #[.func (.func 32) #[] #[.pointer (some ⟨bF, 0, none⟩)]] 83).alloc (.cells #[.func (.func 33) #[] #[]] 53)).alloc (.cells #[.int .i64 ((own g).1.length : Int)] 3)).alloc (.cells (f.cells G.length) 32)).alloc (.cells #[.int .i64 g] 3)
      have hb4 := (((Bx.new ((((w.alloc (.cells (f.cells G.length) 32)).alloc (.cells #[.map (some m)] 82)).alloc (.cells #[.int .i64 1001] 3)).alloc (.cells #[.func (.func 32) #[] #[.pointer (some ⟨bF, 0, none⟩)]] 83)) #[.func (.func 33) #[] #[]] 53).alloc (.cells #[.int .i64 ((own g).1.length : Int)] 3)).alloc (.cells (f.cells G.length) 32)).alloc (.cells #[.int .i64 g] 3)
      have hb5 := ((Bx.new (((((w.alloc (.cells (f.cells G.length) 32)).alloc (.cells #[.map (some m)] 82)).alloc (.cells #[.int .i64 1001] 3)).alloc (.cells #[.func (.func 32) #[] #[.pointer (some ⟨bF, 0, none⟩)]] 83)).alloc (.cells #[.func (.func 33) #[] #[]] 53)) #[.int .i64 ((own g).1.length : Int)] 3).alloc (.cells (f.cells G.length) 32)).alloc (.cells #[.int .i64 g] 3)
      have hb6 := (Bx.new ((((((w.alloc (.cells (f.cells G.length) 32)).alloc (.cells #[.map (some m)] 82)).alloc (.cells #[.int .i64 1001] 3)).alloc (.cells #[.func (.func 32) #[] #[.pointer (some ⟨bF, 0, none⟩)]] 83)).alloc (.cells #[.func (.func 33) #[] #[]] 53)).alloc (.cells #[.int .i64 ((own g).1.length : Int)] 3)) (f.cells G.length) 32).alloc (.cells #[.int .i64 g] 3)
      have hb7 := Bx.new (((((((w.alloc (.cells (f.cells G.length) 32)).alloc (.cells #[.map (some m)] 82)).alloc (.cells #[.int .i64 1001] 3)).alloc (.cells #[.func (.func 32) #[] #[.pointer (some ⟨bF, 0, none⟩)]] 83)).alloc (.cells #[.func (.func 33) #[] #[]] 53)).alloc (.cells #[.int .i64 ((own g).1.length : Int)] 3)).alloc (.cells (f.cells G.length) 32)) #[.int .i64 g] 3
      rw [hW0] at hb0 hb1 hb2 hb3 hb4 hb5 hb6 hb7
      simp only [World.size_alloc] at hb1 hb2 hb3 hb4 hb5 hb6 hb7
      have hM0 : Mi B W0 m xs := hW0 ▸ (((((((hM.alloc _).alloc _).alloc _).alloc _).alloc _).alloc _).alloc _).alloc _
      have hB0 : Below w.heap.size w W0 := hW0 ▸ ((((((((Below.refl _ w).alloc (Nat.le_refl _) _).alloc (by simp [World.size_alloc]) _).alloc (by simp [World.size_alloc]; omega) _).alloc (by simp [World.size_alloc]; omega) _).alloc (by simp [World.size_alloc]; omega) _).alloc (by simp [World.size_alloc]; omega) _).alloc (by simp [World.size_alloc]; omega) _).alloc (by simp [World.size_alloc]; omega) _
      have hG0 : GlyphsAt n₀ W0 f.a G := hG.below (fun k hk => hB0.block k (by omega)) (Nat.le_refl _)
      clear hW0
      simp only [Fv.cells, World.size_alloc] at hpi
      gi_wp2_with (first
        | (gi_at_lookup; refine wpListIn_lookup_own_ok_int _ rfl _ _ 82 rfl 3 3 .i64 (Maps.int_keyed Try.underlying3) Try.underlying82 Try.underlying3 (Try.zeroValue3 _) m xs.length _ rfl (((((hM.alloc _).alloc _).alloc _).alloc _).alloc _) _ _ rfl (Maps.keyOf_int_mk Try.underlying3 (wf_nat (by omega))) ?_; intro c hat hwc; rw [DI_has, decide_eq_false hin])
        | (refine ⟨trivial, ?_⟩; gi_at_call 32; refine (callsIn_wide.2 (HOw.out _ (by repeat first | exact Below.refl _ _ | refine Below.alloc ?_ (by (try simp only [World.size_alloc]); omega) _))).mono ?_; rintro e w1 ⟨rfl, rfl⟩)
        | (refine ⟨trivial, ?_⟩; gi_at_call 23; refine hpi.mono ?_; rintro e w' ⟨rfl, rfl⟩))
      clear hpi
      have hkids : kids G g = (flt G.length G[g]).map gn := by simp [kids, hg]
      refine wpIn_rangeFunc_ownH rfl (by omega) (gf := 38) (lb := #[.pointer (some ⟨w.heap.size + 1 + 1 + 1 + 1 + 1 + 1, 0, none⟩), .pointer (some ⟨w.heap.size + 1 + 1 + 1 + 1 + 1 + 1 + 1, 0, none⟩)]) rfl trivial (enters_of Try.func38 (by kernel_rfl) rfl)
        (parts_stopsK Fence.wide (6 - 1) trivial trivial rfl (by omega) (w.heap.size + 1 + 1 + 1 + 1 + 1 + 1) (w.heap.size + 1 + 1 + 1 + 1 + 1 + 1 + 1) n₀ (Bk2 m (w.heap.size + 1 + 1 + 1 + 1 + 1) w'.heap.size) (fun _ _ h => h.kept hm (by omega) (by omega) (by omega) (by omega) (by omega)) f G g hg w' (by omega) hb6 hb7 hG0)
        bk2_t (bk2_b (Nat.le_refl _)) (Below.refl _ _) (fun _ => rfl)
        (fun pre W => ∃ ys, (ys.Nodup ∧ (∀ y ∈ ys, T y) ∧ (∀ x ∈ xs, x ∈ ys) ∧ (∀ y ∈ ys, y ∉ xs → r y < r g)) ∧ Mi B W m ys ∧ Bk2 m (w.heap.size + 1 + 1 + 1 + 1 + 1) w'.heap.size w' W ∧ Bx W (w.heap.size + 1 + 1 + 1 + 1 + 1) #[.int .i64 (foldB (fun a b => a + b) 1001 B ((own g).1.length : Int) (pre.map gk))] 3)
        (fun _ _ _ => False)
        (fun pre X Y row hs hg hr => by obtain ⟨ys, h1, h2, h3, h4⟩ := hs; exact ⟨ys, h1, Mi.own (by omega) () X Y row h2 hg hr, Bk2.own (Nat.le_refl _) () X Y row h3 hg hr, Bx.own (B := w'.heap.size) () X Y row h4 hg hr⟩)
        (fun _ _ _ _ _ hs _ _ => hs)
        ⟨xs, ⟨hnd, hT, fun x h => h, fun y h h' => absurd h h'⟩, hM0, Bk2.refl _ _ _ _, hb5⟩
        (fun x a' W => ∃ b, w'.heap.size ≤ b ∧ Bx W b #[.int .i64 x.1.1.1, .int .i64 x.1.1.2.1, .int .i64 x.1.1.2.2] 48 ∧ a' = { tmps := #[.agg (f.cells G.length), .int .i64 g, .map (some m), .int .i64 1001, .func (.func 32) #[] #[.pointer (some ⟨bF, 0, none⟩)], .func (.func 33) #[] #[], .pointer (some ⟨w.heap.size, 0, none⟩), undef, .pointer (some ⟨w.heap.size + 1, 0, none⟩), .pointer (some ⟨w.heap.size + 1 + 1, 0, none⟩), .pointer (some ⟨w.heap.size + 1 + 1 + 1, 0, none⟩), .pointer (some ⟨w.heap.size + 1 + 1 + 1 + 1, 0, none⟩), .int .i64 0, .pointer (some ⟨w.heap.size + 1 + 1 + 1 + 1 + 1, 0, none⟩), .bool false, .pointer (some ⟨b, 0, none⟩), .tuple #[.int .i64 c, .bool false], .map (some m), .int .i64 g, .tuple #[.int .i64 c, .bool false], .int .i64 c, .bool false, .bool false, undef, .func (.func 32) #[] #[.pointer (some ⟨bF, 0, none⟩)], .int .i64 g, .int .i64 ((own g).1.length : Int), .agg (f.cells G.length), .int .i64 g, .func (.func 38) #[] #[.pointer (some ⟨w.heap.size + 1 + 1 + 1 + 1 + 1 + 1, 0, none⟩), .pointer (some ⟨w.heap.size + 1 + 1 + 1 + 1 + 1 + 1 + 1, 0, none⟩)], ptV x.1.1, undef, undef, undef, undef, undef, undef, undef, undef, undef, undef, undef, undef, undef, undef, undef, undef, undef], defers := [] })
        (fun x a' _ X Y row hs hg hr => by obtain ⟨b, h1, h2, h3⟩ := hs; exact ⟨b, h1, Bx.own () X Y row h2 hg hr, h3⟩)
        ?assign ?body ?done ?stop
      case assign =>
        rintro l pre x W K ⟨ys, h1, h2, h3, h4⟩ hK
        simp only [ptV]
        gi_wp2
        exact hK _ _ ((KeepsOthers.alloc _ _).from _) ((Bk2.refl m _ _ W).alloc h3.size _) ⟨ys, h1, h2.alloc _, h3.alloc h3.size _, h4.alloc _⟩ ⟨W.heap.size, h3.size, Bx.new _ _ _, rfl⟩
      case body =>
        rintro l pre x a' W hl _ ⟨ys, ⟨h1, h1T, h1s, h1r⟩, h2, h3, h4⟩ ⟨b, hb, hbx, rfl⟩ _
        have hxk : gn x.1 ∈ kids G g := by rw [hkids]; exact List.mem_map.2 ⟨x.1, x.2, rfl⟩
        obtain ⟨hTx, hrx⟩ := HB.kid g hTg _ hxk
        have hf := hb0.kept (h3.block _ (by omega) (by omega) (by omega))
        simp only [ptV, Fv.cells]
        gi_wp2
        have hS : ∀ w1 : World, Bk2 m (w.heap.size + 1 + 1 + 1 + 1 + 1) W.heap.size W w1 → w1.cell? ⟨w.heap.size + 1 + 1 + 1 + 1, 0, none⟩ = some (.func (.func 33) #[] #[]) ∧ w1.cell? ⟨w.heap.size, 0, none⟩ = some (Value.int .i64 f.u) ∧ w1.cell? ⟨w.heap.size, 1, none⟩ = some (Value.slice f.a G.length f.c) ∧ w1.cell? ⟨w.heap.size, 2, none⟩ = some (Value.slice f.r2.1 f.r2.2.1 f.r2.2.2) ∧ w1.cell? ⟨w.heap.size, 3, none⟩ = some (Value.slice f.r3.1 f.r3.2.1 f.r3.2.2) ∧ w1.cell? ⟨w.heap.size, 4, none⟩ = some (Value.slice f.r4.1 f.r4.2.1 f.r4.2.2) ∧ w1.cell? ⟨w.heap.size, 5, none⟩ = some (Value.slice f.r5.1 f.r5.2.1 f.r5.2.2) ∧ w1.cell? ⟨w.heap.size, 6, none⟩ = some (Value.slice f.r6.1 f.r6.2.1 f.r6.2.2) ∧ w1.cell? ⟨w.heap.size, 7, none⟩ = some (Value.slice f.r7.1 f.r7.2.1 f.r7.2.2) ∧ w1.cell? ⟨w.heap.size, 8, none⟩ = some (Value.slice f.r8.1 f.r8.2.1 f.r8.2.2) ∧ w1.cell? ⟨b, 0, none⟩ = some (.int .i64 x.1.1.1) ∧ w1.cell? ⟨w.heap.size + 1, 0, none⟩ = some (.map (some m)) ∧ w1.cell? ⟨w.heap.size + 1 + 1, 0, none⟩ = some (.int .i64 1001) ∧ w1.cell? ⟨w.heap.size + 1 + 1 + 1, 0, none⟩ = some (.func (.func 32) #[] #[.pointer (some ⟨bF, 0, none⟩)]) := by
          intro w1 hk
          have hbl := hbx.lt
          have h3s := h3.size
          have k0 := hf.kept (hk.block _ (by omega) (by omega) (by omega))
          have k1 := (hb1.kept (h3.block _ (by omega) (by omega) (by omega))).kept (hk.block _ (by omega) (by omega) (by omega))
          have k2 := (hb2.kept (h3.block _ (by omega) (by omega) (by omega))).kept (hk.block _ (by omega) (by omega) (by omega))
          have k3 := (hb3.kept (h3.block _ (by omega) (by omega) (by omega))).kept (hk.block _ (by omega) (by omega) (by omega))
          have k4 := (hb4.kept (h3.block _ (by omega) (by omega) (by omega))).kept (hk.block _ (by omega) (by omega) (by omega))
          have kb := hbx.kept (hk.block _ (by omega) (by omega) (by omega))
          exact ⟨k4.cell 0, k0.cell 0, k0.cell 1, k0.cell 2, k0.cell 3, k0.cell 4, k0.cell 5, k0.cell 6, k0.cell 7, k0.cell 8, kb.cell 0, k1.cell 0, k2.cell 0, k3.cell 0⟩
        refine region_in_round (S := fun w1 => w1.cell? ⟨w.heap.size + 1 + 1 + 1 + 1, 0, none⟩ = some (.func (.func 33) #[] #[]) ∧ w1.cell? ⟨w.heap.size, 0, none⟩ = some (Value.int .i64 f.u) ∧ w1.cell? ⟨w.heap.size, 1, none⟩ = some (Value.slice f.a G.length f.c) ∧ w1.cell? ⟨w.heap.size, 2, none⟩ = some (Value.slice f.r2.1 f.r2.2.1 f.r2.2.2) ∧ w1.cell? ⟨w.heap.size, 3, none⟩ = some (Value.slice f.r3.1 f.r3.2.1 f.r3.2.2) ∧ w1.cell? ⟨w.heap.size, 4, none⟩ = some (Value.slice f.r4.1 f.r4.2.1 f.r4.2.2) ∧ w1.cell? ⟨w.heap.size, 5, none⟩ = some (Value.slice f.r5.1 f.r5.2.1 f.r5.2.2) ∧ w1.cell? ⟨w.heap.size, 6, none⟩ = some (Value.slice f.r6.1 f.r6.2.1 f.r6.2.2) ∧ w1.cell? ⟨w.heap.size, 7, none⟩ = some (Value.slice f.r7.1 f.r7.2.1 f.r7.2.2) ∧ w1.cell? ⟨w.heap.size, 8, none⟩ = some (Value.slice f.r8.1 f.r8.2.1 f.r8.2.2) ∧ w1.cell? ⟨b, 0, none⟩ = some (.int .i64 x.1.1.1) ∧ w1.cell? ⟨w.heap.size + 1, 0, none⟩ = some (.map (some m)) ∧ w1.cell? ⟨w.heap.size + 1 + 1, 0, none⟩ = some (.int .i64 1001) ∧ w1.cell? ⟨w.heap.size + 1 + 1 + 1, 0, none⟩ = some (.func (.func 32) #[] #[.pointer (some ⟨bF, 0, none⟩)])) (by kernel_rfl) (noDefer_spec (by kernel_rfl)) (hS W.drew ⟨rfl, rfl, rfl, Nat.le_refl _, fun _ _ _ _ => rfl⟩) (fun hHeld => ?_)
        refine wpAnyH_take (i := 0) (v := .func (.func 33) #[] #[]) rfl (by kernel_rfl) (by kernel_rfl) (by kernel_rfl) (fun _ _ _ h => h) (Or.inl ⟨by rfl, ?_⟩) hHeld ?_
        · intro w1 hSw
          go_simp
        simp only [Act.put, List.setIfInBounds_toArray, List.set_cons_zero, List.set_cons_succ]
        refine wpAnyH_take (i := 2) (v := .agg #[Value.int .i64 f.u, Value.slice f.a G.length f.c, Value.slice f.r2.1 f.r2.2.1 f.r2.2.2, Value.slice f.r3.1 f.r3.2.1 f.r3.2.2, Value.slice f.r4.1 f.r4.2.1 f.r4.2.2, Value.slice f.r5.1 f.r5.2.1 f.r5.2.2, Value.slice f.r6.1 f.r6.2.1 f.r6.2.2, Value.slice f.r7.1 f.r7.2.1 f.r7.2.2, Value.slice f.r8.1 f.r8.2.1 f.r8.2.2]) rfl (by kernel_rfl) (by kernel_rfl) (by kernel_rfl) (fun _ _ _ h => h) (Or.inl ⟨by rfl, ?_⟩) hHeld ?_
        · intro w1 hSw
          go_simp
        simp only [Act.put, List.setIfInBounds_toArray, List.set_cons_zero, List.set_cons_succ]
        refine wpAnyH_take (i := 3) (v := .pointer (some ⟨b, 0, none⟩)) rfl (by kernel_rfl) (by kernel_rfl) (by kernel_rfl) (fun _ _ _ h => h) (Or.inl ⟨by rfl, ?_⟩) hHeld ?_
        · intro w1 hSw
          go_simp
        simp only [Act.put, List.setIfInBounds_toArray, List.set_cons_zero, List.set_cons_succ]
        refine wpAnyH_take (i := 4) (v := .int .i64 x.1.1.1) rfl (by kernel_rfl) (by kernel_rfl) (by kernel_rfl) (fun _ _ _ h => h) (Or.inl ⟨by rfl, ?_⟩) hHeld ?_
        · intro w1 hSw
          go_simp
        simp only [Act.put, List.setIfInBounds_toArray, List.set_cons_zero, List.set_cons_succ]
        refine wpAnyH_take (i := 5) (v := .map (some m)) rfl (by kernel_rfl) (by kernel_rfl) (by kernel_rfl) (fun _ _ _ h => h) (Or.inl ⟨by rfl, ?_⟩) hHeld ?_
        · intro w1 hSw
          go_simp
        simp only [Act.put, List.setIfInBounds_toArray, List.set_cons_zero, List.set_cons_succ]
        refine wpAnyH_take (i := 6) (v := .int .i64 1001) rfl (by kernel_rfl) (by kernel_rfl) (by kernel_rfl) (fun _ _ _ h => h) (Or.inl ⟨by rfl, ?_⟩) hHeld ?_
        · intro w1 hSw
          go_simp
        simp only [Act.put, List.setIfInBounds_toArray, List.set_cons_zero, List.set_cons_succ]
        refine wpAnyH_take (i := 7) (v := .func (.func 32) #[] #[.pointer (some ⟨bF, 0, none⟩)]) rfl (by kernel_rfl) (by kernel_rfl) (by kernel_rfl) (fun _ _ _ h => h) (Or.inl ⟨by rfl, ?_⟩) hHeld ?_
        · intro w1 hSw
          go_simp
        simp only [Act.put, List.setIfInBounds_toArray, List.set_cons_zero, List.set_cons_succ]
        refine wpAnyH_take (i := 8) (v := .func (.func 33) #[] #[]) rfl (by kernel_rfl) (by kernel_rfl) (by kernel_rfl) (fun _ _ _ h => h) (Or.inl ⟨by rfl, ?_⟩) hHeld ?_
        · intro w1 hSw
          go_simp
        simp only [Act.put, List.setIfInBounds_toArray, List.set_cons_zero, List.set_cons_succ]
        refine wpAnyH_take (i := 11) (v := .int .i64 1001) rfl (by kernel_rfl) (by kernel_rfl) (by kernel_rfl) (fun _ _ _ h => h) (Or.inl ⟨by rfl, ?_⟩) hHeld ?_
        · intro w1 hSw
          go_simp
        simp only [Act.put, List.setIfInBounds_toArray, List.set_cons_zero, List.set_cons_succ]
        have hW3 := h3.size
        have cn := h4.cell 0
        have cn' : W.drew.cell? ⟨w.heap.size + 1 + 1 + 1 + 1 + 1, 0, none⟩ = _ := cn
        have hacc := foldF_range (fun y hy => hrg y hy) (own g).1.length (hown g hTg) (pre.map gk) (fun y hy => by obtain ⟨z, _, rfl⟩ := List.mem_map.1 hy; exact (HB.kid g hTg _ (by rw [hkids]; exact List.mem_map.2 ⟨z.1, z.2, rfl⟩)).1)
        have hih := ih (gn x.1) ys W.drew (by omega) hTx h1 h1T (hG0.below (fun k hk => h3.block k (by omega) (by omega) (by omega)) (Nat.le_refl _)) (hLn.below (fun k hk => (h3.block k (by omega) (by omega) (by omega)).trans (hB0.block k (by omega)))) (hbF.kept ((h3.block bF (by omega) hbFm (by omega)).trans (hB0.block bF hbFl))) h2 (by show n₀ ≤ W.heap.size; omega)
        rw [← gn_eq] at hih
        simp only [Fv.cells] at hih
        have hBx := hrg _ hTx
        refine wpAnyH_ready (rs := [1, 9]) (by kernel_rfl) (by simp) ?_
        refine AllReadyH.cons rfl (fun K hK => ?_) (AllReadyH.cons rfl (fun K hK => ?_) AllReadyH.nil)
        · go_simp
          refine hK.out _ _ hHeld (fun hHeld => ?_)
          clear hK K
          refine wpAnyH_ready (rs := [9]) (by kernel_rfl) (by simp) ?_
          refine AllReadyH.cons rfl (fun K hK => ?_) AllReadyH.nil
          go_simp
          refine hih.mono ?_
          rintro e w2 ⟨rfl, zs, z1, zT, zs', zr, hbk, hM2⟩
          have hbk' : Bk m W.heap.size W w2 := ⟨hbk.os, hbk.tape, hbk.output, hbk.size, hbk.block⟩
          refine hK.out _ _ (hS w2 hbk'.two) (fun hHeld => ?_)
          clear hK K
          have hn2 := h4.kept (hbk'.block _ h4.lt (by omega))
          have cn2 := hn2.cell 0
          have cf2 := hn2.frozen 0
          refine wpAnyH_ready (rs := [10]) (by kernel_rfl) (by simp) ?_
          refine AllReadyH.cons rfl (fun K hK => ?_) AllReadyH.nil
          go_simp
          refine (join33_calls _ _ hacc ⟨hBx.1, hBx.2⟩ _).mono ?_
          rintro e w3 ⟨rfl, rfl⟩
          refine hK.out _ _ hHeld (fun hHeld => ?_)
          clear hK K
          refine wpAnyH_ready (rs := [12]) (by kernel_rfl) (by simp) ?_
          refine AllReadyH.cons rfl (fun K hK => ?_) AllReadyH.nil
          go_simp
          refine hK.out _ _ hHeld (fun hHeld => ?_)
          clear hK K
          refine wpAnyH_ready (rs := [13]) (by kernel_rfl) (by simp) ?_
          refine AllReadyH.cons rfl (fun K hK => ?_) AllReadyH.nil
          go_simp
          have hset : Bk2 m (w.heap.size + 1 + 1 + 1 + 1 + 1) W.heap.size w3 (w3.setCell ⟨w.heap.size + 1 + 1 + 1 + 1 + 1, 0, none⟩ (.int .i64 (min (foldB (fun a b => a + b) 1001 B ((own g).1.length : Int) (List.map gk pre) + B (gn x.1)) 1001))) :=
            ⟨rfl, rfl, rfl, (KeepsWalks.setCell w3 _ _).size, fun k _ _ hk => Below.heap_setCell _ _ _ k hk⟩
          refine hK.out _ _ (hS _ (hbk'.two.trans hset)) (fun hHeld => ?_)
          clear hK K
          refine wpAnyH_done (by kernel_rfl) ?_ _
          have hk4 : KeepsFrom w'.heap.size W w3 := hbk'.from (Nat.le_refl _) (by omega)
          refine ⟨hk4.trans ((KeepsOthers.setCell _ _ _).from _), (hbk'.two.trans hset).mono h3.size, zs, ⟨z1, zT, fun y hy => zs' y (h1s y hy), fun y hy hyx => ?_⟩, World.ownsMap.kept hM2 (grownBy_setCell' w3 _ _) (fun e => by injection e with e; omega), h3.trans ((hbk'.two.trans hset).mono h3.size), ?_⟩
          · by_cases hyy : y ∈ ys
            · exact h1r y hyy hyx
            · have := zr y hy hyy; omega
          · rw [List.map_append, List.map_cons, List.map_nil, foldB_snoc]
            exact hn2.set _
        · go_simp
          refine hih.mono ?_
          rintro e w2 ⟨rfl, zs, z1, zT, zs', zr, hbk, hM2⟩
          have hbk' : Bk m W.heap.size W w2 := ⟨hbk.os, hbk.tape, hbk.output, hbk.size, hbk.block⟩
          refine hK.out _ _ (hS w2 hbk'.two) (fun hHeld => ?_)
          clear hK K
          have hn2 := h4.kept (hbk'.block _ h4.lt (by omega))
          have cn2 := hn2.cell 0
          have cf2 := hn2.frozen 0
          refine wpAnyH_ready (rs := [1]) (by kernel_rfl) (by simp) ?_
          refine AllReadyH.cons rfl (fun K hK => ?_) AllReadyH.nil
          go_simp
          refine hK.out _ _ hHeld (fun hHeld => ?_)
          clear hK K
          refine wpAnyH_ready (rs := [10]) (by kernel_rfl) (by simp) ?_
          refine AllReadyH.cons rfl (fun K hK => ?_) AllReadyH.nil
          go_simp
          refine (join33_calls _ _ hacc ⟨hBx.1, hBx.2⟩ _).mono ?_
          rintro e w3 ⟨rfl, rfl⟩
          refine hK.out _ _ hHeld (fun hHeld => ?_)
          clear hK K
          refine wpAnyH_ready (rs := [12]) (by kernel_rfl) (by simp) ?_
          refine AllReadyH.cons rfl (fun K hK => ?_) AllReadyH.nil
          go_simp
          refine hK.out _ _ hHeld (fun hHeld => ?_)
          clear hK K
          refine wpAnyH_ready (rs := [13]) (by kernel_rfl) (by simp) ?_
          refine AllReadyH.cons rfl (fun K hK => ?_) AllReadyH.nil
          go_simp
          have hset : Bk2 m (w.heap.size + 1 + 1 + 1 + 1 + 1) W.heap.size w3 (w3.setCell ⟨w.heap.size + 1 + 1 + 1 + 1 + 1, 0, none⟩ (.int .i64 (min (foldB (fun a b => a + b) 1001 B ((own g).1.length : Int) (List.map gk pre) + B (gn x.1)) 1001))) :=
            ⟨rfl, rfl, rfl, (KeepsWalks.setCell w3 _ _).size, fun k _ _ hk => Below.heap_setCell _ _ _ k hk⟩
          refine hK.out _ _ (hS _ (hbk'.two.trans hset)) (fun hHeld => ?_)
          clear hK K
          refine wpAnyH_done (by kernel_rfl) ?_ _
          have hk4 : KeepsFrom w'.heap.size W w3 := hbk'.from (Nat.le_refl _) (by omega)
          refine ⟨hk4.trans ((KeepsOthers.setCell _ _ _).from _), (hbk'.two.trans hset).mono h3.size, zs, ⟨z1, zT, fun y hy => zs' y (h1s y hy), fun y hy hyx => ?_⟩, World.ownsMap.kept hM2 (grownBy_setCell' w3 _ _) (fun e => by injection e with e; omega), h3.trans ((hbk'.two.trans hset).mono h3.size), ?_⟩
          · by_cases hyy : y ∈ ys
            · exact h1r y hyy hyx
            · have := zr y hy hyy; omega
          · rw [List.map_append, List.map_cons, List.map_nil, foldB_snoc]
            exact hn2.set _
      case done =>
        rintro D zs W hD hzs ⟨ys, ⟨h1, h1T, h1s, h1r⟩, h2, h3, h4⟩ hK
        have hBg : B g = foldB (fun a b => a + b) 1001 B ((own g).1.length : Int) (zs.map gk) := by
          have e := congrArg (List.map gn) hzs
          rw [List.map_map] at e
          rw [HB.eq g hTg, hkids, ← e]
          rfl
        rw [← hBg] at h4
        clear hBg hzs
        have c0 := h4.cell 0
        have c1 := (hb1.kept (h3.block _ (by omega) (by omega) (by omega))).cell 0
        have hgy : g ∉ ys := fun h => by have := h1r g h hin; omega
        have hyl : ys.length ≤ G.length := nodup_len h1 (fun y hy => HB.lt y (h1T y hy))
        have hml : ys.length < maxLen := by unfold maxLen; omega
        have hwg := wf_nat (k := g) (by omega)
        have hnm : m ≠ w.heap.size + 1 + 1 + 1 + 1 + 1 := by omega
        gi_wp2_with (gi_at_mapUpdate; go_loud (refine wpListIn_mapUpdate_own _ rfl _ _ _ 82 rfl 3 3 (Maps.int_keyed Try.underlying3) Try.underlying82 _ m ys.length _ rfl h2 hml _ _ _ rfl rfl (Maps.keyOf_int_mk Try.underlying3 hwg) _ [] (plainElem_int Try.underlying3 (HB.wfB g hTg)) ?_; intro w1 hown1 hgrow1; have c0' := (h4.kept (hgrow1.block _ h4.lt (fun e => hnm (by injection e with e; exact e.symm)))).cell 0))
        have hDl : D < W.heap.size := (Array.getElem?_eq_some_iff.1 hK).1
        have hK' : w1.heap[D]? = some (.deferred (some [])) := (hgrow1.block D hDl (fun e => by injection e with e; omega)).trans hK
        have hM1 : Mi B w1 m (ys ++ [g]) := by unfold Mi; rw [DI_snoc, List.length_append]; exact hown1
        refine ⟨by simp, .inl ⟨_, _, rfl, run_takeDeferred hK', ?_⟩⟩
        refine ⟨_, results_tmp rfl _ _ _, rfl, ys ++ [g], ?_, ?_, fun x hx => List.mem_append_left _ (h1s x hx), ?_, ?_, World.ownsMap.kept hM1 (grownBy_putObj' w1 D _) (fun e => by injection e with e; omega)⟩
        · rw [List.nodup_append]
          exact ⟨h1, by simp, fun p hp q hq => by rw [List.mem_singleton.1 hq]; exact fun e => hgy (e ▸ hp)⟩
        · intro y hy
          rcases List.mem_append.1 hy with hy | hy
          · exact h1T y hy
          · rw [List.mem_singleton.1 hy]; exact hTg
        · intro y hy hyx
          rcases List.mem_append.1 hy with hy | hy
          · have := h1r y hy hyx; omega
          · rw [List.mem_singleton.1 hy]; exact Nat.le_refl _
        · refine ⟨?_, ?_, ?_, ?_, ?_⟩
          · exact (hgrow1.os.trans h3.os).trans hB0.os
          · exact (hgrow1.tape.trans h3.tape).trans hB0.tape
          · exact (hgrow1.output.trans h3.output).trans hB0.output
          · have := hgrow1.size
            have := h3.size
            simp
            omega
          · intro k hk hkm
            rw [World.putObj_heap_other (by omega), hgrow1.block k (by have := h3.size; omega) (fun e => hkm (by injection e)), h3.block k (by omega) hkm (by omega)]
            exact hB0.block k hk
      case stop =>
        rintro D c pre W _ _ h _
        exact h.elim
end Go.Proofs.Ytajjailmmbcolaa
namespace Go.Proofs.Ytajjailmmbcolaa
open Go Go.Proofs Go.RowKit Go.Shelf Go.Maps Go.Proofs.YtajjailmmbcolaaW.PrintWords Go.Proofs.YtajjailmmbcolaaW.PrintLast Go.Proofs.YtajjailmmbcolaaW.PrintMore PComposeTells
set_option linter.unusedSimpArgs false
set_option linter.unusedVariables false

/-- How many points, by so many steps, as best counts them. -/
def Cf (G : Gs) (own : Nat → Ol) : Nat → Nat → Int
  | 0, _ => 0
  | n + 1, g => foldB (fun a b => a + b) 1001 (Cf G own n) ((own g).1.length : Int) (kids G g)
noncomputable def Cd (G : Gs) (own : Nat → Ol) (g : Nat) : Int := Cf G own (rk G g + 1) g
theorem Cf_stable {G : Gs} {own : Nat → Ol} {T : Nat → Prop} (hk : ∀ x, T x → ∀ q ∈ kids G x, T q) (hn : ∀ x, T x → ¬ Loop G x) : ∀ (d : Nat) (g : Nat), T g → rk G g < d → ∀ n, rk G g + 1 ≤ n → Cf G own n g = Cd G own g := by
  intro d
  induction d with
  | zero => intro g _ h; omega
  | succ d ih =>
    intro g hT hd n hn'
    obtain ⟨m, rfl⟩ : ∃ m, n = m + 1 := ⟨n - 1, by omega⟩
    unfold Cd
    show foldB _ 1001 (Cf G own m) _ (kids G g) = foldB _ 1001 (Cf G own (rk G g)) _ (kids G g)
    refine foldB_congr _ _ (fun q hq => ?_)
    have hlt := rk_lt hq (hn q (hk g hT q hq))
    rw [ih q (hk g hT q hq) (by omega) m (by omega), ih q (hk g hT q hq) (by omega) (rk G g) (by omega)]
theorem Cf_range {G : Gs} {own : Nat → Ol} (ho : ∀ g, (own g).1.length ≤ 1000000) : ∀ n g, 0 ≤ Cf G own n g ∧ Cf G own n g ≤ 1000000
  | 0, _ => by simp [Cf]
  | n + 1, g => foldF_range (T := fun _ => True) (fun q _ => by have := Cf_range (G := G) ho n q; omega) _ (ho g) _ (fun _ _ => trivial)
theorem bests_Cd {G : Gs} {own : Nat → Ol} {T : Nat → Prop} (ho : ∀ g, (own g).1.length ≤ 1000000) (hk : ∀ x, T x → ∀ q ∈ kids G x, T q) (hn : ∀ x, T x → ¬ Loop G x) (hl : ∀ x, T x → x < G.length) : Bests G T (rk G) (fun g => ((own g).1.length : Int)) (fun a b => a + b) 1001 (Cd G own) := by
  refine ⟨fun g hg q hq => ⟨hk g hg q hq, rk_lt hq (hn q (hk g hg q hq))⟩, hl, fun g hg => ?_, fun g _ => ?_⟩
  · have e : Cd G own g = foldB (fun a b => a + b) 1001 (Cf G own (rk G g)) ((own g).1.length : Int) (kids G g) := by unfold Cd; rfl
    rw [e]
    refine foldB_congr _ _ (fun q hq => ?_)
    exact Cf_stable hk hn _ q (hk g hg q hq) (Nat.lt_succ_self _) _ (rk_lt hq (hn q (hk g hg q hq)))
  · have h : 0 ≤ Cd G own g ∧ Cd G own g ≤ 1000000 := Cf_range ho _ g
    obtain ⟨k, hk'⟩ : ∃ k : Nat, Cd G own g = (k : Int) := ⟨(Cd G own g).toNat, by omega⟩
    rw [hk']
    exact wf_nat (by omega)
/-- A count that is told up to a thousand. -/
def Upto (a : Int) (n : Nat) : Prop := (n ≤ 1000 → a = n) ∧ (1000 < n → 1000 < a)
theorem count_upto {G : Gs} {own : Nat → Ol} {T : Nat → Prop} (ho : ∀ g, (own g).1.length ≤ 1000000) (hk : ∀ x, T x → ∀ q ∈ kids G x, T q) (hn : ∀ x, T x → ¬ Loop G x) (hl : ∀ x, T x → x < G.length) : ∀ (d g : Nat), T g → rk G g < d → Upto (Cd G own g) (jd G own g).1.length := by
  intro d
  induction d with
  | zero => intro g _ h; omega
  | succ d ih =>
    intro g hT hd
    rw [(bests_Cd ho hk hn hl).eq g hT, jd_eq hk hn hT]
    have hq : ∀ x ∈ flt G.length (G.getD g []), Upto (Cd G own (gn x)) (jd G own (gn x)).1.length := fun x hx => by
      have hx' := mem_kids' hx
      exact ih (gn x) (hk g hT _ hx') (by have := rk_lt hx' (hn _ (hk g hT _ hx')); omega)
    unfold kids foldB
    rw [List.foldl_map]
    have hr : ∀ x, 0 ≤ Cd G own x := fun x => (Cf_range ho _ x).1
    generalize flt G.length (G.getD g []) = l at hq
    suffices H : ∀ (a : Int) (o : Ol), Upto a o.1.length → Upto (l.foldl (fun n q => min (n + Cd G own (gn q)) 1001) a) (l.foldl (fun o x => addPart o x.1.2.1 x.1.2.2 (jd G own (gn x))) o).1.length from H _ _ ⟨fun _ => rfl, fun h => by omega⟩
    induction l with
    | nil => exact fun a o h => h
    | cons x l ih2 =>
      intro a o h
      simp only [List.foldl_cons]
      refine ih2 (fun y hy => hq y (by simp [hy])) _ _ ?_
      have h1 := hq x (by simp)
      have h2 := hr (gn x)
      unfold Upto at h h1 ⊢
      simp only [addPart, List.length_append, List.length_map]
      omega
/-- What is told of a glyph's outline. -/
theorem jd_le {G : Gs} {own : Nat → Ol} {T : Nat → Prop} (hk : ∀ x, T x → ∀ q ∈ kids G x, T q) (hn : ∀ x, T x → ¬ Loop G x) {g q : Nat} (hT : T g) (hq : q ∈ kids G g) : (jd G own q).1.length ≤ (jd G own g).1.length ∧ (jd G own q).2.length ≤ (jd G own g).2.length := by
  rw [jd_eq hk hn hT]
  unfold kids at hq
  obtain ⟨x, hx, rfl⟩ := List.mem_map.1 hq
  generalize flt G.length (G.getD g []) = l at hx
  generalize own g = o
  induction l generalizing o with
  | nil => cases hx
  | cons y l ih =>
    simp only [List.foldl_cons]
    rcases List.mem_cons.1 hx with rfl | hx
    · have := fold_len (fun o x => addPart o x.1.2.1 x.1.2.2 (jd G own (gn x))) (fun o x => by simp [addPart]) l (addPart o x.1.2.1 x.1.2.2 (jd G own (gn x)))
      simp only [addPart, List.length_append, List.length_map] at this ⊢
      omega
    · exact ih hx _
theorem jd_le_from {G : Gs} {own : Nat → Ol} {T : Nat → Prop} (hk : ∀ x, T x → ∀ q ∈ kids G x, T q) (hn : ∀ x, T x → ¬ Loop G x) {g x : Nat} (hT : T g) (h : From G (kids G g) x) : T x ∧ (jd G own x).1.length ≤ (jd G own g).1.length ∧ (jd G own x).2.length ≤ (jd G own g).2.length := by
  induction h with
  | here h => exact ⟨hk g hT _ h, jd_le hk hn hT h⟩
  | step _ h2 ih => 
    have := jd_le (own := own) hk hn ih.1 h2
    exact ⟨hk _ ih.1 _ h2, by omega⟩
theorem und_lt {G : Gs} {g : Nat} (hg : g < G.length) : ∀ x, Und G g x → x < G.length := fun x hx => by
  rcases hx with rfl | hx
  · exact hg
  · exact kids_lt (fun p hp => kid_lt hp) hx
theorem und_kid {G : Gs} {g : Nat} : ∀ x, Und G g x → ∀ q ∈ kids G x, Und G g q := fun x hx q hq => by
  rcases hx with rfl | hx
  · exact .inr (.here hq)
  · exact .inr (.step hx hq)
/-- What Flat answers. -/
def FlatA (G : Gs) (own : Nat → Ol) (g : Int) (o : Ol) (c : Int) : Prop :=
  (c ≠ 0 ∧ o = ([], []) ∧ (∃ n, DeepA G g n c)) ∨
  ((0 ≤ g ∧ g < (G.length : Int)) ∧ (∀ x, Und G g.toNat x → ¬ Loop G x) ∧ Bd G g.toNat ≤ 4 ∧ 1000 < (jd G own g.toNat).1.length ∧ o = ([], []) ∧ c = 2) ∨
  ((0 ≤ g ∧ g < (G.length : Int)) ∧ (∀ x, Und G g.toNat x → ¬ Loop G x) ∧ Bd G g.toNat ≤ 4 ∧ (jd G own g.toNat).1.length ≤ 1000 ∧ o = jd G own g.toNat ∧ c = 0)
def FlatP (G : Gs) (own : Nat → Ol) (g : Int) (w : World) (e : Ending) (w' : World) : Prop :=
  ∃ (o : Ol) (c : Int) (vp ve : Value), e = .returned (.tuple #[.agg #[vp, ve], .int .i64 c]) ∧ FlatA G own g o c ∧ RP w' w.heap.size vp o.1 ∧ RI w' w.heap.size ve o.2 ∧ Below w.heap.size w w'
/-- A font, as it lies in a world that is not written any more. -/
structure FontAt (W0 : World) (f : Fv) (G : Gs) (own : Nat → Ol) : Prop where
  N : G.length ≤ 1000000
  gl : GlyphsAt W0.heap.size W0 f.a G
  ou : ∀ g, g < G.length → OutAt W0 f own g
  pt : ∀ g, (own g).1.length ≤ 1000000
theorem FontAt.lens {W0 : World} {f : Fv} {G : Gs} {own : Nat → Ol} (h : FontAt W0 f G own) : LensAt W0.heap.size W0 f.a G.length own := fun g hg => by
  obtain ⟨b, o, A, c, A', c', h1, h2, _, _, _, h3⟩ := h.ou g hg
  exact ⟨b, o, A, c, h1, h3, h2⟩

set_option maxRecDepth 100000 in
set_option maxHeartbeats 2000000 in
/-- Flat. -/
theorem Flat_calls (f : Fv) (G : Gs) (own : Nat → Ol) (W0 : World) (hF : FontAt W0 f G own) (hE : ∀ g, g < G.length → (∀ x, Und G g x → ¬ Loop G x) → Bd G g ≤ 4 → (jd G own g).1.length ≤ 1000 → (jd G own g).2.length ≤ 1000000) (g : Int) (w : World) (hB0 : Below W0.heap.size W0 w) :
    Calls Try.prog 16 #[.agg (f.cells G.length), .int .i64 g] w (FlatP G own g w) := by
  have hmm := @run_makeMap Try.prog
  have hs0 := hB0.size
  have HF := Lib.hid hF
  have HE := Lib.hid hE
  clear hF hE
  go_enter Try.func16, Try.ntmps16
  simp only [Fv.cells]
  go_wp2_with fail
  have hb0 := (Bx.new w (f.cells G.length) 32).alloc (.cells #[.slice none 0 0, .slice none 0 0] 39)
  have hb1 := Bx.new (w.alloc (.cells (f.cells G.length) 32)) #[.slice none 0 0, .slice none 0 0] 39
  have hB2 : Below w.heap.size w ((w.alloc (.cells (f.cells G.length) 32)).alloc (.cells #[.slice none 0 0, .slice none 0 0] 39)) := ((Below.refl _ _).alloc (Nat.le_refl _) _).alloc (by simp [World.size_alloc]) _
  have hs2 : ((w.alloc (.cells (f.cells G.length) 32)).alloc (.cells #[.slice none 0 0, .slice none 0 0] 39)).heap.size = w.heap.size + 2 := by simp [World.size_alloc]
  rw [World.size_alloc] at hb1
  simp only [Fv.cells] at hb0 hb1 hB2 hs2
  generalize World.alloc (World.alloc w _) (.cells #[.slice none 0 0, .slice none 0 0] 39) = W2 at hb0 hb1 hB2 hs2 ⊢
  have hBW2 := hB0.trans (hB2.mono hs0)
  have hde := Deep_calls f G W0.heap.size HF.out.N g W2 (HF.out.gl.below (fun k hk => hBW2.block k hk) (Nat.le_refl _)) (by omega)
  simp only [Fv.cells] at hde
  refine hde.mono ?_
  clear hde
  rintro e w3 ⟨n, c, rfl, hA, hb3⟩
  have hk0 := hb0.kept (hb3.block _ (by omega))
  have hk1 := hb1.kept (hb3.block _ (by omega))
  have hB3 := hB2.trans (hb3.mono (by omega))
  have hs3 := hb3.size
  clear hb0 hb1 hB2
  have HA := Lib.hid hA
  have hc : (c = 32 ∨ c = 33 ∨ c = 34) ∨ (c = 0 ∧ (0 ≤ g ∧ g < (G.length : Int)) ∧ (∀ x, Und G g.toNat x → ¬ Loop G x) ∧ Bd G g.toNat ≤ 4) := by
    rcases hA with ⟨_, _, rfl⟩ | ⟨_, _, _, rfl⟩ | ⟨_, _, _, _, rfl⟩ | ⟨h1, h2, h3, _, rfl⟩
    · exact .inl (.inl rfl)
    · exact .inl (.inr (.inl rfl))
    · exact .inl (.inr (.inr rfl))
    · exact .inr ⟨rfl, h1, h2, h3⟩
  clear hA
  have z0 := hk1.cell 0
  have z1 := hk1.cell 1
  have y0 := hk1.frozen 0
  have y1 := hk1.frozen 1
  rcases hc with hc | ⟨rfl, hg, hno, hbd⟩
  · have hcn : c ≠ 0 := by omega
    have hcb : (c == 0) = false := by simpa using hcn
    go_wp2_with fail
    have q1 := blk_put (cs' := #[.slice none 0 0, .slice none 0 0]) hk1 0 (.slice none 0 0) rfl
    have q2 := blk_put (cs' := #[.slice none 0 0, .slice none 0 0]) q1 1 (.slice none 0 0) rfl
    refine bodyPost_ret (results_ct rfl _ _ (w.heap.size + 1) 39 #[.slice none 0 0, .slice none 0 0] (0, 0) _ rfl q2 Try.underlying39 rfl (by kernel_rfl)) rfl ?_
    exact ⟨([], []), c, _, _, rfl, .inl ⟨hcn, rfl, n, HA.out⟩, Kd.R_nil _ _ _ _ _, Kd.R_nil _ _ _ _ _, below_set (below_set hB3 (by omega)) (by omega)⟩
  · obtain ⟨k, rfl⟩ : ∃ k : Nat, g = (k : Int) := ⟨g.toNat, by omega⟩
    have hkl : k < G.length := by omega
    simp only [Int.toNat_natCast] at hno hbd
    have HNO := Lib.hid hno
    have HBD := Lib.hid hbd
    clear hno hbd
    have f0 := hk0.cell 0
    have f1 := hk0.cell 1
    have f2 := hk0.cell 2
    have f3 := hk0.cell 3
    have f4 := hk0.cell 4
    have f5 := hk0.cell 5
    have f6 := hk0.cell 6
    have f7 := hk0.cell 7
    have f8 := hk0.cell 8
    have hB4 : Below w.heap.size w (w3.alloc (.map #[] 0)) := hB3.alloc hB3.size _
    have hMi : Mi (Cd G own) (w3.alloc (.map #[] 0)) w3.heap.size [] := World.ownsMap_made _ _ _ _
    have hBW4 := hB0.trans (hB4.mono hs0)
    have hbk0 : Bx (w3.alloc (.map #[] 0)) w.heap.size (f.cells G.length) 32 := Bx.alloc hk0 _
    have hbe := bestF_calls f G own W0.heap.size w3.heap.size HF.out.N (by omega) (Und G k) (rk G) (Cd G own) (bests_Cd HF.out.pt und_kid HNO.out (und_lt hkl)) (fun x _ => by have : 0 ≤ Cd G own x ∧ Cd G own x ≤ 1000000 := Cf_range HF.out.pt _ x; omega) (fun x _ => HF.out.pt x) w.heap.size (by omega) hs0 (rk G k + 1) k [] (w3.alloc (.map #[] 0)) (Nat.lt_succ_self _) (.inl rfl) (by simp) (by simp)
      (HF.out.gl.below (fun j hj => hBW4.block j hj) (Nat.le_refl _)) (HF.out.lens.below (fun j hj => hBW4.block j hj)) hbk0 hMi (by simp [World.size_alloc]; omega)
    have hup := count_upto HF.out.pt und_kid HNO.out (und_lt hkl) (rk G k + 1) k (.inl rfl) (Nat.lt_succ_self _)
    have HUP := Lib.hid hup
    clear hup
    simp only [World.size_alloc] at hbe
    have hend : ∀ w9, Bk w3.heap.size (w3.heap.size + 1) (w3.alloc (.map #[] 0)) w9 → Below w.heap.size w w9 ∧ (∀ i, i < w3.heap.size → w9.heap[i]? = w3.heap[i]?) ∧ w3.heap.size ≤ w9.heap.size := fun w9 h =>
      ⟨hB4.trans ((h.mono (by omega)).below (by omega)), fun i hi => (h.block i (by omega) (by omega)).trans (Below.heap_alloc _ _ _ (by omega)), by have := h.size; simp [World.size_alloc] at this; omega⟩
    simp only [Fv.cells] at hbe
    by_cases hd : 1000 < Cd G own k
    · have hd' : decide (1000 < Cd G own k) = true := decide_eq_true hd
      go_wp2_with fail
      refine hbe.mono ?_
      clear hbe
      rintro e w9 ⟨rfl, zs, _, _, _, _, hbk, _⟩
      obtain ⟨hB9, hk9, hs9⟩ := hend _ hbk
      have hk19 := hk1.kept (hk9 _ (by omega))
      clear f0 f1 f2 f3 f4 f5 f6 f7 f8 z0 z1 y0 y1
      have z0 := hk19.cell 0
      have z1 := hk19.cell 1
      have y0 := hk19.frozen 0
      have y1 := hk19.frozen 1
      go_wp2_with fail
      have q1 := blk_put (cs' := #[.slice none 0 0, .slice none 0 0]) hk19 0 (.slice none 0 0) rfl
      have q2 := blk_put (cs' := #[.slice none 0 0, .slice none 0 0]) q1 1 (.slice none 0 0) rfl
      refine bodyPost_ret (results_ct rfl _ _ (w.heap.size + 1) 39 #[.slice none 0 0, .slice none 0 0] (0, 0) _ rfl q2 Try.underlying39 rfl (by kernel_rfl)) rfl ?_
      refine ⟨([], []), 2, _, _, rfl, .inr (.inl ⟨hg, HNO.out, HBD.out, ?_, rfl, rfl⟩), Kd.R_nil _ _ _ _ _, Kd.R_nil _ _ _ _ _, below_set (below_set hB9 (by omega)) (by omega)⟩
      have h1 := HUP.out.1
      simp only [Int.toNat_natCast]
      by_cases h2 : (jd G own k).1.length ≤ 1000
      · have := h1 h2; omega
      · omega
    · have hd' : decide (1000 < Cd G own k) = false := decide_eq_false hd
      have hlk : (jd G own k).1.length ≤ 1000 := by
        have := HUP.out.2
        by_cases h2 : 1000 < (jd G own k).1.length
        · have := this h2; omega
        · omega
      have hek := HE.out k hkl HNO.out HBD.out hlk
      have hbb : ∀ x, Und G k x → (jd G own x).1.length ≤ 1000000 ∧ (jd G own x).2.length ≤ 1000000 := fun x hx => by
        rcases hx with rfl | hx
        · omega
        · have := (jd_le_from (own := own) (T := Und G k) und_kid HNO.out (.inl rfl) hx).2
          omega
      go_wp2_with fail
      refine hbe.mono ?_
      clear hbe
      rintro e w9 ⟨rfl, zs, _, _, _, _, hbk, _⟩
      obtain ⟨hB9, hk9, hs9⟩ := hend _ hbk
      have hk19 := hk1.kept (hk9 _ (by omega))
      have hk09 := hk0.kept (hk9 _ (by omega))
      clear f0 f1 f2 f3 f4 f5 f6 f7 f8 z0 z1 y0 y1
      have f0 := hk09.cell 0
      have f1 := hk09.cell 1
      have f2 := hk09.cell 2
      have f3 := hk09.cell 3
      have f4 := hk09.cell 4
      have f5 := hk09.cell 5
      have f6 := hk09.cell 6
      have f7 := hk09.cell 7
      have f8 := hk09.cell 8
      go_wp2_with fail
      have hj := joined_calls f G own W0 HF.out.N HF.out.gl (Und G k) (und_lt hkl) (fun x hx => HF.out.ou x (und_lt hkl x hx)) und_kid HNO.out hbb (rk G k + 1) k w9 (Nat.lt_succ_self _) (.inl rfl) (hB0.trans (hB9.mono hs0))
      simp only [Fv.cells] at hj
      refine hj.mono ?_
      clear hj f0 f1 f2 f3 f4 f5 f6 f7 f8
      rintro e w10 ⟨vp, ve, rfl, hR, hR', hb10⟩
      obtain ⟨A3, c3, rfl⟩ := Kd.R_slice hR
      obtain ⟨A4, c4, rfl⟩ := Kd.R_slice hR'
      have hk110 := hk19.kept (hb10.block _ (by omega))
      have z0 := hk110.cell 0
      have z1 := hk110.cell 1
      have y0 := hk110.frozen 0
      have y1 := hk110.frozen 1
      go_wp2_with fail
      have q1 := blk_put (cs' := #[.slice A3 (jd G own k).1.length c3, .slice none 0 0]) hk110 0 (.slice A3 (jd G own k).1.length c3) rfl
      have q2 := blk_put (cs' := #[.slice A3 (jd G own k).1.length c3, .slice A4 (jd G own k).2.length c4]) q1 1 (.slice A4 (jd G own k).2.length c4) rfl
      refine bodyPost_ret (results_ct rfl _ _ (w.heap.size + 1) 39 #[.slice A3 (jd G own k).1.length c3, .slice A4 (jd G own k).2.length c4] (0, 0) _ rfl q2 Try.underlying39 rfl (by kernel_rfl)) rfl ?_
      exact ⟨jd G own k, 0, _, _, rfl, .inr (.inr ⟨hg, HNO.out, HBD.out, hlk, rfl, rfl⟩), Kd.R_lower (Kd.R_set (Kd.R_set hR hk110 (by decide) 0 _) q1 (by decide) 1 _) (by have := hB9.size; omega), Kd.R_lower (Kd.R_set (Kd.R_set hR' hk110 (by decide) 0 _) q1 (by decide) 1 _) (by have := hB9.size; omega), below_set (below_set (hB9.trans (hb10.mono hB9.size)) (by omega)) (by omega)⟩
end Go.Proofs.Ytajjailmmbcolaa
namespace Go.Proofs.Ytajjailmmbcolaa
open Go Go.Proofs Go.RowKit Go.Shelf Go.Maps Go.Proofs.YtajjailmmbcolaaW.PrintWords Go.Proofs.YtajjailmmbcolaaW.PrintLast Go.Proofs.YtajjailmmbcolaaW.PrintMore PComposeTells
set_option linter.unusedSimpArgs false
set_option linter.unusedVariables false

/-- The glyphs' own outlines. -/
def ownS (gs : List S45) (g : Nat) : Ol := if h : g < gs.length then (gs[g].f3.f0, gs[g].f3.f1) else ([], [])
theorem outs_atS {W : World} {base : Nat} {ok : Nat → Prop} {a : Option Addr} {n c : Nat} {gs : List S45} (h : Kd.S k45 45 W base ok (.slice a n c) gs) (f : Fv) (hf : f.a = a) (g : Nat) (hg : g < gs.length) : OutAt W f (ownS gs) g := by
  obtain ⟨b, cap, e, _, hlt, _⟩ := Kd.S_form h (by omega)
  injection e with e1 e2 e3
  subst e1 e2 e3
  obtain ⟨c, hc1, hM, hcc⟩ := Kd.S_get h z45 (g : Int) (by omega) (by omega)
  have hx : gs.getD (g : Int).toNat z45 = gs[g] := by simp [List.getD_eq_getElem?_getD, hg]
  rw [hx] at hM
  obtain ⟨v3, v4, v5, v6, v7, v8, rfl, g3, g4, _⟩ := k45_openM hM
  obtain ⟨A3, c3, rfl, _, hC3⟩ := Kd.R_reads g3
  obtain ⟨A4, c4, rfl, _, hC4⟩ := Kd.R_reads g4
  have h3 := hcc 3 _ rfl
  have h4 := hcc 4 _ rfl
  have hz : k45.sz = 9 := rfl
  have e : ((g : Int)).toNat = g := by simp
  rw [hz, e, ad_add, Nat.zero_add] at h3 h4
  have ho : ownS gs g = (gs[g].f3.f0, gs[g].f3.f1) := by unfold ownS; rw [dif_pos hg]
  refine ⟨b, 0, A3, c3, A4, c4, hf, ?_, ?_, ?_, ?_, hlt⟩
  · rw [ho, Nat.zero_add]; exact h3
  · rw [ho, Nat.zero_add]; exact h4
  · rw [ho]; exact hC3
  · rw [ho]; exact hC4
/-- A font by numbers, told to the walks. -/
def FlatFont (loops : Bool) (l : List Int) (w : World) (e : Ending) (w' : World) : Prop :=
  ∃ (f : Fv) (gs : List S45), PComposeTells.Good loops 16 gs ∧ gs.length = nl l ∧ f.r2 = no3 ∧ f.r3 = no3 ∧ f.r4 = no3 ∧ f.r5 = no3 ∧ f.r6 = no3 ∧ f.r7 = no3 ∧ f.r8 = no3 ∧ f.u = 0 ∧ e = .returned (.agg (f.cells (gsS gs).length)) ∧ FontAt w' f (gsS gs) (ownS gs) ∧ Kd.S k45 45 w' w.heap.size (fun _ => True) (.slice f.a (gsS gs).length f.c) gs ∧ Below w.heap.size w w'
theorem own_small {loops : Bool} {c : Nat} {gs : List S45} (h : PComposeTells.Good loops c gs) (g : Nat) : (ownS gs g).1.length ≤ 2 ∧ (ownS gs g).2.length ≤ (ownS gs g).1.length := by
  unfold ownS
  split
  · rename_i hg
    obtain ⟨ps, e, _⟩ := h.each g hg
    rw [e]
    show (outlS g).f0.length ≤ 2 ∧ (outlS g).f1.length ≤ (outlS g).f0.length
    unfold outlS
    split <;> simp
  · simp
theorem made_flat {loops : Bool} {l : List Int} {w : World} {e : Ending} {w' : World} (h : MadeP loops l w e w') : FlatFont loops l w e w' := by
  obtain ⟨gs, v1, hg, hl, rfl, hS, hb⟩ := h
  obtain ⟨a, c, rfl, hG⟩ := glyphs_atS hS (fun g hgm => by
    obtain ⟨i, hi, rfl⟩ := List.getElem_of_mem hgm
    obtain ⟨ps, e, h1, _⟩ := hg.each i hi
    rw [e]
    show ps.length ≤ _
    omega)
  refine ⟨⟨0, a, c, no3, no3, no3, no3, no3, no3, no3⟩, gs, hg, hl, rfl, rfl, rfl, rfl, rfl, rfl, rfl, rfl, rfl, ⟨(good_few hg).le, hG, fun g hgl => ?_, fun g => by have := own_small hg g; omega⟩, hS, hb⟩
  exact outs_atS hS _ rfl g (by rw [gsS_len] at hgl; exact hgl)
theorem jd_ends {G : Gs} {own : Nat → Ol} (h : ∀ g, (own g).2.length ≤ (own g).1.length) : ∀ n g, (jo G own n g).2.length ≤ (jo G own n g).1.length
  | 0, _ => by simp [jo]
  | n + 1, g => by
    unfold jo
    suffices H : ∀ (l : List (Sub G.length)) (o : Ol), o.2.length ≤ o.1.length → (l.foldl (fun o x => addPart o x.1.2.1 x.1.2.2 (jo G own n (gn x))) o).2.length ≤ (l.foldl (fun o x => addPart o x.1.2.1 x.1.2.2 (jo G own n (gn x))) o).1.length from H _ _ (h g)
    intro l
    induction l with
    | nil => exact fun o ho => ho
    | cons x l ih =>
      intro o ho
      simp only [List.foldl_cons]
      refine ih _ ?_
      have := jd_ends (G := G) h n (gn x)
      simp only [addPart, List.length_append, List.length_map]
      omega
theorem made_ends {loops : Bool} {c : Nat} {gs : List S45} (h : PComposeTells.Good loops c gs) (g : Nat) : (jd (gsS gs) (ownS gs) g).2.length ≤ (jd (gsS gs) (ownS gs) g).1.length := jd_ends (fun g => (own_small h g).2) _ _
/-! ### Plain: sums -/
/-- Bd, where it is small, is the greatest of its parts', and one. -/
theorem foldB_big {B : Nat → Int} (ps : List Nat) : ∀ (a : Int), 0 ≤ a → a ≤ 4 → foldB (fun a b => max a (b + 1)) 5 B a ps ≤ 4 → foldB (fun a b => max a (b + 1)) 5 B a ps = ps.foldl (fun d q => max d (B q + 1)) a ∧ (∀ q ∈ ps, B q ≤ 3) ∧ ps.foldl (fun d q => max d (B q + 1)) a ≤ 4 := by
  induction ps with
  | nil => exact fun a h1 h2 _ => ⟨rfl, by simp, h2⟩
  | cons p ps ih =>
    intro a h1 h2 h
    unfold foldB at h ih ⊢
    simp only [List.foldl_cons] at h ⊢
    have hm : ∀ (z : Int), z ≤ ps.foldl (fun n q => min (max n (B q + 1)) 5) (min z 5) ∨ 5 ≤ z := by
      intro z
      have : ∀ (l : List Nat) (z : Int), min z 5 ≤ l.foldl (fun n q => min (max n (B q + 1)) 5) (min z 5) := by
        intro l
        induction l with
        | nil => intro z; exact Int.le_refl _
        | cons q l ih2 =>
          intro z
          simp only [List.foldl_cons]
          have := ih2 (max (min z 5) (B q + 1))
          omega
      have := this ps z
      omega
    have h3 : max a (B p + 1) ≤ 4 := by
      have h5 : ∀ (l : List Nat), l.foldl (fun n q => min (max n (B q + 1)) 5) 5 = 5 := by
        intro l
        induction l with
        | nil => rfl
        | cons q l ih2 =>
          simp only [List.foldl_cons]
          have : min (max 5 (B q + 1)) 5 = (5 : Int) := by omega
          rw [this]; exact ih2
      rcases hm (max a (B p + 1)) with h6 | h6
      · omega
      · have : min (max a (B p + 1)) 5 = 5 := by omega
        rw [this, h5] at h
        omega
    have h4 : min (max a (B p + 1)) 5 = max a (B p + 1) := by omega
    rw [h4] at h ⊢
    obtain ⟨i1, i2, i3⟩ := ih (max a (B p + 1)) (by omega) h3 h
    exact ⟨i1, fun q hq => by
      rcases List.mem_cons.1 hq with rfl | hq
      · omega
      · exact i2 q hq, i3⟩
end Go.Proofs.Ytajjailmmbcolaa
