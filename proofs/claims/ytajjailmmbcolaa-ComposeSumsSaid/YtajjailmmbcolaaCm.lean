/- compose: best, as Deep calls it. -/
import Derived.Test.YtajjailmmbcolaaCl
namespace Go.Proofs.Ytajjailmmbcolaa
open Go Go.Proofs Go.RowKit Go.Shelf Go.Maps
attribute [local go_sem] Oper.semAt_some
set_option linter.unusedSimpArgs false

/-- A part's number. -/
def gk {N : Nat} {l : List (Sub N)} (x : { x : Sub N // x ∈ l }) : Nat := gn x.1
/-- Whatever lay below B lies as it lay, but for blocks m, n. -/
structure Bk2 (m n B : Nat) (w w' : World) : Prop where
  os : w'.os = w.os
  tape : w'.tape = w.tape
  output : w'.output = w.output
  size : w.heap.size ≤ w'.heap.size
  block : ∀ k, k < B → k ≠ m → k ≠ n → w'.heap[k]? = w.heap[k]?
theorem Bk2.refl (m n B : Nat) (w : World) : Bk2 m n B w w := ⟨rfl, rfl, rfl, Nat.le_refl _, fun _ _ _ _ => rfl⟩
theorem Bk2.trans {m n B : Nat} {a b c : World} (h : Bk2 m n B a b) (k : Bk2 m n B b c) : Bk2 m n B a c :=
  ⟨k.os.trans h.os, k.tape.trans h.tape, k.output.trans h.output, Nat.le_trans h.size k.size, fun i h1 h2 h3 => (k.block i h1 h2 h3).trans (h.block i h1 h2 h3)⟩
theorem Bk.two {m n B : Nat} {a b : World} (h : Bk m B a b) : Bk2 m n B a b := ⟨h.os, h.tape, h.output, h.size, fun i h1 h2 _ => h.block i h1 h2⟩
theorem Bk2.alloc {m n B : Nat} {a b : World} (h : Bk2 m n B a b) (hB : B ≤ b.heap.size) (o : Obj) : Bk2 m n B a (b.alloc o) := h.trans (Bk.two ((Bk.refl m B b).alloc hB o))
theorem Bk2.mono {m n B B' : Nat} {a b : World} (h : Bk2 m n B a b) (hB : B' ≤ B) : Bk2 m n B' a b := ⟨h.os, h.tape, h.output, h.size, fun i h1 h2 h3 => h.block i (by omega) h2 h3⟩
theorem bk2_t {m n B : Nat} {a b c : World} (h : Bk2 m n B a b) (k : Bk2 m n B b c) : Bk2 m n B a c := h.trans k
theorem bk2_b {m n B : Nat} {w : World} (hn : B ≤ w.heap.size) (W : World) (l : Nat) (o o' : Obj) (hl : w.heap.size ≤ l) (h : W.heap[l]? = some o) (h1 : o.isCells = false) (h2 : o.isWalk = false) : Bk2 m n B W (W.putObj l o') :=
  Bk.two (bk_b hn W l o o' hl h h1 h2)
theorem Bk2.own {β : Type} {m n B : Nat} {w : World} (hw : B ≤ w.heap.size) : OwnFrom B (fun (_ : β) W => Bk2 m n B w W) := fun _ _ _ _ h hg hr =>
  ⟨hg.os.trans h.os, hg.tape.trans h.tape, hg.output.trans h.output, Nat.le_trans h.size hg.size, fun k hk hm hn =>
    (hg.block k (Nat.lt_of_lt_of_le (Nat.lt_of_lt_of_le hk hw) h.size) (fun e => by have := (hr k e.symm).1; omega)).trans (h.block k hk hm hn)⟩
theorem Bk2.kept {m n B n₀ bf : Nat} (hm : n₀ ≤ m) (hn : n₀ ≤ n) (hB : n₀ ≤ B) (hbf : bf < B) (hbfm : bf ≠ m) (hbfn : bf ≠ n) {a b : World} (h : Bk2 m n B a b) : Kept n₀ bf a b :=
  ⟨h.size, fun k hk => h.block k (by omega) (by omega) (by omega)⟩

theorem own35_calls (g : Int) (w : World) : Calls Try.prog 35 #[.int .i64 g] w fun e w' => e = .returned (.int .i64 0) ∧ w' = w := by
  refine (callsIn_wide (n := 6)).1 ?_
  refine callsIn_of_wp Try.func35 rfl trivial ?_ rfl
  simp only [Try.ntmps35, List.size_toArray, List.length_cons, List.length_nil, Nat.reduceAdd, Nat.reduceSub, Array.replicate_succ, Array.replicate_zero, List.push_toArray, List.append_toArray, List.nil_append, List.cons_append]
  gi_wp2
  go_ret
  exact ⟨rfl, rfl⟩
theorem join36_calls (a b : Int) (hb : 0 ≤ b ∧ b ≤ 1000) (w : World) : Calls Try.prog 36 #[.int .i64 a, .int .i64 b] w fun e w' => e = .returned (.int .i64 (max a (b + 1))) ∧ w' = w := by
  refine (callsIn_wide (n := 6)).1 ?_
  refine callsIn_of_wp Try.func36 rfl trivial ?_ rfl
  simp only [Try.ntmps36, List.size_toArray, List.length_cons, List.length_nil, Nat.reduceAdd, Nat.reduceSub, Array.replicate_succ, Array.replicate_zero, List.push_toArray, List.append_toArray, List.nil_append, List.cons_append]
  have e1 : wrap64 (b + 1) = b + 1 := by unfold wrap64; omega
  gi_wp2
  go_ret
  exact ⟨rfl, rfl⟩

set_option maxRecDepth 100000 in
set_option maxHeartbeats 2000000 in
theorem bestD_calls (f : Fv) (G : Gs) (n₀ m : Nat) (hN : G.length ≤ 1000000) (hm : n₀ ≤ m) (T : Nat → Prop) (r : Nat → Nat) (B : Nat → Int) (HB : Bests G T r (fun _ => 0) (fun a b => max a (b + 1)) 5 B) (hrg : ∀ g, T g → 0 ≤ B g ∧ B g ≤ 5) :
    ∀ (d : Nat) (g : Nat) (xs : List Nat) (w : World), r g < d → T g → xs.Nodup → (∀ x ∈ xs, T x) →
    GlyphsAt n₀ w f.a G → Mi B w m xs → n₀ ≤ w.heap.size →
    Calls Try.prog 31 #[.agg (f.cells G.length), .int .i64 g, .map (some m), .int .i64 5, .func (.func 35) #[] #[], .func (.func 36) #[] #[]] w fun e w' =>
      e = .returned (.int .i64 (B g)) ∧ ∃ ys, ys.Nodup ∧ (∀ y ∈ ys, T y) ∧ (∀ x ∈ xs, x ∈ ys) ∧ (∀ y ∈ ys, y ∉ xs → r y ≤ r g) ∧ Bk m w.heap.size w w' ∧ Mi B w' m ys := by
  intro d
  induction d with
  | zero => intro g xs w hd; omega
  | succ d ih =>
    intro g xs w hd hTg hnd hT hG hM hn₀
    have hg := HB.lt g hTg
    refine (callsIn_wide (n := 6)).1 ?_
    refine callsIn_of_wp_marks Try.func31 rfl trivial ?_ rfl
    simp only [Try.ntmps31, List.size_toArray, List.length_cons, List.length_nil, Nat.reduceAdd, Nat.reduceSub, Array.replicate_succ, Array.replicate_zero, List.push_toArray, List.append_toArray, List.nil_append, List.cons_append, Fv.cells]
    have hmw := hM.lt
    by_cases hin : g ∈ xs
    · gi_wp2_with (gi_at_lookup; refine wpListIn_lookup_own_ok_int _ rfl _ _ 82 rfl 3 3 .i64 (Maps.int_keyed Try.underlying3) Try.underlying82 Try.underlying3 (Try.zeroValue3 _) m xs.length _ rfl (((((hM.alloc _).alloc _).alloc _).alloc _).alloc _) _ _ rfl (Maps.keyOf_int_mk Try.underlying3 (wf_nat (by omega))) ?_; intro c hat hwc; rw [DI_at B xs g hin] at hat; injection hat with hat; injection hat with _ hat; subst hat; rw [DI_has, decide_eq_true hin])
      refine ⟨_, results_tmp rfl _ _ _, rfl, xs, hnd, hT, fun x h => h, fun y h h' => absurd h h', ?_, ?_⟩
      · exact ((((((Bk.refl m _ w).alloc (Nat.le_refl _) _).alloc (by simp [World.size_alloc]) _).alloc (by simp [World.size_alloc]; omega) _).alloc (by simp [World.size_alloc]; omega) _).alloc (by simp [World.size_alloc]; omega) _).alloc (by simp [World.size_alloc]; omega) _
      · exact (((((hM.alloc _).alloc _).alloc _).alloc _).alloc _).alloc _
    · have hpi := parts_in Fence.wide (6 - 1) trivial rfl f G.length g ((((((w.alloc (.cells (f.cells G.length) 32)).alloc (.cells #[.map (some m)] 82)).alloc (.cells #[.int .i64 5] 3)).alloc (.cells #[.func (.func 35) #[] #[]] 83)).alloc (.cells #[.func (.func 36) #[] #[]] 53)).alloc (.cells #[.int .i64 0] 3))
      obtain ⟨W0, hW0⟩ : ∃ W0, (((((((w.alloc (.cells (f.cells G.length) 32)).alloc (.cells #[.map (some m)] 82)).alloc (.cells #[.int .i64 5] 3)).alloc (.cells #[.func (.func 35) #[] #[]] 83)).alloc (.cells #[.func (.func 36) #[] #[]] 53)).alloc (.cells #[.int .i64 0] 3)).alloc (.cells (f.cells G.length) 32)).alloc (.cells #[.int .i64 g] 3) = W0 := ⟨_, rfl⟩
      rw [hW0] at hpi
      have hsz : W0.heap.size = w.heap.size + 8 := by rw [← hW0]; simp [World.size_alloc]
      have hb0 := (((((((Bx.new w (f.cells G.length) 32).alloc (.cells #[.map (some m)] 82)).alloc (.cells #[.int .i64 5] 3)).alloc (.cells #[.func (.func 35) #[] #[]] 83)).alloc (.cells #[.func (.func 36) #[] #[]] 53)).alloc (.cells #[.int .i64 0] 3)).alloc (.cells (f.cells G.length) 32)).alloc (.cells #[.int .i64 g] 3)
      have hb1 := ((((((Bx.new (w.alloc (.cells (f.cells G.length) 32)) #[.map (some m)] 82).alloc (.cells #[.int .i64 5] 3)).alloc (.cells #[.func (.func 35) #[] #[]] 83)).alloc (.cells #[.func (.func 36) #[] #[]] 53)).alloc (.cells #[.int .i64 0] 3)).alloc (.cells (f.cells G.length) 32)).alloc (.cells #[.int .i64 g] 3)
      have hb2 := (((((Bx.new ((w.alloc (.cells (f.cells G.length) 32)).alloc (.cells #[.map (some m)] 82)) #[.int .i64 5] 3).alloc (.cells #[.func (.func 35) #[] #[]] 83)).alloc (.cells #[.func (.func 36) #[] #[]] 53)).alloc (.cells #[.int .i64 0] 3)).alloc (.cells (f.cells G.length) 32)).alloc (.cells #[.int .i64 g] 3)
      have hb3 := ((((Bx.new (((w.alloc (.cells (f.cells G.length) 32)).alloc (.cells #[.map (some m)] 82)).alloc (.cells #[.int .i64 5] 3)) #[.func (.func 35) #[] #[]] 83).alloc (.cells #[.func (.func 36) #[] #[]] 53)).alloc (.cells #[.int .i64 0] 3)).alloc (.cells (f.cells G.length) 32)).alloc (.cells #[.int .i64 g] 3)
      have hb4 := (((Bx.new ((((w.alloc (.cells (f.cells G.length) 32)).alloc (.cells #[.map (some m)] 82)).alloc (.cells #[.int .i64 5] 3)).alloc (.cells #[.func (.func 35) #[] #[]] 83)) #[.func (.func 36) #[] #[]] 53).alloc (.cells #[.int .i64 0] 3)).alloc (.cells (f.cells G.length) 32)).alloc (.cells #[.int .i64 g] 3)
      have hb5 := ((Bx.new (((((w.alloc (.cells (f.cells G.length) 32)).alloc (.cells #[.map (some m)] 82)).alloc (.cells #[.int .i64 5] 3)).alloc (.cells #[.func (.func 35) #[] #[]] 83)).alloc (.cells #[.func (.func 36) #[] #[]] 53)) #[.int .i64 0] 3).alloc (.cells (f.cells G.length) 32)).alloc (.cells #[.int .i64 g] 3)
      have hb6 := (Bx.new ((((((w.alloc (.cells (f.cells G.length) 32)).alloc (.cells #[.map (some m)] 82)).alloc (.cells #[.int .i64 5] 3)).alloc (.cells #[.func (.func 35) #[] #[]] 83)).alloc (.cells #[.func (.func 36) #[] #[]] 53)).alloc (.cells #[.int .i64 0] 3)) (f.cells G.length) 32).alloc (.cells #[.int .i64 g] 3)
      have hb7 := Bx.new (((((((w.alloc (.cells (f.cells G.length) 32)).alloc (.cells #[.map (some m)] 82)).alloc (.cells #[.int .i64 5] 3)).alloc (.cells #[.func (.func 35) #[] #[]] 83)).alloc (.cells #[.func (.func 36) #[] #[]] 53)).alloc (.cells #[.int .i64 0] 3)).alloc (.cells (f.cells G.length) 32)) #[.int .i64 g] 3
      rw [hW0] at hb0 hb1 hb2 hb3 hb4 hb5 hb6 hb7
      simp only [World.size_alloc] at hb1 hb2 hb3 hb4 hb5 hb6 hb7
      have hM0 : Mi B W0 m xs := hW0 ▸ (((((((hM.alloc _).alloc _).alloc _).alloc _).alloc _).alloc _).alloc _).alloc _
      have hB0 : Below w.heap.size w W0 := hW0 ▸ ((((((((Below.refl _ w).alloc (Nat.le_refl _) _).alloc (by simp [World.size_alloc]) _).alloc (by simp [World.size_alloc]; omega) _).alloc (by simp [World.size_alloc]; omega) _).alloc (by simp [World.size_alloc]; omega) _).alloc (by simp [World.size_alloc]; omega) _).alloc (by simp [World.size_alloc]; omega) _).alloc (by simp [World.size_alloc]; omega) _
      have hG0 : GlyphsAt n₀ W0 f.a G := hG.below (fun k hk => hB0.block k (by omega)) (Nat.le_refl _)
      clear hW0
      simp only [Fv.cells, World.size_alloc] at hpi
      gi_wp2_with (first
        | (gi_at_lookup; refine wpListIn_lookup_own_ok_int _ rfl _ _ 82 rfl 3 3 .i64 (Maps.int_keyed Try.underlying3) Try.underlying82 Try.underlying3 (Try.zeroValue3 _) m xs.length _ rfl (((((hM.alloc _).alloc _).alloc _).alloc _).alloc _) _ _ rfl (Maps.keyOf_int_mk Try.underlying3 (wf_nat (by omega))) ?_; intro c hat hwc; rw [DI_has, decide_eq_false hin])
        | (refine ⟨trivial, ?_⟩; gi_at_call 35; refine (callsIn_wide.2 (own35_calls _ _)).mono ?_; rintro e w1 ⟨rfl, rfl⟩)
        | (refine ⟨trivial, ?_⟩; gi_at_call 23; refine hpi.mono ?_; rintro e w' ⟨rfl, rfl⟩))
      clear hpi
      have hkids : kids G g = (flt G.length G[g]).map gn := by simp [kids, hg]
      refine wpIn_rangeFunc_ownH rfl (by omega) (gf := 38) (lb := #[.pointer (some ⟨w.heap.size + 1 + 1 + 1 + 1 + 1 + 1, 0, none⟩), .pointer (some ⟨w.heap.size + 1 + 1 + 1 + 1 + 1 + 1 + 1, 0, none⟩)]) rfl trivial (enters_of Try.func38 (by kernel_rfl) rfl)
        (parts_stopsK Fence.wide (6 - 1) trivial trivial rfl (by omega) (w.heap.size + 1 + 1 + 1 + 1 + 1 + 1) (w.heap.size + 1 + 1 + 1 + 1 + 1 + 1 + 1) n₀ (Bk2 m (w.heap.size + 1 + 1 + 1 + 1 + 1) w'.heap.size) (fun _ _ h => h.kept hm (by omega) (by omega) (by omega) (by omega) (by omega)) f G g hg w' (by omega) hb6 hb7 hG0)
        bk2_t (bk2_b (Nat.le_refl _)) (Below.refl _ _) (fun _ => rfl)
        (fun pre W => ∃ ys, (ys.Nodup ∧ (∀ y ∈ ys, T y) ∧ (∀ x ∈ xs, x ∈ ys) ∧ (∀ y ∈ ys, y ∉ xs → r y < r g)) ∧ Mi B W m ys ∧ Bk2 m (w.heap.size + 1 + 1 + 1 + 1 + 1) w'.heap.size w' W ∧ Bx W (w.heap.size + 1 + 1 + 1 + 1 + 1) #[.int .i64 (foldB (fun a b => max a (b + 1)) 5 B 0 (pre.map gk))] 3)
        (fun _ _ _ => False)
        (fun pre X Y row hs hg hr => by obtain ⟨ys, h1, h2, h3, h4⟩ := hs; exact ⟨ys, h1, Mi.own (by omega) () X Y row h2 hg hr, Bk2.own (Nat.le_refl _) () X Y row h3 hg hr, Bx.own (B := w'.heap.size) () X Y row h4 hg hr⟩)
        (fun _ _ _ _ _ hs _ _ => hs)
        ⟨xs, ⟨hnd, hT, fun x h => h, fun y h h' => absurd h h'⟩, hM0, Bk2.refl _ _ _ _, hb5⟩
        (fun x a' W => ∃ b, w'.heap.size ≤ b ∧ Bx W b #[.int .i64 x.1.1.1, .int .i64 x.1.1.2.1, .int .i64 x.1.1.2.2] 48 ∧ a' = { tmps := #[.agg (f.cells G.length), .int .i64 g, .map (some m), .int .i64 5, .func (.func 35) #[] #[], .func (.func 36) #[] #[], .pointer (some ⟨w.heap.size, 0, none⟩), undef, .pointer (some ⟨w.heap.size + 1, 0, none⟩), .pointer (some ⟨w.heap.size + 1 + 1, 0, none⟩), .pointer (some ⟨w.heap.size + 1 + 1 + 1, 0, none⟩), .pointer (some ⟨w.heap.size + 1 + 1 + 1 + 1, 0, none⟩), .int .i64 0, .pointer (some ⟨w.heap.size + 1 + 1 + 1 + 1 + 1, 0, none⟩), .bool false, .pointer (some ⟨b, 0, none⟩), .tuple #[.int .i64 c, .bool false], .map (some m), .int .i64 g, .tuple #[.int .i64 c, .bool false], .int .i64 c, .bool false, .bool false, undef, .func (.func 35) #[] #[], .int .i64 g, .int .i64 0, .agg (f.cells G.length), .int .i64 g, .func (.func 38) #[] #[.pointer (some ⟨w.heap.size + 1 + 1 + 1 + 1 + 1 + 1, 0, none⟩), .pointer (some ⟨w.heap.size + 1 + 1 + 1 + 1 + 1 + 1 + 1, 0, none⟩)], ptV x.1.1, undef, undef, undef, undef, undef, undef, undef, undef, undef, undef, undef, undef, undef, undef, undef, undef, undef], defers := [] })
        (fun x a' _ X Y row hs hg hr => by obtain ⟨b, h1, h2, h3⟩ := hs; exact ⟨b, h1, Bx.own () X Y row h2 hg hr, h3⟩)
        ?assign ?body ?done ?stop
      case assign =>
        rintro l pre x W K ⟨ys, h1, h2, h3, h4⟩ hK
        simp only [ptV]
        gi_wp2
        exact hK _ _ ((KeepsOthers.alloc _ _).from _) ((Bk2.refl m _ _ W).alloc h3.size _) ⟨ys, h1, h2.alloc _, h3.alloc h3.size _, h4.alloc _⟩ ⟨W.heap.size, h3.size, Bx.new _ _ _, rfl⟩
      case body =>
        rintro l pre x a' W hl _ ⟨ys, ⟨h1, h1T, h1s, h1r⟩, h2, h3, h4⟩ ⟨b, hb, hbx, rfl⟩ _
        have hxk : gn x.1 ∈ kids G g := by rw [hkids]; exact List.mem_map.2 ⟨x.1, x.2, rfl⟩
        obtain ⟨hTx, hrx⟩ := HB.kid g hTg _ hxk
        have hf := hb0.kept (h3.block _ (by omega) (by omega) (by omega))
        simp only [ptV, Fv.cells]
        gi_wp2
        have hS : ∀ w1 : World, Bk2 m (w.heap.size + 1 + 1 + 1 + 1 + 1) W.heap.size W w1 → w1.cell? ⟨w.heap.size + 1 + 1 + 1 + 1, 0, none⟩ = some (.func (.func 36) #[] #[]) ∧ w1.cell? ⟨w.heap.size, 0, none⟩ = some (Value.int .i64 f.u) ∧ w1.cell? ⟨w.heap.size, 1, none⟩ = some (Value.slice f.a G.length f.c) ∧ w1.cell? ⟨w.heap.size, 2, none⟩ = some (Value.slice f.r2.1 f.r2.2.1 f.r2.2.2) ∧ w1.cell? ⟨w.heap.size, 3, none⟩ = some (Value.slice f.r3.1 f.r3.2.1 f.r3.2.2) ∧ w1.cell? ⟨w.heap.size, 4, none⟩ = some (Value.slice f.r4.1 f.r4.2.1 f.r4.2.2) ∧ w1.cell? ⟨w.heap.size, 5, none⟩ = some (Value.slice f.r5.1 f.r5.2.1 f.r5.2.2) ∧ w1.cell? ⟨w.heap.size, 6, none⟩ = some (Value.slice f.r6.1 f.r6.2.1 f.r6.2.2) ∧ w1.cell? ⟨w.heap.size, 7, none⟩ = some (Value.slice f.r7.1 f.r7.2.1 f.r7.2.2) ∧ w1.cell? ⟨w.heap.size, 8, none⟩ = some (Value.slice f.r8.1 f.r8.2.1 f.r8.2.2) ∧ w1.cell? ⟨b, 0, none⟩ = some (.int .i64 x.1.1.1) ∧ w1.cell? ⟨w.heap.size + 1, 0, none⟩ = some (.map (some m)) ∧ w1.cell? ⟨w.heap.size + 1 + 1, 0, none⟩ = some (.int .i64 5) ∧ w1.cell? ⟨w.heap.size + 1 + 1 + 1, 0, none⟩ = some (.func (.func 35) #[] #[]) := by
          intro w1 hk
          have hbl := hbx.lt
          have h3s := h3.size
          have k0 := hf.kept (hk.block _ (by omega) (by omega) (by omega))
          have k1 := (hb1.kept (h3.block _ (by omega) (by omega) (by omega))).kept (hk.block _ (by omega) (by omega) (by omega))
          have k2 := (hb2.kept (h3.block _ (by omega) (by omega) (by omega))).kept (hk.block _ (by omega) (by omega) (by omega))
          have k3 := (hb3.kept (h3.block _ (by omega) (by omega) (by omega))).kept (hk.block _ (by omega) (by omega) (by omega))
          have k4 := (hb4.kept (h3.block _ (by omega) (by omega) (by omega))).kept (hk.block _ (by omega) (by omega) (by omega))
          have kb := hbx.kept (hk.block _ (by omega) (by omega) (by omega))
          exact ⟨k4.cell 0, k0.cell 0, k0.cell 1, k0.cell 2, k0.cell 3, k0.cell 4, k0.cell 5, k0.cell 6, k0.cell 7, k0.cell 8, kb.cell 0, k1.cell 0, k2.cell 0, k3.cell 0⟩
        refine region_in_round (S := fun w1 => w1.cell? ⟨w.heap.size + 1 + 1 + 1 + 1, 0, none⟩ = some (.func (.func 36) #[] #[]) ∧ w1.cell? ⟨w.heap.size, 0, none⟩ = some (Value.int .i64 f.u) ∧ w1.cell? ⟨w.heap.size, 1, none⟩ = some (Value.slice f.a G.length f.c) ∧ w1.cell? ⟨w.heap.size, 2, none⟩ = some (Value.slice f.r2.1 f.r2.2.1 f.r2.2.2) ∧ w1.cell? ⟨w.heap.size, 3, none⟩ = some (Value.slice f.r3.1 f.r3.2.1 f.r3.2.2) ∧ w1.cell? ⟨w.heap.size, 4, none⟩ = some (Value.slice f.r4.1 f.r4.2.1 f.r4.2.2) ∧ w1.cell? ⟨w.heap.size, 5, none⟩ = some (Value.slice f.r5.1 f.r5.2.1 f.r5.2.2) ∧ w1.cell? ⟨w.heap.size, 6, none⟩ = some (Value.slice f.r6.1 f.r6.2.1 f.r6.2.2) ∧ w1.cell? ⟨w.heap.size, 7, none⟩ = some (Value.slice f.r7.1 f.r7.2.1 f.r7.2.2) ∧ w1.cell? ⟨w.heap.size, 8, none⟩ = some (Value.slice f.r8.1 f.r8.2.1 f.r8.2.2) ∧ w1.cell? ⟨b, 0, none⟩ = some (.int .i64 x.1.1.1) ∧ w1.cell? ⟨w.heap.size + 1, 0, none⟩ = some (.map (some m)) ∧ w1.cell? ⟨w.heap.size + 1 + 1, 0, none⟩ = some (.int .i64 5) ∧ w1.cell? ⟨w.heap.size + 1 + 1 + 1, 0, none⟩ = some (.func (.func 35) #[] #[])) (by kernel_rfl) (noDefer_spec (by kernel_rfl)) (hS W.drew ⟨rfl, rfl, rfl, Nat.le_refl _, fun _ _ _ _ => rfl⟩) (fun hHeld => ?_)
        refine wpAnyH_take (i := 0) (v := .func (.func 36) #[] #[]) rfl (by kernel_rfl) (by kernel_rfl) (by kernel_rfl) (fun _ _ _ h => h) (Or.inl ⟨by rfl, ?_⟩) hHeld ?_
        · intro w1 hSw
          go_simp
        simp only [Act.put, List.setIfInBounds_toArray, List.set_cons_zero, List.set_cons_succ]
        refine wpAnyH_take (i := 2) (v := .agg #[Value.int .i64 f.u, Value.slice f.a G.length f.c, Value.slice f.r2.1 f.r2.2.1 f.r2.2.2, Value.slice f.r3.1 f.r3.2.1 f.r3.2.2, Value.slice f.r4.1 f.r4.2.1 f.r4.2.2, Value.slice f.r5.1 f.r5.2.1 f.r5.2.2, Value.slice f.r6.1 f.r6.2.1 f.r6.2.2, Value.slice f.r7.1 f.r7.2.1 f.r7.2.2, Value.slice f.r8.1 f.r8.2.1 f.r8.2.2]) rfl (by kernel_rfl) (by kernel_rfl) (by kernel_rfl) (fun _ _ _ h => h) (Or.inl ⟨by rfl, ?_⟩) hHeld ?_
        · intro w1 hSw
          go_simp
        simp only [Act.put, List.setIfInBounds_toArray, List.set_cons_zero, List.set_cons_succ]
        refine wpAnyH_take (i := 3) (v := .pointer (some ⟨b, 0, none⟩)) rfl (by kernel_rfl) (by kernel_rfl) (by kernel_rfl) (fun _ _ _ h => h) (Or.inl ⟨by rfl, ?_⟩) hHeld ?_
        · intro w1 hSw
          go_simp
        simp only [Act.put, List.setIfInBounds_toArray, List.set_cons_zero, List.set_cons_succ]
        refine wpAnyH_take (i := 4) (v := .int .i64 x.1.1.1) rfl (by kernel_rfl) (by kernel_rfl) (by kernel_rfl) (fun _ _ _ h => h) (Or.inl ⟨by rfl, ?_⟩) hHeld ?_
        · intro w1 hSw
          go_simp
        simp only [Act.put, List.setIfInBounds_toArray, List.set_cons_zero, List.set_cons_succ]
        refine wpAnyH_take (i := 5) (v := .map (some m)) rfl (by kernel_rfl) (by kernel_rfl) (by kernel_rfl) (fun _ _ _ h => h) (Or.inl ⟨by rfl, ?_⟩) hHeld ?_
        · intro w1 hSw
          go_simp
        simp only [Act.put, List.setIfInBounds_toArray, List.set_cons_zero, List.set_cons_succ]
        refine wpAnyH_take (i := 6) (v := .int .i64 5) rfl (by kernel_rfl) (by kernel_rfl) (by kernel_rfl) (fun _ _ _ h => h) (Or.inl ⟨by rfl, ?_⟩) hHeld ?_
        · intro w1 hSw
          go_simp
        simp only [Act.put, List.setIfInBounds_toArray, List.set_cons_zero, List.set_cons_succ]
        refine wpAnyH_take (i := 7) (v := .func (.func 35) #[] #[]) rfl (by kernel_rfl) (by kernel_rfl) (by kernel_rfl) (fun _ _ _ h => h) (Or.inl ⟨by rfl, ?_⟩) hHeld ?_
        · intro w1 hSw
          go_simp
        simp only [Act.put, List.setIfInBounds_toArray, List.set_cons_zero, List.set_cons_succ]
        refine wpAnyH_take (i := 8) (v := .func (.func 36) #[] #[]) rfl (by kernel_rfl) (by kernel_rfl) (by kernel_rfl) (fun _ _ _ h => h) (Or.inl ⟨by rfl, ?_⟩) hHeld ?_
        · intro w1 hSw
          go_simp
        simp only [Act.put, List.setIfInBounds_toArray, List.set_cons_zero, List.set_cons_succ]
        refine wpAnyH_take (i := 11) (v := .int .i64 5) rfl (by kernel_rfl) (by kernel_rfl) (by kernel_rfl) (fun _ _ _ h => h) (Or.inl ⟨by rfl, ?_⟩) hHeld ?_
        · intro w1 hSw
          go_simp
        simp only [Act.put, List.setIfInBounds_toArray, List.set_cons_zero, List.set_cons_succ]
        have hW3 := h3.size
        have cn := h4.cell 0
        have cn' : W.drew.cell? ⟨w.heap.size + 1 + 1 + 1 + 1 + 1, 0, none⟩ = _ := cn
        have hih := ih (gn x.1) ys W.drew (by omega) hTx h1 h1T (hG0.below (fun k hk => h3.block k (by omega) (by omega) (by omega)) (Nat.le_refl _)) h2 (by show n₀ ≤ W.heap.size; omega)
        rw [← gn_eq] at hih
        simp only [Fv.cells] at hih
        have hBx := hrg _ hTx
        refine wpAnyH_ready (rs := [1, 9]) (by kernel_rfl) (by simp) ?_
        refine AllReadyH.cons rfl (fun K hK => ?_) (AllReadyH.cons rfl (fun K hK => ?_) AllReadyH.nil)
        · go_simp
          refine hK.out _ _ hHeld (fun hHeld => ?_)
          clear hK K
          refine wpAnyH_ready (rs := [9]) (by kernel_rfl) (by simp) ?_
          refine AllReadyH.cons rfl (fun K hK => ?_) AllReadyH.nil
          go_simp
          refine hih.mono ?_
          rintro e w2 ⟨rfl, zs, z1, zT, zs', zr, hbk, hM2⟩
          have hbk' : Bk m W.heap.size W w2 := ⟨hbk.os, hbk.tape, hbk.output, hbk.size, hbk.block⟩
          refine hK.out _ _ (hS w2 hbk'.two) (fun hHeld => ?_)
          clear hK K
          have hn2 := h4.kept (hbk'.block _ h4.lt (by omega))
          have cn2 := hn2.cell 0
          have cf2 := hn2.frozen 0
          refine wpAnyH_ready (rs := [10]) (by kernel_rfl) (by simp) ?_
          refine AllReadyH.cons rfl (fun K hK => ?_) AllReadyH.nil
          go_simp
          refine (join36_calls _ _ ⟨hBx.1, by omega⟩ _).mono ?_
          rintro e w3 ⟨rfl, rfl⟩
          refine hK.out _ _ hHeld (fun hHeld => ?_)
          clear hK K
          refine wpAnyH_ready (rs := [12]) (by kernel_rfl) (by simp) ?_
          refine AllReadyH.cons rfl (fun K hK => ?_) AllReadyH.nil
          go_simp
          refine hK.out _ _ hHeld (fun hHeld => ?_)
          clear hK K
          refine wpAnyH_ready (rs := [13]) (by kernel_rfl) (by simp) ?_
          refine AllReadyH.cons rfl (fun K hK => ?_) AllReadyH.nil
          go_simp
          have hset : Bk2 m (w.heap.size + 1 + 1 + 1 + 1 + 1) W.heap.size w3 (w3.setCell ⟨w.heap.size + 1 + 1 + 1 + 1 + 1, 0, none⟩ (.int .i64 (min (max (foldB (fun a b => max a (b + 1)) 5 B 0 (List.map gk pre)) (B (gn x.1) + 1)) 5))) :=
            ⟨rfl, rfl, rfl, (KeepsWalks.setCell w3 _ _).size, fun k _ _ hk => Below.heap_setCell _ _ _ k hk⟩
          refine hK.out _ _ (hS _ (hbk'.two.trans hset)) (fun hHeld => ?_)
          clear hK K
          refine wpAnyH_done (by kernel_rfl) ?_ _
          have hk4 : KeepsFrom w'.heap.size W w3 := hbk'.from (Nat.le_refl _) (by omega)
          refine ⟨hk4.trans ((KeepsOthers.setCell _ _ _).from _), (hbk'.two.trans hset).mono h3.size, zs, ⟨z1, zT, fun y hy => zs' y (h1s y hy), fun y hy hyx => ?_⟩, World.ownsMap.kept hM2 (grownBy_setCell' w3 _ _) (fun e => by injection e with e; omega), h3.trans ((hbk'.two.trans hset).mono h3.size), ?_⟩
          · by_cases hyy : y ∈ ys
            · exact h1r y hyy hyx
            · have := zr y hy hyy; omega
          · rw [List.map_append, List.map_cons, List.map_nil, foldB_snoc]
            exact hn2.set _
        · go_simp
          refine hih.mono ?_
          rintro e w2 ⟨rfl, zs, z1, zT, zs', zr, hbk, hM2⟩
          have hbk' : Bk m W.heap.size W w2 := ⟨hbk.os, hbk.tape, hbk.output, hbk.size, hbk.block⟩
          refine hK.out _ _ (hS w2 hbk'.two) (fun hHeld => ?_)
          clear hK K
          have hn2 := h4.kept (hbk'.block _ h4.lt (by omega))
          have cn2 := hn2.cell 0
          have cf2 := hn2.frozen 0
          refine wpAnyH_ready (rs := [1]) (by kernel_rfl) (by simp) ?_
          refine AllReadyH.cons rfl (fun K hK => ?_) AllReadyH.nil
          go_simp
          refine hK.out _ _ hHeld (fun hHeld => ?_)
          clear hK K
          refine wpAnyH_ready (rs := [10]) (by kernel_rfl) (by simp) ?_
          refine AllReadyH.cons rfl (fun K hK => ?_) AllReadyH.nil
          go_simp
          refine (join36_calls _ _ ⟨hBx.1, by omega⟩ _).mono ?_
          rintro e w3 ⟨rfl, rfl⟩
          refine hK.out _ _ hHeld (fun hHeld => ?_)
          clear hK K
          refine wpAnyH_ready (rs := [12]) (by kernel_rfl) (by simp) ?_
          refine AllReadyH.cons rfl (fun K hK => ?_) AllReadyH.nil
          go_simp
          refine hK.out _ _ hHeld (fun hHeld => ?_)
          clear hK K
          refine wpAnyH_ready (rs := [13]) (by kernel_rfl) (by simp) ?_
          refine AllReadyH.cons rfl (fun K hK => ?_) AllReadyH.nil
          go_simp
          have hset : Bk2 m (w.heap.size + 1 + 1 + 1 + 1 + 1) W.heap.size w3 (w3.setCell ⟨w.heap.size + 1 + 1 + 1 + 1 + 1, 0, none⟩ (.int .i64 (min (max (foldB (fun a b => max a (b + 1)) 5 B 0 (List.map gk pre)) (B (gn x.1) + 1)) 5))) :=
            ⟨rfl, rfl, rfl, (KeepsWalks.setCell w3 _ _).size, fun k _ _ hk => Below.heap_setCell _ _ _ k hk⟩
          refine hK.out _ _ (hS _ (hbk'.two.trans hset)) (fun hHeld => ?_)
          clear hK K
          refine wpAnyH_done (by kernel_rfl) ?_ _
          have hk4 : KeepsFrom w'.heap.size W w3 := hbk'.from (Nat.le_refl _) (by omega)
          refine ⟨hk4.trans ((KeepsOthers.setCell _ _ _).from _), (hbk'.two.trans hset).mono h3.size, zs, ⟨z1, zT, fun y hy => zs' y (h1s y hy), fun y hy hyx => ?_⟩, World.ownsMap.kept hM2 (grownBy_setCell' w3 _ _) (fun e => by injection e with e; omega), h3.trans ((hbk'.two.trans hset).mono h3.size), ?_⟩
          · by_cases hyy : y ∈ ys
            · exact h1r y hyy hyx
            · have := zr y hy hyy; omega
          · rw [List.map_append, List.map_cons, List.map_nil, foldB_snoc]
            exact hn2.set _
      case done =>
        rintro D zs W hD hzs ⟨ys, ⟨h1, h1T, h1s, h1r⟩, h2, h3, h4⟩ hK
        have hBg : B g = foldB (fun a b => max a (b + 1)) 5 B 0 (zs.map gk) := by
          have e := congrArg (List.map gn) hzs
          rw [List.map_map] at e
          rw [HB.eq g hTg, hkids, ← e]
          rfl
        rw [← hBg] at h4
        clear hBg hzs
        have c0 := h4.cell 0
        have c1 := (hb1.kept (h3.block _ (by omega) (by omega) (by omega))).cell 0
        have hgy : g ∉ ys := fun h => by have := h1r g h hin; omega
        have hyl : ys.length ≤ G.length := nodup_len h1 (fun y hy => HB.lt y (h1T y hy))
        have hml : ys.length < maxLen := by unfold maxLen; omega
        have hwg := wf_nat (k := g) (by omega)
        have hnm : m ≠ w.heap.size + 1 + 1 + 1 + 1 + 1 := by omega
        gi_wp2_with (gi_at_mapUpdate; go_loud (refine wpListIn_mapUpdate_own _ rfl _ _ _ 82 rfl 3 3 (Maps.int_keyed Try.underlying3) Try.underlying82 _ m ys.length _ rfl h2 hml _ _ _ rfl rfl (Maps.keyOf_int_mk Try.underlying3 hwg) _ [] (plainElem_int Try.underlying3 (HB.wfB g hTg)) ?_; intro w1 hown1 hgrow1; have c0' := (h4.kept (hgrow1.block _ h4.lt (fun e => hnm (by injection e with e; exact e.symm)))).cell 0))
        have hDl : D < W.heap.size := (Array.getElem?_eq_some_iff.1 hK).1
        have hK' : w1.heap[D]? = some (.deferred (some [])) := (hgrow1.block D hDl (fun e => by injection e with e; omega)).trans hK
        have hM1 : Mi B w1 m (ys ++ [g]) := by unfold Mi; rw [DI_snoc, List.length_append]; exact hown1
        refine ⟨by simp, .inl ⟨_, _, rfl, run_takeDeferred hK', ?_⟩⟩
        refine ⟨_, results_tmp rfl _ _ _, rfl, ys ++ [g], ?_, ?_, fun x hx => List.mem_append_left _ (h1s x hx), ?_, ?_, World.ownsMap.kept hM1 (grownBy_putObj' w1 D _) (fun e => by injection e with e; omega)⟩
        · rw [List.nodup_append]
          exact ⟨h1, by simp, fun p hp q hq => by rw [List.mem_singleton.1 hq]; exact fun e => hgy (e ▸ hp)⟩
        · intro y hy
          rcases List.mem_append.1 hy with hy | hy
          · exact h1T y hy
          · rw [List.mem_singleton.1 hy]; exact hTg
        · intro y hy hyx
          rcases List.mem_append.1 hy with hy | hy
          · have := h1r y hy hyx; omega
          · rw [List.mem_singleton.1 hy]; exact Nat.le_refl _
        · refine ⟨?_, ?_, ?_, ?_, ?_⟩
          · exact (hgrow1.os.trans h3.os).trans hB0.os
          · exact (hgrow1.tape.trans h3.tape).trans hB0.tape
          · exact (hgrow1.output.trans h3.output).trans hB0.output
          · have := hgrow1.size
            have := h3.size
            simp
            omega
          · intro k hk hkm
            rw [World.putObj_heap_other (by omega), hgrow1.block k (by have := h3.size; omega) (fun e => hkm (by injection e)), h3.block k (by omega) hkm (by omega)]
            exact hB0.block k hk
      case stop =>
        rintro D c pre W _ _ h _
        exact h.elim
end Go.Proofs.Ytajjailmmbcolaa
