/- compose: words; is, parts. -/
import Derived.RangeFuncNested
import Derived.RangeFuncBound
import Derived.RangeFuncCalls
import Derived.RangeFuncLeaves
import Derived.Shelf.Abstract
import Derived.Shelf.RegionOpen
import Derived.WalkKit
import Derived.OwnWalkIn
import Derived.TacticsInMore
import Derived.LoopNIn
import Derived.LoopIn
import Derived.Maps.OwnIn
import Derived.Test.YtajjailmmbcolaaProg
namespace Go.Proofs.Ytajjailmmbcolaa
open Go Go.Proofs Go.RowKit Go.Shelf
attribute [local go_sem] Oper.semAt_some

/-- a part: which glyph, and where. -/
abbrev Pt := Int × Int × Int
/-- a font's glyphs, each with its parts. -/
abbrev Gs := List (List Pt)
def ptV (p : Pt) : Value := .agg #[.int .i64 p.1, .int .i64 p.2.1, .int .i64 p.2.2]
/-- What a font's value is, but for its glyphs. -/
structure Fv where
  u : Int
  a : Option Addr
  c : Nat
  r2 : Option Addr × Nat × Nat
  r3 : Option Addr × Nat × Nat
  r4 : Option Addr × Nat × Nat
  r5 : Option Addr × Nat × Nat
  r6 : Option Addr × Nat × Nat
  r7 : Option Addr × Nat × Nat
  r8 : Option Addr × Nat × Nat
def Fv.cells (f : Fv) (n : Nat) : Array Value := #[.int .i64 f.u, .slice f.a n f.c, .slice f.r2.1 f.r2.2.1 f.r2.2.2, .slice f.r3.1 f.r3.2.1 f.r3.2.2, .slice f.r4.1 f.r4.2.1 f.r4.2.2,
  .slice f.r5.1 f.r5.2.1 f.r5.2.2, .slice f.r6.1 f.r6.2.1 f.r6.2.2, .slice f.r7.1 f.r7.2.1 f.r7.2.2, .slice f.r8.1 f.r8.2.1 f.r8.2.2]
/-- The parts' slice. -/
def PartsAt (n₀ : Nat) (W : World) (a : Option Addr) (ps : List Pt) : Prop :=
  ∀ j (h : j < ps.length), ∃ b o, a = some ⟨b, o, none⟩ ∧ b < n₀ ∧ W.cell? ⟨b, o + j * 3, none⟩ = some (.int .i64 ps[j].1) ∧ W.cell? ⟨b, o + j * 3 + 1, none⟩ = some (.int .i64 ps[j].2.1) ∧ W.cell? ⟨b, o + j * 3 + 2, none⟩ = some (.int .i64 ps[j].2.2)
/-- The glyphs' slice. -/
def GlyphsAt (n₀ : Nat) (W : World) (a : Option Addr) (G : Gs) : Prop :=
  ∀ i (h : i < G.length), ∃ b o pa pc, a = some ⟨b, o, none⟩ ∧ b < n₀ ∧ W.cell? ⟨b, o + i * 9 + 5, none⟩ = some (.slice pa G[i].length pc) ∧ G[i].length ≤ 1000000 ∧ PartsAt n₀ W pa G[i]
theorem PartsAt.below {n₀ n₁ : Nat} {W W' : World} {a : Option Addr} {ps : List Pt} (h : PartsAt n₀ W a ps) (hb : ∀ k, k < n₀ → W'.heap[k]? = W.heap[k]?) (hn : n₀ ≤ n₁) : PartsAt n₁ W' a ps := by
  intro j hj
  obtain ⟨b, o, e, hlt, h1, h2, h3⟩ := h j hj
  exact ⟨b, o, e, by omega, (World.cell?_of_block (hb b hlt)).trans h1, (World.cell?_of_block (hb b hlt)).trans h2, (World.cell?_of_block (hb b hlt)).trans h3⟩
theorem GlyphsAt.below {n₀ n₁ : Nat} {W W' : World} {a : Option Addr} {G : Gs} (h : GlyphsAt n₀ W a G) (hb : ∀ k, k < n₀ → W'.heap[k]? = W.heap[k]?) (hn : n₀ ≤ n₁) : GlyphsAt n₁ W' a G := by
  intro j hj
  obtain ⟨b, o, pa, pc, e, hlt, h1, hl, h2⟩ := h j hj
  exact ⟨b, o, pa, pc, e, by omega, (World.cell?_of_block (hb b hlt)).trans h1, hl, h2.below hb hn⟩

set_option maxRecDepth 100000 in
set_option maxHeartbeats 1000000 in
/-- is: the font is boxed. -/
theorem is_in (F : Fence) (n : Nat) (hF : F.fn 24) (hro : F.round = none) (f : Fv) (N : Nat) (g : Int) (w : World) :
    CallsIn F n Try.prog 24 #[.agg (f.cells N), .int .i64 g] w fun e w' => e = .returned (.bool (decide (0 ≤ g ∧ g < N))) ∧ w' = w.alloc (.cells (f.cells N) 32) := by
  refine callsIn_of_wp Try.func24 rfl hF ?_ hro
  simp only [Try.ntmps24, List.size_toArray, List.length_cons, List.length_nil, Nat.reduceAdd, Nat.reduceSub, Array.replicate_succ, Array.replicate_zero, List.push_toArray, List.append_toArray, List.nil_append, List.cons_append, Fv.cells]
  gi_wp2
  · rename_i h
    go_ret
    refine ⟨?_, rfl⟩
    show Ending.returned (.bool (decide (g < (N : Int)))) = _
    simp [h]
  · rename_i h
    go_ret
    refine ⟨?_, rfl⟩
    show Ending.returned (.bool false) = _
    simp only [show decide (0 ≤ g) = false from decide_eq_false (by omega), Bool.false_and]

set_option maxHeartbeats 1000000 in
/-- parts: the font and the number are boxed. -/
theorem parts_in (F : Fence) (n : Nat) (hF : F.fn 23) (hro : F.round = none) (f : Fv) (N : Nat) (g : Int) (w : World) :
    CallsIn F n Try.prog 23 #[.agg (f.cells N), .int .i64 g] w fun e w' => e = .returned (.func (.func 38) #[] #[.pointer (some ⟨w.heap.size, 0, none⟩), .pointer (some ⟨w.heap.size + 1, 0, none⟩)]) ∧
      w' = (w.alloc (.cells (f.cells N) 32)).alloc (.cells #[.int .i64 g] 3) := by
  refine callsIn_of_wp Try.func23 rfl hF ?_ hro
  simp only [Try.ntmps23, List.size_toArray, List.length_cons, List.length_nil, Nat.reduceAdd, Nat.reduceSub, Array.replicate_succ, Array.replicate_zero, List.push_toArray, List.append_toArray, List.nil_append, List.cons_append, Fv.cells]
  gi_wp2
  go_ret
  exact ⟨rfl, rfl⟩

/-- Whatever lay below B lies as it lay, but for block m. -/
structure Bk (m B : Nat) (w w' : World) : Prop where
  os : w'.os = w.os
  tape : w'.tape = w.tape
  output : w'.output = w.output
  size : w.heap.size ≤ w'.heap.size
  block : ∀ k, k < B → k ≠ m → w'.heap[k]? = w.heap[k]?
theorem Bk.refl (m B : Nat) (w : World) : Bk m B w w := ⟨rfl, rfl, rfl, Nat.le_refl _, fun _ _ _ => rfl⟩
theorem Bk.trans {m B : Nat} {a b c : World} (h : Bk m B a b) (k : Bk m B b c) : Bk m B a c :=
  ⟨k.os.trans h.os, k.tape.trans h.tape, k.output.trans h.output, Nat.le_trans h.size k.size, fun i h1 h2 => (k.block i h1 h2).trans (h.block i h1 h2)⟩
theorem Bk.of_below {m B : Nat} {a b : World} (h : Below B a b) : Bk m B a b := ⟨h.os, h.tape, h.output, h.size, fun i h1 _ => h.block i h1⟩
theorem Bk.of_grown {m B : Nat} {a b : World} (h : a.grownBy b (some m)) (hB : B ≤ a.heap.size) : Bk m B a b :=
  ⟨h.os, h.tape, h.output, h.size, fun i h1 h2 => h.block i (by omega) (by simpa using h2)⟩
theorem Bk.mono {m B B' : Nat} {a b : World} (h : Bk m B a b) (hB : B' ≤ B) : Bk m B' a b := ⟨h.os, h.tape, h.output, h.size, fun i h1 h2 => h.block i (by omega) h2⟩
theorem Bk.alloc {m B : Nat} {a b : World} (h : Bk m B a b) (hB : B ≤ b.heap.size) (o : Obj) : Bk m B a (b.alloc o) := h.trans (Bk.of_below ((Below.refl B b).alloc hB o))
theorem bk_t {m B : Nat} {a b c : World} (h : Bk m B a b) (k : Bk m B b c) : Bk m B a c := h.trans k
theorem bk_b {m B : Nat} {w : World} (hn : B ≤ w.heap.size) (W : World) (l : Nat) (o o' : Obj) (hl : w.heap.size ≤ l) (h : W.heap[l]? = some o) (h1 : o.isCells = false) (h2 : o.isWalk = false) : Bk m B W (W.putObj l o') :=
  Bk.of_below (belowK_b hn W l o o' hl h h1 h2)

/-- Parts that there are. -/
abbrev Sub (N : Nat) := { p : Pt // 0 ≤ p.1 ∧ p.1 < (N : Int) }
def flt (N : Nat) (ps : List Pt) : List (Sub N) := ps.filterMap fun p => if h : 0 ≤ p.1 ∧ p.1 < (N : Int) then some ⟨p, h⟩ else none
theorem flt_append (N : Nat) (a b : List Pt) : flt N (a ++ b) = flt N a ++ flt N b := by simp [flt]
theorem flt_one {N : Nat} {p : Pt} (h : 0 ≤ p.1 ∧ p.1 < (N : Int)) : flt N [p] = [⟨p, h⟩] := by simp [flt, h]
theorem flt_none {N : Nat} {p : Pt} (h : ¬ (0 ≤ p.1 ∧ p.1 < (N : Int))) : flt N [p] = [] := by simp only [flt, List.filterMap_cons, dif_neg h, List.filterMap_nil]
theorem take_succ' {α : Type} (l : List α) (k : Nat) (h : k < l.length) : l.take (k + 1) = l.take k ++ [l[k]] := by simp

/-- A block of cells. -/
def Bx (w : World) (b : Nat) (cs : Array Value) (t : TypeId) : Prop := w.heap[b]? = some (.cells cs t (0, 0))
theorem Bx.cell {w : World} {b : Nat} {cs : Array Value} {t : TypeId} (h : Bx w b cs t) (i : Nat) : w.cell? ⟨b, i, none⟩ = cs[i]? := by
  unfold Bx at h
  simp [World.cell?, h]
theorem Bx.frozen {w : World} {b : Nat} {cs : Array Value} {t : TypeId} (h : Bx w b cs t) (i : Nat) : w.frozen? ⟨b, i, none⟩ = false := by
  unfold Bx at h
  simp [World.frozen?, h]
theorem Bx.new (w : World) (cs : Array Value) (t : TypeId) : Bx (w.alloc (.cells cs t)) w.heap.size cs t := World.alloc_heap_new w _
theorem Bx.kept {w w' : World} {b : Nat} {cs : Array Value} {t : TypeId} (h : Bx w b cs t) (he : w'.heap[b]? = w.heap[b]?) : Bx w' b cs t := he.trans h
theorem Bx.lt {w : World} {b : Nat} {cs : Array Value} {t : TypeId} (h : Bx w b cs t) : b < w.heap.size := (Array.getElem?_eq_some_iff.1 h).1
theorem Bx.alloc {w : World} {b : Nat} {cs : Array Value} {t : TypeId} (h : Bx w b cs t) (o : Obj) : Bx (w.alloc o) b cs t := h.kept (Below.heap_alloc _ _ _ h.lt)

/-- What the iterator wants kept. -/
structure Kept (n₀ bf : Nat) (A B : World) : Prop where
  size : A.heap.size ≤ B.heap.size
  block : ∀ k, (k < n₀ ∨ k = bf) → B.heap[k]? = A.heap[k]?
theorem Kept.refl (n₀ bf : Nat) (A : World) : Kept n₀ bf A A := ⟨Nat.le_refl _, fun _ _ => rfl⟩
theorem Kept.trans {n₀ bf : Nat} {A B C : World} (h : Kept n₀ bf A B) (k : Kept n₀ bf B C) : Kept n₀ bf A C := ⟨Nat.le_trans h.size k.size, fun i hi => (k.block i hi).trans (h.block i hi)⟩
theorem Kept.alloc {n₀ bf : Nat} {A B : World} (h : Kept n₀ bf A B) (h1 : n₀ ≤ B.heap.size) (h2 : bf < B.heap.size) (o : Obj) : Kept n₀ bf A (B.alloc o) :=
  h.trans ⟨by simp [World.size_alloc], fun i hi => Below.heap_alloc _ _ _ (by omega)⟩
theorem Bk.kept {m B n₀ bf : Nat} (hm : n₀ ≤ m) (hB : n₀ ≤ B) (hbf : bf < B) (hbfm : bf ≠ m) {a b : World} (h : Bk m B a b) : Kept n₀ bf a b :=
  ⟨h.size, fun k hk => h.block k (by omega) (by omega)⟩

set_option maxRecDepth 100000 in
set_option maxHeartbeats 2000000 in
/-- parts$1. -/
theorem parts1_in (F : Fence) (n : Nat) (h38 : F.fn 38) (h24 : F.fn 24) (hro : F.round = none) (hn : 1 ≤ n) (l bf bg n₀ : Nat) (Kp : World → World → Prop) (hKp : ∀ A B, Kp A B → Kept n₀ bf A B) (f : Fv) (G : Gs) (g : Nat) (hg : g < G.length)
    (J Jx : List (Sub G.length) → World → Prop) (W : World) (hWn : n₀ ≤ W.heap.size) (hJ : AbidesFrom W.heap.size J)
    (hY : ∀ pre x W1, J pre W1 → pre.length < (flt G.length G[g]).length → pre ++ [x] <+: flt G.length G[g] → YieldAt F (n - 1) Try.prog l #[ptV x.1] W1 fun e W' =>
      (e = .returned (.bool true) ∧ J (pre ++ [x]) W' ∧ Kp W1 W') ∨ (e = .returned (.bool false) ∧ Jx (pre ++ [x]) W'))
    (hf : Bx W bf (f.cells G.length) 32) (hgb : Bx W bg #[.int .i64 g] 3) (hG : GlyphsAt n₀ W f.a G) (h0 : J [] W) :
    CallsIn F n Try.prog 38 #[.func (.yield l) #[] #[], .pointer (some ⟨bf, 0, none⟩), .pointer (some ⟨bg, 0, none⟩)] W fun e W' => (∃ v, e = .returned v) ∧
      ((∃ ys, ys = flt G.length G[g] ∧ J ys W') ∨ (∃ pre, pre <+: flt G.length G[g] ∧ Jx pre W')) := by
  obtain ⟨b, o, pa, pc, ha, hlt, hcell, hlen, hps⟩ := hG g hg
  refine callsIn_of_wp Try.func38 rfl h38 ?_ hro
  simp only [Try.ntmps38, List.size_toArray, List.length_cons, List.length_nil, Nat.reduceAdd, Nat.reduceSub, Array.replicate_succ, Array.replicate_zero, List.push_toArray, List.append_toArray, List.nil_append, List.cons_append]
  have hf1 := hf.cell 1
  have hg0 := hgb.cell 0
  simp only [Fv.cells, ha] at hf1
  have q1 : (g : Int) < (G.length : Int) := by omega
  gi_wp2
  gi_loopw [13] (fun i wr => ∃ k : Nat, k ≤ G[g].length ∧ i = .int .i64 k ∧ J (flt G.length (G[g].take k)) wr ∧ Kept n₀ bf W wr)
    (fun i _ => G[g].length - (intOf i).toNat)
  case atStart => exact ⟨0, Nat.zero_le _, rfl, h0, Kept.refl _ _ _⟩
  case round =>
    obtain ⟨k, hk, rfl, hJs, hnx⟩ := hrel
    by_cases hlt' : k < G[g].length
    · obtain ⟨pb, po, hpa, hpb, p0, p1, p2⟩ := hps k hlt'
      have e0 := hnx.block pb (.inl hpb)
      replace p0 := (World.cell?_of_block e0).trans p0
      replace p1 := (World.cell?_of_block e0).trans p1
      replace p2 := (World.cell?_of_block e0).trans p2
      have hf' := hf.kept (hnx.block bf (.inr rfl))
      subst hpa
      have hWr := hnx.size
      have hJa : ∀ (A : World) (ob : Obj) (pre : List (Sub G.length)), J pre A → J pre (A.alloc ob) := fun A ob pre h => hJ pre A _ none h (World.grownBy_alloc A ob none) (fun r e => by cases e)
      generalize hX1 : wr.alloc (.cells #[.int .i64 G[g][k].1, .int .i64 G[g][k].2.1, .int .i64 G[g][k].2.2] 48) = X1
      have hsz : X1.heap.size = wr.heap.size + 1 := by rw [← hX1, World.size_alloc]
      have hJ1 : J (flt G.length (G[g].take k)) X1 := hX1 ▸ hJa _ _ _ hJs
      have hbfl := hf.lt
      have hk1 : Kept n₀ bf W X1 := hX1 ▸ hnx.alloc (by omega) (by omega) _
      have hp1 : Bx X1 wr.heap.size #[.int .i64 G[g][k].1, .int .i64 G[g][k].2.1, .int .i64 G[g][k].2.2] 48 := hX1 ▸ Bx.new _ _ _
      have c0 := hp1.cell 0
      have f1' := hf.kept (hk1.block bf (.inr rfl))
      have f0 := f1'.cell 0
      have f1 := f1'.cell 1
      have f2 := f1'.cell 2
      have f3 := f1'.cell 3
      have f4 := f1'.cell 4
      have f5 := f1'.cell 5
      have f6 := f1'.cell 6
      have f7 := f1'.cell 7
      have f8 := f1'.cell 8
      have his := is_in F (n - 1) h24 hro f G.length G[g][k].1 X1
      generalize hX2 : X1.alloc (.cells (f.cells G.length) 32) = X2 at his
      have hsz2 : X2.heap.size = X1.heap.size + 1 := by rw [← hX2, World.size_alloc]
      have hJ2 : J (flt G.length (G[g].take k)) X2 := hX2 ▸ hJa _ _ _ hJ1
      have hk2 : Kept n₀ bf W X2 := hX2 ▸ hk1.alloc (by omega) (by omega) _
      have hp2 : Bx X2 wr.heap.size #[.int .i64 G[g][k].1, .int .i64 G[g][k].2.1, .int .i64 G[g][k].2.2] 48 := hX2 ▸ hp1.alloc _
      have d0 := hp2.cell 0
      have d1 := hp2.cell 1
      have d2 := hp2.cell 2
      have q2 : (k : Int) < (G[g].length : Int) := by omega
      have htk := take_succ' G[g] k hlt'
      simp only [Fv.cells] at f0 f1 f2 f3 f4 f5 f6 f7 f8 his
      clear hX2 ha hf1
      subst hX1
      by_cases hin : 0 ≤ G[g][k].1 ∧ G[g][k].1 < (G.length : Int)
      · rw [decide_eq_true hin] at his
        have hfl : flt G.length (G[g].take (k + 1)) = flt G.length (G[g].take k) ++ [⟨G[g][k], hin⟩] := by rw [htk, flt_append, flt_one hin]
        have hpl : (flt G.length (G[g].take k)).length < (flt G.length G[g]).length := by
          conv => rhs; rw [← List.take_append_drop (k + 1) G[g], flt_append, hfl]
          simp
        obtain ⟨fn, tmps, assign, body, hy, hR⟩ := hY _ ⟨G[g][k], hin⟩ X2 hJ2 hpl (by rw [← hfl]; exact ⟨flt G.length (G[g].drop (k + 1)), by rw [← flt_append, List.take_append_drop]⟩)
        simp only [ptV] at hy
        gi_wp2_with (gi_at_call 24; refine his.mono ?_; rintro e w' ⟨rfl, rfl⟩)
        refine hR.mono ?_
        rintro e W3 (⟨rfl, hJ3, hk3⟩ | ⟨rfl, hJx3⟩)
        · gi_wp2
          go_roundw
          case rel => exact ⟨k + 1, by omega, by simp, by rw [hfl]; exact hJ3, hk2.trans (hKp _ _ hk3)⟩
          case measure => simp [intOf]; omega
        · gi_wp2
          refine bodyPost_ret (results_none rfl _ _ _) rfl ?_
          refine ⟨⟨_, rfl⟩, .inr ⟨_, ?_, hJx3⟩⟩
          rw [← hfl]
          exact ⟨flt G.length (G[g].drop (k + 1)), by rw [← flt_append, List.take_append_drop]⟩
      · rw [decide_eq_false hin] at his
        have hfl : flt G.length (G[g].take (k + 1)) = flt G.length (G[g].take k) := by rw [htk, flt_append, flt_none hin, List.append_nil]
        gi_wp2_with (gi_at_call 24; refine his.mono ?_; rintro e w' ⟨rfl, rfl⟩)
        refine ⟨fun _ h => (by cases h), ?_⟩
        gi_wp2
        go_roundw
        case rel => exact ⟨k + 1, by omega, by simp, by rw [hfl]; exact hJ2, hk2⟩
        case measure => simp [intOf]; omega
    · obtain rfl : k = G[g].length := by omega
      gi_wp2
      go_end0
      exact ⟨⟨_, rfl⟩, .inl ⟨_, rfl, by simpa using hJs⟩⟩
/-- parts hands back a value that stops. -/
theorem parts_stops' (F : Fence) (n : Nat) (h38 : F.fn 38) (h24 : F.fn 24) (hro : F.round = none) (hn : 1 ≤ n) (bf bg n₀ : Nat) (Kp : World → World → Prop) (hKp : ∀ A B, Kp A B → Kept n₀ bf A B) (f : Fv) (G : Gs) (g : Nat) (hg : g < G.length)
    (w : World) (hn₀ : n₀ ≤ w.heap.size) (hf : Bx w bf (f.cells G.length) 32) (hgb : Bx w bg #[.int .i64 g] 3) (hG : GlyphsAt n₀ w f.a G) :
    SeqStopsK F n Try.prog 38 #[.pointer (some ⟨bf, 0, none⟩), .pointer (some ⟨bg, 0, none⟩)] (fun x : Sub G.length => #[ptV x.1]) Kp (fun ys => ys = flt G.length G[g]) (fun pre => pre <+: flt G.length G[g]) (flt G.length G[g]).length w :=
  fun l J Jx W hW hJ _ hY h0 =>
    parts1_in F n h38 h24 hro hn l bf bg n₀ Kp hKp f G g hg J Jx W (Nat.le_trans hn₀ hW.size) hJ (fun pre x W1 h1 h2 _ => hY pre x W1 h1 h2) (hf.kept (hW.block bf hf.lt)) (hgb.kept (hW.block bg hgb.lt)) (hG.below (fun k hk => hW.block k (by omega)) (Nat.le_refl _)) h0
theorem parts_stops (F : Fence) (n : Nat) (h38 : F.fn 38) (h24 : F.fn 24) (hro : F.round = none) (hn : 1 ≤ n) (bf bg m B n₀ : Nat) (f : Fv) (G : Gs) (g : Nat) (hg : g < G.length)
    (hm : n₀ ≤ m) (hB : n₀ ≤ B) (hbf : bf < B) (hbfm : bf ≠ m) (_ : bg < B) (w : World) (hwB : B ≤ w.heap.size) (hf : Bx w bf (f.cells G.length) 32) (hgb : Bx w bg #[.int .i64 g] 3) (hG : GlyphsAt n₀ w f.a G) :
    SeqStopsK F n Try.prog 38 #[.pointer (some ⟨bf, 0, none⟩), .pointer (some ⟨bg, 0, none⟩)] (fun x : Sub G.length => #[ptV x.1]) (Bk m B) (fun ys => ys = flt G.length G[g]) (fun pre => pre <+: flt G.length G[g]) (flt G.length G[g]).length w :=
  parts_stops' F n h38 h24 hro hn bf bg n₀ (Bk m B) (fun _ _ h => h.kept hm hB hbf hbfm) f G g hg w (by omega) hf hgb hG
/-- The same, each round knowing that its part is one of the glyph's. -/
theorem parts_stopsK (F : Fence) (n : Nat) (h38 : F.fn 38) (h24 : F.fn 24) (hro : F.round = none) (hn : 1 ≤ n) (bf bg n₀ : Nat) (Kp : World → World → Prop) (hKp : ∀ A B, Kp A B → Kept n₀ bf A B) (f : Fv) (G : Gs) (g : Nat) (hg : g < G.length)
    (w : World) (hn₀ : n₀ ≤ w.heap.size) (hf : Bx w bf (f.cells G.length) 32) (hgb : Bx w bg #[.int .i64 g] 3) (hG : GlyphsAt n₀ w f.a G) :
    SeqStopsK F n Try.prog 38 #[.pointer (some ⟨bf, 0, none⟩), .pointer (some ⟨bg, 0, none⟩)] (fun x : { x : Sub G.length // x ∈ flt G.length G[g] } => #[ptV x.1.1]) Kp (fun ys => ys.map (·.1) = flt G.length G[g]) (fun pre => pre.map (·.1) <+: flt G.length G[g]) (flt G.length G[g]).length w :=
  fun l J Jx W hW hJ _ hY h0 => by
    refine (parts1_in F n h38 h24 hro hn l bf bg n₀ Kp hKp f G g hg (fun pre W => ∃ q, q.map (·.1) = pre ∧ J q W) (fun pre W => ∃ q, q.map (·.1) = pre ∧ Jx q W) W (Nat.le_trans hn₀ hW.size)
      (fun s A B row hs hg' hr => by obtain ⟨q, h1, h2⟩ := hs; exact ⟨q, h1, hJ q A B row h2 hg' hr⟩) ?_ (hf.kept (hW.block bf hf.lt)) (hgb.kept (hW.block bg hgb.lt)) (hG.below (fun k hk => hW.block k (by omega)) (Nat.le_refl _)) ⟨[], rfl, h0⟩).mono ?_
    · rintro pre x W1 ⟨q, rfl, h1⟩ h2 h3
      have hx : x ∈ flt G.length G[g] := h3.subset (by simp)
      obtain ⟨fn, tmps, assign, body, hy, hR⟩ := hY q ⟨x, hx⟩ W1 h1 (by simpa using h2)
      refine ⟨fn, tmps, assign, body, hy, hR.mono ?_⟩
      rintro e W' (⟨rfl, h4, h5⟩ | ⟨rfl, h4⟩)
      · exact .inl ⟨rfl, ⟨_, by simp, h4⟩, h5⟩
      · exact .inr ⟨rfl, ⟨_, by simp, h4⟩⟩
    · rintro e W' ⟨he, ⟨ys, h1, q, h2, h3⟩ | ⟨pre, h1, q, h2, h3⟩⟩
      · exact ⟨he, .inl ⟨q, h2.trans h1, h3⟩⟩
      · exact ⟨he, .inr ⟨q, by show q.map (·.1) <+: _; rw [h2]; exact h1, h3⟩⟩
end Go.Proofs.Ytajjailmmbcolaa
