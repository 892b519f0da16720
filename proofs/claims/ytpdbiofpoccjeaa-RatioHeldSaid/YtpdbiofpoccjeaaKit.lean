/- Words for the walks over package ratio: numbers of two words, blocks of cells, what a call leaves behind. -/
import Derived.Test.YtpdbiofpoccjeaaProg
import Derived.WalkKit
import Derived.WalkSpells
import Derived.WalkLawsBesides
import Derived.StillTactics
import Derived.Laws.Pointers
import Derived.Deep.LoopGhost
import Derived.Deep.RegionHeld3
import Derived.Deep.QuietTactic
import Derived.BigQuiet
import Derived.KernelRfl
import Derived.RowKit3
namespace Go.Proofs.Ytpdbiofpoccjeaa
open Go.RowKit

/-- A number of two words. -/
structure Wd (h l : Int) (n : Nat) : Prop where
  h0 : 0 ≤ h
  h1 : h < 18446744073709551616
  l0 : 0 ≤ l
  l1 : l < 18446744073709551616
  eq : h * 18446744073709551616 + l = (n : Int)
/-- A number with its sign: below, and how far. -/
structure Sg (b : Bool) (h l : Int) (v : Int) : Prop where
  wd : Wd h l v.natAbs
  lo : b = true → v ≤ 0
  hi : b = false → 0 ≤ v
theorem Wd.lt {h l : Int} {n : Nat} (H : Wd h l n) : n < 340282366920938463463374607431768211456 := by
  obtain ⟨a, b, c, d, e⟩ := H
  omega
theorem Wd.small (n : Nat) (h : n < 18446744073709551616) : Wd 0 (n : Int) n := ⟨by omega, by omega, by omega, by omega, by omega⟩
theorem Wd.inj {h l h' l' : Int} {n : Nat} (H : Wd h l n) (H' : Wd h' l' n) : h = h' ∧ l = l' := by
  obtain ⟨a, b, c, d, e⟩ := H
  obtain ⟨a', b', c', d', e'⟩ := H'
  omega
theorem Wd.zero {h l : Int} {n : Nat} (H : Wd h l n) : n = 0 ↔ h = 0 ∧ l = 0 := by
  obtain ⟨a, b, c, d, e⟩ := H
  omega

theorem hidden {p : Prop} (h : p) : Hid p := h
theorem ret_int {k : IntKind} {a b : Int} (h : a = b) : Ending.returned (.int k a) = .returned (.int k b) := by rw [h]

theorem bl_refl (w : World) : Below w.heap.size w w := Below.refl _ _
theorem bl_alloc {w W : World} (h : Below w.heap.size w W) (o : Obj) : Below w.heap.size w (W.alloc o) := h.alloc h.size o
theorem bl_drew {B : Nat} {w W : World} (h : Below B w W) : Below B w W.drew := h.drew
theorem bl_drewN {B : Nat} {w W : World} (h : Below B w W) (n : Nat) : Below B w (W.drewN n) := ⟨h.os, h.tape, h.output, h.size, h.block⟩
theorem bl_then {w W W' : World} (h : Below w.heap.size w W) (k : Below W.heap.size W W') : Below w.heap.size w W' := h.trans (k.mono h.size)
theorem bl_set {w W : World} (h : Below w.heap.size w W) (b o : Nat) (hb : w.heap.size ≤ b) (u : Value) : Below w.heap.size w (W.setCell ⟨b, o, none⟩ u) := h.setCell hb u
theorem bcell {W w1 : World} (hb : Below W.heap.size W w1) : (∀ b o, b < W.heap.size → w1.cell? ⟨b, o, none⟩ = W.cell? ⟨b, o, none⟩) ∧ (∀ b o, b < W.heap.size → w1.frozen? ⟨b, o, none⟩ = W.frozen? ⟨b, o, none⟩) :=
  ⟨fun b o h => hb.cell (p := ⟨b, o, none⟩) h, fun b o h => hb.frozen (p := ⟨b, o, none⟩) h⟩

theorem cell_far {w : World} {b o b' o' : Nat} {u : Value} (h : b' ≠ b) : (w.setCell ⟨b, o, none⟩ u).cell? ⟨b', o', none⟩ = w.cell? ⟨b', o', none⟩ :=
  World.cell?_of_block (w := w) (a := ⟨b', o', none⟩) (Below.heap_setCell w ⟨b, o, none⟩ u b' h)
/-- A block of cells, none of them frozen. -/
def Blk (w : World) (g : Nat) (cs : Array Value) (t : TypeId) : Prop := w.heap[g]? = some (.cells cs t (0, 0))
theorem Blk.lt {w : World} {g : Nat} {cs : Array Value} {t : TypeId} (h : Blk w g cs t) : g < w.heap.size := (Array.getElem?_eq_some_iff.1 h).1
theorem Blk.cell {w : World} {g : Nat} {cs : Array Value} {t : TypeId} (h : Blk w g cs t) (i : Nat) : w.cell? ⟨g, i, none⟩ = cs[i]? := by
  unfold Blk at h
  simp [World.cell?, h]
theorem Blk.frozen {w : World} {g : Nat} {cs : Array Value} {t : TypeId} (h : Blk w g cs t) (i : Nat) : w.frozen? ⟨g, i, none⟩ = false := by
  unfold Blk at h
  simp [World.frozen?, h]
theorem Blk.alloc {w : World} {g : Nat} {cs : Array Value} {t : TypeId} (h : Blk w g cs t) (o : Obj) : Blk (w.alloc o) g cs t := (Below.heap_alloc w o g h.lt).trans h
theorem Blk.drew {w : World} {g : Nat} {cs : Array Value} {t : TypeId} (h : Blk w g cs t) : Blk w.drew g cs t := h
theorem Blk.drewN {w : World} {g : Nat} {cs : Array Value} {t : TypeId} (h : Blk w g cs t) (n : Nat) : Blk (w.drewN n) g cs t := h
theorem Blk.below {w w1 : World} {g : Nat} {cs : Array Value} {t : TypeId} (h : Blk w g cs t) {B : Nat} (hb : Below B w w1) (hg : g < B) : Blk w1 g cs t := (hb.block g hg).trans h
theorem Blk.after {w w1 : World} {g : Nat} {cs : Array Value} {t : TypeId} (h : Blk w g cs t) (hb : Below w.heap.size w w1) : Blk w1 g cs t := h.below hb h.lt
theorem Blk.new (w : World) (cs : Array Value) (t : TypeId) : Blk (w.alloc (.cells cs t)) w.heap.size cs t := by
  show (w.heap.push _)[w.heap.size]? = _
  simp
theorem Blk.made (w : World) (g : Nat) (cs : Array Value) (t : TypeId) (h : w.heap.size = g) : Blk (w.alloc (.cells cs t)) g cs t := h ▸ Blk.new w cs t
theorem Blk.set {w : World} {g : Nat} {cs : Array Value} {t : TypeId} (h : Blk w g cs t) (i : Nat) (u : Value) : Blk (w.setCell ⟨g, i, none⟩ u) g (cs.setIfInBounds i u) t := by
  unfold Blk at h ⊢
  simp [World.setCell, Array.getElem?_modify, h]
theorem Blk.far {w : World} {g : Nat} {cs : Array Value} {t : TypeId} (h : Blk w g cs t) (b o : Nat) (hb : g ≠ b) (u : Value) : Blk (w.setCell ⟨b, o, none⟩ u) g cs t :=
  (Below.heap_setCell w ⟨b, o, none⟩ u g hb).trans h

theorem Blk.set2 {w : World} {g : Nat} {a b : Value} {t : TypeId} (h : Blk w g #[a, b] t) (u v : Value) : Blk ((w.setCell ⟨g, 0, none⟩ u).setCell ⟨g, 1, none⟩ v) g #[u, v] t := (h.set 0 u).set 1 v
theorem Blk.far2 {w : World} {g : Nat} {cs : Array Value} {t : TypeId} (h : Blk w g cs t) (b : Nat) (hb : g ≠ b) (u v : Value) : Blk ((w.setCell ⟨b, 0, none⟩ u).setCell ⟨b, 1, none⟩ v) g cs t := (h.far b 0 hb u).far b 1 hb v
theorem Blk.second (w : World) (o : Obj) (cs : Array Value) (t : TypeId) : Blk ((w.alloc o).alloc (.cells cs t)) (w.heap.size + 1) cs t := Blk.made _ _ _ _ (by simp)
/-! What calls hand back. -/
def RetW (n : Nat) (w : World) (e : Ending) (w' : World) : Prop := ∃ rh rl, e = .returned (.agg #[.int .u64 rh, .int .u64 rl]) ∧ Wd rh rl n ∧ Below w.heap.size w w'
def RetS (v : Int) (w : World) (e : Ending) (w' : World) : Prop := ∃ b rh rl, e = .returned (.agg #[.bool b, .int .u64 rh, .int .u64 rl]) ∧ Sg b rh rl v ∧ Below w.heap.size w w'
def RetI (n : Int) (w : World) (e : Ending) (w' : World) : Prop := e = .returned (.int .i64 n) ∧ Below w.heap.size w w'
def RetU (n : Nat) (w : World) (e : Ending) (w' : World) : Prop := e = .returned (.int .u64 (n : Int)) ∧ Below w.heap.size w w'
def RetB (b : Bool) (w : World) (e : Ending) (w' : World) : Prop := e = .returned (.bool b) ∧ Below w.heap.size w w'
/-- A quotient, and what is left, of two words. -/
def RetQ (n d : Nat) (w : World) (e : Ending) (w' : World) : Prop := ∃ q r : Int, e = .returned (.tuple #[.int .u64 q, .int .u64 r]) ∧ q = ((n / d : Nat) : Int) ∧ r = ((n % d : Nat) : Int) ∧ Below w.heap.size w w'
/-- A wide quotient, and what is left. -/
def RetWU (n d : Nat) (w : World) (e : Ending) (w' : World) : Prop := ∃ qh ql r : Int, e = .returned (.tuple #[.agg #[.int .u64 qh, .int .u64 ql], .int .u64 r]) ∧ Wd qh ql (n / d) ∧ r = ((n % d : Nat) : Int) ∧ Below w.heap.size w w'

end Go.Proofs.Ytpdbiofpoccjeaa
