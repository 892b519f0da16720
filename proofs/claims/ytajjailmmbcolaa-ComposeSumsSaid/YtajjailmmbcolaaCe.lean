/- compose: rows of numbers of one's own; the order, plain. -/
import Derived.Maps.AppendAt
import Derived.Laws.OwnMore
import Derived.Laws.MakeOwn
import Derived.KernelRfl
import Derived.Test.YtajjailmmbcolaaCd
namespace Go.Proofs.Ytajjailmmbcolaa
open Go Go.Proofs Go.RowKit Go.Shelf

def nv (l : List Nat) : List Value := l.map fun d : Nat => .int .i64 (d : Int)
theorem nv_length (l : List Nat) : (nv l).length = l.length := by simp [nv]
theorem nv_append (a b : List Nat) : nv (a ++ b) = nv a ++ nv b := by simp [nv]
theorem nv_get (l : List Nat) (j : Nat) (h : j < l.length) : (nv l)[j]? = some (.int .i64 ((l.getD j 0 : Nat) : Int)) := by
  simp [nv, List.getElem?_eq_getElem h, List.getD_eq_getElem?_getD]
/-- A row of one's own, from block B on. -/
abbrev Ow (w : World) (B : Nat) (v : Value) (l : List Nat) : Prop := w.ownsRow B 3 1 v l.length (nv l)
theorem Ow.nil (w : World) (B : Nat) : Ow w B (.slice none 0 0) [] := World.ownsRow_nil _ _ _ _
theorem Ow.below {w w1 : World} {B : Nat} {v : Value} {l : List Nat} (h : Ow w B v l) (hb : Below w.heap.size w w1) : Ow w1 B v l :=
  World.ownsRow.kept h (row := none) ⟨hb.os, hb.tape, hb.output, hb.size, fun i hi _ => hb.block i hi⟩ (by cases v.ownBlock <;> simp)
theorem Ow.mono {w : World} {B B' : Nat} {v : Value} {l : List Nat} (h : Ow w B v l) (hB : B' ≤ B) : Ow w B' v l := by
  refine ⟨h.1, ?_⟩
  rcases h.2 with h | ⟨g, cap, cur, h1, h2, h3⟩
  · exact .inl h
  · exact .inr ⟨g, cap, cur, h1, by omega, h3⟩
section
variable {F : Fence} {nF : Nat} {P : Program} {ops : Array Oper} {rest : List Oper} {o : Oper} {a : Act} {Q : Exit → Act → World → Prop}
/-- append of one number. -/
theorem wpListIn_push {W : World} (B : Nat) (hgd : o.guard = none) (s x : Operand) (t e : TypeId) (bytes : Nat)
    (ho : o.op = .call { callee := .builtin .append, args := #[s, x], argTypes := #[t, t] })
    (ht : P.underlying t = some (.slice e)) (hinfo : (P.info? e).map (fun i => (i.zero, i.size, i.bytes)) = some (some (.int .i64 0), 1, bytes)) (hb0 : bytes = 8) (he : e = 3)
    (v : Value) (l : List Nat) (d : Nat) (hs : a.eval s = v) (hx : a.eval x = .slice (some ⟨W.heap.size, 0, none⟩) 1 1)
    (HO : Ow W B v l) (hbase : B ≤ W.heap.size) (hl : l.length ≤ 1000000)
    (h : ∀ v1 w1, Ow w1 B v1 (l ++ [d]) → Below B W w1 → (∀ g, g < W.heap.size → some g ≠ v.ownBlock → w1.heap[g]? = W.heap[g]?) → wpListIn F nF P ops Q rest (a.put o.dst v1) w1) :
    wpListIn F nF P ops Q (o :: rest) a (W.alloc (.cells #[.int .i64 (d : Int)] e)) := by
  subst he hb0
  obtain ⟨i0, hi, hzz⟩ := Option.map_eq_some_iff.1 hinfo
  simp only [Prod.mk.injEq] at hzz
  obtain ⟨hz0, hz1, hz2⟩ := hzz
  have HO' := World.ownsRow.kept HO (World.grownBy_alloc W (.cells #[.int .i64 (d : Int)] 3) none) (by cases v.ownBlock <;> simp)
  refine wpListIn_append_own_at (W.alloc (.cells #[.int .i64 (d : Int)] 3)) hgd s x t ho B 3 i0 (.int .i64 0) 1 8 ht hi hz0 hz1 hz2 rfl (by omega) v l.length (nv l) hs HO' ⟨W.heap.size, 0, none⟩ 1 1 [.int .i64 (d : Int)] hx rfl
    (cell_one_new W _ _) (by simp [Value.oneCell']) (by simp only [maxLen]; omega) (by omega) (by simp; omega) ?_
  intro v1 w1 hown hg _ _
  refine h v1 w1 (by simpa [nv, Ow] using hown) (((Below.refl B W).alloc hbase _).grown hg (by simp; omega) (fun k hk => (World.ownsRow.lt HO k hk).1)) (fun g hlt hne => ?_)
  exact (hg.block g (by simp; omega) hne).trans (Below.heap_alloc _ _ _ hlt)
end
theorem info3 : (Try.prog.info? 3).map (fun i => (i.zero, i.size, i.bytes)) = some (some (.int .i64 0), 1, 8) := by kernel_rfl

/-- The first glyph that is ready. -/
def isReady (G : Gs) (xs : List Nat) (g : Nat) : Bool := decide ((∀ q ∈ kids G g, q ∈ xs) ∧ g ∉ xs)
def pick (G : Gs) (xs : List Nat) : Option Nat := (List.range G.length).find? (isReady G xs)
def grow (G : Gs) (xs : List Nat) : List Nat :=
  match pick G xs with
  | some g => xs ++ [g]
  | none => xs
def ord (G : Gs) : Nat → List Nat
  | 0 => []
  | k + 1 => grow G (ord G k)
/-- A glyph that is part of itself. -/
def Loop (G : Gs) (g : Nat) : Prop := From G (kids G g) g
theorem Grown.mem_iff {G : Gs} {ps ys : List Nat} (h : Grown G ps [] ys) (x : Nat) : x ∈ ys ↔ From G ps x := by
  constructor
  · exact fun hx => h.reach x hx (by simp)
  · intro hx
    induction hx with
    | here h1 => exact h.has _ h1
    | step _ h2 ih => exact h.closed _ ih (by simp) _ h2
theorem pick_some {G : Gs} {xs : List Nat} {g : Nat} (hg : g < G.length) (hr : isReady G xs g = true) (hn : ∀ h, h < g → isReady G xs h = false) : pick G xs = some g := by
  unfold pick
  rw [List.find?_eq_some_iff_getElem]
  refine ⟨hr, g, by simpa using hg, by simp, fun j hj => ?_⟩
  simpa using hn j hj
theorem pick_none {G : Gs} {xs : List Nat} (hn : ∀ h, h < G.length → isReady G xs h = false) : pick G xs = none := by
  unfold pick
  rw [List.find?_eq_none]
  intro x hx
  rw [hn x (by simpa using hx)]; simp
theorem ord_props (G : Gs) (k : Nat) : (ord G k).Nodup ∧ (∀ x ∈ ord G k, x < G.length) ∧ (ord G k).length ≤ k := by
  induction k with
  | zero => simp [ord]
  | succ k ih =>
    obtain ⟨h1, h2, h3⟩ := ih
    simp only [ord, grow]
    cases hp : pick G (ord G k) with
    | none => exact ⟨h1, h2, Nat.le_succ_of_le h3⟩
    | some g =>
      unfold pick at hp
      have hr := List.find?_some hp
      have hm := List.mem_of_find?_eq_some hp
      simp only [isReady, decide_eq_true_eq] at hr
      refine ⟨?_, ?_, by simp; omega⟩
      · rw [List.nodup_append]
        exact ⟨h1, by simp, fun p hp' q hq => by rw [List.mem_singleton.1 hq]; exact fun e => hr.2 (by rw [← e]; exact hp')⟩
      · intro x hx
        rcases List.mem_append.1 hx with hx | hx
        · exact h2 x hx
        · rw [List.mem_singleton.1 hx]; simpa using hm
end Go.Proofs.Ytajjailmmbcolaa
