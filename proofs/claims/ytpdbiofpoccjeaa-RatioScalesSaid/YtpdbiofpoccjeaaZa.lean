/- Words for the walks over the reference: rows of digits in memory. -/
import Derived.Test.YtpdbiofpoccjeaaKit
import Derived.Test.YtpdbiofpoccjeaaZp
import Derived.Maps.AppendAt
import Derived.Laws.OwnMore
import Derived.Laws.MakeOwn
namespace Go.Proofs.Ytpdbiofpoccjeaa.Ref
open Go.RowKit
def nv (l : List Nat) : List Value := l.map fun d : Nat => .int .i64 (d : Int)
theorem nv_length (l : List Nat) : (nv l).length = l.length := by simp [nv]
theorem nv_append (a b : List Nat) : nv (a ++ b) = nv a ++ nv b := by simp [nv]
theorem nv_get (l : List Nat) (j : Nat) (h : j < l.length) : (nv l)[j]? = some (.int .i64 ((l.getD j 0 : Nat) : Int)) := by
  simp [nv, List.getElem?_eq_getElem h, List.getD_eq_getElem?_getD]
/-- A row of one's own, from block B on. -/
abbrev Ow (w : World) (B : Nat) (v : Value) (l : List Nat) : Prop := w.ownsRow B 3 1 v l.length (nv l)
/-- A slice that reads as a row of digits. -/
def Rd (w : World) (v : Value) (l : List Nat) : Prop := w.ownsRow 0 3 1 v l.length (nv l)
theorem grown_below {w w1 : World} (h : Below w.heap.size w w1) (row : Option Nat) : w.grownBy w1 row := ⟨h.os, h.tape, h.output, h.size, fun i hi _ => h.block i hi⟩
theorem Ow.rd {w : World} {B : Nat} {v : Value} {l : List Nat} (h : Ow w B v l) : Rd w v l := by
  refine ⟨h.1, ?_⟩
  rcases h.2 with h | ⟨g, cap, cur, h1, h2, h3⟩
  · exact .inl h
  · exact .inr ⟨g, cap, cur, h1, Nat.zero_le _, h3⟩
theorem Rd.after {w w1 : World} {v : Value} {l : List Nat} (h : Rd w v l) (hb : Below w.heap.size w w1) : Rd w1 v l := by
  unfold Rd at *
  exact World.ownsRow.kept h (grown_below hb none) (by cases v.ownBlock <;> simp)
theorem Rd.alloc {w : World} {v : Value} {l : List Nat} (h : Rd w v l) (o : Obj) : Rd (w.alloc o) v l := h.after (bl_alloc (bl_refl w) o)
theorem Rd.drew {w : World} {v : Value} {l : List Nat} (h : Rd w v l) : Rd w.drew v l := h.after (bl_drew (bl_refl w))
theorem Rd.drewN {w : World} {v : Value} {l : List Nat} (h : Rd w v l) (n : Nat) : Rd (w.drewN n) v l := h.after (bl_drewN (bl_refl w) n)
/-- A cell of a block that holds something else has been written. -/
theorem Rd.set {w : World} {v : Value} {l : List Nat} (h : Rd w v l) {g : Nat} {cs : Array Value} {t : TypeId} (hg : Blk w g cs t) (ht : t ≠ 3) (i : Nat) (u : Value) : Rd (w.setCell ⟨g, i, none⟩ u) v l := by
  refine ⟨h.1, ?_⟩
  rcases h.2 with h | ⟨q, cap, cur, h1, h2, h3, h4⟩
  · exact .inl h
  · refine .inr ⟨q, cap, cur, h1, h2, ?_, h4⟩
    have hne : q ≠ g := by
      rintro rfl
      unfold Blk at hg
      rw [hg] at h3
      injection h3 with h3
      injection h3 with _ h3
      exact ht h3
    exact (Below.heap_setCell w ⟨g, i, none⟩ u q hne).trans h3
theorem Rd.set2 {w : World} {v : Value} {l : List Nat} (h : Rd w v l) {g : Nat} {cs : Array Value} {t : TypeId} (hg : Blk w g cs t) (ht : t ≠ 3) (u u' : Value) : Rd ((w.setCell ⟨g, 0, none⟩ u).setCell ⟨g, 1, none⟩ u') v l := (h.set hg ht 0 u).set (hg.set 0 u) ht 1 u'
theorem Rd.form {w : World} {v : Value} {l : List Nat} (h : Rd w v l) : (v = .slice none 0 0 ∧ l = []) ∨ ∃ g c, v = .slice (some ⟨g, 0, none⟩) l.length c ∧ l.length ≤ c ∧ c ≤ maxLen ∧ g < w.heap.size ∧ (∀ i, i < l.length → w.cell? ⟨g, i, none⟩ = some (.int .i64 ((l.getD i 0 : Nat) : Int))) := by
  have h0 := h
  rcases h.2 with ⟨h1, h2⟩ | ⟨g, cap, cur, h1, _, h3, h4, h5, h6⟩
  · exact .inl ⟨h1, List.eq_nil_of_length_eq_zero h2⟩
  · refine .inr ⟨g, cap, h1, h4, h5, (Array.getElem?_eq_some_iff.1 h3).1, fun i hi => ?_⟩
    have hc := World.ownsRow.cells h0 (g := g) (by rw [h1]; rfl) i _ (nv_get l i hi)
    have ha : (⟨g, 0, none⟩ : Addr).add i = ⟨g, 0 + i, none⟩ := by unfold Addr.add; split <;> simp_all
    rw [ha, Nat.zero_add] at hc
    exact hc
theorem Rd.sl {w : World} {v : Value} {l : List Nat} (h : Rd w v l) : ∃ A c, v = .slice A l.length c := by
  rcases h.form with ⟨rfl, rfl⟩ | ⟨g, c, rfl, _⟩
  · exact ⟨_, _, rfl⟩
  · exact ⟨_, _, rfl⟩
theorem ow_empty {w : World} {B : Nat} (hB : B ≤ w.heap.size) : Ow (w.alloc (.cells #[] 3)) B (.slice (some ⟨w.heap.size, 0, none⟩) 0 0) [] :=
  World.ownsRow_made (e := 3) (size := 1) w #[] 0 hB (by simp) (by simp)
/-- A row has been written: blocks that hold something else are as they were. -/
theorem blk_grown {W w1 : World} {B : Nat} {v : Value} {l : List Nat} (HO : Ow W B v l) (hg : W.grownBy w1 v.ownBlock) {g : Nat} {cs : Array Value} {t : TypeId} (ht : t ≠ 3) (h : Blk W g cs t) : Blk w1 g cs t := by
  refine (hg.block g h.lt ?_).trans h
  intro e
  rcases HO.2 with ⟨rfl, _⟩ | ⟨q, cap, cur, h1, _, h3, _⟩
  · simp [Value.ownBlock] at e
  · rw [h1] at e
    have : g = q := by simpa [Value.ownBlock] using e
    subst this
    unfold Blk at h
    rw [h3] at h
    injection h with h
    injection h with _ h
    exact ht h.symm
theorem ow_empty' {w : World} {B g : Nat} (hg : w.heap.size = g) (hB : B ≤ g) : Ow (w.alloc (.cells #[] 3)) B (.slice (some ⟨g, 0, none⟩) 0 0) [] := by subst hg; exact ow_empty hB
section
variable {P : Program} {ops : Array Oper} {rest : List Oper} {o : Oper} {a : Act} {Q : Exit → Act → World → Prop}
/-- append of one digit. -/
theorem wpList_push {w0 W : World} (B : Nat) (hgd : o.guard = none) (s x : Operand) (t e : TypeId) (bytes : Nat)
    (ho : o.op = .call { callee := .builtin .append, args := #[s, x], argTypes := #[t, t] })
    (ht : P.underlying t = some (.slice e)) (hinfo : (P.info? e).map (fun i => (i.zero, i.size, i.bytes)) = some (some (.int .i64 0), 1, bytes)) (hb0 : bytes = 8) (he : e = 3)
    (v : Value) (l : List Nat) (y : Int) (d : Nat) (hy : y = d) (hs : a.eval s = v) (hx : a.eval x = .slice (some ⟨W.heap.size, 0, none⟩) 1 1)
    (HO : Ow W B v l) (HB : Below B w0 W) (hbase : B ≤ W.heap.size) (hl : l.length ≤ 1000000)
    (h : ∀ v1 w1, Ow w1 B v1 (l ++ [d]) → Below B w0 w1 → (∀ g cs t, t ≠ 3 → Blk W g cs t → Blk w1 g cs t) → wpList P ops Q rest (a.put o.dst v1) w1) :
    wpList P ops Q (o :: rest) a (W.alloc (.cells #[.int .i64 y] e)) := by
  subst he hb0
  obtain ⟨i0, hi, hzz⟩ := Option.map_eq_some_iff.1 hinfo
  simp only [Prod.mk.injEq] at hzz
  obtain ⟨hz0, hz1, hz2⟩ := hzz
  subst hy
  refine wpList_append_own_at (W.alloc (.cells #[.int .i64 (d : Int)] 3)) hgd s x t ho B 3 i0 (.int .i64 0) 1 8 ht hi hz0 hz1 hz2 rfl (by omega) v l.length (nv l) hs (World.ownsRow.kept HO (World.grownBy_alloc W _ none) (by cases v.ownBlock <;> simp)) ⟨W.heap.size, 0, none⟩ 1 1 [.int .i64 (d : Int)] hx rfl
    (cell_one_new W _ _) (by simp [Value.oneCell']) (by simp only [maxLen]; omega) (by omega) (by simp; omega) ?_
  intro v1 w1 hown hg _ _
  refine h v1 w1 (by simpa [nv, Ow] using hown) ((HB.alloc hbase _).grown hg (by simp; omega) (fun k hk => ?_)) (fun g cs t ht hB => blk_grown (l := l) (v := v) (B := B) (World.ownsRow.kept HO (World.grownBy_alloc W _ none) (by cases v.ownBlock <;> simp)) hg ht (hB.alloc _))
  exact (World.ownsRow.lt HO k hk).1
/-- append of a row. -/
theorem wpList_join {w0 W : World} (B : Nat) (hgd : o.guard = none) (s x : Operand) (t e : TypeId) (bytes : Nat)
    (ho : o.op = .call { callee := .builtin .append, args := #[s, x], argTypes := #[t, t] })
    (ht : P.underlying t = some (.slice e)) (hinfo : (P.info? e).map (fun i => (i.zero, i.size, i.bytes)) = some (some (.int .i64 0), 1, bytes)) (hb0 : bytes = 8) (he : e = 3)
    (v : Value) (l : List Nat) (A : Option Addr) (m c : Nat) (k : List Nat) (hs : a.eval s = v) (hx : a.eval x = .slice A m c) (hm : k.length = m) (HR : m = 0 ∨ ∃ g, A = some ⟨g, 0, none⟩ ∧ ∀ i, i < m → W.cell? ⟨g, i, none⟩ = some (.int .i64 ((k.getD i 0 : Nat) : Int)))
    (HO : Ow W B v l) (HB : Below B w0 W) (hbase : B ≤ W.heap.size) (hl : l.length ≤ 1000000) (hk : m ≤ 1000000)
    (h : ∀ v1 w1, Ow w1 B v1 (l ++ k) → Below B w0 w1 → (∀ g cs t, t ≠ 3 → Blk W g cs t → Blk w1 g cs t) → wpList P ops Q rest (a.put o.dst v1) w1) :
    wpList P ops Q (o :: rest) a W := by
  subst he hb0 hm
  obtain ⟨i0, hi, hzz⟩ := Option.map_eq_some_iff.1 hinfo
  simp only [Prod.mk.injEq] at hzz
  obtain ⟨hz0, hz1, hz2⟩ := hzz
  have hrun : ∃ v1 w1, (Builtin.append_ #[t, t] o.type #[v, .slice A k.length c]).run P W = .ok v1 w1 ∧ Ow w1 B v1 (l ++ k) ∧ W.grownBy w1 v.ownBlock := by
    have gr : ∀ ad, A = some ad → (∀ j u, (nv k)[j]? = some u → W.cell? (ad.add j) = some u) → ∃ v1 w1, (Builtin.append_ #[t, t] o.type #[v, .slice A k.length c]).run P W = .ok v1 w1 ∧ Ow w1 B v1 (l ++ k) ∧ W.grownBy w1 v.ownBlock := by
      rintro ad rfl hc
      obtain ⟨v1, w1, hr, h2, h3, _⟩ := run_append_own_at (P := P) W B t o.type 3 i0 (.int .i64 0) 1 8 ht hi hz0 hz1 hz2 rfl (by omega) v l.length (nv l) HO ad k.length c (nv k) (by simp [nv]) hc
        (by intro u hu; simp only [nv, List.mem_map] at hu; obtain ⟨q, _, rfl⟩ := hu; rfl) (by simp only [maxLen]; omega) (by omega) hbase
      exact ⟨v1, w1, hr, by simpa [nv, Ow] using h2, h3⟩
    rcases A with _ | ad
    · have h0 : k = [] := by
        rcases HR with h0 | ⟨g, h0, _⟩
        · exact List.eq_nil_of_length_eq_zero h0
        · cases h0
      subst h0
      refine ⟨v, W, ?_, by simpa using HO, ⟨rfl, rfl, rfl, Nat.le_refl _, fun _ _ _ => rfl⟩⟩
      rcases HO.2 with ⟨rfl, hn⟩ | ⟨g, cap, cur, rfl, _, _, hnc, _⟩
      · simp [Builtin.append_, run_underlying ht, sizeOf, typeInfo, hi, Builtin.lenOf, Builtin.firstCells]
      · simp [Builtin.append_, run_underlying ht, sizeOf, typeInfo, hi, Builtin.lenOf, Builtin.firstCells, hnc, storeCells]
    · refine gr ad rfl fun j u hu => ?_
      have hj : j < k.length := by
        rcases Nat.lt_or_ge j k.length with h | h
        · exact h
        · simp [nv, List.getElem?_eq_none h] at hu
      rcases HR with h0 | ⟨g, h0, hc⟩
      · omega
      · injection h0 with h0
        subst h0
        rw [nv_get k j hj] at hu
        rw [← hu]
        have ha : (⟨g, 0, none⟩ : Addr).add j = ⟨g, 0 + j, none⟩ := by unfold Addr.add; split <;> simp_all
        rw [ha, Nat.zero_add]
        exact hc j hj
  obtain ⟨v1, w1, hr, hown, hg⟩ := hrun
  refine wpList_plain hgd fun K hK => ?_
  unfold Oper.wp execOp
  simp only [ho, resolve, invoke, builtin, Sem.run_bind, Sem.run_pure, Result.andThen_ok, List.map_toArray, List.map_cons, List.map_nil, hs, hx, hr]
  exact hK _ _ (h v1 w1 hown (HB.grown hg hbase (fun k hk => (World.ownsRow.lt HO k hk).1)) (fun g cs t ht hB => blk_grown HO hg ht hB))
end
theorem info3 : (Try.prog.info? 3).map (fun i => (i.zero, i.size, i.bytes)) = some (some (.int .i64 0), 1, 8) := by kernel_rfl
/-- A number of the reference's is handed back. -/
def RetN (n : Int) (w : World) (e : Ending) (w' : World) : Prop := ∃ b v l, e = .returned (.agg #[.bool b, v]) ∧ Rd w' v l ∧ Nm b l n ∧ Below w.heap.size w w'
/-- A row of digits is handed back. -/
def RetD (F : List Nat → Prop) (w : World) (e : Ending) (w' : World) : Prop := ∃ v l, e = .returned v ∧ Rd w' v l ∧ F l ∧ Below w.heap.size w w'
end Go.Proofs.Ytpdbiofpoccjeaa.Ref
