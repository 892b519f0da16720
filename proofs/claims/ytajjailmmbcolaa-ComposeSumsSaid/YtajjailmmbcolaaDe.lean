/- compose: joined. -/
import Derived.StillTailTactics
import Derived.BigQuiet
import Derived.Test.YtajjailmmbcolaaDa
namespace Go.Proofs.Ytajjailmmbcolaa
open Go Go.Proofs Go.RowKit Go.Shelf Go.Proofs.YtajjailmmbcolaaW.PrintWords Go.Proofs.YtajjailmmbcolaaW.PrintLast Go.Proofs.YtajjailmmbcolaaW.PrintMore PComposeTells
attribute [local go_sem] Oper.semAt_some
set_option linter.unusedSimpArgs false
set_option linter.unusedVariables false

section
variable {P : Program} {l n : Nat} {Q : Exit → Act → World → Prop}
theorem list_in {ops : Array Oper} (hL : ¬ LetsOut Q) : ∀ (r : List Oper) (hd : r.all noDefer = true) (a : Act) (w : World), wpList P ops Q r a w → wpListIn (Fence.wide.inRound l) n P ops Q r a w
  | [], _, _, _, h => h
  | o :: r, hd, a, w, h => by
    rw [List.all_cons, Bool.and_eq_true] at hd
    have hd0 : ∀ c, o.op ≠ .defer c := fun c e => by
      have := hd.1
      unfold noDefer at this
      rw [e] at this
      cases this
    unfold wpList at h
    unfold wpListIn
    by_cases hw : Region.wanted o (yielded ops a.tmps) = true
    · rw [if_pos hw] at h ⊢
      rcases h with h | ⟨_, h⟩
      · exact oper_in hd0 (Oper.wp_mono (fun a w h => list_in hL r hd.2 a w h) h)
      · exact (hL h).elim
    · rw [if_neg hw] at h ⊢
      exact ⟨fun _ _ => trivial, list_in hL r hd.2 _ _ h⟩
/-- A plain region in a round, by the plain walk's words. -/
theorem flat_in {id : Nat} {ops : List Oper} {a : Act} {w : World} (hd : ops.all noDefer = true) (h : wpList P ops.toArray (NoOut Q) ops a w) : (Code.region id ops.toArray false).wpIn (Fence.wide.inRound l) n P Q a w :=
  wpIn_mono (wpIn_region_lit (list_in noOut_lets _ hd _ _ h)) NoOut.imp
/-- A drawn region in a round: the print's words. -/
theorem start_in {ops : Array Oper} {S : World → Prop} {ds : List Nat} {id m : Nat} {a : Act} {w : World} (r : Array Bool) (hm : P.follows .mixedOrders = true) (hd : ops.all noDefer = true) (hn : ops.size = m) (hl : Array.replicate m false = r) (hS : S w.drew)
    (h : S w.drew → wpAnyLast P .any ops (NoOut Q) S ds m r a w.drew) : (Code.region id ops true).wpIn (Fence.wide.inRound l) n P Q a w := by
  subst hn
  subst hl
  exact wpIn_mono (wpIn_region_any hm (anyIn _ (noDefer_spec hd) noOut_lets _ _ _ _ (wpAny_of_last _ _ _ _ (h hS)))) NoOut.imp
end
/-- Q, but 'False' where the machine has outgrown its room, and at a panic. -/
def Calm (Q : Exit → Act → World → Prop) : Exit → Act → World → Prop
  | .outgrown, _, _ => False
  | .panic _, _, _ => False
  | e, a, w => Q e a w
theorem Calm.imp {Q : Exit → Act → World → Prop} : ∀ (e : Exit) (a : Act) (w : World), Calm Q e a w → Q e a w := fun e a w h => by
  cases e <;> first | exact h | exact (h : False).elim
theorem calm_in {P : Program} {n : Nat} {c : Code} {Q : Exit → Act → World → Prop} {a : Act} {w : World} (h : c.wp P (Calm Q) a w) : c.wpIn Fence.wide n P Q a w := wpIn_mono (wpIn_wide.2 h) Calm.imp
theorem calm_n {Q : Exit → Act → World → Prop} {a : Act} {w : World} (h : Q .normal a w) : Calm Q .normal a w := h
theorem noOut_n {Q : Exit → Act → World → Prop} {a : Act} {w : World} (h : Q .normal a w) : NoOut Q .normal a w := h
theorem bs_ {wd x : World} (h : Below wd.heap.size wd x) : wd.heap.size ≤ x.heap.size := h.size
theorem held_ {W W' : World} {b : Nat} {u v : Value} (h : W.cell? ⟨b, 0, none⟩ = some u ∧ W.cell? ⟨b, 1, none⟩ = some v) (hb : Below W.heap.size W W') : W'.cell? ⟨b, 0, none⟩ = some u ∧ W'.cell? ⟨b, 1, none⟩ = some v :=
  ⟨(hb.cell (World.block_lt_of_cell? _ _ h.1)).trans h.1, (hb.cell (World.block_lt_of_cell? _ _ h.2)).trans h.2⟩
/-- What the rounds keep: the outline so far, and the boxes. -/
structure JoinI (w : World) (b6 : Nat) (Fc : Array Value) (o : Ol) (A3 : Option Addr) (c3 : Nat) (A4 : Option Addr) (c4 : Nat) (W : World) : Prop where
  bx6 : Bx W b6 #[.slice A3 o.1.length c3, .slice A4 o.2.length c4] 39
  rp : RP W w.heap.size (.slice A3 o.1.length c3) o.1
  ri : RI W w.heap.size (.slice A4 o.2.length c4) o.2
  bx0 : Bx W w.heap.size Fc 32
  bx1 : Bx W (w.heap.size + 1) #[.slice none 0 0, .slice none 0 0] 39
  bel : Below w.heap.size w W
theorem blk_belowB {w W W' : World} {g : Nat} {cs : Array Value} {t : TypeId} (h : Bx W g cs t) (hb : Below W.heap.size W W') : Bx W' g cs t := blk_below h hb
theorem JoinI.below {w : World} {b6 : Nat} {Fc : Array Value} {o : Ol} {A3 : Option Addr} {c3 : Nat} {A4 : Option Addr} {c4 : Nat} {W W' : World} (h : JoinI w b6 Fc o A3 c3 A4 c4 W) (hb : Below W.heap.size W W') : JoinI w b6 Fc o A3 c3 A4 c4 W' :=
  ⟨blk_below h.bx6 hb, Kd.R_below h.rp hb, Kd.R_below h.ri hb, blk_below h.bx0 hb, blk_below h.bx1 hb, h.bel.trans (hb.mono h.bel.size)⟩
theorem R_notcells {α : Type} {d : Kd α} {e : TypeId} {base : Nat} {ok : Nat → Prop} {v : Value} {xs : List α} {X Y : World} {row : Option Nat} {B : Nat} (h : d.R e X base ok v xs) (hg : X.grownBy Y row) (hr : ∀ r, row = some r → B ≤ r ∧ ∃ o : Obj, X.heap[r]? = some o ∧ o.isCells = false) : d.R e Y base ok v xs := by
  refine Kd.R_mono (Kd.R_move (Kd.R_bound h) (fun k hk => hg.block k hk.2.2.1 (fun he => ?_))) (fun _ hk => hk.1)
  obtain ⟨_, _, _, q, hq, cells, hc⟩ := hk
  obtain ⟨_, o, ho, hn⟩ := hr k he.symm
  rw [hc] at ho
  injection ho with ho
  subst ho
  cases hn
theorem JoinI.own {w : World} {b6 : Nat} {Fc : Array Value} {o : Ol} {A3 : Option Addr} {c3 : Nat} {A4 : Option Addr} {c4 : Nat} {X Y : World} {row : Option Nat} {B : Nat} (h : JoinI w b6 Fc o A3 c3 A4 c4 X) (hB : w.heap.size ≤ B) (hg : X.grownBy Y row) (hr : ∀ r, row = some r → B ≤ r ∧ ∃ o : Obj, X.heap[r]? = some o ∧ o.isCells = false) : JoinI w b6 Fc o A3 c3 A4 c4 Y :=
  ⟨Bx.own () X Y row h.bx6 hg hr, R_notcells h.rp hg hr, R_notcells h.ri hg hr, Bx.own () X Y row h.bx0 hg hr, Bx.own () X Y row h.bx1 hg hr,
    ⟨hg.os.trans h.bel.os, hg.tape.trans h.bel.tape, hg.output.trans h.bel.output, Nat.le_trans h.bel.size hg.size, fun k hk => (hg.block k (Nat.lt_of_lt_of_le hk h.bel.size) (fun e => by have := (hr k e.symm).1; omega)).trans (h.bel.block k hk)⟩⟩
theorem JoinI.set {w : World} {b6 : Nat} {Fc : Array Value} {o : Ol} {A3 : Option Addr} {c3 : Nat} {A4 : Option Addr} {c4 : Nat} {W : World} {b8 : Nat} {cs : Array Value} (h : JoinI w b6 Fc o A3 c3 A4 c4 W) (hx : Bx W b8 cs 39) (h6 : b6 ≠ b8) (h8 : w.heap.size + 1 < b8) (i : Nat) (u : Value) : JoinI w b6 Fc o A3 c3 A4 c4 (W.setCell ⟨b8, i, none⟩ u) :=
  ⟨blk_far (p := ⟨b8, i, none⟩) h.bx6 (by simpa using h6) u, Kd.R_set h.rp hx (by decide) i u, Kd.R_set h.ri hx (by decide) i u, blk_far (p := ⟨b8, i, none⟩) h.bx0 (by simp; omega) u, blk_far (p := ⟨b8, i, none⟩) h.bx1 (by simp; omega) u, below_set h.bel (by omega)⟩
theorem r_c {α : Type} {d : Kd α} {e : TypeId} {base : Nat} {ok : Nat → Prop} {W : World} {A : Option Addr} {n c : Nat} {xs : List α} (h : d.R e W base ok (.slice A n c) xs) : Kd.C d W A xs.length xs := by
  obtain ⟨A', c', e, _, hC⟩ := Kd.R_reads h
  injection e with e1 e2 e3
  subst e1
  exact hC
/-- The outline after some parts. -/
noncomputable def accO (G : Gs) (own : Nat → Ol) (g : Nat) {N : Nat} {l : List (Sub N)} (pre : List { x : Sub N // x ∈ l }) : Ol := pre.foldl (fun o x => addPart o x.1.1.2.1 x.1.1.2.2 (jd G own (gn x.1))) (own g)
theorem accO_snoc (G : Gs) (own : Nat → Ol) (g : Nat) {N : Nat} {l : List (Sub N)} (pre : List { x : Sub N // x ∈ l }) (x : { x : Sub N // x ∈ l }) : accO G own g (pre ++ [x]) = addPart (accO G own g pre) x.1.1.2.1 x.1.1.2.2 (jd G own (gn x.1)) := by
  simp [accO, List.foldl_append]
theorem accO_len (G : Gs) (own : Nat → Ol) (g : Nat) {N : Nat} {l : List (Sub N)} (h0 : (own g).1.length ≤ 1000000 ∧ (own g).2.length ≤ 1000000) (h : ∀ x ∈ l, (jd G own (gn x)).1.length ≤ 1000000 ∧ (jd G own (gn x)).2.length ≤ 1000000) (pre : List { x : Sub N // x ∈ l }) :
    (accO G own g pre).1.length ≤ 1000000 * (pre.length + 1) ∧ (accO G own g pre).2.length ≤ 1000000 * (pre.length + 1) := by
  suffices H : ∀ (pre : List { x : Sub N // x ∈ l }) (o : Ol) (m : Nat), o.1.length ≤ m ∧ o.2.length ≤ m → (pre.foldl (fun o x => addPart o x.1.1.2.1 x.1.1.2.2 (jd G own (gn x.1))) o).1.length ≤ m + 1000000 * pre.length ∧ (pre.foldl (fun o x => addPart o x.1.1.2.1 x.1.1.2.2 (jd G own (gn x.1))) o).2.length ≤ m + 1000000 * pre.length by
    have := H pre (own g) 1000000 h0
    unfold accO
    omega
  intro pre
  induction pre with
  | nil => intro o m hm; simpa using hm
  | cons x pre ih =>
    intro o m hm
    have hx := h x.1 x.2
    have := ih (addPart o x.1.1.2.1 x.1.1.2.2 (jd G own (gn x.1))) (m + 1000000) (by simp only [addPart, List.length_append, List.length_map]; omega)
    simp only [List.foldl_cons, List.length_cons]
    omega
theorem kf_grown {B : Nat} {W X Y : World} {v : Value} {e' : TypeId} (h : KeepsFrom B W X) (hty : ∀ k, v.ownBlock = some k → ∃ cells, X.heap[k]? = some (.cells cells e' (0, 0))) (hg : X.grownBy Y v.ownBlock) : KeepsFrom B W Y :=
  ⟨Nat.le_trans h.size hg.size, fun k o hB hk ho => by
    have h1 := h.same k o hB hk ho
    refine (hg.block k (blk_lt h1) (fun e => ?_)).trans h1
    obtain ⟨cells, hc⟩ := hty k e.symm
    rw [h1] at hc
    injection hc with hc
    subst hc
    cases ho⟩
theorem kf_below {B : Nat} {W X : World} (h : Below W.heap.size W X) : KeepsFrom B W X := ⟨h.size, fun k o _ hk _ => (h.block k (blk_lt hk)).trans hk⟩
theorem JoinI.bxg1 {w : World} {b6 : Nat} {Fc : Array Value} {o : Ol} {A3 : Option Addr} {c3 : Nat} {A4 : Option Addr} {c4 : Nat} {W w1 : World} (h : JoinI w b6 Fc o A3 c3 A4 c4 W) (hg : W.grownBy w1 (Value.slice A3 o.1.length c3).ownBlock) : Bx w1 b6 #[.slice A3 o.1.length c3, .slice A4 o.2.length c4] 39 := blk_grown h.bx6 hg (Kd.R_ne h.rp h.bx6 (by decide))
theorem JoinI.bxg2 {w : World} {b6 : Nat} {Fc : Array Value} {o : Ol} {A3 : Option Addr} {c3 : Nat} {A4 : Option Addr} {c4 : Nat} {W w1 : World} (h : JoinI w b6 Fc o A3 c3 A4 c4 W) (hg : W.grownBy w1 (Value.slice A4 o.2.length c4).ownBlock) : Bx w1 b6 #[.slice A3 o.1.length c3, .slice A4 o.2.length c4] 39 := blk_grown h.bx6 hg (Kd.R_ne h.ri h.bx6 (by decide))
theorem JoinI.app1 {w : World} {b6 : Nat} {Fc : Array Value} {o : Ol} {A3 : Option Addr} {c3 : Nat} {A4 : Option Addr} {c4 : Nat} {W w1 : World} (h : JoinI w b6 Fc o A3 c3 A4 c4 W) {ys : List S59} {A9 : Option Addr} {c9 : Nat} (h6 : w.heap.size + 1 < b6)
    (hg : W.grownBy w1 (Value.slice A3 o.1.length c3).ownBlock) (hR : RP w1 w.heap.size (.slice A9 (o.1 ++ ys).length c9) (o.1 ++ ys)) (hB : Below w.heap.size w w1) : JoinI w b6 Fc (o.1 ++ ys, o.2) A9 c9 A4 c4 (w1.setCell ⟨b6, 0, none⟩ (.slice A9 (o.1 ++ ys).length c9)) := by
  have x6 := blk_grown h.bx6 hg (Kd.R_ne h.rp h.bx6 (by decide))
  exact ⟨blk_put x6 0 _ rfl, Kd.R_set hR x6 (by decide) 0 _, Kd.R_set (Kd.R_over' h.ri (Kd.R_typed h.rp) (by decide) hg) x6 (by decide) 0 _,
    blk_far (p := ⟨b6, 0, none⟩) (blk_grown h.bx0 hg (Kd.R_ne h.rp h.bx0 (by decide))) (by simp; omega) _, blk_far (p := ⟨b6, 0, none⟩) (blk_grown h.bx1 hg (Kd.R_ne h.rp h.bx1 (by decide))) (by simp; omega) _, below_set hB (by omega)⟩
theorem JoinI.app2 {w : World} {b6 : Nat} {Fc : Array Value} {o : Ol} {A3 : Option Addr} {c3 : Nat} {A4 : Option Addr} {c4 : Nat} {W w1 : World} (h : JoinI w b6 Fc o A3 c3 A4 c4 W) {ys : List Int} {A9 : Option Addr} {c9 : Nat} (h6 : w.heap.size + 1 < b6)
    (hg : W.grownBy w1 (Value.slice A4 o.2.length c4).ownBlock) (hR : RI w1 w.heap.size (.slice A9 (o.2 ++ ys).length c9) (o.2 ++ ys)) (hB : Below w.heap.size w w1) : JoinI w b6 Fc (o.1, o.2 ++ ys) A3 c3 A9 c9 (w1.setCell ⟨b6, 1, none⟩ (.slice A9 (o.2 ++ ys).length c9)) := by
  have x6 := blk_grown h.bx6 hg (Kd.R_ne h.ri h.bx6 (by decide))
  exact ⟨blk_put x6 1 _ rfl, Kd.R_set (Kd.R_over' h.rp (Kd.R_typed h.ri) (by decide) hg) x6 (by decide) 1 _, Kd.R_set hR x6 (by decide) 1 _,
    blk_far (p := ⟨b6, 1, none⟩) (blk_grown h.bx0 hg (Kd.R_ne h.ri h.bx0 (by decide))) (by simp; omega) _, blk_far (p := ⟨b6, 1, none⟩) (blk_grown h.bx1 hg (Kd.R_ne h.ri h.bx1 (by decide))) (by simp; omega) _, below_set hB (by omega)⟩
/-- Where a glyph's own outline lies. -/
def OutAt (W0 : World) (f : Fv) (own : Nat → Ol) (g : Nat) : Prop :=
  ∃ b o A c A' c', f.a = some ⟨b, o, none⟩ ∧ W0.cell? ⟨b, o + g * 9 + 3, none⟩ = some (.slice A (own g).1.length c) ∧ W0.cell? ⟨b, o + g * 9 + 4, none⟩ = some (.slice A' (own g).2.length c') ∧ Kd.C k59 W0 A (own g).1.length (own g).1 ∧ Kd.C (Kd.int .i64) W0 A' (own g).2.length (own g).2 ∧ b < W0.heap.size
theorem fold_len {N : Nat} (F : Ol → Sub N → Ol) (h1 : ∀ o x, o.1.length ≤ (F o x).1.length ∧ o.2.length ≤ (F o x).2.length) : ∀ (l : List (Sub N)) (o : Ol), o.1.length ≤ (l.foldl F o).1.length ∧ o.2.length ≤ (l.foldl F o).2.length
  | [], o => ⟨Nat.le_refl _, Nat.le_refl _⟩
  | x :: l, o => by
    have := fold_len F h1 l (F o x)
    have := h1 o x
    simp only [List.foldl_cons]
    omega

set_option maxRecDepth 100000 in
set_option maxHeartbeats 2000000 in
theorem joined_calls (f : Fv) (G : Gs) (own : Nat → Ol) (W0 : World) (hN : G.length ≤ 1000000) (hG : GlyphsAt W0.heap.size W0 f.a G) (T : Nat → Prop) (hlt : ∀ x, T x → x < G.length) (hO : ∀ x, T x → OutAt W0 f own x) (hk : ∀ x, T x → ∀ q ∈ kids G x, T q) (hn : ∀ x, T x → ¬ Loop G x)
    (hb : ∀ x, T x → (jd G own x).1.length ≤ 1000000 ∧ (jd G own x).2.length ≤ 1000000) :
    ∀ (d g : Nat) (w : World), rk G g < d → T g → Below W0.heap.size W0 w → Calls Try.prog 34 #[.agg (f.cells G.length), .int .i64 g] w (OlP (jd G own g) w) := by
  intro d
  induction d with
  | zero => intro g w h; omega
  | succ d ih =>
    intro g w hd hTg hB0
    have hg := hlt g hTg
    have hjd := jd_eq hk hn hTg (own := own)
    obtain ⟨b, o, A, c, A', c', ha, hc3, hc4, hC3, hC4, hbl⟩ := hO g hTg
    have hlenF := fold_len (fun o x => addPart o x.1.2.1 x.1.2.2 (jd G own (gn x))) (fun o x => by simp [addPart]) (flt G.length (G.getD g [])) (own g)
    rw [← hjd] at hlenF
    have hbg := hb g hTg
    have HJ := Lib.hid hjd
    clear hjd
    have HL := Lib.hid hlenF
    clear hlenF
    have HBG := Lib.hid hbg
    clear hbg
    refine (callsIn_wide (n := 6)).1 ?_
    refine callsIn_of_wp_marks Try.func34 rfl trivial ?_ rfl
    simp only [Try.ntmps34, List.size_toArray, List.length_cons, List.length_nil, Nat.reduceAdd, Nat.reduceSub, Array.replicate_succ, Array.replicate_zero, List.push_toArray, List.append_toArray, List.nil_append, List.cons_append, Fv.cells]
    replace hc3 : w.cell? ⟨b, o + g * 9 + 3, none⟩ = _ := (World.cell?_of_block (hB0.block b hbl)).trans hc3
    rw [ha]
    obtain ⟨Fc, hFc⟩ : ∃ Fc : Array Value, #[Value.int .i64 f.u, .slice (some ⟨b, o, none⟩) G.length f.c, .slice f.r2.1 f.r2.2.1 f.r2.2.2, .slice f.r3.1 f.r3.2.1 f.r3.2.2, .slice f.r4.1 f.r4.2.1 f.r4.2.2,
  .slice f.r5.1 f.r5.2.1 f.r5.2.2, .slice f.r6.1 f.r6.2.1 f.r6.2.2, .slice f.r7.1 f.r7.2.1 f.r7.2.2, .slice f.r8.1 f.r8.2.1 f.r8.2.2] = Fc := ⟨_, rfl⟩
    have hW1 : Below w.heap.size w ((w.alloc (.cells Fc 32)).alloc (.cells #[.slice none 0 0, .slice none 0 0] 39)) := ((Below.refl _ _).alloc (Nat.le_refl _) _).alloc (by simp [World.size_alloc]) _
    have hbw := hB0.size
    have c4 : ((w.alloc (.cells Fc 32)).alloc (.cells #[.slice none 0 0, .slice none 0 0] 39)).cell? ⟨b, o + g * 9 + 3 + 1, none⟩ = _ := (World.cell?_of_block (hW1.block b (by omega))).trans ((World.cell?_of_block (hB0.block b hbl)).trans hc4)
    have c3 : ((w.alloc (.cells Fc 32)).alloc (.cells #[.slice none 0 0, .slice none 0 0] 39)).cell? ⟨b, o + g * 9 + 3, none⟩ = _ := (World.cell?_of_block (hW1.block b (by omega))).trans hc3
    subst hFc
    clear hc3 hc4
    have hs0 := hB0.size
    have q0 : (0 : Int) ≤ (g : Int) := by omega
    have q1 : (g : Int) < (G.length : Int) := by omega
    have HB0 := Lib.hid hB0
    have HC3 := Lib.hid hC3
    have HC4 := Lib.hid hC4
    clear hB0 hC3 hC4
    gi_wp2
    obtain ⟨Fc, hFc⟩ : ∃ Fc : Array Value, Fc = f.cells G.length := ⟨_, rfl⟩
    have hFc' : #[Value.int .i64 f.u, .slice (some ⟨b, o, none⟩) G.length f.c, .slice f.r2.1 f.r2.2.1 f.r2.2.2, .slice f.r3.1 f.r3.2.1 f.r3.2.2, .slice f.r4.1 f.r4.2.1 f.r4.2.2,
  .slice f.r5.1 f.r5.2.1 f.r5.2.2, .slice f.r6.1 f.r6.2.1 f.r6.2.2, .slice f.r7.1 f.r7.2.1 f.r7.2.2, .slice f.r8.1 f.r8.2.1 f.r8.2.2] = Fc := by rw [hFc, Fv.cells, ha]
    rw [hFc']
    have H0 := Lib.hid (((Bx.new w Fc 32).alloc (.cells #[.slice none 0 0, .slice none 0 0] 39)).alloc (.cells #[.slice A (own g).1.length c, .slice A' (own g).2.length c'] 39))
    have h4 := (Bx.new (w.alloc (.cells Fc 32)) #[.slice none 0 0, .slice none 0 0] 39).alloc (.cells #[.slice A (own g).1.length c, .slice A' (own g).2.length c'] 39)
    have h5 := Bx.new ((w.alloc (.cells Fc 32)).alloc (.cells #[.slice none 0 0, .slice none 0 0] 39)) #[.slice A (own g).1.length c, .slice A' (own g).2.length c'] 39
    have hB3 : Below w.heap.size w (((w.alloc (.cells Fc 32)).alloc (.cells #[.slice none 0 0, .slice none 0 0] 39)).alloc (.cells #[.slice A (own g).1.length c, .slice A' (own g).2.length c'] 39)) := (((Below.refl _ _).alloc (Nat.le_refl _) _).alloc (by simp [World.size_alloc]) _).alloc (by simp [World.size_alloc]; omega) _
    have hs3 : (((w.alloc (.cells Fc 32)).alloc (.cells #[.slice none 0 0, .slice none 0 0] 39)).alloc (.cells #[.slice A (own g).1.length c, .slice A' (own g).2.length c'] 39)).heap.size = w.heap.size + 3 := by simp [World.size_alloc]
    simp only [World.size_alloc] at h4 h5
    have H4 := Lib.hid h4
    have H5 := Lib.hid h5
    have HB3 := Lib.hid hB3
    have HS3 := Lib.hid hs3
    have HBW : Hid (Below W0.heap.size W0 _) := HB0.out.trans (hB3.mono HB0.out.size)
    have HFC := Lib.hid hFc
    have HFC' := Lib.hid hFc'
    clear hW1 c4 c3 h4 h5 hB3 hs3 hFc hFc'
    generalize (((w.alloc (.cells Fc 32)).alloc (.cells #[.slice none 0 0, .slice none 0 0] 39)).alloc (.cells #[.slice A (own g).1.length c, .slice A' (own g).2.length c'] 39)) = W3 at H0 H4 H5 HB3 HS3 HBW ⊢
    refine calm_in ?_
    refine start_ (n := 9) (S := fun w' => w'.cell? ⟨(w.heap.size + 1 + 1), 0, none⟩ = some (.slice A (own g).1.length c) ∧ w'.cell? ⟨(w.heap.size + 1 + 1), 1, none⟩ = some (.slice A' (own g).2.length c')) (ds := [8]) #[false, false, false, false, false, false, false, false, false] (by kernel_rfl) rfl rfl ⟨H5.out.cell 0, H5.out.cell 1⟩ (fun hHeld => ?_)
    have HCp := Lib.hid (Kd.C_below HC3.out (below_drew HBW.out))
    have HCe := Lib.hid (Kd.C_below HC4.out (below_drew HBW.out))
    have h5d : Hid (Bx W3.drew (w.heap.size + 1 + 1) #[.slice A (own g).1.length c, .slice A' (own g).2.length c'] 39) := blk_drew H5.out
    have h4d : Hid (Bx W3.drew (w.heap.size + 1) #[.slice none 0 0, .slice none 0 0] 39) := blk_drew H4.out
    have h0d : Hid (Bx W3.drew w.heap.size Fc 32) := blk_drew H0.out
    have hsd : w.heap.size + 3 ≤ W3.drew.heap.size := Nat.le_of_eq HS3.out.symm
    have hB3 : Hid (Below w.heap.size w W3.drew) := HB3.out.drew
    clear H0 H4 H5 HS3 HB3
    generalize W3.drew = wd at hHeld HCp HCe h5d h4d h0d hsd hB3 ⊢
    refine pure_ (i := 0) (N := (some 18)) (v := ?_) (a' := ?_) #[true, false, false, false, false, false, false, false, false] rfl rfl (by kernel_rfl) (fun _ _ _ h => h) (Or.inl ⟨by rfl, ?_⟩) ?_ ?_
    rotate_left
    · intro w'
      go_simp
      with_reducible rfl
    rotate_left
    · simp only [Act.put, List.setIfInBounds_toArray, List.set_cons_zero, List.set_cons_succ, i64_w, i32_w]
      rfl
    refine pure_ (i := 3) (N := (some 21)) (v := ?_) (a' := ?_) #[true, false, false, true, false, false, false, false, false] rfl rfl (by kernel_rfl) (fun _ _ _ h => h) (Or.inl ⟨by rfl, ?_⟩) ?_ ?_
    rotate_left
    · intro w'
      go_simp
      with_reducible rfl
    rotate_left
    · simp only [Act.put, List.setIfInBounds_toArray, List.set_cons_zero, List.set_cons_succ, i64_w, i32_w]
      rfl
    refine take_ (i := 1) (N := (some 19)) (v := ?_) (a' := ?_) #[true, true, false, true, false, false, false, false, false] rfl rfl (by kernel_rfl) (fun _ _ _ h => h) (Or.inl ⟨by rfl, ?_⟩) hHeld ?_ ?_
    rotate_left
    · rintro w' ⟨s0, s1⟩
      go_simp
      with_reducible rfl
    rotate_left
    · simp only [Act.put, List.setIfInBounds_toArray, List.set_cons_zero, List.set_cons_succ, i64_w, i32_w]
      rfl
    refine take_ (i := 4) (N := (some 22)) (v := ?_) (a' := ?_) #[true, true, false, true, true, false, false, false, false] rfl rfl (by kernel_rfl) (fun _ _ _ h => h) (Or.inl ⟨by rfl, ?_⟩) hHeld ?_ ?_
    rotate_left
    · rintro w' ⟨s0, s1⟩
      go_simp
      with_reducible rfl
    rotate_left
    · simp only [Act.put, List.setIfInBounds_toArray, List.set_cons_zero, List.set_cons_succ, i64_w, i32_w]
      rfl
    refine join_ (σ := Option Addr × Nat × Option Addr × Nat × Nat) 1 #[true, true, true, true, true, true, true, true, false] (fun s_ => [(20, .slice s_.1 (own g).1.length s_.2.1), (23, .slice s_.2.2.1 (own g).2.length s_.2.2.2.1), (24, .agg #[.slice s_.1 (own g).1.length s_.2.1, .slice s_.2.2.1 (own g).2.length s_.2.2.2.1]), (6, .pointer (some ⟨s_.2.2.2.2, 0, none⟩))]) (fun s_ w' => (w'.cell? ⟨(w.heap.size + 1 + 1), 0, none⟩ = some (.slice A (own g).1.length c) ∧ w'.cell? ⟨(w.heap.size + 1 + 1), 1, none⟩ = some (.slice A' (own g).2.length c')) ∧ Hid (RP w' wd.heap.size (.slice s_.1 (own g).1.length s_.2.1) (own g).1) ∧ Hid (RI w' wd.heap.size (.slice s_.2.2.1 (own g).2.length s_.2.2.2.1) (own g).2) ∧ Hid (Bx w' s_.2.2.2.2 #[.slice none 0 0, .slice none 0 0] 39) ∧ Hid (Below wd.heap.size wd w') ∧ wd.heap.size ≤ s_.2.2.2.2) ?_ ?_
    rotate_left
    · intro hCont
      refine two_ (i := 2) (j := 7) (Ni := (some 20)) (Nj := (some 6)) #[true, true, true, true, true, false, false, false, false] #[true, true, false, true, true, false, false, true, false] rfl rfl rfl rfl (by kernel_rfl) (by decide) (by decide) (fun K hK => ?_) (fun K hK => ?_)
      · skip
        refine goes_ Try.func46 (by kernel_rfl) rfl #[.slice A (own g).1.length c] (by rfl) rfl rfl (by (try simp only [List.map_toArray, List.map_cons, List.map_nil]); first | done | rfl) ?_
        with_reducible refine (clone46_calls A c (own g).1 wd (Kd.C_below HCp.out (Below.refl _ _)) (by have := HL.out; have := HBG.out; omega)).mono ?_
        rintro e x1 ⟨vP, rfl, hR, hb⟩
        obtain ⟨A3, c3, rfl⟩ := Kd.R_slice hR
        refine ⟨_, rfl, ?_⟩
        have hb1 := Lib.hid hb
        have hHx := held_ hHeld hb
        have HP := Lib.hid hR
        clear hR hb
        refine hK.out _ _ hHx (fun hHeld => ?_)
        clear hK K
        refine norm_ (a' := ?_) ?_ ?_
        rotate_left
        · show Act.put _ (some 20) _ = _
          simp only [Act.put, List.setIfInBounds_toArray, List.set_cons_zero, List.set_cons_succ, i64_w, i32_w]
          rfl
        refine two_ (i := 5) (j := 7) (Ni := (some 23)) (Nj := (some 6)) #[true, true, true, true, true, true, false, false, false] #[true, true, true, true, true, false, false, true, false] rfl rfl rfl rfl (by kernel_rfl) (by decide) (by decide) (fun K hK => ?_) (fun K hK => ?_)
        · skip
          refine goes_ Try.func47 (by kernel_rfl) rfl #[.slice A' (own g).2.length c'] (by rfl) rfl rfl (by (try simp only [List.map_toArray, List.map_cons, List.map_nil]); first | done | rfl) ?_
          with_reducible refine (clone47_calls A' c' (own g).2 x1 (Kd.C_below HCe.out hb1.out) (by have := HL.out; have := HBG.out; omega)).mono ?_
          rintro e x2 ⟨vE, rfl, hR, hb⟩
          obtain ⟨A4, c4, rfl⟩ := Kd.R_slice hR
          refine ⟨_, rfl, ?_⟩
          have hb2 := Lib.hid (hb1.out.trans (hb.mono (bs_ hb1.out)))
          have hHx := held_ hHeld hb
          replace HP := Lib.hid (Kd.R_below HP.out hb)
          have HE := Lib.hid (Kd.R_lower hR (bs_ hb1.out))
          clear hR hb
          refine hK.out _ _ hHx (fun hHeld => ?_)
          clear hK K
          clear hb1
          refine norm_ (a' := ?_) ?_ ?_
          rotate_left
          · show Act.put _ (some 23) _ = _
            simp only [Act.put, List.setIfInBounds_toArray, List.set_cons_zero, List.set_cons_succ, i64_w, i32_w]
            rfl
          refine pure_ (i := 6) (N := (some 24)) (v := ?_) (a' := ?_) #[true, true, true, true, true, true, true, false, false] rfl rfl (by kernel_rfl) (fun _ _ _ h => h) (Or.inl ⟨by rfl, ?_⟩) ?_ ?_
          rotate_left
          · intro w'
            go_simp
            with_reducible rfl
          rotate_left
          · simp only [Act.put, List.setIfInBounds_toArray, List.set_cons_zero, List.set_cons_succ, i64_w, i32_w]
            rfl
          refine one_ (i := 7) (N := (some 6)) #[true, true, true, true, true, true, true, true, false] rfl rfl (by kernel_rfl) (by decide) (fun K hK => ?_)
          refine box_step ?hg (N := 6) ?hd (cs := #[.slice none 0 0, .slice none 0 0]) (t := 39) ?hr ?_; (case hd => rfl); (case hg => rfl); (case hr => first | (go_simp; done) | (go_simp; rfl))
          intro b6 hg6 x3 hbox hb
          have hb3 := Lib.hid (hb2.out.trans (hb.mono (bs_ hb2.out)))
          have hHx := held_ hHeld hb
          replace HP := Lib.hid (Kd.R_below HP.out hb)
          replace HE := Lib.hid (Kd.R_below HE.out hb)
          have HX6 : Hid (Bx x3 b6 #[.slice none 0 0, .slice none 0 0] 39) := hbox
          have HG6 : wd.heap.size ≤ b6 := by rw [hg6]; exact bs_ hb2.out
          clear hbox hb hg6
          refine hK.out _ _ hHx (fun hHeld => ?_)
          clear hK K
          clear hb2
          refine norm_ (a' := ?_) ?_ ?_
          rotate_left
          · show Act.put _ (some 6) _ = _
            simp only [Act.put, List.setIfInBounds_toArray, List.set_cons_zero, List.set_cons_succ, i64_w, i32_w]
            rfl
          exact norm_ (by simp only [putAll, Act.put, List.setIfInBounds_toArray, List.set_cons_zero, List.set_cons_succ]) (hCont (A3, c3, A4, c4, b6) _ ⟨hHeld, HP, HE, HX6, hb3, HG6⟩)
        · skip
          refine box_step ?hg (N := 6) ?hd (cs := #[.slice none 0 0, .slice none 0 0]) (t := 39) ?hr ?_; (case hd => rfl); (case hg => rfl); (case hr => first | (go_simp; done) | (go_simp; rfl))
          intro b6 hg6 x2 hbox hb
          have hb2 := Lib.hid (hb1.out.trans (hb.mono (bs_ hb1.out)))
          have hHx := held_ hHeld hb
          replace HP := Lib.hid (Kd.R_below HP.out hb)
          have HX6 : Hid (Bx x2 b6 #[.slice none 0 0, .slice none 0 0] 39) := hbox
          have HG6 : wd.heap.size ≤ b6 := by rw [hg6]; exact bs_ hb1.out
          clear hbox hb hg6
          refine hK.out _ _ hHx (fun hHeld => ?_)
          clear hK K
          clear hb1
          refine norm_ (a' := ?_) ?_ ?_
          rotate_left
          · show Act.put _ (some 6) _ = _
            simp only [Act.put, List.setIfInBounds_toArray, List.set_cons_zero, List.set_cons_succ, i64_w, i32_w]
            rfl
          refine one_ (i := 5) (N := (some 23)) #[true, true, true, true, true, true, false, true, false] rfl rfl (by kernel_rfl) (by decide) (fun K hK => ?_)
          refine goes_ Try.func47 (by kernel_rfl) rfl #[.slice A' (own g).2.length c'] (by rfl) rfl rfl (by (try simp only [List.map_toArray, List.map_cons, List.map_nil]); first | done | rfl) ?_
          with_reducible refine (clone47_calls A' c' (own g).2 x2 (Kd.C_below HCe.out hb2.out) (by have := HL.out; have := HBG.out; omega)).mono ?_
          rintro e x3 ⟨vE, rfl, hR, hb⟩
          obtain ⟨A4, c4, rfl⟩ := Kd.R_slice hR
          refine ⟨_, rfl, ?_⟩
          have hb3 := Lib.hid (hb2.out.trans (hb.mono (bs_ hb2.out)))
          have hHx := held_ hHeld hb
          replace HP := Lib.hid (Kd.R_below HP.out hb)
          replace HX6 : Hid (Bx x3 b6 #[.slice none 0 0, .slice none 0 0] 39) := blk_below HX6.out hb
          have HE := Lib.hid (Kd.R_lower hR (bs_ hb2.out))
          clear hR hb
          refine hK.out _ _ hHx (fun hHeld => ?_)
          clear hK K
          clear hb2
          refine norm_ (a' := ?_) ?_ ?_
          rotate_left
          · show Act.put _ (some 23) _ = _
            simp only [Act.put, List.setIfInBounds_toArray, List.set_cons_zero, List.set_cons_succ, i64_w, i32_w]
            rfl
          refine pure_ (i := 6) (N := (some 24)) (v := ?_) (a' := ?_) #[true, true, true, true, true, true, true, true, false] rfl rfl (by kernel_rfl) (fun _ _ _ h => h) (Or.inl ⟨by rfl, ?_⟩) ?_ ?_
          rotate_left
          · intro w'
            go_simp
            with_reducible rfl
          rotate_left
          · simp only [Act.put, List.setIfInBounds_toArray, List.set_cons_zero, List.set_cons_succ, i64_w, i32_w]
            rfl
          exact norm_ (by simp only [putAll, Act.put, List.setIfInBounds_toArray, List.set_cons_zero, List.set_cons_succ]) (hCont (A3, c3, A4, c4, b6) _ ⟨hHeld, HP, HE, HX6, hb3, HG6⟩)
      · skip
        refine box_step ?hg (N := 6) ?hd (cs := #[.slice none 0 0, .slice none 0 0]) (t := 39) ?hr ?_; (case hd => rfl); (case hg => rfl); (case hr => first | (go_simp; done) | (go_simp; rfl))
        intro b6 hg6 x1 hbox hb
        have hb1 := Lib.hid hb
        have hHx := held_ hHeld hb
        have HX6 : Hid (Bx x1 b6 #[.slice none 0 0, .slice none 0 0] 39) := hbox
        have HG6 : wd.heap.size ≤ b6 := Nat.le_of_eq hg6.symm
        clear hbox hb hg6
        refine hK.out _ _ hHx (fun hHeld => ?_)
        clear hK K
        refine norm_ (a' := ?_) ?_ ?_
        rotate_left
        · show Act.put _ (some 6) _ = _
          simp only [Act.put, List.setIfInBounds_toArray, List.set_cons_zero, List.set_cons_succ, i64_w, i32_w]
          rfl
        refine one_ (i := 2) (N := (some 20)) #[true, true, true, true, true, false, false, true, false] rfl rfl (by kernel_rfl) (by decide) (fun K hK => ?_)
        refine goes_ Try.func46 (by kernel_rfl) rfl #[.slice A (own g).1.length c] (by rfl) rfl rfl (by (try simp only [List.map_toArray, List.map_cons, List.map_nil]); first | done | rfl) ?_
        with_reducible refine (clone46_calls A c (own g).1 x1 (Kd.C_below HCp.out hb1.out) (by have := HL.out; have := HBG.out; omega)).mono ?_
        rintro e x2 ⟨vP, rfl, hR, hb⟩
        obtain ⟨A3, c3, rfl⟩ := Kd.R_slice hR
        refine ⟨_, rfl, ?_⟩
        have hb2 := Lib.hid (hb1.out.trans (hb.mono (bs_ hb1.out)))
        have hHx := held_ hHeld hb
        replace HX6 : Hid (Bx x2 b6 #[.slice none 0 0, .slice none 0 0] 39) := blk_below HX6.out hb
        have HP := Lib.hid (Kd.R_lower hR (bs_ hb1.out))
        clear hR hb
        refine hK.out _ _ hHx (fun hHeld => ?_)
        clear hK K
        clear hb1
        refine norm_ (a' := ?_) ?_ ?_
        rotate_left
        · show Act.put _ (some 20) _ = _
          simp only [Act.put, List.setIfInBounds_toArray, List.set_cons_zero, List.set_cons_succ, i64_w, i32_w]
          rfl
        refine one_ (i := 5) (N := (some 23)) #[true, true, true, true, true, true, false, true, false] rfl rfl (by kernel_rfl) (by decide) (fun K hK => ?_)
        refine goes_ Try.func47 (by kernel_rfl) rfl #[.slice A' (own g).2.length c'] (by rfl) rfl rfl (by (try simp only [List.map_toArray, List.map_cons, List.map_nil]); first | done | rfl) ?_
        with_reducible refine (clone47_calls A' c' (own g).2 x2 (Kd.C_below HCe.out hb2.out) (by have := HL.out; have := HBG.out; omega)).mono ?_
        rintro e x3 ⟨vE, rfl, hR, hb⟩
        obtain ⟨A4, c4, rfl⟩ := Kd.R_slice hR
        refine ⟨_, rfl, ?_⟩
        have hb3 := Lib.hid (hb2.out.trans (hb.mono (bs_ hb2.out)))
        have hHx := held_ hHeld hb
        replace HP := Lib.hid (Kd.R_below HP.out hb)
        replace HX6 : Hid (Bx x3 b6 #[.slice none 0 0, .slice none 0 0] 39) := blk_below HX6.out hb
        have HE := Lib.hid (Kd.R_lower hR (bs_ hb2.out))
        clear hR hb
        refine hK.out _ _ hHx (fun hHeld => ?_)
        clear hK K
        clear hb2
        refine norm_ (a' := ?_) ?_ ?_
        rotate_left
        · show Act.put _ (some 23) _ = _
          simp only [Act.put, List.setIfInBounds_toArray, List.set_cons_zero, List.set_cons_succ, i64_w, i32_w]
          rfl
        refine pure_ (i := 6) (N := (some 24)) (v := ?_) (a' := ?_) #[true, true, true, true, true, true, true, true, false] rfl rfl (by kernel_rfl) (fun _ _ _ h => h) (Or.inl ⟨by rfl, ?_⟩) ?_ ?_
        rotate_left
        · intro w'
          go_simp
          with_reducible rfl
        rotate_left
        · simp only [Act.put, List.setIfInBounds_toArray, List.set_cons_zero, List.set_cons_succ, i64_w, i32_w]
          rfl
        exact norm_ (by simp only [putAll, Act.put, List.setIfInBounds_toArray, List.set_cons_zero, List.set_cons_succ]) (hCont (A3, c3, A4, c4, b6) _ ⟨hHeld, HP, HE, HX6, hb3, HG6⟩)
    rintro ⟨A3, c3, A4, c4, b6⟩ wx ⟨hHeld, HP, HE, HX6, hbx, HG6⟩
    simp only at HP HE HX6 HG6
    refine norm_ (a' := ?_) ?_ ?_
    rotate_left
    · simp only [putAll, Act.put, List.setIfInBounds_toArray, List.set_cons_zero, List.set_cons_succ]
      rfl
    have z0 := HX6.out.cell 0
    have z1 := HX6.out.cell 1
    have y0 := HX6.out.frozen 0
    have y1 := HX6.out.frozen 1
    refine last_ (i := 8) (N := none) #[true, true, true, true, true, true, true, true, true] rfl rfl (by kernel_rfl) (by decide) (fun K hK => ?_)
    refine skip_ (w1 := ?_) (by rfl) rfl ?_ ?_
    rotate_left
    · go_simp
      rfl
    refine hK.out _ _ ?_
    clear hK K
    refine done_ (by kernel_rfl) ?_
    have q1 := blk_put (cs' := #[.slice A3 (own g).1.length c3, .slice none 0 0]) HX6.out 0 (.slice A3 (own g).1.length c3) rfl
    have q2 := blk_put (cs' := #[.slice A3 (own g).1.length c3, .slice A4 (own g).2.length c4]) q1 1 (.slice A4 (own g).2.length c4) rfl
    have hBz : Below w.heap.size w ((wx.setCell ⟨b6, 0, none⟩ (.slice A3 (own g).1.length c3)).setCell ⟨b6, 1, none⟩ (.slice A4 (own g).2.length c4)) := below_set (below_set (hB3.out.trans (hbx.out.mono hB3.out.size)) (by omega)) (by omega)
    have hJ : JoinI w b6 Fc (own g) A3 c3 A4 c4 ((wx.setCell ⟨b6, 0, none⟩ (.slice A3 (own g).1.length c3)).setCell ⟨b6, 1, none⟩ (.slice A4 (own g).2.length c4)) :=
      ⟨q2, Kd.R_lower (Kd.R_set (Kd.R_set HP.out HX6.out (by decide) 0 _) q1 (by decide) 1 _) (by omega), Kd.R_lower (Kd.R_set (Kd.R_set HE.out HX6.out (by decide) 0 _) q1 (by decide) 1 _) (by omega),
        blk_far (p := ⟨b6, 1, none⟩) (blk_far (p := ⟨b6, 0, none⟩) (blk_below h0d.out hbx.out) (by simp; omega) _) (by simp; omega) _, blk_far (p := ⟨b6, 1, none⟩) (blk_far (p := ⟨b6, 0, none⟩) (blk_below h4d.out hbx.out) (by simp; omega) _) (by simp; omega) _, hBz⟩
    generalize (wx.setCell ⟨b6, 0, none⟩ (.slice A3 (own g).1.length c3)).setCell ⟨b6, 1, none⟩ (.slice A4 (own g).2.length c4) = wz at hJ hBz ⊢
    have hF0 := HFC.out
    subst hF0
    have h6w : w.heap.size + 1 < b6 := by omega
    clear HFC' HFC q1 q2 z0 z1 y0 y1 HX6 HP HE hHeld hbx HCp HCe h0d h4d h5d hsd
    have f0 := hJ.bx0.cell 0
    have f1 := hJ.bx0.cell 1
    have f2 := hJ.bx0.cell 2
    have f3 := hJ.bx0.cell 3
    have f4 := hJ.bx0.cell 4
    have f5 := hJ.bx0.cell 5
    have f6 := hJ.bx0.cell 6
    have f7 := hJ.bx0.cell 7
    have f8 := hJ.bx0.cell 8
    simp only [Fv.cells] at f0 f1 f2 f3 f4 f5 f6 f7 f8
    refine calm_n ?_
    have hpi := parts_in Fence.wide (6 - 1) trivial rfl f G.length g wz
    have hbf := (Bx.new wz (f.cells G.length) 32).alloc (.cells #[.int .i64 g] 3)
    have hbg7 := Bx.new (wz.alloc (.cells (f.cells G.length) 32)) #[.int .i64 g] 3
    have hB7 : Below wz.heap.size wz ((wz.alloc (.cells (f.cells G.length) 32)).alloc (.cells #[.int .i64 g] 3)) := ((Below.refl _ _).alloc (Nat.le_refl _) _).alloc (by simp [World.size_alloc]) _
    have hs7 : ((wz.alloc (.cells (f.cells G.length) 32)).alloc (.cells #[.int .i64 g] 3)).heap.size = wz.heap.size + 2 := by simp [World.size_alloc]
    rw [World.size_alloc] at hbg7
    obtain ⟨W7, hW7⟩ : ∃ W7, ((wz.alloc (.cells (f.cells G.length) 32)).alloc (.cells #[.int .i64 g] 3)) = W7 := ⟨_, rfl⟩
    rw [hW7] at hpi hbf hbg7 hB7 hs7
    clear hW7
    have hJ7 := hJ.below hB7
    have HJ7 := Lib.hid hJ7
    have HBF := Lib.hid hbf
    have HBG7 := Lib.hid hbg7
    have HS7 := Lib.hid hs7
    have HJz := Lib.hid hJ
    have HB7 := Lib.hid hB7
    clear hJ hJ7 hbf hbg7 hs7 hB7
    simp only [Fv.cells] at hpi
    rw [ha] at hpi
    gi_wp2_with (refine ⟨trivial, ?_⟩; gi_at_call 23; refine hpi.mono ?_; rintro e w' ⟨rfl, rfl⟩)
    clear hpi
    have hG7 : GlyphsAt W0.heap.size w' f.a G := hG.below (fun k hk => ((HB0.out.trans (HJ7.out.bel.mono hs0)).block k hk)) (Nat.le_refl _)
    have hkids : kids G g = (flt G.length G[g]).map gn := by simp [kids, hg]
    have hzs := HJz.out.bel.size
    have h7s := HS7.out
    obtain ⟨Gl, hGl, hpl⟩ : ∃ L, G[g].length = L ∧ L ≤ 1000000 := by
      obtain ⟨_, _, _, _, _, _, _, h, _⟩ := hG g hg
      exact ⟨_, rfl, h⟩
    have hfl : (flt G.length G[g]).length ≤ 1000000 := by
      have : (flt G.length G[g]).length ≤ G[g].length := List.length_filterMap_le _ _
      omega
    refine wpIn_rangeFunc_ownH rfl (by omega) (gf := 38) (lb := #[.pointer (some ⟨wz.heap.size, 0, none⟩), .pointer (some ⟨wz.heap.size + 1, 0, none⟩)]) rfl trivial (enters_of Try.func38 (by kernel_rfl) rfl)
      (parts_stopsK Fence.wide (6 - 1) trivial trivial rfl (by omega) wz.heap.size (wz.heap.size + 1) W0.heap.size (Kept W0.heap.size wz.heap.size) (fun _ _ h => h) f G g hg w' (by omega) HBF.out HBG7.out hG7)
      Kept.trans ?kb (Below.refl _ _) (fun _ => rfl)
      (fun pre W => ∃ A3 c3 A4 c4, JoinI w b6 (f.cells G.length) (accO G own g pre) A3 c3 A4 c4 W ∧ Bx W wz.heap.size (f.cells G.length) 32 ∧ w'.heap.size ≤ W.heap.size)
      (fun _ _ _ => False)
      (fun pre X Y row hs hg hr => by obtain ⟨A3, c3, A4, c4, h1, h2, h3⟩ := hs; exact ⟨A3, c3, A4, c4, h1.own (by omega) hg hr, Bx.own () X Y row h2 hg hr, Nat.le_trans h3 hg.size⟩)
      (fun _ _ _ _ _ hs _ _ => hs)
      ⟨A3, c3, A4, c4, HJ7.out, HBF.out, Nat.le_refl _⟩
      (fun x a' W => ∃ b7, w'.heap.size ≤ b7 ∧ Bx W b7 #[.int .i64 x.1.1.1, .int .i64 x.1.1.2.1, .int .i64 x.1.1.2.2] 48 ∧ a' = { tmps := #[.agg (f.cells G.length), .int .i64 g, .pointer (some ⟨w.heap.size, 0, none⟩), undef, .pointer (some ⟨w.heap.size + 1, 0, none⟩), .pointer (some ⟨w.heap.size + 1 + 1, 0, none⟩), .pointer (some ⟨b6, 0, none⟩), .pointer (some ⟨b7, 0, none⟩), undef, undef, undef, undef, .pointer (some ⟨w.heap.size, 1, none⟩), .slice (some ⟨b, o, none⟩) G.length f.c, .int .i64 g, .pointer (some ⟨b, o + g * 9, none⟩), .pointer (some ⟨b, o + g * 9 + 3, none⟩), .agg #[.slice A (own g).1.length c, .slice A' (own g).2.length c'], .pointer (some ⟨w.heap.size + 1 + 1, 0, none⟩), .slice A (own g).1.length c, .slice A3 (own g).1.length c3, .pointer (some ⟨w.heap.size + 1 + 1, 1, none⟩), .slice A' (own g).2.length c', .slice A4 (own g).2.length c4, .agg #[.slice A3 (own g).1.length c3, .slice A4 (own g).2.length c4], .agg #[.int .i64 f.u, .slice (some ⟨b, o, none⟩) G.length f.c, .slice f.r2.1 f.r2.2.1 f.r2.2.2, .slice f.r3.1 f.r3.2.1 f.r3.2.2, .slice f.r4.1 f.r4.2.1 f.r4.2.2, .slice f.r5.1 f.r5.2.1 f.r5.2.2, .slice f.r6.1 f.r6.2.1 f.r6.2.2, .slice f.r7.1 f.r7.2.1 f.r7.2.2, .slice f.r8.1 f.r8.2.1 f.r8.2.2], .int .i64 g, .func (.func 38) #[] #[.pointer (some ⟨wz.heap.size, 0, none⟩), .pointer (some ⟨wz.heap.size + 1, 0, none⟩)], ptV x.1.1, undef, undef, undef, undef, undef, undef, undef, undef, undef, undef, undef, undef, undef, undef, undef, undef, undef, undef, undef, undef, undef, undef, undef, undef, undef, undef, undef, undef, undef, undef, undef, undef, undef, undef, undef], defers := [] })
      (fun x a' _ X Y row hs hg hr => by obtain ⟨b, h1, h2, h3⟩ := hs; exact ⟨b, h1, Bx.own () X Y row h2 hg hr, h3⟩)
      ?assign ?body ?done ?stop
    case kb =>
      intro W l o o' hl h h1 h2
      have hl0 := (Array.getElem?_eq_some_iff.1 h).1
      exact ⟨by simp, fun k hk => World.putObj_heap_other (by omega)⟩
    case assign =>
      rintro l pre x W K ⟨A3, c3, A4, c4, h1, h2, h3⟩ hK
      simp only [ptV]
      gi_wp2
      exact hK _ _ ((KeepsOthers.alloc _ _).from _) ((Kept.refl _ _ W).alloc (by omega) (by omega) _) ⟨A3, c3, A4, c4, h1.below ((Below.refl _ _).alloc (Nat.le_refl _) _), h2.alloc _, by rw [World.size_alloc]; omega⟩ ⟨W.heap.size, h3, Bx.new _ _ _, rfl⟩
    case done =>
      rintro D zs W hD hzs' ⟨A3, c3, A4, c4, h1, h2, h3⟩ hK
      have hjz : accO G own g zs = jd G own g := by
        have e1 := HJ.out
        rw [List.getD_eq_getElem?_getD, List.getElem?_eq_getElem hg] at e1
        have e2 : jd G own g = (zs.map (·.1)).foldl (fun o x => addPart o x.1.2.1 x.1.2.2 (jd G own (gn x))) (own g) := by rw [hzs']; exact e1
        rw [e2, List.foldl_map]
        rfl
      rw [hjz] at h1
      have c0 := h1.bx6.cell 0
      have c1 := h1.bx6.cell 1
      have z0 := h1.bx1.cell 0
      have z1 := h1.bx1.cell 1
      have y0 := h1.bx1.frozen 0
      have y1 := h1.bx1.frozen 1
      gi_wp2
      have hDl : D < W.heap.size := (Array.getElem?_eq_some_iff.1 hK).1
      have q1 := blk_put (cs' := #[.slice A3 (jd G own g).1.length c3, .slice none 0 0]) h1.bx1 0 (.slice A3 (jd G own g).1.length c3) rfl
      have q2 := blk_put (cs' := #[.slice A3 (jd G own g).1.length c3, .slice A4 (jd G own g).2.length c4]) q1 1 (.slice A4 (jd G own g).2.length c4) rfl
      have r1 := Kd.R_set (Kd.R_set h1.rp h1.bx1 (by decide) 0 (.slice A3 (jd G own g).1.length c3)) q1 (by decide) 1 (.slice A4 (jd G own g).2.length c4)
      have r2 := Kd.R_set (Kd.R_set h1.ri h1.bx1 (by decide) 0 (.slice A3 (jd G own g).1.length c3)) q1 (by decide) 1 (.slice A4 (jd G own g).2.length c4)
      have hb2 : Below w.heap.size w ((W.setCell ⟨w.heap.size + 1, 0, none⟩ (.slice A3 (jd G own g).1.length c3)).setCell ⟨w.heap.size + 1, 1, none⟩ (.slice A4 (jd G own g).2.length c4)) := below_set (below_set h1.bel (by omega)) (by omega)
      have hK' : ((W.setCell ⟨w.heap.size + 1, 0, none⟩ (.slice A3 (jd G own g).1.length c3)).setCell ⟨w.heap.size + 1, 1, none⟩ (.slice A4 (jd G own g).2.length c4)).heap[D]? = some (.deferred (some [])) :=
        (Below.heap_setCell _ _ _ D (by simp; omega)).trans ((Below.heap_setCell _ _ _ D (by simp; omega)).trans hK)
      generalize (W.setCell ⟨w.heap.size + 1, 0, none⟩ (.slice A3 (jd G own g).1.length c3)).setCell ⟨w.heap.size + 1, 1, none⟩ (.slice A4 (jd G own g).2.length c4) = W2 at q2 r1 r2 hb2 hK' ⊢
      refine ⟨by simp, .inl ⟨_, _, rfl, run_takeDeferred hK', ?_⟩⟩
      have hnc : ∀ r, some D = some r → w.heap.size ≤ r ∧ ∃ o : Obj, W2.heap[r]? = some o ∧ o.isCells = false := fun r e => by injection e with e; subst e; exact ⟨by omega, _, hK', rfl⟩
      refine ⟨_, results_cell_row rfl _ _ (w.heap.size + 1) 39 #[.slice A3 (jd G own g).1.length c3, .slice A4 (jd G own g).2.length c4] (0, 0) _ rfl ((World.putObj_heap_other (by omega)).trans q2) Try.underlying39 rfl (by kernel_rfl), _, _, rfl, R_notcells r1 (grownBy_putObj' W2 D _) hnc, R_notcells r2 (grownBy_putObj' W2 D _) hnc, ?_⟩
      have hg := grownBy_putObj' W2 D (.deferred none)
      exact ⟨hb2.os, hb2.tape, hb2.output, by simp; exact hb2.size, fun k hk => (World.putObj_heap_other (by omega)).trans (hb2.block k hk)⟩
    case stop =>
      rintro D c pre W _ _ h _
      exact h.elim
    case body =>
      rintro l pre x a' W hl _ ⟨A3, c3, A4, c4, h1, h2, h3⟩ ⟨b7, hb7, hbx7, rfl⟩ hpN
      have hxk : gn x.1 ∈ kids G g := by rw [hkids]; exact List.mem_map.2 ⟨x.1, x.2, rfl⟩
      have hTx := hk g hTg _ hxk
      have hrk := rk_lt hxk (hn _ hTx)
      have hih : Hid (∀ wc, Below W0.heap.size W0 wc → Calls Try.prog 34 #[.agg (f.cells G.length), .int .i64 x.1.1.1] wc (OlP (jd G own (gn x.1)) wc)) := fun wc hB => by
        have := ih (gn x.1) wc (by omega) hTx hB
        rw [← gn_eq] at this
        exact this
      have hbT := Lib.hid hb
      have hW0 : Hid (∀ wc : World, Below W.drew.heap.size W.drew wc → Below W0.heap.size W0 wc) := fun wc hB => (HB0.out.trans (h1.bel.mono hs0)).trans (Below.trans (below_drew (Below.refl _ _)) (hB.mono (by have := h1.bel.size; show W0.heap.size ≤ W.heap.size; omega)))
      clear ih ha
      have hWs := h3
      simp only [ptV]
      gi_wp2
      refine start_in (m := 11) (S := fun w1 => Bx w1 w.heap.size (f.cells G.length) 32 ∧ Bx w1 b7 #[.int .i64 x.1.1.1, .int .i64 x.1.1.2.1, .int .i64 x.1.1.2.2] 48) (ds := [10]) #[false, false, false, false, false, false, false, false, false, false, false] (by kernel_rfl) (by kernel_rfl) rfl rfl ⟨blk_drew h1.bx0, blk_drew hbx7⟩ (fun hHeld => ?_)
      have hJd := Lib.hid (h1.below (W' := W.drew) (below_drew (Below.refl _ _)))
      have hXf : Hid (Bx W.drew wz.heap.size (f.cells G.length) 32) := blk_drew h2
      have hWd : Hid (Below W.heap.size W W.drew) := below_drew (Below.refl _ _)
      have hWbel := Lib.hid h1.bel
      have hWf := Lib.hid h2
      clear h1 h2 hbx7
      generalize W.drew = wd at hHeld hJd hXf hWd hW0 ⊢
      have hwds := hWd.out.size
      refine take_ (i := 0) (N := (some 29)) (v := ?_) (a' := ?_) #[true, false, false, false, false, false, false, false, false, false, false] rfl rfl (by kernel_rfl) (fun _ _ _ h => h) (Or.inl ⟨by rfl, ?_⟩) hHeld ?_ ?_
      rotate_left
      · rintro w' ⟨s0, s1⟩
        have t0 := s0.cell 0
        have t1 := s0.cell 1
        have t2 := s0.cell 2
        have t3 := s0.cell 3
        have t4 := s0.cell 4
        have t5 := s0.cell 5
        have t6 := s0.cell 6
        have t7 := s0.cell 7
        have t8 := s0.cell 8
        simp only [Fv.cells] at t0 t1 t2 t3 t4 t5 t6 t7 t8
        go_simp
        with_reducible rfl
      rotate_left
      · simp only [Act.put, List.setIfInBounds_toArray, List.set_cons_zero, List.set_cons_succ, i64_w, i32_w]
        rfl
      refine pure_ (i := 1) (N := (some 30)) (v := ?_) (a' := ?_) #[true, true, false, false, false, false, false, false, false, false, false] rfl rfl (by kernel_rfl) (fun _ _ _ h => h) (Or.inl ⟨by rfl, ?_⟩) ?_ ?_
      rotate_left
      · intro w'
        go_simp
        with_reducible rfl
      rotate_left
      · simp only [Act.put, List.setIfInBounds_toArray, List.set_cons_zero, List.set_cons_succ, i64_w, i32_w]
        rfl
      refine take_ (i := 2) (N := (some 31)) (v := ?_) (a' := ?_) #[true, true, true, false, false, false, false, false, false, false, false] rfl rfl (by kernel_rfl) (fun _ _ _ h => h) (Or.inl ⟨by rfl, ?_⟩) hHeld ?_ ?_
      rotate_left
      · rintro w' ⟨s0, s1⟩
        have t0 := s1.cell 0
        skip
        go_simp
        with_reducible rfl
      rotate_left
      · simp only [Act.put, List.setIfInBounds_toArray, List.set_cons_zero, List.set_cons_succ, i64_w, i32_w]
        rfl
      refine pure_ (i := 4) (N := (some 33)) (v := ?_) (a' := ?_) #[true, true, true, false, true, false, false, false, false, false, false] rfl rfl (by kernel_rfl) (fun _ _ _ h => h) (Or.inl ⟨by rfl, ?_⟩) ?_ ?_
      rotate_left
      · intro w'
        go_simp
        with_reducible rfl
      rotate_left
      · simp only [Act.put, List.setIfInBounds_toArray, List.set_cons_zero, List.set_cons_succ, i64_w, i32_w]
        rfl
      refine take_ (i := 5) (N := (some 34)) (v := ?_) (a' := ?_) #[true, true, true, false, true, true, false, false, false, false, false] rfl rfl (by kernel_rfl) (fun _ _ _ h => h) (Or.inl ⟨by rfl, ?_⟩) hHeld ?_ ?_
      rotate_left
      · rintro w' ⟨s0, s1⟩
        have t1 := s1.cell 1
        skip
        go_simp
        with_reducible rfl
      rotate_left
      · simp only [Act.put, List.setIfInBounds_toArray, List.set_cons_zero, List.set_cons_succ, i64_w, i32_w]
        rfl
      refine pure_ (i := 6) (N := (some 35)) (v := ?_) (a' := ?_) #[true, true, true, false, true, true, true, false, false, false, false] rfl rfl (by kernel_rfl) (fun _ _ _ h => h) (Or.inl ⟨by rfl, ?_⟩) ?_ ?_
      rotate_left
      · intro w'
        go_simp
        with_reducible rfl
      rotate_left
      · simp only [Act.put, List.setIfInBounds_toArray, List.set_cons_zero, List.set_cons_succ, i64_w, i32_w]
        rfl
      refine take_ (i := 7) (N := (some 36)) (v := ?_) (a' := ?_) #[true, true, true, false, true, true, true, true, false, false, false] rfl rfl (by kernel_rfl) (fun _ _ _ h => h) (Or.inl ⟨by rfl, ?_⟩) hHeld ?_ ?_
      rotate_left
      · rintro w' ⟨s0, s1⟩
        have t2 := s1.cell 2
        skip
        go_simp
        with_reducible rfl
      rotate_left
      · simp only [Act.put, List.setIfInBounds_toArray, List.set_cons_zero, List.set_cons_succ, i64_w, i32_w]
        rfl
      refine join_ (σ := Value × Option Addr × Nat × Option Addr × Nat × Nat) 1 #[true, true, true, true, true, true, true, true, true, true, false] (fun s_ => [(32, s_.1), (37, .agg #[.slice s_.2.1 ((jd G own (gn x.1)).1.map (shiftP x.1.1.2.1 x.1.1.2.2)).length s_.2.2.1, .slice s_.2.2.2.1 (jd G own (gn x.1)).2.length s_.2.2.2.2.1]), (8, .pointer (some ⟨s_.2.2.2.2.2, 0, none⟩))]) (fun s_ w' => (Bx w' w.heap.size (f.cells G.length) 32 ∧ Bx w' b7 #[.int .i64 x.1.1.1, .int .i64 x.1.1.2.1, .int .i64 x.1.1.2.2] 48) ∧ Hid (RP w' wd.heap.size (.slice s_.2.1 ((jd G own (gn x.1)).1.map (shiftP x.1.1.2.1 x.1.1.2.2)).length s_.2.2.1) ((jd G own (gn x.1)).1.map (shiftP x.1.1.2.1 x.1.1.2.2))) ∧ Hid (RI w' wd.heap.size (.slice s_.2.2.2.1 (jd G own (gn x.1)).2.length s_.2.2.2.2.1) (jd G own (gn x.1)).2) ∧ Hid (Bx w' s_.2.2.2.2.2 #[.slice none 0 0, .slice none 0 0] 39) ∧ Hid (Below wd.heap.size wd w') ∧ wd.heap.size ≤ s_.2.2.2.2.2) ?_ ?_
      rotate_left
      · intro hCont
        refine two_ (i := 3) (j := 9) (Ni := (some 32)) (Nj := (some 8)) #[true, true, true, true, true, true, true, true, false, false, false] #[true, true, true, false, true, true, true, true, false, true, false] rfl rfl rfl rfl (by kernel_rfl) (by decide) (by decide) (fun K hK => ?_) (fun K hK => ?_)
        · skip
          refine goes_ Try.func34 (by kernel_rfl) rfl #[.agg (f.cells G.length), .int .i64 x.1.1.1] (by rfl) rfl rfl (by (try simp only [List.map_toArray, List.map_cons, List.map_nil]); first | done | rfl) ?_
          with_reducible refine (hih.out wd (hW0.out wd (Below.refl _ _))).mono ?_
          rintro e x1 ⟨vP, vE, rfl, hR, hR', hb⟩
          obtain ⟨A5, c5, rfl⟩ := Kd.R_slice hR
          obtain ⟨A6, c6, rfl⟩ := Kd.R_slice hR'
          refine ⟨_, rfl, ?_⟩
          have hb1 := Lib.hid hb
          have hHx : Bx x1 w.heap.size (f.cells G.length) 32 ∧ Bx x1 b7 #[.int .i64 x.1.1.1, .int .i64 x.1.1.2.1, .int .i64 x.1.1.2.2] 48 := ⟨blk_below hHeld.1 hb, blk_below hHeld.2 hb⟩
          have HP := Lib.hid hR
          have HE := Lib.hid hR'
          clear hR hR' hb
          refine hK.out _ _ hHx (fun hHeld => ?_)
          clear hK K
          refine norm_ (a' := ?_) ?_ ?_
          rotate_left
          · show Act.put _ (some 32) _ = _
            simp only [Act.put, List.setIfInBounds_toArray, List.set_cons_zero, List.set_cons_succ, i64_w, i32_w]
            rfl
          refine two_ (i := 8) (j := 9) (Ni := (some 37)) (Nj := (some 8)) #[true, true, true, true, true, true, true, true, true, false, false] #[true, true, true, true, true, true, true, true, false, true, false] rfl rfl rfl rfl (by kernel_rfl) (by decide) (by decide) (fun K hK => ?_) (fun K hK => ?_)
          · skip
            refine goes_ Try.func48 (by kernel_rfl) rfl #[.agg #[.slice A5 (jd G own (gn x.1)).1.length c5, .slice A6 (jd G own (gn x.1)).2.length c6], .int .i64 x.1.1.2.1, .int .i64 x.1.1.2.2] (by rfl) rfl rfl (by (try simp only [List.map_toArray, List.map_cons, List.map_nil]); first | done | rfl) ?_
            with_reducible refine (Moved_calls A5 A6 c5 c6 (jd G own (gn x.1)).1 (jd G own (gn x.1)).2 x.1.1.2.1 x.1.1.2.2 x1 (r_c HP.out) (r_c HE.out) (hbT.out _ hTx).1 (hbT.out _ hTx).2).mono ?_
            rintro e x2 ⟨vP, vE, rfl, hR, hR', hb⟩
            obtain ⟨A7, c7, rfl⟩ := Kd.R_slice hR
            obtain ⟨A8, c8, rfl⟩ := Kd.R_slice hR'
            refine ⟨_, rfl, ?_⟩
            clear HP HE
            have hb2 := Lib.hid (hb1.out.trans (hb.mono (bs_ hb1.out)))
            have hHx : Bx x2 w.heap.size (f.cells G.length) 32 ∧ Bx x2 b7 #[.int .i64 x.1.1.1, .int .i64 x.1.1.2.1, .int .i64 x.1.1.2.2] 48 := ⟨blk_below hHeld.1 hb, blk_below hHeld.2 hb⟩
            have HM := Lib.hid (Kd.R_lower hR (bs_ hb1.out))
            have HN := Lib.hid (Kd.R_lower hR' (bs_ hb1.out))
            clear hR hR' hb
            refine hK.out _ _ hHx (fun hHeld => ?_)
            clear hK K
            clear hb1
            refine norm_ (a' := ?_) ?_ ?_
            rotate_left
            · show Act.put _ (some 37) _ = _
              simp only [Act.put, List.setIfInBounds_toArray, List.set_cons_zero, List.set_cons_succ, i64_w, i32_w]
              rfl
            refine one_ (i := 9) (N := (some 8)) #[true, true, true, true, true, true, true, true, true, true, false] rfl rfl (by kernel_rfl) (by decide) (fun K hK => ?_)
            refine box_step ?hg (N := 8) ?hd (cs := #[.slice none 0 0, .slice none 0 0]) (t := 39) ?hr ?_; (case hd => rfl); (case hg => rfl); (case hr => first | (go_simp; done) | (go_simp; rfl))
            intro b8 hg8 x3 hbox hb
            have hb3 := Lib.hid (hb2.out.trans (hb.mono (bs_ hb2.out)))
            have hHx : Bx x3 w.heap.size (f.cells G.length) 32 ∧ Bx x3 b7 #[.int .i64 x.1.1.1, .int .i64 x.1.1.2.1, .int .i64 x.1.1.2.2] 48 := ⟨blk_below hHeld.1 hb, blk_below hHeld.2 hb⟩
            replace HM := Lib.hid (Kd.R_below HM.out hb)
            replace HN := Lib.hid (Kd.R_below HN.out hb)
            have HX8 : Hid (Bx x3 b8 #[.slice none 0 0, .slice none 0 0] 39) := hbox
            have HG8 : wd.heap.size ≤ b8 := by rw [hg8]; exact bs_ hb2.out
            clear hbox hb hg8
            refine hK.out _ _ hHx (fun hHeld => ?_)
            clear hK K
            clear hb2
            refine norm_ (a' := ?_) ?_ ?_
            rotate_left
            · show Act.put _ (some 8) _ = _
              simp only [Act.put, List.setIfInBounds_toArray, List.set_cons_zero, List.set_cons_succ, i64_w, i32_w]
              rfl
            exact norm_ (by simp only [putAll, Act.put, List.setIfInBounds_toArray, List.set_cons_zero, List.set_cons_succ]) (hCont (.agg #[.slice A5 (jd G own (gn x.1)).1.length c5, .slice A6 (jd G own (gn x.1)).2.length c6], A7, c7, A8, c8, b8) _ ⟨hHeld, HM, HN, HX8, hb3, HG8⟩)
          · skip
            refine box_step ?hg (N := 8) ?hd (cs := #[.slice none 0 0, .slice none 0 0]) (t := 39) ?hr ?_; (case hd => rfl); (case hg => rfl); (case hr => first | (go_simp; done) | (go_simp; rfl))
            intro b8 hg8 x2 hbox hb
            have hb2 := Lib.hid (hb1.out.trans (hb.mono (bs_ hb1.out)))
            have hHx : Bx x2 w.heap.size (f.cells G.length) 32 ∧ Bx x2 b7 #[.int .i64 x.1.1.1, .int .i64 x.1.1.2.1, .int .i64 x.1.1.2.2] 48 := ⟨blk_below hHeld.1 hb, blk_below hHeld.2 hb⟩
            replace HP := Lib.hid (Kd.R_below HP.out hb)
            replace HE := Lib.hid (Kd.R_below HE.out hb)
            have HX8 : Hid (Bx x2 b8 #[.slice none 0 0, .slice none 0 0] 39) := hbox
            have HG8 : wd.heap.size ≤ b8 := by rw [hg8]; exact bs_ hb1.out
            clear hbox hb hg8
            refine hK.out _ _ hHx (fun hHeld => ?_)
            clear hK K
            clear hb1
            refine norm_ (a' := ?_) ?_ ?_
            rotate_left
            · show Act.put _ (some 8) _ = _
              simp only [Act.put, List.setIfInBounds_toArray, List.set_cons_zero, List.set_cons_succ, i64_w, i32_w]
              rfl
            refine one_ (i := 8) (N := (some 37)) #[true, true, true, true, true, true, true, true, true, true, false] rfl rfl (by kernel_rfl) (by decide) (fun K hK => ?_)
            refine goes_ Try.func48 (by kernel_rfl) rfl #[.agg #[.slice A5 (jd G own (gn x.1)).1.length c5, .slice A6 (jd G own (gn x.1)).2.length c6], .int .i64 x.1.1.2.1, .int .i64 x.1.1.2.2] (by rfl) rfl rfl (by (try simp only [List.map_toArray, List.map_cons, List.map_nil]); first | done | rfl) ?_
            with_reducible refine (Moved_calls A5 A6 c5 c6 (jd G own (gn x.1)).1 (jd G own (gn x.1)).2 x.1.1.2.1 x.1.1.2.2 x2 (r_c HP.out) (r_c HE.out) (hbT.out _ hTx).1 (hbT.out _ hTx).2).mono ?_
            rintro e x3 ⟨vP, vE, rfl, hR, hR', hb⟩
            obtain ⟨A7, c7, rfl⟩ := Kd.R_slice hR
            obtain ⟨A8, c8, rfl⟩ := Kd.R_slice hR'
            refine ⟨_, rfl, ?_⟩
            clear HP HE
            have hb3 := Lib.hid (hb2.out.trans (hb.mono (bs_ hb2.out)))
            have hHx : Bx x3 w.heap.size (f.cells G.length) 32 ∧ Bx x3 b7 #[.int .i64 x.1.1.1, .int .i64 x.1.1.2.1, .int .i64 x.1.1.2.2] 48 := ⟨blk_below hHeld.1 hb, blk_below hHeld.2 hb⟩
            replace HX8 : Hid (Bx x3 b8 #[.slice none 0 0, .slice none 0 0] 39) := blk_below HX8.out hb
            have HM := Lib.hid (Kd.R_lower hR (bs_ hb2.out))
            have HN := Lib.hid (Kd.R_lower hR' (bs_ hb2.out))
            clear hR hR' hb
            refine hK.out _ _ hHx (fun hHeld => ?_)
            clear hK K
            clear hb2
            refine norm_ (a' := ?_) ?_ ?_
            rotate_left
            · show Act.put _ (some 37) _ = _
              simp only [Act.put, List.setIfInBounds_toArray, List.set_cons_zero, List.set_cons_succ, i64_w, i32_w]
              rfl
            exact norm_ (by simp only [putAll, Act.put, List.setIfInBounds_toArray, List.set_cons_zero, List.set_cons_succ]) (hCont (.agg #[.slice A5 (jd G own (gn x.1)).1.length c5, .slice A6 (jd G own (gn x.1)).2.length c6], A7, c7, A8, c8, b8) _ ⟨hHeld, HM, HN, HX8, hb3, HG8⟩)
        · skip
          refine box_step ?hg (N := 8) ?hd (cs := #[.slice none 0 0, .slice none 0 0]) (t := 39) ?hr ?_; (case hd => rfl); (case hg => rfl); (case hr => first | (go_simp; done) | (go_simp; rfl))
          intro b8 hg8 x1 hbox hb
          have hb1 := Lib.hid hb
          have hHx : Bx x1 w.heap.size (f.cells G.length) 32 ∧ Bx x1 b7 #[.int .i64 x.1.1.1, .int .i64 x.1.1.2.1, .int .i64 x.1.1.2.2] 48 := ⟨blk_below hHeld.1 hb, blk_below hHeld.2 hb⟩
          have HX8 : Hid (Bx x1 b8 #[.slice none 0 0, .slice none 0 0] 39) := hbox
          have HG8 : wd.heap.size ≤ b8 := Nat.le_of_eq hg8.symm
          clear hbox hb hg8
          refine hK.out _ _ hHx (fun hHeld => ?_)
          clear hK K
          refine norm_ (a' := ?_) ?_ ?_
          rotate_left
          · show Act.put _ (some 8) _ = _
            simp only [Act.put, List.setIfInBounds_toArray, List.set_cons_zero, List.set_cons_succ, i64_w, i32_w]
            rfl
          refine one_ (i := 3) (N := (some 32)) #[true, true, true, true, true, true, true, true, false, true, false] rfl rfl (by kernel_rfl) (by decide) (fun K hK => ?_)
          refine goes_ Try.func34 (by kernel_rfl) rfl #[.agg (f.cells G.length), .int .i64 x.1.1.1] (by rfl) rfl rfl (by (try simp only [List.map_toArray, List.map_cons, List.map_nil]); first | done | rfl) ?_
          with_reducible refine (hih.out x1 (hW0.out x1 hb1.out)).mono ?_
          rintro e x2 ⟨vP, vE, rfl, hR, hR', hb⟩
          obtain ⟨A5, c5, rfl⟩ := Kd.R_slice hR
          obtain ⟨A6, c6, rfl⟩ := Kd.R_slice hR'
          refine ⟨_, rfl, ?_⟩
          have hb2 := Lib.hid (hb1.out.trans (hb.mono (bs_ hb1.out)))
          have hHx : Bx x2 w.heap.size (f.cells G.length) 32 ∧ Bx x2 b7 #[.int .i64 x.1.1.1, .int .i64 x.1.1.2.1, .int .i64 x.1.1.2.2] 48 := ⟨blk_below hHeld.1 hb, blk_below hHeld.2 hb⟩
          replace HX8 : Hid (Bx x2 b8 #[.slice none 0 0, .slice none 0 0] 39) := blk_below HX8.out hb
          have HP := Lib.hid hR
          have HE := Lib.hid hR'
          clear hR hR' hb
          refine hK.out _ _ hHx (fun hHeld => ?_)
          clear hK K
          clear hb1
          refine norm_ (a' := ?_) ?_ ?_
          rotate_left
          · show Act.put _ (some 32) _ = _
            simp only [Act.put, List.setIfInBounds_toArray, List.set_cons_zero, List.set_cons_succ, i64_w, i32_w]
            rfl
          refine one_ (i := 8) (N := (some 37)) #[true, true, true, true, true, true, true, true, true, true, false] rfl rfl (by kernel_rfl) (by decide) (fun K hK => ?_)
          refine goes_ Try.func48 (by kernel_rfl) rfl #[.agg #[.slice A5 (jd G own (gn x.1)).1.length c5, .slice A6 (jd G own (gn x.1)).2.length c6], .int .i64 x.1.1.2.1, .int .i64 x.1.1.2.2] (by rfl) rfl rfl (by (try simp only [List.map_toArray, List.map_cons, List.map_nil]); first | done | rfl) ?_
          with_reducible refine (Moved_calls A5 A6 c5 c6 (jd G own (gn x.1)).1 (jd G own (gn x.1)).2 x.1.1.2.1 x.1.1.2.2 x2 (r_c HP.out) (r_c HE.out) (hbT.out _ hTx).1 (hbT.out _ hTx).2).mono ?_
          rintro e x3 ⟨vP, vE, rfl, hR, hR', hb⟩
          obtain ⟨A7, c7, rfl⟩ := Kd.R_slice hR
          obtain ⟨A8, c8, rfl⟩ := Kd.R_slice hR'
          refine ⟨_, rfl, ?_⟩
          clear HP HE
          have hb3 := Lib.hid (hb2.out.trans (hb.mono (bs_ hb2.out)))
          have hHx : Bx x3 w.heap.size (f.cells G.length) 32 ∧ Bx x3 b7 #[.int .i64 x.1.1.1, .int .i64 x.1.1.2.1, .int .i64 x.1.1.2.2] 48 := ⟨blk_below hHeld.1 hb, blk_below hHeld.2 hb⟩
          replace HX8 : Hid (Bx x3 b8 #[.slice none 0 0, .slice none 0 0] 39) := blk_below HX8.out hb
          have HM := Lib.hid (Kd.R_lower hR (bs_ hb2.out))
          have HN := Lib.hid (Kd.R_lower hR' (bs_ hb2.out))
          clear hR hR' hb
          refine hK.out _ _ hHx (fun hHeld => ?_)
          clear hK K
          clear hb2
          refine norm_ (a' := ?_) ?_ ?_
          rotate_left
          · show Act.put _ (some 37) _ = _
            simp only [Act.put, List.setIfInBounds_toArray, List.set_cons_zero, List.set_cons_succ, i64_w, i32_w]
            rfl
          exact norm_ (by simp only [putAll, Act.put, List.setIfInBounds_toArray, List.set_cons_zero, List.set_cons_succ]) (hCont (.agg #[.slice A5 (jd G own (gn x.1)).1.length c5, .slice A6 (jd G own (gn x.1)).2.length c6], A7, c7, A8, c8, b8) _ ⟨hHeld, HM, HN, HX8, hb3, HG8⟩)
      rintro ⟨v32, A7, c7, A8, c8, b8⟩ wx ⟨hHeld, HM, HN, HX8, hbx, HG8⟩
      simp only at HM HN HX8 HG8
      refine norm_ (a' := ?_) ?_ ?_
      rotate_left
      · simp only [putAll, Act.put, List.setIfInBounds_toArray, List.set_cons_zero, List.set_cons_succ]
        rfl
      have z0 := HX8.out.cell 0
      have z1 := HX8.out.cell 1
      have y0 := HX8.out.frozen 0
      have y1 := HX8.out.frozen 1
      refine last_ (i := 10) (N := none) #[true, true, true, true, true, true, true, true, true, true, true] rfl rfl (by kernel_rfl) (by decide) (fun K hK => ?_)
      refine skip_ (w1 := ?_) (by rfl) rfl ?_ ?_
      rotate_left
      · go_simp
        rfl
      refine hK.out _ _ ?_
      clear hK K
      refine done_ (by kernel_rfl) ?_
      refine noOut_n ?_
      have q1 := blk_put (cs' := #[.slice A7 (jd G own (gn x.1)).1.length c7, .slice none 0 0]) HX8.out 0 (.slice A7 (jd G own (gn x.1)).1.length c7) rfl
      have q2 : Bx ((wx.setCell ⟨b8, 0, none⟩ (.slice A7 (jd G own (gn x.1)).1.length c7)).setCell ⟨b8, 1, none⟩ (.slice A8 (jd G own (gn x.1)).2.length c8)) b8 #[.slice A7 (jd G own (gn x.1)).1.length c7, .slice A8 (jd G own (gn x.1)).2.length c8] 39 := blk_put q1 1 (.slice A8 (jd G own (gn x.1)).2.length c8) rfl
      have hw6 := HG6
      have hb6l := blk_lt hJd.out.bx6
      have h68 : b6 ≠ b8 := by omega
      have hzd := hXf.out.lt
      have h8w : w.heap.size + 1 < b8 := by omega
      have hJy := ((hJd.out.below hbx.out).set HX8.out h68 h8w 0 (.slice A7 (jd G own (gn x.1)).1.length c7)).set q1 h68 h8w 1 (.slice A8 (jd G own (gn x.1)).2.length c8)
      have hXy : Bx ((wx.setCell ⟨b8, 0, none⟩ (.slice A7 (jd G own (gn x.1)).1.length c7)).setCell ⟨b8, 1, none⟩ (.slice A8 (jd G own (gn x.1)).2.length c8)) wz.heap.size (f.cells G.length) 32 := blk_far (p := ⟨b8, 1, none⟩) (blk_far (p := ⟨b8, 0, none⟩) (blk_below hXf.out hbx.out) (by simp; omega) _) (by simp; omega) _
      have hMy := Kd.R_set (Kd.R_set HM.out HX8.out (by decide) 0 (.slice A7 (jd G own (gn x.1)).1.length c7)) q1 (by decide) 1 (.slice A8 (jd G own (gn x.1)).2.length c8)
      have hNy := Kd.R_set (Kd.R_set HN.out HX8.out (by decide) 0 (.slice A7 (jd G own (gn x.1)).1.length c7)) q1 (by decide) 1 (.slice A8 (jd G own (gn x.1)).2.length c8)
      have hKy : KeepsFrom w'.heap.size W ((wx.setCell ⟨b8, 0, none⟩ (.slice A7 (jd G own (gn x.1)).1.length c7)).setCell ⟨b8, 1, none⟩ (.slice A8 (jd G own (gn x.1)).2.length c8)) := kf_below (below_set (below_set (hWd.out.trans (hbx.out.mono hwds)) (by omega)) (by omega))
      generalize (wx.setCell ⟨b8, 0, none⟩ (.slice A7 (jd G own (gn x.1)).1.length c7)).setCell ⟨b8, 1, none⟩ (.slice A8 (jd G own (gn x.1)).2.length c8) = wy at q2 hJy hXy hMy hNy hKy ⊢
      have hCm : Kd.C k59 wy A7 (jd G own (gn x.1)).1.length ((jd G own (gn x.1)).1.map (shiftP x.1.1.2.1 x.1.1.2.2)) := by
        have := r_c hMy
        rwa [List.length_map] at this
      have hap : ∀ k, (Value.slice A4 (accO G own g pre).2.length c4).ownBlock = some k → some k ≠ (Value.slice A8 (jd G own (gn x.1)).2.length c8).ownBlock := fun k e1 e2 => by
        have := Kd.R_lt hJd.out.ri k e1
        have := Kd.R_base hNy k e2.symm
        omega
      have hAcc := accO_len G own g (l := flt G.length G[g]) (by have := HL.out; have := HBG.out; omega) (fun y hy => hbT.out _ (hk g hTg _ (by rw [hkids]; exact List.mem_map.2 ⟨y, hy, rfl⟩))) pre
      have hbx := hbT.out _ hTx
      have hNl := hbx.2
      have hA2 : Hid (((accO G own g pre).1.length + (jd G own (gn x.1)).1.length) * 24 ≤ 140737488355328 ∧ ((accO G own g pre).2.length + (jd G own (gn x.1)).2.length + 1) * 8 ≤ 140737488355328) := by
        show _ ∧ _
        omega
      clear z0 z1 y0 y1 q1 HM HN HX8 hHeld hJd hXf hAcc hbx f0 f1 f2 f3 f4 f5 f6 f7 f8 hMy
      have HJy := Lib.hid hJy
      have HNy := Lib.hid hNy
      have HKy := Lib.hid hKy
      have HXy := Lib.hid hXy
      have HCm := Lib.hid hCm
      have HX8 := Lib.hid q2
      have HAP := Lib.hid hap
      clear hJy hNy hKy hXy hCm q2 hap
      have c60 := HJy.out.bx6.cell 0
      have c61 := HJy.out.bx6.cell 1
      have e60 := HJy.out.bx6.frozen 0
      have c80 := HX8.out.cell 0
      gi_upto_region 7 with (fail)
      refine flat_in (by kernel_rfl) ?_
      go_wp2_with (at_builtin; refine Kd.R_append_rows k59 (Rr := k59.K wy) (w0 := w) w.heap.size rfl (.tmp 42) (.tmp 44) 37 59 (.agg #[(.int .i64 0), (.int .i64 0), (.bool false)]) 24 rfl Try.underlying37 info59 rfl (by decide) (by omega) (.slice A3 (accO G own g pre).1.length c3) (accO G own g pre).1 ((jd G own (gn x.1)).1.map (shiftP x.1.1.2.1 x.1.1.2.2)) A7 (jd G own (gn x.1)).1.length c7 (fun _ => True) (fun _ => False) rfl rfl HJy.out.rp HCm.out (fun x cs hx => k59_KM x cs hx) (fun _ hk => hk.elim) (fun _ _ => trivial) HJy.out.bel HJy.out.bel.size hA2.out.1 ?_; intro v1 w1 hR1 hB1 hg1 hat1; obtain ⟨A9, c9, rfl⟩ := Kd.R_slice hR1; have HR1 := Lib.hid hR1; have HB1 := Lib.hid hB1; have HG1 := Lib.hid hg1; clear hR1 hB1 hg1 hat1; have d60 := (HJy.out.bxg1 HG1.out).cell 0; have g60 := (HJy.out.bxg1 HG1.out).frozen 0)
      refine noOut_n ?_
      rw [show (accO G own g pre).1.length + (jd G own (gn x.1)).1.length = ((accO G own g pre).1 ++ ((jd G own (gn x.1)).1.map (shiftP x.1.1.2.1 x.1.1.2.2))).length by rw [List.length_append, List.length_map]]
      have hW1 := Lib.hid (HJy.out.app1 h6w HG1.out HR1.out HB1.out)
      have x6 := HJy.out.bxg1 HG1.out
      have hN1 := Lib.hid (Kd.R_set (Kd.R_over' HNy.out (Kd.R_typed HJy.out.rp) (by decide) HG1.out) x6 (by decide) 0 (.slice A9 ((accO G own g pre).1 ++ ((jd G own (gn x.1)).1.map (shiftP x.1.1.2.1 x.1.1.2.2))).length c9))
      have x81 : Bx w1 b8 _ 39 := blk_grown HX8.out HG1.out (Kd.R_ne HJy.out.rp HX8.out (by decide))
      have x8 : Hid (Bx (w1.setCell ⟨b6, 0, none⟩ (.slice A9 ((accO G own g pre).1 ++ ((jd G own (gn x.1)).1.map (shiftP x.1.1.2.1 x.1.1.2.2))).length c9)) b8 _ 39) := blk_far (p := ⟨b6, 0, none⟩) x81 (fun h => h68 h.symm) _
      have xf1 : Bx w1 wz.heap.size _ 32 := blk_grown HXy.out HG1.out (Kd.R_ne HJy.out.rp HXy.out (by decide))
      have xf : Hid (Bx (w1.setCell ⟨b6, 0, none⟩ (.slice A9 ((accO G own g pre).1 ++ ((jd G own (gn x.1)).1.map (shiftP x.1.1.2.1 x.1.1.2.2))).length c9)) wz.heap.size _ 32) := blk_far (p := ⟨b6, 0, none⟩) xf1 (blk_ne xf1 x6 (by decide)) _
      have kf : Hid (KeepsFrom w'.heap.size W (w1.setCell ⟨b6, 0, none⟩ (.slice A9 ((accO G own g pre).1 ++ ((jd G own (gn x.1)).1.map (shiftP x.1.1.2.1 x.1.1.2.2))).length c9))) := (kf_grown HKy.out (Kd.R_typed HJy.out.rp) HG1.out).trans ((KeepsOthers.setCell _ _ _).from _)
      have hapx := HAP.out
      clear x81 xf1 x6 HR1 HB1 HG1 HJy HNy HX8 HXy HKy HCm HAP c60 c61 e60 c80 d60 g60
      generalize w1.setCell ⟨b6, 0, none⟩ (.slice A9 ((accO G own g pre).1 ++ ((jd G own (gn x.1)).1.map (shiftP x.1.1.2.1 x.1.1.2.2))).length c9) = w2 at hW1 hN1 x8 xf kf ⊢
      have c81 := x8.out.cell 1
      generalize ho1 : (accO G own g pre).1 ++ ((jd G own (gn x.1)).1.map (shiftP x.1.1.2.1 x.1.1.2.2)) = o1 at hW1 ⊢
      gi_wp2_with fail
      clear c81
      have HAP := Lib.hid hapx
      clear hapx
      gi_loopw [50] (fun i wr => Hid (∃ (k : Nat) (A4 : Option Addr) (c4 : Nat), i = .int .i64 k ∧ k ≤ (jd G own (gn x.1)).2.length ∧ Hid (JoinI w b6 (f.cells G.length) (o1, (accO G own g pre).2 ++ ((jd G own (gn x.1)).2.take k).map fun e => wrap64 (e + ((accO G own g pre).1.length : Int))) A9 c9 A4 c4 wr) ∧ Hid (RI wr wd.heap.size (.slice A8 (jd G own (gn x.1)).2.length c8) (jd G own (gn x.1)).2) ∧ Hid (∀ q, (Value.slice A4 ((accO G own g pre).2 ++ ((jd G own (gn x.1)).2.take k).map fun e => wrap64 (e + ((accO G own g pre).1.length : Int))).length c4).ownBlock = some q → some q ≠ (Value.slice A8 (jd G own (gn x.1)).2.length c8).ownBlock) ∧ Hid (Bx wr b8 #[.slice A7 (jd G own (gn x.1)).1.length c7, .slice A8 (jd G own (gn x.1)).2.length c8] 39) ∧ Hid (Bx wr wz.heap.size (f.cells G.length) 32) ∧ Hid (KeepsFrom w'.heap.size W wr))) (fun i _ => (jd G own (gn x.1)).2.length - (intOf i).toNat)
      case atStart =>
        refine ⟨0, A4, c4, rfl, Nat.zero_le _, ?_, hN1, ?_, x8, xf, kf⟩
        · simpa using hW1
        · simpa using HAP
      case round =>
        obtain ⟨k, A4, c4, rfl, hk', hJ, hNr, hAp, hX8, hXf, hKf⟩ := hrel.out
        clear hrel
        by_cases hlt : k < (jd G own (gn x.1)).2.length
        · obtain ⟨g8, cap, e8, hg8, _⟩ := Kd.R_form hNr.out (by omega)
          injection e8 with e81 e82 e83
          subst e81 e83
          clear e82
          obtain ⟨ad, ead, hc⟩ := c_int_get (r_c hNr.out) k hlt
          injection ead with ead
          subst ead
          rw [add_plain] at hc
          have q0' : (0 : Int) ≤ (k : Int) := by omega
          have q1' : (k : Int) < ((jd G own (gn x.1)).2.length : Int) := by omega
          have hxl : (((accO G own g pre).2 ++ ((jd G own (gn x.1)).2.take k).map fun e => wrap64 (e + ((accO G own g pre).1.length : Int))).length + 1) * 8 ≤ 140737488355328 := by
            have := hA2.out.2
            simp only [List.length_append, List.length_map, List.length_take]
            omega
          have hnx : Hid ((accO G own g pre).2 ++ ((jd G own (gn x.1)).2.take (k + 1)).map (fun e => wrap64 (e + ((accO G own g pre).1.length : Int))) = ((accO G own g pre).2 ++ ((jd G own (gn x.1)).2.take k).map fun e => wrap64 (e + ((accO G own g pre).1.length : Int))) ++ [(wrap64 ((jd G own (gn x.1)).2[k] + ((accO G own g pre).1.length : Int)))]) := by
            show _ = _
            rw [List.take_succ_eq_append_getElem hlt, List.map_append, ← List.append_assoc]
            rfl
          generalize ((accO G own g pre).2 ++ ((jd G own (gn x.1)).2.take k).map fun e => wrap64 (e + ((accO G own g pre).1.length : Int))) = xs at hJ hAp hxl hnx
          have c61 := hJ.out.bx6.cell 1
          have hfr : ∀ q, wr.heap.size ≤ q → some q ≠ (Value.slice (some ⟨g8, 0, none⟩) (jd G own (gn x.1)).2.length c8).ownBlock := fun q hq e => by
            have := Kd.R_lt hNr.out q e.symm
            omega
          have HFR := Lib.hid hfr
          have HXL := Lib.hid hxl
          clear hfr hxl
          gi_upto_region 11 with (fail)
          refine flat_in (by kernel_rfl) ?_
          go_wp2_with (at_builtin; refine Kd.R_append (Kd.int .i64) (w0 := w) w.heap.size rfl (.tmp 55) (.tmp 59) 22 3 (.int .i64 0) 8 rfl Try.underlying22 PComposeTells.info3 rfl (by decide) (by omega) (.slice A4 xs.length c4) xs (wrap64 ((jd G own (gn x.1)).2[k] + ((accO G own g pre).1.length : Int))) [.int .i64 (wrap64 ((jd G own (gn x.1)).2[k] + ((accO G own g pre).1.length : Int)))] (fun q => some q ≠ (Value.slice (some ⟨g8, 0, none⟩) (jd G own (gn x.1)).2.length c8).ownBlock) (fun _ => False) rfl rfl rfl (fun _ hk => hk.elim) HFR.out (Kd.R_reok rfl hJ.out.ri hAp.out) hJ.out.bel hJ.out.bel.size HXL.out ?_; intro v1 w1 hR1 hB1 hg1 hat1; obtain ⟨A10, c10, rfl⟩ := Kd.R_slice hR1; have HR1 := Lib.hid hR1; have HB1 := Lib.hid hB1; have HG1 := Lib.hid hg1; clear hR1 hB1 hg1 hat1; have d61 := (hJ.out.bxg2 HG1.out).cell 1; have g61 := (hJ.out.bxg2 HG1.out).frozen 1)
          refine noOut_n ?_
          rw [show xs.length + 1 = (xs ++ [(wrap64 ((jd G own (gn x.1)).2[k] + ((accO G own g pre).1.length : Int)))]).length by simp]
          have hW3 := Lib.hid (hJ.out.app2 h6w HG1.out (Kd.R_mono HR1.out (fun _ _ => trivial)) HB1.out)
          have x6 := hJ.out.bxg2 HG1.out
          have hN3 := Lib.hid (Kd.R_set (Kd.R_mono (Kd.R_grown (Kd.R_tight rfl hNr.out) HG1.out (fun q hq e => hAp.out q e.symm hq)) (ok' := fun _ => True) (fun _ _ => trivial)) x6 (by decide) 1 (.slice A10 (xs ++ [(wrap64 ((jd G own (gn x.1)).2[k] + ((accO G own g pre).1.length : Int)))]).length c10))
          have x81 : Bx w1 b8 _ 39 := blk_grown hX8.out HG1.out (Kd.R_ne hJ.out.ri hX8.out (by decide))
          have x8' : Hid (Bx (w1.setCell ⟨b6, 1, none⟩ (.slice A10 (xs ++ [(wrap64 ((jd G own (gn x.1)).2[k] + ((accO G own g pre).1.length : Int)))]).length c10)) b8 _ 39) := blk_far (p := ⟨b6, 1, none⟩) x81 (fun h => h68 h.symm) _
          have xf1 : Bx w1 wz.heap.size _ 32 := blk_grown hXf.out HG1.out (Kd.R_ne hJ.out.ri hXf.out (by decide))
          have xf' : Hid (Bx (w1.setCell ⟨b6, 1, none⟩ (.slice A10 (xs ++ [(wrap64 ((jd G own (gn x.1)).2[k] + ((accO G own g pre).1.length : Int)))]).length c10)) wz.heap.size _ 32) := blk_far (p := ⟨b6, 1, none⟩) xf1 (blk_ne xf1 x6 (by decide)) _
          have kf' : Hid (KeepsFrom w'.heap.size W (w1.setCell ⟨b6, 1, none⟩ (.slice A10 (xs ++ [(wrap64 ((jd G own (gn x.1)).2[k] + ((accO G own g pre).1.length : Int)))]).length c10))) := (kf_grown hKf.out (Kd.R_typed hJ.out.ri) HG1.out).trans ((KeepsOthers.setCell _ _ _).from _)
          have hap' : Hid (∀ q, (Value.slice A10 (xs ++ [(wrap64 ((jd G own (gn x.1)).2[k] + ((accO G own g pre).1.length : Int)))]).length c10).ownBlock = some q → some q ≠ (Value.slice (some ⟨g8, 0, none⟩) (jd G own (gn x.1)).2.length c8).ownBlock) := HR1.out.1
          clear x81 xf1 x6 HR1 HB1 HG1 hJ hNr hAp hX8 hXf hKf c61 d61 g61 hc
          generalize w1.setCell ⟨b6, 1, none⟩ (.slice A10 (xs ++ [(wrap64 ((jd G own (gn x.1)).2[k] + ((accO G own g pre).1.length : Int)))]).length c10) = w3 at hW3 hN3 x8' xf' kf' ⊢
          rw [← hnx.out] at hW3 hap'
          gi_wp2
          go_roundw
          case rel => exact ⟨k + 1, A10, c10, by go_num, by omega, hW3, hN3, hap', x8', xf', kf'⟩
          case measure => simp [intOf]; omega
        · obtain rfl : k = (jd G own (gn x.1)).2.length := by omega
          rw [List.take_length] at hJ
          gi_wp2
          refine ⟨hKf.out, ⟨hKf.out.size, fun q hq => ?_⟩, A9, c9, A4, c4, ?_, hXf.out, Nat.le_trans h3 hKf.out.size⟩
          · rcases hq with hq | rfl
            · exact (hJ.out.bel.block q (by omega)).trans (hWbel.out.block q (by omega)).symm
            · exact hXf.out.trans hWf.out.symm
          · rw [accO_snoc]
            rw [← ho1] at hJ
            exact hJ.out
end Go.Proofs.Ytajjailmmbcolaa
