/- compose: outlines: words, plain; clones; outline.clone, outline.Moved. -/
import Derived.WalkSpells
import Derived.Test.YtajjailmmbcolaaCv
import Derived.StillTailTactics
import Derived.BigQuiet
namespace Go.Proofs.Ytajjailmmbcolaa
open Go Go.Proofs Go.RowKit Go.Shelf Go.Proofs.YtajjailmmbcolaaW.PrintWords Go.Proofs.YtajjailmmbcolaaW.PrintLast Go.Proofs.YtajjailmmbcolaaW.PrintMore PComposeTells
set_option linter.unusedSimpArgs false
set_option linter.unusedVariables false

/-- A row of points, of one's own; a row of numbers. -/
abbrev RP (w : World) (base : Nat) (v : Value) (ps : List S59) : Prop := Kd.R k59 59 w base (fun _ => True) v ps
abbrev RI (w : World) (base : Nat) (v : Value) (l : List Int) : Prop := Kd.R (Kd.int .i64) 3 w base (fun _ => True) v l
theorem k59_KM {w w' : World} {base : Nat} {ok : Nat → Prop} (x : S59) (cs : List Value) (h : k59.K w x cs) : k59.M w' base ok x cs := by
  rw [k59_open h]; exact k59_mkM _ _ _ x
theorem kint_KM {w w' : World} {base : Nat} {ok : Nat → Prop} (x : Int) (cs : List Value) (h : (Kd.int .i64).K w x cs) : (Kd.int .i64).M w' base ok x cs := h
/-- An outline: its points, its ends. -/
abbrev Ol := List S59 × List Int
def shiftP (x y : Int) (p : S59) : S59 := ⟨wrap64 (p.f0 + x), wrap64 (p.f1 + y), p.f2⟩
/-- One part more. -/
def addPart (o : Ol) (x y : Int) (q : Ol) : Ol := (o.1 ++ q.1.map (shiftP x y), o.2 ++ q.2.map fun e => wrap64 (e + (o.1.length : Int)))
/-- A glyph's outline with all parts', by so many steps. -/
def jo (G : Gs) (own : Nat → Ol) : Nat → Nat → Ol
  | 0, _ => ([], [])
  | k + 1, g => (flt G.length (G.getD g [])).foldl (fun o x => addPart o x.1.2.1 x.1.2.2 (jo G own k (gn x))) (own g)
noncomputable def jd (G : Gs) (own : Nat → Ol) (g : Nat) : Ol := jo G own (rk G g + 1) g
theorem mem_kids' {G : Gs} {g : Nat} {x : Sub G.length} (h : x ∈ flt G.length (G.getD g [])) : gn x ∈ kids G g := List.mem_map.2 ⟨x, h, rfl⟩
theorem foldl_congr' {α β : Type} (f g : β → α → β) (l : List α) (b : β) (h : ∀ b, ∀ x ∈ l, f b x = g b x) : l.foldl f b = l.foldl g b := by
  induction l generalizing b with
  | nil => rfl
  | cons x l ih =>
    simp only [List.foldl_cons]
    rw [h b x (by simp)]
    exact ih _ (fun b y hy => h b y (by simp [hy]))
theorem jo_stable {G : Gs} {own : Nat → Ol} {T : Nat → Prop} (hk : ∀ x, T x → ∀ q ∈ kids G x, T q) (hn : ∀ x, T x → ¬ Loop G x) : ∀ (d : Nat) (g : Nat), T g → rk G g < d → ∀ n, rk G g + 1 ≤ n → jo G own n g = jd G own g := by
  intro d
  induction d with
  | zero => intro g _ h; omega
  | succ d ih =>
    intro g hT hd n hn'
    obtain ⟨m, rfl⟩ : ∃ m, n = m + 1 := ⟨n - 1, by omega⟩
    unfold jd
    show (flt G.length (G.getD g [])).foldl _ _ = (flt G.length (G.getD g [])).foldl _ _
    refine foldl_congr' _ _ _ _ (fun b x hx => ?_)
    have hq := mem_kids' hx
    have hlt := rk_lt hq (hn _ (hk g hT _ hq))
    rw [ih (gn x) (hk g hT _ hq) (by omega) m (by omega), ih (gn x) (hk g hT _ hq) (by omega) (rk G g) (by omega)]
theorem jd_eq {G : Gs} {own : Nat → Ol} {T : Nat → Prop} (hk : ∀ x, T x → ∀ q ∈ kids G x, T q) (hn : ∀ x, T x → ¬ Loop G x) {g : Nat} (hT : T g) :
    jd G own g = (flt G.length (G.getD g [])).foldl (fun o x => addPart o x.1.2.1 x.1.2.2 (jd G own (gn x))) (own g) := by
  show (flt G.length (G.getD g [])).foldl _ _ = _
  refine foldl_congr' _ _ _ _ (fun b x hx => ?_)
  have hq := mem_kids' hx
  rw [jo_stable hk hn (rk G (gn x) + 1) (gn x) (hk g hT _ hq) (Nat.lt_succ_self _) (rk G g) (rk_lt hq (hn _ (hk g hT _ hq)))]

set_option maxRecDepth 100000 in
set_option maxHeartbeats 1000000 in
/-- slices.Clone of points. -/
theorem clone46_calls (A : Option Addr) (c : Nat) (ps : List S59) (w : World) (h : Kd.C k59 w A ps.length ps) (hb : ps.length ≤ 1000000) :
    Calls Try.prog 46 #[.slice A ps.length c] w fun e w' => ∃ v, e = .returned v ∧ RP w' w.heap.size v ps ∧ Below w.heap.size w w' := by
  have he := @Lib.run_eql_slice_nil Try.prog
  rcases A with _ | ad
  · have hn : ps = [] := by
      cases ps with
      | nil => rfl
      | cons x xs => obtain ⟨_, _, h3⟩ := h; obtain ⟨ad, e, _⟩ := h3 (by simp); cases e
    subst hn
    go_enter Try.func46, Try.ntmps46
    go_wp2
    refine bodyPost_ret (results_tmp rfl _ _ _) rfl ?_
    exact ⟨_, rfl, Kd.R_nil _ _ _ _ _, Below.refl _ _⟩
  · have hR := R_new k59 59 (W := w) (base := w.heap.size) (xs := []) (inner := []) (ok := fun _ => True) (Reps.none _ _) trivial (Nat.le_refl _) (by simp)
    have hB : Below w.heap.size w (w.alloc (.cells #[] 59)) := (Below.refl _ _).alloc (Nat.le_refl _) _
    have hC := Kd.C_below h (below_alloc (Below.refl _ _) (.cells #[] 59))
    have hs : (w.alloc (.cells #[] 59)).heap.size = w.heap.size + 1 := by rw [World.size_alloc]
    simp only [List.length_nil] at hR
    change Kd.R k59 59 (w.alloc (.cells #[] 59)) w.heap.size (fun _ => True) (.slice (some ⟨w.heap.size, 0, none⟩) 0 0) [] at hR
    have HR := Lib.hid hR
    have HC := Lib.hid hC
    have HB := Lib.hid hB
    have HS := Lib.hid hs
    clear hR hC hB hs h
    go_enter Try.func46, Try.ntmps46
    go_wp2_with (at_builtin; refine Kd.R_append_rows k59 (Rr := k59.K (w.alloc (.cells #[] 59))) (w0 := w) w.heap.size rfl (.tmp 5) (.tmp 6) 37 59 (.agg #[(.int .i64 0), (.int .i64 0), (.bool false)]) 24 rfl Try.underlying37 info59 rfl (by decide) (by omega) (.slice (some ⟨w.heap.size, 0, none⟩) 0 0) [] ps (some ad) ps.length c (fun _ => True) (fun _ => False) rfl rfl HR.out HC.out (fun x cs hx => k59_KM x cs hx) (fun _ hk => hk.elim) (fun _ _ => trivial) HB.out (by rw [HS.out]; omega) (by simp; omega) ?_; intro v1 w1 hR1 hB1 hg1 hat1)
    refine bodyPost_ret (results_tmp rfl _ _ _) rfl ?_
    exact ⟨_, rfl, hR1, hB1⟩
set_option maxRecDepth 100000 in
set_option maxHeartbeats 1000000 in
/-- slices.Clone of numbers. -/
theorem clone47_calls (A : Option Addr) (c : Nat) (ps : List Int) (w : World) (h : Kd.C (Kd.int .i64) w A ps.length ps) (hb : ps.length ≤ 1000000) :
    Calls Try.prog 47 #[.slice A ps.length c] w fun e w' => ∃ v, e = .returned v ∧ RI w' w.heap.size v ps ∧ Below w.heap.size w w' := by
  have he := @Lib.run_eql_slice_nil Try.prog
  rcases A with _ | ad
  · have hn : ps = [] := by
      cases ps with
      | nil => rfl
      | cons x xs => obtain ⟨_, _, h3⟩ := h; obtain ⟨ad, e, _⟩ := h3 (by simp); cases e
    subst hn
    go_enter Try.func47, Try.ntmps47
    go_wp2
    refine bodyPost_ret (results_tmp rfl _ _ _) rfl ?_
    exact ⟨_, rfl, Kd.R_nil _ _ _ _ _, Below.refl _ _⟩
  · have hR := R_new (Kd.int .i64) 3 (W := w) (base := w.heap.size) (xs := []) (inner := []) (ok := fun _ => True) (Reps.none _ _) trivial (Nat.le_refl _) (by simp)
    have hB : Below w.heap.size w (w.alloc (.cells #[] 3)) := (Below.refl _ _).alloc (Nat.le_refl _) _
    have hC := Kd.C_below h (below_alloc (Below.refl _ _) (.cells #[] 3))
    have hs : (w.alloc (.cells #[] 3)).heap.size = w.heap.size + 1 := by rw [World.size_alloc]
    simp only [List.length_nil] at hR
    change Kd.R (Kd.int .i64) 3 (w.alloc (.cells #[] 3)) w.heap.size (fun _ => True) (.slice (some ⟨w.heap.size, 0, none⟩) 0 0) [] at hR
    have HR := Lib.hid hR
    have HC := Lib.hid hC
    have HB := Lib.hid hB
    have HS := Lib.hid hs
    clear hR hC hB hs h
    go_enter Try.func47, Try.ntmps47
    go_wp2_with (at_builtin; refine Kd.R_append_rows (Kd.int .i64) (Rr := (Kd.int .i64).K (w.alloc (.cells #[] 3))) (w0 := w) w.heap.size rfl (.tmp 5) (.tmp 6) 22 3 (.int .i64 0) 8 rfl Try.underlying22 PComposeTells.info3 rfl (by decide) (by omega) (.slice (some ⟨w.heap.size, 0, none⟩) 0 0) [] ps (some ad) ps.length c (fun _ => True) (fun _ => False) rfl rfl HR.out HC.out (fun x cs hx => kint_KM x cs hx) (fun _ hk => hk.elim) (fun _ _ => trivial) HB.out (by rw [HS.out]; omega) (by simp; omega) ?_; intro v1 w1 hR1 hB1 hg1 hat1)
    refine bodyPost_ret (results_tmp rfl _ _ _) rfl ?_
    exact ⟨_, rfl, hR1, hB1⟩
end Go.Proofs.Ytajjailmmbcolaa
namespace Go.Proofs.Ytajjailmmbcolaa
open Go Go.Proofs Go.RowKit Go.Shelf Go.Proofs.YtajjailmmbcolaaW.PrintWords Go.Proofs.YtajjailmmbcolaaW.PrintLast Go.Proofs.YtajjailmmbcolaaW.PrintMore PComposeTells
set_option linter.unusedSimpArgs false
set_option linter.unusedVariables false

/-- What a call that makes an outline hands back. -/
def OlP (o : Ol) (w : World) (e : Ending) (w' : World) : Prop :=
  ∃ vp ve : Value, e = .returned (.agg #[vp, ve]) ∧ RP w' w.heap.size vp o.1 ∧ RI w' w.heap.size ve o.2 ∧ Below w.heap.size w w'
set_option maxRecDepth 100000 in
set_option maxHeartbeats 1000000 in
/-- outline.clone. -/
theorem clone60_calls (A A' : Option Addr) (c c' : Nat) (ps : List S59) (l : List Int) (w : World) (h : Kd.C k59 w A ps.length ps) (h' : Kd.C (Kd.int .i64) w A' l.length l) (hb : ps.length ≤ 1000000) (hb' : l.length ≤ 1000000) :
    Calls Try.prog 60 #[.agg #[.slice A ps.length c, .slice A' l.length c']] w (OlP (ps, l) w) := by
  have HC0 := Lib.hid h
  have HC0' := Lib.hid h'
  clear h h'
  go_enter Try.func60, Try.ntmps60
  go_wp2_with fail
  have hx1 := (Bx.new w #[.slice A ps.length c, .slice A' l.length c'] 39).alloc (.cells #[.slice none 0 0, .slice none 0 0] 39)
  have hx2 := Bx.new (w.alloc (.cells #[.slice A ps.length c, .slice A' l.length c'] 39)) #[.slice none 0 0, .slice none 0 0] 39
  have hB2 : Below w.heap.size w ((w.alloc (.cells #[.slice A ps.length c, .slice A' l.length c'] 39)).alloc (.cells #[.slice none 0 0, .slice none 0 0] 39)) := ((Below.refl _ _).alloc (Nat.le_refl _) _).alloc (by simp [World.size_alloc]) _
  have hs2 : ((w.alloc (.cells #[.slice A ps.length c, .slice A' l.length c'] 39)).alloc (.cells #[.slice none 0 0, .slice none 0 0] 39)).heap.size = w.heap.size + 2 := by simp [World.size_alloc]
  rw [World.size_alloc] at hx2
  generalize (w.alloc (.cells #[.slice A ps.length c, .slice A' l.length c'] 39)).alloc (.cells #[.slice none 0 0, .slice none 0 0] 39) = W2 at hx1 hx2 hB2 hs2 ⊢
  have HC := Lib.hid (Kd.C_below HC0.out hB2)
  have HC' := Lib.hid (Kd.C_below HC0'.out hB2)
  have HB := Lib.hid hB2
  have HB1 := Lib.hid hx1
  have HB2 := Lib.hid hx2
  have HS := Lib.hid hs2
  clear hx1 hx2 hB2 hs2 HC0 HC0'
  refine start_ (n := 8) (S := fun w' => w'.cell? ⟨w.heap.size, 0, none⟩ = some (.slice A ps.length c) ∧ w'.cell? ⟨w.heap.size, 1, none⟩ = some (.slice A' l.length c')) (ds := [7]) #[false, false, false, false, false, false, false, false] (by kernel_rfl) rfl rfl ⟨HB1.out.cell 0, HB1.out.cell 1⟩ (fun hHeld => ?_)
  have hCd := Lib.hid (Kd.C_below HC.out (below_drew (Below.refl _ _)))
  have hCd' := Lib.hid (Kd.C_below HC'.out (below_drew (Below.refl _ _)))
  have hBd := Lib.hid (HB.out.drew)
  have h1d : Hid (Bx W2.drew w.heap.size #[.slice A ps.length c, .slice A' l.length c'] 39) := blk_drew HB1.out
  have h2d : Hid (Bx W2.drew (w.heap.size + 1) #[.slice none 0 0, .slice none 0 0] 39) := blk_drew HB2.out
  have hsd : w.heap.size + 2 ≤ W2.drew.heap.size := Nat.le_of_eq HS.out.symm
  clear HC HC' HB HB1 HB2 HS
  generalize W2.drew = wd at hHeld hCd hCd' hBd h1d h2d hsd ⊢
  refine pure_ (i := 0) (N := (some 3)) (v := ?_) (a' := ?_) #[true, false, false, false, false, false, false, false] rfl rfl (by kernel_rfl) (fun _ _ _ h => h) (Or.inl ⟨by rfl, ?_⟩) ?_ ?_
  rotate_left
  · intro w'
    go_simp
    with_reducible rfl
  rotate_left
  · simp only [Act.put, List.setIfInBounds_toArray, List.set_cons_zero, List.set_cons_succ, i64_w, i32_w]
    rfl
  refine pure_ (i := 3) (N := (some 6)) (v := ?_) (a' := ?_) #[true, false, false, true, false, false, false, false] rfl rfl (by kernel_rfl) (fun _ _ _ h => h) (Or.inl ⟨by rfl, ?_⟩) ?_ ?_
  rotate_left
  · intro w'
    go_simp
    with_reducible rfl
  rotate_left
  · simp only [Act.put, List.setIfInBounds_toArray, List.set_cons_zero, List.set_cons_succ, i64_w, i32_w]
    rfl
  refine take_ (i := 1) (N := (some 4)) (v := ?_) (a' := ?_) #[true, true, false, true, false, false, false, false] rfl rfl (by kernel_rfl) (fun _ _ _ h => h) (Or.inl ⟨by rfl, ?_⟩) hHeld ?_ ?_
  rotate_left
  · rintro w' ⟨s0, s1⟩
    go_simp
    with_reducible rfl
  rotate_left
  · simp only [Act.put, List.setIfInBounds_toArray, List.set_cons_zero, List.set_cons_succ, i64_w, i32_w]
    rfl
  refine take_ (i := 4) (N := (some 7)) (v := ?_) (a' := ?_) #[true, true, false, true, true, false, false, false] rfl rfl (by kernel_rfl) (fun _ _ _ h => h) (Or.inl ⟨by rfl, ?_⟩) hHeld ?_ ?_
  rotate_left
  · rintro w' ⟨s0, s1⟩
    go_simp
    with_reducible rfl
  rotate_left
  · simp only [Act.put, List.setIfInBounds_toArray, List.set_cons_zero, List.set_cons_succ, i64_w, i32_w]
    rfl
  refine one_ (i := 2) (N := (some 5)) #[true, true, true, true, true, false, false, false] rfl rfl (by kernel_rfl) (by decide) (fun K hK => ?_)
  refine Kd.R_append_rows_step k59 (Rr := k59.K wd) (w0 := w) w.heap.size (by rfl) (.const (.slice none 0 0)) (.tmp 4) 37 59 (.agg #[(.int .i64 0), (.int .i64 0), (.bool false)]) 24 rfl Try.underlying37 info59 rfl (by decide) (by omega) (.slice none 0 0) [] ps A ps.length c (fun _ => True) (fun _ => False) rfl rfl (Kd.R_nil _ _ _ _ _) hCd.out (fun x cs hx => k59_KM x cs hx) (fun _ hk => hk.elim) (fun _ _ => trivial) hBd.out (by omega) (by simp; omega) ?_
  intro v3 w3 hR3 hB3 hg3 _
  rw [List.nil_append] at hR3
  have hb3 : Below wd.heap.size wd w3 := ⟨hg3.os, hg3.tape, hg3.output, hg3.size, fun k hk => hg3.block k hk (by simp [Value.ownBlock])⟩
  have h13 : Hid (Bx w3 w.heap.size #[.slice A ps.length c, .slice A' l.length c'] 39) := h1d.out.kept (hb3.block _ (by omega))
  have h23 : Hid (Bx w3 (w.heap.size + 1) #[.slice none 0 0, .slice none 0 0] 39) := h2d.out.kept (hb3.block _ (by omega))
  have hC3 := Lib.hid (Kd.C_below hCd'.out hb3)
  have hs3 := hb3.size
  have HR3 := Lib.hid hR3
  have HB3 := Lib.hid hB3
  clear hR3 hB3 hg3 hb3 h1d h2d hCd hCd' hBd
  refine hK.out _ _ ⟨h13.out.cell 0, h13.out.cell 1⟩ (fun hHeld => ?_)
  clear hK K
  refine norm_ (a' := ?_) ?_ ?_
  rotate_left
  · show Act.put _ (some 5) _ = _
    simp only [Act.put, List.setIfInBounds_toArray, List.set_cons_zero, List.set_cons_succ, i64_w, i32_w]
    rfl
  refine one_ (i := 5) (N := (some 8)) #[true, true, true, true, true, true, false, false] rfl rfl (by kernel_rfl) (by decide) (fun K hK => ?_)
  refine Kd.R_append_rows_step (Kd.int .i64) (Rr := (Kd.int .i64).K w3) (w0 := w) w.heap.size (by rfl) (.const (.slice none 0 0)) (.tmp 7) 22 3 (.int .i64 0) 8 rfl Try.underlying22 PComposeTells.info3 rfl (by decide) (by omega) (.slice none 0 0) [] l A' l.length c' (fun _ => True) (fun _ => False) rfl rfl (Kd.R_nil _ _ _ _ _) hC3.out (fun x cs hx => kint_KM x cs hx) (fun _ hk => hk.elim) (fun _ _ => trivial) HB3.out (by omega) (by simp; omega) ?_
  intro v4 w4 hR4 hB4 hg4 _
  rw [List.nil_append] at hR4
  have hb4 : Below w3.heap.size w3 w4 := ⟨hg4.os, hg4.tape, hg4.output, hg4.size, fun k hk => hg4.block k hk (by simp [Value.ownBlock])⟩
  have h14 : Hid (Bx w4 w.heap.size #[.slice A ps.length c, .slice A' l.length c'] 39) := h13.out.kept (hb4.block _ (by omega))
  have h24 : Hid (Bx w4 (w.heap.size + 1) #[.slice none 0 0, .slice none 0 0] 39) := h23.out.kept (hb4.block _ (by omega))
  have HR5 := Lib.hid (Kd.R_below HR3.out hb4)
  have HR4 := Lib.hid hR4
  have HB4 := Lib.hid hB4
  obtain ⟨A3, c3, rfl⟩ := Kd.R_slice HR5.out
  obtain ⟨A4, c4, rfl⟩ := Kd.R_slice HR4.out
  have z0 := h24.out.cell 0
  have z1 := h24.out.cell 1
  have f0 := h24.out.frozen 0
  have f1 := h24.out.frozen 1
  clear hR4 hB4 hg4 hb4 h13 h23 HR3 HB3 hC3
  refine hK.out _ _ ⟨h14.out.cell 0, h14.out.cell 1⟩ (fun hHeld => ?_)
  clear hK K
  refine norm_ (a' := ?_) ?_ ?_
  rotate_left
  · show Act.put _ (some 8) _ = _
    simp only [Act.put, List.setIfInBounds_toArray, List.set_cons_zero, List.set_cons_succ, i64_w, i32_w]
    rfl
  refine pure_ (i := 6) (N := (some 9)) (v := ?_) (a' := ?_) #[true, true, true, true, true, true, true, false] rfl rfl (by kernel_rfl) (fun _ _ _ h => h) (Or.inl ⟨by rfl, ?_⟩) ?_ ?_
  rotate_left
  · intro w'
    go_simp
    with_reducible rfl
  rotate_left
  · simp only [Act.put, List.setIfInBounds_toArray, List.set_cons_zero, List.set_cons_succ, i64_w, i32_w]
    rfl
  refine last_ (i := 7) (N := none) #[true, true, true, true, true, true, true, true] rfl rfl (by kernel_rfl) (by decide) (fun K hK => ?_)
  refine skip_ (w1 := ?_) (by rfl) rfl ?_ ?_
  rotate_left
  · go_simp
    rfl
  refine hK.out _ _ ?_
  clear hK K
  refine done_ (by kernel_rfl) ?_
  go_wp2
  have q0 := h24.out
  have q1 := blk_put (cs' := #[.slice A3 ps.length c3, .slice none 0 0]) q0 0 (.slice A3 ps.length c3) rfl
  have q2 := blk_put (cs' := #[.slice A3 ps.length c3, .slice A4 l.length c4]) q1 1 (.slice A4 l.length c4) rfl
  refine bodyPost_ret (results_cell_row rfl _ _ (w.heap.size+1) 39 #[.slice A3 ps.length c3, .slice A4 l.length c4] (0,0) _ rfl q2 Try.underlying39 rfl (by kernel_rfl)) rfl ?_
  exact ⟨_, _, rfl, Kd.R_set (Kd.R_set HR5.out q0 (by decide) 0 _) q1 (by decide) 1 _, Kd.R_set (Kd.R_set HR4.out q0 (by decide) 0 _) q1 (by decide) 1 _, below_set (below_set HB4.out (by omega)) (by omega)⟩
end Go.Proofs.Ytajjailmmbcolaa
namespace Go.Proofs.Ytajjailmmbcolaa
open Go Go.Proofs Go.RowKit Go.Shelf Go.Proofs.YtajjailmmbcolaaW.PrintWords Go.Proofs.YtajjailmmbcolaaW.PrintLast Go.Proofs.YtajjailmmbcolaaW.PrintMore PComposeTells
set_option linter.unusedSimpArgs false
set_option linter.unusedVariables false

theorem pt_at {W : World} {base g n cap : Nat} {ps : List S59} (h : RP W base (.slice (some ⟨g, 0, none⟩) n cap) ps) (k : Nat) {p : S59} (hp : ps[k]? = some p) :
    W.cell? ⟨g, k * 3, none⟩ = some (.int .i64 p.f0) ∧ W.cell? ⟨g, k * 3 + 1, none⟩ = some (.int .i64 p.f1) ∧ W.cell? ⟨g, k * 3 + 2, none⟩ = some (.bool p.f2) ∧ W.frozen? ⟨g, k * 3, none⟩ = false ∧ W.frozen? ⟨g, k * 3 + 1, none⟩ = false := by
  have hn := (Kd.R_reads' h).1
  have hk := (List.getElem?_eq_some_iff.1 hp).1
  obtain ⟨c, hl, hM, hc, hf⟩ := Kd.R_elem h ⟨0, 0, false⟩ (k : Int) (by omega) (by omega)
  have e : ps.getD (k : Int).toNat ⟨0, 0, false⟩ = p := by simp [List.getD_eq_getElem?_getD, hp]
  rw [e] at hM
  obtain rfl := k59_openM hM
  simp only [Int.toNat_natCast] at hc hf
  have z : k59.sz = 3 := rfl
  rw [z] at hc hf
  refine ⟨hc 0 _ rfl, hc 1 _ rfl, hc 2 _ rfl, hf 0, hf 1⟩
theorem pt_x {W : World} {base g n cap : Nat} {ps : List S59} (h : RP W base (.slice (some ⟨g, 0, none⟩) n cap) ps) (k : Nat) {p : S59} (hp : ps[k]? = some p) (x : Int) :
    RP (W.setCell ⟨g, k * 3, none⟩ (.int .i64 x)) base (.slice (some ⟨g, 0, none⟩) n cap) (ps.set k ⟨x, p.f1, p.f2⟩) ∧ W.grownBy (W.setCell ⟨g, k * 3, none⟩ (.int .i64 x)) (some g) := by
  have hn := (Kd.R_reads' h).1
  have hk := (List.getElem?_eq_some_iff.1 hp).1
  obtain ⟨c, hl, hM, hc, hf⟩ := Kd.R_elem h ⟨0, 0, false⟩ (k : Int) (by omega) (by omega)
  have e : ps.getD (k : Int).toNat ⟨0, 0, false⟩ = p := by simp [List.getD_eq_getElem?_getD, hp]
  rw [e] at hM
  obtain rfl := k59_openM hM
  exact Kd.R_seg h (k : Int) (by omega) (by omega) (seg := [.int .i64 x]) (j := 0) hl hc (by show _ ≤ 3; simp) (x' := ⟨x, p.f1, p.f2⟩) (k59_mkM W base (fun k => True ∧ k ≠ g) ⟨x, p.f1, p.f2⟩) (fun _ hk => hk)
theorem pt_y {W : World} {base g n cap : Nat} {ps : List S59} (h : RP W base (.slice (some ⟨g, 0, none⟩) n cap) ps) (k : Nat) {p : S59} (hp : ps[k]? = some p) (x : Int) :
    RP (W.setCell ⟨g, k * 3 + 1, none⟩ (.int .i64 x)) base (.slice (some ⟨g, 0, none⟩) n cap) (ps.set k ⟨p.f0, x, p.f2⟩) ∧ W.grownBy (W.setCell ⟨g, k * 3 + 1, none⟩ (.int .i64 x)) (some g) := by
  have hn := (Kd.R_reads' h).1
  have hk := (List.getElem?_eq_some_iff.1 hp).1
  obtain ⟨c, hl, hM, hc, hf⟩ := Kd.R_elem h ⟨0, 0, false⟩ (k : Int) (by omega) (by omega)
  have e : ps.getD (k : Int).toNat ⟨0, 0, false⟩ = p := by simp [List.getD_eq_getElem?_getD, hp]
  rw [e] at hM
  obtain rfl := k59_openM hM
  exact Kd.R_seg h (k : Int) (by omega) (by omega) (seg := [.int .i64 x]) (j := 1) hl hc (by show _ ≤ 3; simp) (x' := ⟨p.f0, x, p.f2⟩) (k59_mkM W base (fun k => True ∧ k ≠ g) ⟨p.f0, x, p.f2⟩) (fun _ hk => hk)
/-- The first k points moved. -/
def mvd (x y : Int) (ps : List S59) (k : Nat) : List S59 := (ps.take k).map (shiftP x y) ++ ps.drop k
theorem mvd_len {x y : Int} {ps : List S59} {k : Nat} : (mvd x y ps k).length = ps.length := by simp [mvd]; omega
theorem mvd_get {x y : Int} {ps : List S59} {k : Nat} {p : S59} (hp : ps[k]? = some p) : (mvd x y ps k)[k]? = some p := by
  have hk := (List.getElem?_eq_some_iff.1 hp).1
  unfold mvd
  rw [List.getElem?_append_right (by simp; omega), List.getElem?_drop, ← hp]
  congr 1
  simp
  omega
theorem mvd_step {x y : Int} {ps : List S59} {k : Nat} {p p' : S59} (hp : ps[k]? = some p) : ((mvd x y ps k).set k p').set k (shiftP x y p) = mvd x y ps (k + 1) := by
  have hk := (List.getElem?_eq_some_iff.1 hp).1
  rw [List.set_set]
  unfold mvd
  apply List.ext_getElem?
  intro i
  rw [List.getElem?_set]
  by_cases h1 : k = i
  · subst h1
    rw [if_pos rfl, if_pos (by simp; omega), List.getElem?_append_left (by simp; omega), List.getElem?_map, List.getElem?_take, if_pos (by omega), hp]
    rfl
  · rw [if_neg h1]
    rcases Nat.lt_or_ge i k with h2 | h2
    · rw [List.getElem?_append_left (by simp; omega), List.getElem?_append_left (by simp; omega), List.getElem?_map, List.getElem?_map, List.getElem?_take, List.getElem?_take, if_pos h2, if_pos (by omega)]
    · rw [List.getElem?_append_right (by simp; omega), List.getElem?_append_right (by simp; omega), List.getElem?_drop, List.getElem?_drop]
      congr 1
      simp
      omega
theorem mvd_all {x y : Int} {ps : List S59} : mvd x y ps ps.length = ps.map (shiftP x y) := by simp [mvd]
theorem mvd_zero {x y : Int} {ps : List S59} : mvd x y ps 0 = ps := by simp [mvd]

set_option maxRecDepth 100000 in
set_option maxHeartbeats 2000000 in
/-- outline.Moved. -/
theorem Moved_calls (A A' : Option Addr) (c c' : Nat) (ps : List S59) (l : List Int) (x y : Int) (w : World) (h : Kd.C k59 w A ps.length ps) (h' : Kd.C (Kd.int .i64) w A' l.length l) (hb : ps.length ≤ 1000000) (hb' : l.length ≤ 1000000) :
    Calls Try.prog 48 #[.agg #[.slice A ps.length c, .slice A' l.length c'], .int .i64 x, .int .i64 y] w (OlP (ps.map (shiftP x y), l) w) := by
  have HC0 := Lib.hid h
  have HC0' := Lib.hid h'
  clear h h'
  go_enter Try.func48, Try.ntmps48
  go_wp2_with fail
  have hx2 := Bx.new (w.alloc (.cells #[.slice A ps.length c, .slice A' l.length c'] 39)) #[.slice none 0 0, .slice none 0 0] 39
  have hB2 : Below w.heap.size w ((w.alloc (.cells #[.slice A ps.length c, .slice A' l.length c'] 39)).alloc (.cells #[.slice none 0 0, .slice none 0 0] 39)) := ((Below.refl _ _).alloc (Nat.le_refl _) _).alloc (by simp [World.size_alloc]) _
  have hs2 : ((w.alloc (.cells #[.slice A ps.length c, .slice A' l.length c'] 39)).alloc (.cells #[.slice none 0 0, .slice none 0 0] 39)).heap.size = w.heap.size + 2 := by simp [World.size_alloc]
  have hx1 := (Bx.new w #[.slice A ps.length c, .slice A' l.length c'] 39).alloc (.cells #[.slice none 0 0, .slice none 0 0] 39)
  rw [World.size_alloc] at hx2
  generalize (w.alloc (.cells #[.slice A ps.length c, .slice A' l.length c'] 39)).alloc (.cells #[.slice none 0 0, .slice none 0 0] 39) = W2 at hx1 hx2 hB2 hs2 ⊢
  refine (clone60_calls A A' c c' ps l W2 (Kd.C_below HC0.out hB2) (Kd.C_below HC0'.out hB2) hb hb').mono ?_
  rintro e w1 ⟨vp, ve, rfl, hR, hR', hb1⟩
  simp only at hR hR'
  obtain ⟨A3, c3, rfl⟩ := Kd.R_slice hR
  obtain ⟨A4, c4, rfl⟩ := Kd.R_slice hR'
  have hs1 := hb1.size
  have hx3 := hx2.kept (hb1.block _ (by omega))
  have hB1 := hB2.trans (hb1.mono (by omega))
  rw [hs2] at hR hR'
  clear hx1 hx2 hB2 HC0 HC0'
  go_wp2_with fail
  have hx4 := Bx.new w1 #[.slice A3 ps.length c3, .slice A4 l.length c4] 39
  have hx5 := hx3.alloc (.cells #[.slice A3 ps.length c3, .slice A4 l.length c4] 39)
  have hB5 := hB1.alloc hB1.size (.cells #[.slice A3 ps.length c3, .slice A4 l.length c4] 39)
  have hR5 : RP (w1.alloc (.cells #[.slice A3 ps.length c3, .slice A4 l.length c4] 39)) (w.heap.size + 2) _ _ := Kd.R_below hR (below_alloc (Below.refl _ _) _)
  have hR5' : RI (w1.alloc (.cells #[.slice A3 ps.length c3, .slice A4 l.length c4] 39)) (w.heap.size + 2) _ _ := Kd.R_below hR' (below_alloc (Below.refl _ _) _)
  have hs5 : (w1.alloc (.cells #[.slice A3 ps.length c3, .slice A4 l.length c4] 39)).heap.size = w1.heap.size + 1 := World.size_alloc _ _
  clear hR hR' hx3 hB1
  generalize w1.alloc (.cells #[.slice A3 ps.length c3, .slice A4 l.length c4] 39) = W5 at hx4 hx5 hB5 hR5 hR5' hs5 ⊢
  have f0 := hx4.cell 0
  have HX4 := Lib.hid hx4
  have HX5 := Lib.hid hx5
  have HB5 := Lib.hid hB5
  have HR5 := Lib.hid hR5
  have HR5' := Lib.hid hR5'
  have HS5 := Lib.hid hs5
  clear hx4 hx5 hB5 hR5 hR5' hs5 f0
  have hg1 : w.heap.size + 2 ≤ w1.heap.size := by omega
  clear hs1 hs2 hb1
  generalize w1.heap.size = g7 at *
  go_loopw [14] (fun i wr => ∃ k : Nat, i = .int .i64 k ∧ k ≤ ps.length ∧ Hid (RP wr (w.heap.size + 2) (.slice A3 ps.length c3) (mvd x y ps k)) ∧ Hid (RI wr (w.heap.size + 2) (.slice A4 l.length c4) l) ∧ Hid (Below w.heap.size w wr) ∧ Hid (Bx wr g7 #[.slice A3 ps.length c3, .slice A4 l.length c4] 39) ∧ Hid (Bx wr (w.heap.size + 1) #[.slice none 0 0, .slice none 0 0] 39)) (fun i _ => ps.length - (intOf i).toNat)
  case atStart => exact ⟨0, rfl, Nat.zero_le _, by rw [mvd_zero]; exact HR5, HR5', HB5, HX4, HX5⟩
  case round =>
    obtain ⟨k, rfl, hk, hR, hR', hB, hx7, hx6⟩ := hrel
    have f0 := hx7.out.cell 0
    by_cases hlt : k < ps.length
    · obtain ⟨g, cap, e, hbg, _⟩ := Kd.R_form hR.out (by rw [mvd_len]; omega)
      rw [mvd_len] at e
      injection e with e1 e2 e3
      subst e1 e3
      obtain ⟨p, hp⟩ : ∃ p, ps[k]? = some p := ⟨_, List.getElem?_eq_getElem hlt⟩
      obtain ⟨p0, p1, p2, z0, z1⟩ := pt_at hR.out k (mvd_get hp)
      have q0 : (0 : Int) ≤ (k : Int) := by omega
      have q1 : (k : Int) < (ps.length : Int) := by omega
      go_upto_region 6 with (fail)
      have hgrp : Value.ownBlock (.slice (some ⟨g, 0, none⟩) ps.length c3) = some g := by simp [Value.ownBlock]
      obtain ⟨r1, g1⟩ := pt_x hR.out k (mvd_get hp) (wrap64 (p.f0 + x))
      have b1 : Below (w.heap.size + 2) wr (wr.setCell ⟨g, k * 3, none⟩ (.int .i64 (wrap64 (p.f0 + x)))) := (Below.refl _ _).setCell hbg _
      have hne : g ≠ g7 := by
        have := Kd.R_ne hR.out hx7.out (by decide)
        rw [hgrp] at this
        exact fun h => this (by rw [h])
      have k7 : Hid (Bx (wr.setCell ⟨g, k * 3, none⟩ (.int .i64 (wrap64 (p.f0 + x)))) g7 _ 39) := blk_far hx7.out (fun h => hne h.symm) _
      have k6 : Hid (Bx (wr.setCell ⟨g, k * 3, none⟩ (.int .i64 (wrap64 (p.f0 + x)))) (w.heap.size + 1) _ 39) := blk_far hx6.out (p := ⟨g, k * 3, none⟩) (by simp; omega) _
      have kB := hB.out.trans (b1.mono (by omega))
      have kI := Kd.R_over hR'.out hR.out (by decide) (by rw [hgrp]; exact g1)
      have r1 := Lib.hid r1
      have kB := Lib.hid kB
      have kI := Lib.hid kI
      clear b1 g1 f0 p0 p1 p2 z0 z1 hR hR' hB hx7 hx6
      generalize wr.setCell ⟨g, k * 3, none⟩ (.int .i64 (wrap64 (p.f0 + x))) = W1 at r1 kB kI k6 k7 ⊢
      obtain ⟨p0, p1, p2, z0, z1⟩ := pt_at r1.out k (List.getElem?_set_self (by rw [mvd_len]; omega))
      have f0 := k7.out.cell 0
      simp only at p0 p1 p2
      go_upto_region 7 with (fail)
      obtain ⟨r2, g1⟩ := pt_y r1.out k (List.getElem?_set_self (by rw [mvd_len]; omega)) (wrap64 (p.f1 + y))
      have b1 : Below (w.heap.size + 2) W1 (W1.setCell ⟨g, k * 3 + 1, none⟩ (.int .i64 (wrap64 (p.f1 + y)))) := (Below.refl _ _).setCell hbg _
      have j7 : Hid (Bx (W1.setCell ⟨g, k * 3 + 1, none⟩ (.int .i64 (wrap64 (p.f1 + y)))) g7 _ 39) := blk_far k7.out (fun h => hne h.symm) _
      have j6 : Hid (Bx (W1.setCell ⟨g, k * 3 + 1, none⟩ (.int .i64 (wrap64 (p.f1 + y)))) (w.heap.size + 1) _ 39) := blk_far k6.out (p := ⟨g, k * 3 + 1, none⟩) (by simp; omega) _
      have jB := kB.out.trans (b1.mono (by omega))
      have jI := Kd.R_over kI.out r1.out (by decide) (by rw [hgrp]; exact g1)
      have e5 := mvd_step (x := x) (y := y) (p' := ⟨wrap64 (p.f0 + x), p.f1, p.f2⟩) hp
      simp only at r2
      change _ = _ at e5
      unfold shiftP at e5
      rw [e5] at r2
      have r2 := Lib.hid r2
      have jB := Lib.hid jB
      have jI := Lib.hid jI
      clear b1 g1 e5 f0 p0 p1 p2 z0 z1 r1 kI kB k7 k6
      generalize W1.setCell ⟨g, k * 3 + 1, none⟩ (.int .i64 (wrap64 (p.f1 + y))) = W3 at r2 jB jI j6 j7 ⊢
      go_wp2
      go_roundw
      case rel => exact ⟨k + 1, by go_num, by omega, r2, jI, jB, j7, j6⟩
      case measure => simp [intOf]; omega
    · obtain rfl : k = ps.length := by omega
      have f1 := hx7.out.cell 1
      rw [mvd_all] at hR
      have q0 := hx6.out
      have z0 := hx6.out.cell 0
      have z1 := hx6.out.cell 1
      have y0 := hx6.out.frozen 0
      have y1 := hx6.out.frozen 1
      go_wp2_with fail
      have q1 := blk_put (cs' := #[.slice A3 ps.length c3, .slice none 0 0]) q0 0 (.slice A3 ps.length c3) rfl
      have q2 := blk_put (cs' := #[.slice A3 ps.length c3, .slice A4 l.length c4]) q1 1 (.slice A4 l.length c4) rfl
      refine bodyPost_ret (results_cell_row rfl _ _ (w.heap.size+1) 39 #[.slice A3 ps.length c3, .slice A4 l.length c4] (0,0) _ rfl q2 Try.underlying39 rfl (by kernel_rfl)) rfl ?_
      exact ⟨_, _, rfl, Kd.R_lower (Kd.R_set (Kd.R_set hR.out q0 (by decide) 0 _) q1 (by decide) 1 _) (by omega), Kd.R_lower (Kd.R_set (Kd.R_set hR'.out q0 (by decide) 0 _) q1 (by decide) 1 _) (by omega), below_set (below_set hB.out (by omega)) (by omega)⟩
end Go.Proofs.Ytajjailmmbcolaa
