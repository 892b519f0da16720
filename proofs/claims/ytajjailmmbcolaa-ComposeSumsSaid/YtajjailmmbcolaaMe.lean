/- compose: fonts by numbers: Made, walked. -/
import Derived.Lib.Hide
import Derived.Deep.LoopGhost
import Derived.Deep.DeepCutAuto
import Derived.Deep.CutBlock
import Derived.Test.YtajjailmmbcolaaCu
namespace Go.Proofs.Ytajjailmmbcolaa
open Go Go.Proofs Go.RowKit Go.Shelf Go.Proofs.YtajjailmmbcolaaW.PrintWords Go.Proofs.YtajjailmmbcolaaW.PrintLast Go.Proofs.YtajjailmmbcolaaW.PrintMore PComposeTells
set_option linter.unusedSimpArgs false
set_option linter.unusedVariables false

/-- rest, in numbers. -/
def rst (x n : Int) : Int := Int.tmod (Int.tmod x n + n) n
theorem rst_range (x n : Int) (h0 : 1 ≤ n) (h1 : n ≤ 1000) : 0 ≤ rst x n ∧ rst x n < n := by
  unfold rst
  have a1 := Int.tmod_lt_of_pos x (show 0 < n by omega)
  have a2 : -n < Int.tmod x n := by
    have := Int.tmod_lt_of_pos (-x) (show 0 < n by omega)
    rw [Int.neg_tmod] at this
    omega
  exact ⟨Int.tmod_nonneg _ (by omega), Int.tmod_lt_of_pos _ (by omega)⟩
theorem rest_calls (x n : Int) (h0 : 1 ≤ n) (h1 : n ≤ 1000) (w : World) : Calls Try.prog 20 #[.int .i64 x, .int .i64 n] w fun e w' => e = .returned (.int .i64 (rst x n)) ∧ w' = w := by
  have a1 := Int.tmod_lt_of_pos x (show 0 < n by omega)
  have a2 : -n < Int.tmod x n := by
    have := Int.tmod_lt_of_pos (-x) (show 0 < n by omega)
    rw [Int.neg_tmod] at this
    omega
  have hz : (n == 0) = false := by simp; omega
  have hz' : ¬ n = 0 := by omega
  have hm : ∀ y : Int, 0 ≤ y → y % n = Int.tmod y n := fun y hy => (Int.tmod_eq_emod_of_nonneg hy).symm
  have H := Lib.hid hm
  clear hm
  go_enter Try.func20, Try.ntmps20
  go_wp2
  go_ret
  refine ⟨?_, rfl⟩
  show Ending.returned (.int .i64 ((x.tmod n + n) % n)) = _
  rw [H.out _ (by omega)]
  rfl
/-- How many glyphs. -/
def nl (l : List Int) : Nat := if l.length = 0 then 1 else (1 + rst (l.getD 0 0) 8).toNat
theorem nl_range (l : List Int) : 1 ≤ nl l ∧ nl l ≤ 8 := by
  unfold nl
  have := rst_range (l.getD 0 0) 8 (by omega) (by omega)
  split <;> omega
def made_T20 : Bool × List (List Nat × List Nat) := (true, [([], []), ([0], [0]), ([], []), ([], []), ([3], [3]), ([], []), ([4, 5], [4, 5]), ([6], [6]), ([7], [7]), ([], []), ([], []), ([], []), ([10, 11], [10, 11]), ([12], [12]), ([13], [13]), ([], []), ([], []), ([15, 16], [15, 16]), ([17], [17]), ([18], [18]), ([19, 14], [19]), ([20], [20]), ([9, 14, 21], [9, 14, 21]), ([22], [22]), ([8, 23, 20], [8, 23]), ([1, 2, 0, 1, 2, 3, 4, 5, 6, 7, 8, 9, 10, 11, 12, 13, 14, 15, 16, 17, 18, 19, 20, 21, 22, 23, 24], [1, 2]), ([25, 0, 1, 2, 3, 4, 5, 6, 7, 8, 9, 10, 11, 12, 13, 14, 15, 16, 17, 18, 19, 20, 21, 22, 23, 24], [25]), ([26, 24, 24, 0, 1, 2, 3, 4, 5, 6, 7, 8, 9, 10, 11, 12, 13, 14, 15, 16, 17, 18, 19, 20, 21, 22, 23, 24], [24, 26])])
def made_B20 : List Nat := [0, 1, 0, 0, 8, 0, 56, 120, 248, 0, 0, 0, 3072, 7168, 15360, 0, 0, 98304, 229376, 491520, 1047552, 2096128, 4193792, 8388096, 16777208, 33554431, 67108863, 134217727]
theorem made_tab20 : rtab .any (opsOf Try.f11 20) = made_T20 := by kernel_rfl
theorem made_bits20 : waitsOk made_T20.2 made_B20 = true := by kernel_rfl
def zf : Array Value := #[.int .i64 0, .slice none 0 0, .slice none 0 0, .slice none 0 0, .slice none 0 0, .slice none 0 0, .slice none 0 0, .slice none 0 0, .slice none 0 0]
def uf (u : Value) : Array Value := #[.int .i64 0, u, .slice none 0 0, .slice none 0 0, .slice none 0 0, .slice none 0 0, .slice none 0 0, .slice none 0 0, .slice none 0 0]

theorem R_new {α : Type} (d : Kd α) (e : Nat) {W : World} {base : Nat} {xs : List α} {inner : List Value} {ok : Nat → Prop}
    (hrep : Reps (d.M W base (fun _ => False)) d.sz xs inner) (hfresh : ok W.heap.size) (hbase : base ≤ W.heap.size) (hm : xs.length ≤ 9223372036854775807) :
    d.R e (W.alloc (.cells inner.toArray e)) base ok (.slice (some ⟨W.heap.size, 0, none⟩) xs.length xs.length) xs := by
  refine ⟨fun k hk => ?_, inner, ?_, ?_⟩
  · have : W.heap.size = k := by simpa [Value.ownBlock] using hk
    subst this
    exact hfresh
  · have h2 := World.ownsRow_lit (base := base) (e := e) (size := d.sz) W inner.toArray xs.length hbase (by simpa [maxLen] using hm) (by simpa using hrep.1)
    simpa using h2
  · refine hrep.imp_ (fun p c hp => d.M_mono (fun k hk => hk.1.elim) (Kd.M_below (d.M_bound hp) (below_alloc (Below.refl _ _) _)))
theorem three_new {w W : World} {c0 c1 c2 : Array Value} {t0 t1 t2 : TypeId} (h : ((w.alloc (.cells c0 t0)).alloc (.cells c1 t1)).alloc (.cells c2 t2) = W) :
    Bx W w.heap.size c0 t0 ∧ Bx W (w.heap.size + 1) c1 t1 ∧ Bx W (w.heap.size + 1 + 1) c2 t2 ∧ W.heap.size = w.heap.size + 3 ∧ Below w.heap.size w W := by
  subst h
  have h1 := Bx.new (w.alloc (.cells c0 t0)) c1 t1
  have h2 := Bx.new ((w.alloc (.cells c0 t0)).alloc (.cells c1 t1)) c2 t2
  simp only [World.size_alloc] at h1 h2
  exact ⟨((Bx.new _ _ _).alloc _).alloc _, h1.alloc _, h2, by simp [World.size_alloc], (((Below.refl _ w).alloc (Nat.le_refl _) _).alloc (by simp [World.size_alloc]) _).alloc (by simp [World.size_alloc]; omega) _⟩
/-- The new glyph. -/
theorem new_glyph {W : World} {base k : Nat} (hk : k ≤ 8) (hb : base ≤ W.heap.size) (h3 : ¬ k % 3 = 2) (T : Obj) :
    k45.M (((W.alloc (.cells #[.int .i64 (k : Int), .int .i64 1, .bool true, .int .i64 (10 * (k : Int)), .int .i64 2, .bool false] 59)).alloc (.cells #[.int .i64 1] 3)).alloc T) base (fun b => b = W.heap.size ∨ b = W.heap.size + 1) (mkS k [])
      [.string ⟨#[]⟩, .int .i64 0, .bool false, .slice (some ⟨W.heap.size, 0, none⟩) 2 2, .slice (some ⟨W.heap.size + 1, 0, none⟩) 1 1, .slice none 0 0, .slice none 0 0, .slice none 0 0, .slice none 0 0] := by
  have e : outlS k = ⟨[⟨(k : Int), 1, true⟩, ⟨10 * (k : Int), 2, false⟩], [1]⟩ := by simp [outlS, h3]
  have g3 := R_new k59 59 (W := W) (base := base) (xs := [(⟨(k : Int), 1, true⟩ : S59), ⟨10 * (k : Int), 2, false⟩]) (inner := [.int .i64 (k : Int), .int .i64 1, .bool true, .int .i64 (10 * (k : Int)), .int .i64 2, .bool false])
    (ok := fun b => b = W.heap.size ∨ b = W.heap.size + 1) (Reps.c3 (k59_mkM _ _ _ (⟨(k : Int), 1, true⟩ : S59)) (Reps.c3 (k59_mkM _ _ _ (⟨10 * (k : Int), 2, false⟩ : S59)) (Reps.none _ _))) (.inl rfl) hb (by simp)
  have g4 := R_new (Kd.int .i64) 3 (W := W.alloc (.cells #[.int .i64 (k : Int), .int .i64 1, .bool true, .int .i64 (10 * (k : Int)), .int .i64 2, .bool false] 59)) (base := base) (xs := [(1 : Int)]) (inner := [.int .i64 1])
    (ok := fun b => b = W.heap.size ∨ b = W.heap.size + 1) (Reps.one (show Kd.M (Kd.int .i64) _ _ _ 1 [.int .i64 1] from rfl) (Reps.none _ _)) (.inr (by rw [World.size_alloc])) (by rw [World.size_alloc]; omega) (by simp)
  rw [World.size_alloc] at g4
  refine k45_mkM _ _ _ (mkS k []) (v3 := .slice (some ⟨W.heap.size, 0, none⟩) 2 2) ?_ (v4 := .slice (some ⟨W.heap.size + 1, 0, none⟩) 1 1) ?_ (v5 := .slice none 0 0) (Kd.R_nil _ _ _ _ _) (v6 := .slice none 0 0) (Kd.R_nil _ _ _ _ _) (v7 := .slice none 0 0) (Kd.R_nil _ _ _ _ _) (v8 := .slice none 0 0) (Kd.R_nil _ _ _ _ _)
  · show k59.R 59 _ _ _ _ (outlS k).f0
    rw [e]
    exact Kd.R_alloc (Kd.R_alloc g3 _) _
  · show (Kd.int .i64).R 3 _ _ _ _ (outlS k).f1
    rw [e]
    exact Kd.R_alloc g4 _
theorem new_glyph2 {W : World} {base k : Nat} (h3 : k % 3 = 2) :
    k45.M W base (fun _ => False) (mkS k []) [.string ⟨#[]⟩, .int .i64 0, .bool false, .slice none 0 0, .slice none 0 0, .slice none 0 0, .slice none 0 0, .slice none 0 0, .slice none 0 0] := by
  have e : outlS k = ⟨[], []⟩ := by simp [outlS, h3]
  refine k45_mkM _ _ _ (mkS k []) (v3 := .slice none 0 0) ?_ (v4 := .slice none 0 0) ?_ (v5 := .slice none 0 0) (Kd.R_nil _ _ _ _ _) (v6 := .slice none 0 0) (Kd.R_nil _ _ _ _ _) (v7 := .slice none 0 0) (Kd.R_nil _ _ _ _ _) (v8 := .slice none 0 0) (Kd.R_nil _ _ _ _ _)
  · show k59.R 59 _ _ _ _ (outlS k).f0
    rw [e]; exact Kd.R_nil _ _ _ _ _
  · show (Kd.int .i64).R 3 _ _ _ _ (outlS k).f1
    rw [e]; exact Kd.R_nil _ _ _ _ _
/-- The parts' row of one glyph has grown: its slice is put back. -/
theorem part_put {wd w1 : World} {base g n cu a : Nat} {gs : List S45} {oki : Nat → Prop} {Ap : Option Addr} {cp : Nat} {v3 v4 v6 v7 v8 v1 : Value} (p : S48) (ha : a < n)
    (hH : Kd.H k45 45 wd base (fun _ => True) (.slice (some ⟨g, 0, none⟩) n cu) gs (a : Int) oki [.string (rd_T45 gs (a : Int)).f0, .int .i64 (rd_T45 gs (a : Int)).f1, .bool (rd_T45 gs (a : Int)).f2, v3, v4, .slice Ap (rd_T45 gs (a : Int)).f4.length cp, v6, v7, v8])
    (g3 : k59.R 59 wd base oki v3 (rd_T45 gs (a : Int)).f3.f0) (g4 : (Kd.int .i64).R 3 wd base oki v4 (rd_T45 gs (a : Int)).f3.f1) (g5 : k48.R 48 wd base oki (.slice Ap (rd_T45 gs (a : Int)).f4.length cp) (rd_T45 gs (a : Int)).f4)
    (g6 : k147.R 147 wd base oki v6 (rd_T45 gs (a : Int)).f5) (g7 : k149.R 149 wd base oki v7 (rd_T45 gs (a : Int)).f6) (g8 : k151.R 151 wd base oki v8 (rd_T45 gs (a : Int)).f7)
    (hg : wd.grownBy w1 (Value.slice Ap (rd_T45 gs (a : Int)).f4.length cp).ownBlock)
    (ho : k48.R 48 w1 base (fun k => oki k ∨ True ∧ wd.heap.size ≤ k) v1 ((rd_T45 gs (a : Int)).f4 ++ [p])) :
    Kd.S k45 45 (w1.setCell ⟨g, a * 9 + 5, none⟩ v1) base (fun _ => True) (.slice (some ⟨g, 0, none⟩) n cu) (gs.set a ⟨(rd_T45 gs a).f0, (rd_T45 gs a).f1, (rd_T45 gs a).f2, ⟨(rd_T45 gs a).f3.f0, (rd_T45 gs a).f3.f1⟩, (rd_T45 gs a).f4 ++ [p], (rd_T45 gs a).f5, (rd_T45 gs a).f6, (rd_T45 gs a).f7⟩) ∧
    w1.cell? ⟨g, a * 9 + 5, none⟩ = some (.slice Ap (rd_T45 gs (a : Int)).f4.length cp) ∧ w1.frozen? ⟨g, a * 9 + 5, none⟩ = false ∧ ∃ cells, w1.heap[g]? = some (.cells cells 45 (0, 0)) := by
  have hH1 := Kd.H_grown (Kd.H_widen hH) hg (fun k e => .inl (g5.1 k e))
  have t5 := Kd.R_typed g5
  have e3 := Kd.R_over' (v := .slice Ap (rd_T45 gs (a : Int)).f4.length cp) g3 t5 (by decide) hg
  have e4 := Kd.R_over' (v := .slice Ap (rd_T45 gs (a : Int)).f4.length cp) g4 t5 (by decide) hg
  have e6 := Kd.R_over' (v := .slice Ap (rd_T45 gs (a : Int)).f4.length cp) g6 t5 (by decide) hg
  have e7 := Kd.R_over' (v := .slice Ap (rd_T45 gs (a : Int)).f4.length cp) g7 t5 (by decide) hg
  have e8 := Kd.R_over' (v := .slice Ap (rd_T45 gs (a : Int)).f4.length cp) g8 t5 (by decide) hg
  have h0 : (0 : Int) ≤ (a : Int) := by omega
  have h1 : (a : Int) < (n : Int) := by omega
  obtain ⟨_, _, hraw, _, _, hcc, _⟩ := Kd.H_raw hH1 h0 h1
  obtain ⟨_, hfr⟩ := Kd.H_at hH1 h0 h1
  have hz : k45.sz = 9 := rfl
  have hx := hcc 5 _ rfl
  have hf := hfr 5
  rw [hz, Int.toNat_natCast] at hx hf
  have hS := (Kd.S_seg0 hH1 h0 h1 (seg := [v1]) (j := 5) (show 6 ≤ 9 from by decide) (okp := fun k => oki k ∨ True ∧ wd.heap.size ≤ k)
    (x' := (⟨(rd_T45 gs a).f0, (rd_T45 gs a).f1, (rd_T45 gs a).f2, ⟨(rd_T45 gs a).f3.f0, (rd_T45 gs a).f3.f1⟩, (rd_T45 gs a).f4 ++ [p], (rd_T45 gs a).f5, (rd_T45 gs a).f6, (rd_T45 gs a).f7⟩ : S45))
    (k45_mkM _ _ _ (⟨(rd_T45 gs a).f0, (rd_T45 gs a).f1, (rd_T45 gs a).f2, ⟨(rd_T45 gs a).f3.f0, (rd_T45 gs a).f3.f1⟩, (rd_T45 gs a).f4 ++ [p], (rd_T45 gs a).f5, (rd_T45 gs a).f6, (rd_T45 gs a).f7⟩ : S45) (Kd.R_mono e3 (fun _ h => .inl h)) (Kd.R_mono e4 (fun _ h => .inl h)) ho (Kd.R_mono e6 (fun _ h => .inl h)) (Kd.R_mono e7 (fun _ h => .inl h)) (Kd.R_mono e8 (fun _ h => .inl h)))
    (fun k hk => hk)).1
  rw [hz, Int.toNat_natCast] at hS
  obtain ⟨cells, hc⟩ := Kd.R_typed hraw g rfl
  exact ⟨hS, hx, hf, cells, hc⟩
/-- The result's cell is written. -/
abbrev setF (w : World) (b : Nat) (u : Value) : World := ((((((((w.setCell ⟨b, 0, none⟩ (.int .i64 0)).setCell ⟨b, 1, none⟩ u).setCell ⟨b, 2, none⟩ (.slice none 0 0)).setCell ⟨b, 3, none⟩ (.slice none 0 0)).setCell ⟨b, 4, none⟩ (.slice none 0 0)).setCell ⟨b, 5, none⟩ (.slice none 0 0)).setCell ⟨b, 6, none⟩ (.slice none 0 0)).setCell ⟨b, 7, none⟩ (.slice none 0 0)).setCell ⟨b, 8, none⟩ (.slice none 0 0)
theorem zf_set {w : World} {b : Nat} (h : Bx w b zf 32) (u : Value) : (setF w b u).heap[b]? = some (.cells (uf u) 32 (0, 0)) :=
  blk_put (cs := uf u) (blk_put (cs := uf u) (blk_put (cs := uf u) (blk_put (cs := uf u) (blk_put (cs := uf u) (blk_put (cs := uf u) (blk_put (cs := uf u) (blk_put (cs := zf) (blk_put (cs := zf) h 0 _ rfl) 1 u rfl) 2 _ rfl) 3 _ rfl) 4 _ rfl) 5 _ rfl) 6 _ rfl) 7 _ rfl) 8 _ rfl
theorem made_end {loops : Bool} {l : List Int} {gs : List S45} {w wr : World} {Au : Option Addr} {cu : Nat} (hg : PComposeTells.Good loops 16 gs) (hgl : gs.length = nl l) (h4 : Bx wr w.heap.size zf 32)
    (hS : Kd.S k45 45 wr w.heap.size (fun _ => True) (.slice Au gs.length cu) gs) (hb : Below w.heap.size w wr) :
    ∃ (gs : List S45), PComposeTells.Good loops 16 gs ∧ gs.length = nl l ∧ ∃ (v1 : Value), Ending.returned (.agg (uf (.slice Au (nl l) cu))) = .returned (.agg #[.int .i64 0, v1, .slice none 0 0, .slice none 0 0, .slice none 0 0, .slice none 0 0, .slice none 0 0, .slice none 0 0, .slice none 0 0]) ∧ Kd.S k45 45 (setF wr w.heap.size (.slice Au (nl l) cu)) w.heap.size (fun _ => True) v1 gs ∧ Below w.heap.size w (setF wr w.heap.size (.slice Au (nl l) cu)) := by
  refine ⟨gs, hg, hgl, .slice Au (nl l) cu, rfl, ?_, ?_⟩
  · rw [← hgl]
    have ht := Kd.S_types hS h4 (by decide)
    exact Kd.S_mono (Kd.S_far (p := ⟨w.heap.size, 8, none⟩) (Kd.S_far (p := ⟨w.heap.size, 7, none⟩) (Kd.S_far (p := ⟨w.heap.size, 6, none⟩) (Kd.S_far (p := ⟨w.heap.size, 5, none⟩) (Kd.S_far (p := ⟨w.heap.size, 4, none⟩) (Kd.S_far (p := ⟨w.heap.size, 3, none⟩) (Kd.S_far (p := ⟨w.heap.size, 2, none⟩) (Kd.S_far (p := ⟨w.heap.size, 1, none⟩) (Kd.S_far (p := ⟨w.heap.size, 0, none⟩) ht (fun _ hk => hk.2) _) (fun _ hk => hk.2) _) (fun _ hk => hk.2) _) (fun _ hk => hk.2) _) (fun _ hk => hk.2) _) (fun _ hk => hk.2) _) (fun _ hk => hk.2) _) (fun _ hk => hk.2) _) (fun _ hk => hk.2) _) (fun _ _ => trivial)
  · exact below_set (below_set (below_set (below_set (below_set (below_set (below_set (below_set (below_set hb (Nat.le_refl _)) (Nat.le_refl _)) (Nat.le_refl _)) (Nat.le_refl _)) (Nat.le_refl _)) (Nat.le_refl _)) (Nat.le_refl _)) (Nat.le_refl _)) (Nat.le_refl _)
set_option maxRecDepth 100000 in
set_option maxHeartbeats 4000000 in
theorem Made_calls (loops : Bool) (A : Option Addr) (c : Nat) (l : List Int) (w : World) (hr : (Kd.int .i64).C w A l.length l) (hc : l.length ≤ c) (hl8 : l.length * 8 ≤ 140737488351232) :
    Calls Try.prog 11 #[.slice A l.length c, .bool loops] w fun e w' => ∃ (gs : List S45) (v1 : Value), PComposeTells.Good loops 16 gs ∧ gs.length = nl l ∧ e = .returned (.agg #[.int .i64 0, v1, .slice none 0 0, .slice none 0 0, .slice none 0 0, .slice none 0 0, .slice none 0 0, .slice none 0 0, .slice none 0 0]) ∧ Kd.S k45 45 w' w.heap.size (fun _ => True) v1 gs ∧ Below w.heap.size w w' := by
  have HR := Lib.hid hr
  clear hr
  go_enter Try.func11, Try.ntmps11
  go_upto_if 14 with (fail)
  have hx4 := Bx.new w zf 32
  have hB4 : Below w.heap.size w (w.alloc (.cells zf 32)) := (Below.refl _ _).alloc (Nat.le_refl _) _
  have hs4 : (w.alloc (.cells zf 32)).heap.size = w.heap.size + 1 := by rw [World.size_alloc]
  simp only [zf] at hx4 hB4 hs4
  generalize w.alloc (.cells _ 32) = W4 at hx4 hB4 hs4 ⊢
  go_cut [5] from 12 to 19 (fun v5 wc => v5 = .int .i64 ((nl l : Nat) : Int) ∧ wc = W4)
  case first =>
    by_cases h : l.length = 0
    · have d1 : decide (0 < l.length) = false := decide_eq_false (by omega)
      have hnl : Hid (nl l = 1) := by show _ = _; unfold nl; rw [if_pos h]
      go_wp2
      go_meet
      case rel => exact ⟨by rw [hnl.out]; rfl, rfl⟩
    · have d1 : decide (0 < l.length) = true := decide_eq_true (by omega)
      have h0 : 0 < l.length := by omega
      obtain ⟨ad, rfl, hc0⟩ := c_int_get HR.out 0 h0
      rw [Addr.add_zero'] at hc0
      clear h
      have hb0 := World.block_lt_of_cell? w _ hc0
      replace hc0 := (hB4.cell hb0).trans hc0
      have hr8 := rst_range l[0] 8 (by omega) (by omega)
      have hnl : Hid (((nl l : Nat) : Int) = (1 : Int) + rst l[0] 8) := by
        show _ = _
        unfold nl
        rw [if_neg (by omega)]
        have : l.getD 0 0 = l[0] := by simp [List.getD_eq_getElem?_getD, h0]
        rw [this]; omega
      have q0 : (0 : Int) < (l.length : Int) := by omega
      go_wp2_with (go_at_call 20; refine (rest_calls _ 8 (by omega) (by omega) _).mono ?_; rintro e w' ⟨rfl, rfl⟩)
      go_meet
      case rel => exact ⟨by rw [hnl.out], rfl⟩
  case rest =>
    obtain ⟨rfl, rfl⟩ := hcut
    obtain ⟨hn1, hn8⟩ := nl_range l
    have hx6 := Bx.new wc (uf (.slice none 0 0)) 32
    have hx46 := hx4.alloc (.cells (uf (.slice none 0 0)) 32)
    have hB6 : Below w.heap.size w (wc.alloc (.cells (uf (.slice none 0 0)) 32)) := hB4.alloc (by omega) _
    have hs6 : (wc.alloc (.cells (uf (.slice none 0 0)) 32)).heap.size = w.heap.size + 2 := by rw [World.size_alloc]; omega
    rw [hs4] at hx6
    go_wp2_with fail
    simp only [uf] at hx6 hx46 hB6 hs6
    generalize wc.alloc (.cells _ 32) = W6 at hx6 hx46 hB6 hs6 ⊢
    go_loopw [7] (fun i wr => ∃ (k : Nat) (u : Value), i = .int .i64 k ∧ k ≤ nl l ∧ Hid (Kd.S k45 45 wr w.heap.size (fun _ => True) u (bare k)) ∧ Hid (Bx wr (w.heap.size + 1) (uf u) 32) ∧ Hid (Bx wr w.heap.size zf 32) ∧ Hid (Below w.heap.size w wr)) (fun i _ => nl l - (intOf i).toNat)
    case atStart => exact ⟨0, .slice none 0 0, rfl, Nat.zero_le _, Kd.S_nil _ _ _ _ _, hx6, hx46, hB6⟩
    case round =>
      clear hx6 hx46 hB6 hs6 hx4 hB4 hs4
      obtain ⟨k, u, rfl, hk, hS, h6, h4, hb⟩ := hrel
      by_cases hlt : k < nl l
      · obtain ⟨Au, cu, rfl⟩ := Kd.S_slice hS.out
        have hs := hb.out.size
        have f1 := h6.out.cell 1
        have r1 := h6.out.frozen 1
        simp only [uf] at f1
        have hk8 : k ≤ 8 := by omega
        by_cases h3 : k % 3 = 2
        · have d3 : ((k : Int).tmod 3 == 2) = true := by rw [Int.tmod_eq_emod_of_nonneg (by omega)]; simp; omega
          have d3' : (((k : Int) % 3) == 2) = true := by simp; omega
          have hl6 := h6.out.lt
          go_upto_region 11 with (fail)
          have h6' := ((h6.out.alloc (.cells #[.int .i64 (k : Int), .int .i64 1, .bool true, .int .i64 (10 * (k : Int)), .int .i64 2, .bool false] 59)).alloc (.cells #[.int .i64 1] 3)).alloc (.cells #[.string ⟨#[]⟩, .int .i64 0, .bool false, .slice none 0 0, .slice none 0 0, .slice none 0 0, .slice none 0 0, .slice none 0 0, .slice none 0 0] 45)
          have h4' := ((h4.out.alloc (.cells #[.int .i64 (k : Int), .int .i64 1, .bool true, .int .i64 (10 * (k : Int)), .int .i64 2, .bool false] 59)).alloc (.cells #[.int .i64 1] 3)).alloc (.cells #[.string ⟨#[]⟩, .int .i64 0, .bool false, .slice none 0 0, .slice none 0 0, .slice none 0 0, .slice none 0 0, .slice none 0 0, .slice none 0 0] 45)
          have hS' := Kd.S_alloc (Kd.S_alloc (Kd.S_alloc (Kd.S_mono (Kd.S_bound hS.out) (fun b hb => (⟨trivial, fun e => e⟩ : True ∧ ¬ False))) (.cells #[.int .i64 (k : Int), .int .i64 1, .bool true, .int .i64 (10 * (k : Int)), .int .i64 2, .bool false] 59)) (.cells #[.int .i64 1] 3)) (.cells #[.string ⟨#[]⟩, .int .i64 0, .bool false, .slice none 0 0, .slice none 0 0, .slice none 0 0, .slice none 0 0, .slice none 0 0, .slice none 0 0] 45)
          have hown := Kd.S_lt hS.out
          generalize hW7 : ((wr.alloc _).alloc _).alloc _ = W7 at h6' h4' hS' ⊢
          obtain ⟨_, _, hx8, hs7, hb7⟩ := three_new hW7
          have hb7' : Hid (Below w.heap.size w W7) := hb.out.trans (hb7.mono hs)
          clear hW7 hb7 f1 r1
          have f1 := h6'.cell 1
          have r1 := h6'.frozen 1
          have t0 := hx8.cell 0
          have t1 := hx8.cell 1
          have t2 := hx8.cell 2
          have t3 := hx8.cell 3
          have t4 := hx8.cell 4
          have t5 := hx8.cell 5
          have t6 := hx8.cell 6
          have t7 := hx8.cell 7
          have t8 := hx8.cell 8
          simp only [uf] at f1
          have hs7' : wr.heap.size + 3 ≤ W7.heap.size := by omega
          clear hs7
          have hHS := Lib.hid hS'
          have hH6 := Lib.hid h6'
          have hH4 := Lib.hid h4'
          have hHo := Lib.hid hown
          clear hS' h6' h4' hown
          go_wp2_with (at_builtin; refine Kd.S_append k45 (w0 := w) w.heap.size rfl (.tmp 40) (.tmp 42) 24 45 (.agg #[(.string ⟨#[]⟩), (.int .i64 0), (.bool false), (.slice none 0 0), (.slice none 0 0), (.slice none 0 0), (.slice none 0 0), (.slice none 0 0), (.slice none 0 0)]) 176 rfl Try.underlying24 info45 rfl (by decide) (by omega) (.slice Au (bare k).length cu) (bare k) (mkS k []) [.string ⟨#[]⟩, .int .i64 0, .bool false, .slice none 0 0, .slice none 0 0, .slice none 0 0, .slice none 0 0, .slice none 0 0, .slice none 0 0] (fun _ => True) (fun _ => False) rfl rfl (new_glyph2 h3) (fun b hb' => hb'.elim) (fun _ _ => trivial) hHS.out hb7'.out (by omega) (by rw [bare_len]; omega) ?_; intro v1 w1 hS1 hB1 hg1 hat1; obtain ⟨A1, c1, rfl⟩ := Kd.S_slice hS1; have hne6 := Kd.S_ne hHS.out hH6.out (by decide); have h61 : Bx w1 (w.heap.size + 1) _ 32 := hH6.out.kept (hg1.block _ hH6.out.lt hne6); have h41 : Bx w1 w.heap.size zf 32 := hH4.out.kept (hg1.block _ hH4.out.lt (Kd.S_ne hHS.out hH4.out (by decide))); have g1 := h61.cell 1; have r1' := h61.frozen 1; simp only [uf] at g1; have hS2 := Lib.hid hS1; have hB2 := Lib.hid hB1; have h62 := Lib.hid h61; have h42 := Lib.hid h41; clear hS1 hB1 h61 h41 hg1 hat1 hne6)
          refine ⟨⟨k + 1, .slice A1 ((bare k).length + 1) c1, by go_num, by omega, ?_, ?_, ?_, ?_⟩, by simp [intOf]; omega⟩
          · have h := hS2.out
            rw [List.length_append, List.length_singleton] at h
            rw [bare_succ]; exact Kd.S_set h h62.out (by decide) 1 _
          · exact blk_put (cs := uf (.slice Au (bare k).length cu)) h62.out 1 _ rfl
          · exact blk_far h42.out (show w.heap.size ≠ w.heap.size + 1 by omega) _
          · exact below_set hB2.out (by omega)
        · have d3 : ((k : Int).tmod 3 == 2) = false := by rw [Int.tmod_eq_emod_of_nonneg (by omega)]; simp; omega
          have d3' : (((k : Int) % 3) == 2) = false := by simp; omega
          have hl6 := h6.out.lt
          go_upto_region 11 with (fail)
          have hM := new_glyph (W := wr) (base := w.heap.size) (k := k) (by omega) hs h3 (.cells #[.string ⟨#[]⟩, .int .i64 0, .bool false, .slice (some ⟨wr.heap.size, 0, none⟩) 2 2, .slice (some ⟨wr.heap.size + 1, 0, none⟩) 1 1, .slice none 0 0, .slice none 0 0, .slice none 0 0, .slice none 0 0] 45)
          have h6' := ((h6.out.alloc (.cells #[.int .i64 (k : Int), .int .i64 1, .bool true, .int .i64 (10 * (k : Int)), .int .i64 2, .bool false] 59)).alloc (.cells #[.int .i64 1] 3)).alloc (.cells #[.string ⟨#[]⟩, .int .i64 0, .bool false, .slice (some ⟨wr.heap.size, 0, none⟩) 2 2, .slice (some ⟨wr.heap.size + 1, 0, none⟩) 1 1, .slice none 0 0, .slice none 0 0, .slice none 0 0, .slice none 0 0] 45)
          have h4' := ((h4.out.alloc (.cells #[.int .i64 (k : Int), .int .i64 1, .bool true, .int .i64 (10 * (k : Int)), .int .i64 2, .bool false] 59)).alloc (.cells #[.int .i64 1] 3)).alloc (.cells #[.string ⟨#[]⟩, .int .i64 0, .bool false, .slice (some ⟨wr.heap.size, 0, none⟩) 2 2, .slice (some ⟨wr.heap.size + 1, 0, none⟩) 1 1, .slice none 0 0, .slice none 0 0, .slice none 0 0, .slice none 0 0] 45)
          have hS' := Kd.S_alloc (Kd.S_alloc (Kd.S_alloc (Kd.S_mono (Kd.S_bound hS.out) (fun b hb => (⟨trivial, fun e => by have := hb.2.2.1; omega⟩ : True ∧ ¬ (b = wr.heap.size ∨ b = wr.heap.size + 1)))) (.cells #[.int .i64 (k : Int), .int .i64 1, .bool true, .int .i64 (10 * (k : Int)), .int .i64 2, .bool false] 59)) (.cells #[.int .i64 1] 3)) (.cells #[.string ⟨#[]⟩, .int .i64 0, .bool false, .slice (some ⟨wr.heap.size, 0, none⟩) 2 2, .slice (some ⟨wr.heap.size + 1, 0, none⟩) 1 1, .slice none 0 0, .slice none 0 0, .slice none 0 0, .slice none 0 0] 45)
          have hown := Kd.S_lt hS.out
          generalize hW7 : ((wr.alloc _).alloc _).alloc _ = W7 at hM h6' h4' hS' ⊢
          obtain ⟨_, _, hx8, hs7, hb7⟩ := three_new hW7
          have hb7' : Hid (Below w.heap.size w W7) := hb.out.trans (hb7.mono hs)
          clear hW7 hb7 f1 r1
          have f1 := h6'.cell 1
          have r1 := h6'.frozen 1
          have t0 := hx8.cell 0
          have t1 := hx8.cell 1
          have t2 := hx8.cell 2
          have t3 := hx8.cell 3
          have t4 := hx8.cell 4
          have t5 := hx8.cell 5
          have t6 := hx8.cell 6
          have t7 := hx8.cell 7
          have t8 := hx8.cell 8
          simp only [uf] at f1
          have hs7' : wr.heap.size + 3 ≤ W7.heap.size := by omega
          clear hs7
          have hHM := Lib.hid hM
          have hHS := Lib.hid hS'
          have hH6 := Lib.hid h6'
          have hH4 := Lib.hid h4'
          have hHo := Lib.hid hown
          clear hM hS' h6' h4' hown
          go_wp2_with (at_builtin; refine Kd.S_append k45 (w0 := w) w.heap.size rfl (.tmp 40) (.tmp 42) 24 45 (.agg #[(.string ⟨#[]⟩), (.int .i64 0), (.bool false), (.slice none 0 0), (.slice none 0 0), (.slice none 0 0), (.slice none 0 0), (.slice none 0 0), (.slice none 0 0)]) 176 rfl Try.underlying24 info45 rfl (by decide) (by omega) (.slice Au (bare k).length cu) (bare k) (mkS k []) [.string ⟨#[]⟩, .int .i64 0, .bool false, .slice (some ⟨wr.heap.size, 0, none⟩) 2 2, .slice (some ⟨wr.heap.size + 1, 0, none⟩) 1 1, .slice none 0 0, .slice none 0 0, .slice none 0 0, .slice none 0 0] (fun _ => True) (fun b => b = wr.heap.size ∨ b = wr.heap.size + 1) rfl rfl hHM.out (fun b hb' => ⟨trivial, fun e => by have := hHo.out b e.symm; omega⟩) (fun _ _ => trivial) hHS.out hb7'.out (by omega) (by rw [bare_len]; omega) ?_; intro v1 w1 hS1 hB1 hg1 hat1; obtain ⟨A1, c1, rfl⟩ := Kd.S_slice hS1; have hne6 := Kd.S_ne hHS.out hH6.out (by decide); have h61 : Bx w1 (w.heap.size + 1) _ 32 := hH6.out.kept (hg1.block _ hH6.out.lt hne6); have h41 : Bx w1 w.heap.size zf 32 := hH4.out.kept (hg1.block _ hH4.out.lt (Kd.S_ne hHS.out hH4.out (by decide))); have g1 := h61.cell 1; have r1' := h61.frozen 1; simp only [uf] at g1; have hS2 := Lib.hid hS1; have hB2 := Lib.hid hB1; have h62 := Lib.hid h61; have h42 := Lib.hid h41; clear hS1 hB1 h61 h41 hg1 hat1 hne6)
          refine ⟨⟨k + 1, .slice A1 ((bare k).length + 1) c1, by go_num, by omega, ?_, ?_, ?_, ?_⟩, by simp [intOf]; omega⟩
          · have h := hS2.out
            rw [List.length_append, List.length_singleton] at h
            rw [bare_succ]; exact Kd.S_set h h62.out (by decide) 1 _
          · exact blk_put (cs := uf (.slice Au (bare k).length cu)) h62.out 1 _ rfl
          · exact blk_far h42.out (show w.heap.size ≠ w.heap.size + 1 by omega) _
          · exact below_set hB2.out (by omega)
      · obtain rfl : k = nl l := by omega
        clear hk hlt
        go_wp2_with fail
        go_loopw [9] (fun i wr => ∃ (k : Nat) (u : Value) (gs : List S45), i = .int .i64 k ∧ 1 ≤ k ∧ k ≤ 16 ∧ gs.length = nl l ∧ Hid (PComposeTells.Good loops k gs) ∧ Hid (Kd.S k45 45 wr w.heap.size (fun _ => True) u gs) ∧ Hid (Bx wr (w.heap.size + 1) (uf u) 32) ∧ Hid (Bx wr w.heap.size zf 32) ∧ Hid (Below w.heap.size w wr)) (fun i _ => 17 - (intOf i).toNat)
        case atStart => exact ⟨1, u, bare (nl l), rfl, by omega, by omega, bare_len _, bare_good loops _ hn1 hn8, hS, h6, h4, hb⟩
        case round =>
          clear hS h6 h4 hb
          obtain ⟨i, u, gs, rfl, hi1, hi16, hgl, hgd, hS, h6, h4, hb⟩ := hrel
          by_cases hcond : i < l.length ∧ i < 16
          · obtain ⟨hil, hi15⟩ := hcond
            obtain ⟨ad, rfl, hci⟩ := c_int_get HR.out i hil
            have hbi := World.block_lt_of_cell? w _ hci
            have hci0 := Lib.hid hci
            replace hci := (hb.out.cell hbi).trans hci
            have q0 : (0 : Int) ≤ (i : Int) := by omega
            have q1 : (i : Int) < (l.length : Int) := by omega
            have q2 : (i : Int) < 16 := by omega
            have hra := rst_range l[i] (nl l : Nat) (by omega) (by omega)
            have hrb := rst_range (wrap64 (l[i].tdiv 8)) ((nl l : Nat) + 1) (by omega) (by omega)
            go_upto_region 17 with (go_at_call 20; refine (rest_calls _ _ (by omega) (by omega) _).mono ?_; rintro e w' ⟨rfl, rfl⟩)
            rename World => wx
            generalize rst (wrap64 (l[i].tdiv 8)) ((nl l : Nat) + 1) = rb at hrb ⊢
            replace hrb : -1 ≤ rb - 1 ∧ rb - 1 < (nl l : Nat) := by omega
            generalize rb - 1 = rb at hrb ⊢
            obtain ⟨a, ha⟩ : ∃ a : Nat, rst l[i] (nl l : Nat) = (a : Int) := ⟨(rst l[i] (nl l : Nat)).toNat, by omega⟩
            rw [ha] at hra ⊢
            clear ha
            go_cut [80] from 70 to 79 (fun v80 wc => ∃ x : Bool, v80 = .bool x ∧ (x = true → loops = false) ∧ (x = false → loops = false → rb < 0 ∨ (a : Int) < rb) ∧ wc = wx)
            case first =>
              cases loops with
              | true =>
                go_wp2
                go_meet
                case rel => exact ⟨false, rfl, (fun h => nomatch h), (fun _ h => nomatch h), rfl⟩
              | false =>
                by_cases h0 : 0 ≤ rb
                · have d0 : decide (0 ≤ rb) = true := decide_eq_true h0
                  by_cases h1 : rb ≤ (a : Int)
                  · have d1 : decide (rb ≤ (a : Int)) = true := decide_eq_true h1
                    go_wp2
                    go_meet
                    case rel => exact ⟨true, rfl, (fun _ => by trivial), (fun h => nomatch h), rfl⟩
                  · have d1 : decide (rb ≤ (a : Int)) = false := decide_eq_false h1
                    go_wp2
                    go_meet
                    case rel => exact ⟨false, rfl, (fun _ => by trivial), (fun _ _ => .inr (by omega)), rfl⟩
                · have d0 : decide (0 ≤ rb) = false := decide_eq_false h0
                  go_wp2
                  go_meet
                  case rel => exact ⟨false, rfl, (fun _ => by trivial), (fun _ _ => .inl (by omega)), rfl⟩
            case rest =>
              obtain ⟨x, rfl, hx1, hx2, rfl⟩ := hcut
              have HX1 := Lib.hid hx1
              have HX2 := Lib.hid hx2
              clear hx1 hx2
              go_upto_if 80 with (fail)
              go_cut [11] from 81 to 82 (fun v11 wc' => ∃ k1 : Int, v11 = .int .i64 k1 ∧ -1 ≤ k1 ∧ k1 ≤ (nl l : Nat) ∧ Hid (loops = true → k1 < (nl l : Nat)) ∧ Hid (loops = false → k1 < 0 ∨ (a : Int) < k1) ∧ wc' = wc)
              case first =>
                cases x with
                | true =>
                  go_wp2
                  go_meet
                  case rel => exact ⟨(a : Int) + 1, rfl, by omega, by omega, (fun h => (by rw [HX1.out trivial] at h; cases h)), (fun _ => .inr (by omega)), rfl⟩
                | false =>
                  go_wp2
                  go_meet
                  case rel => exact ⟨rb, rfl, by omega, by omega, (fun _ => by omega), HX2.out trivial, rfl⟩
              case rest =>
                clear HX1 HX2
                obtain ⟨k1, rfl, hk1, hk2, hk3, hk4, rfl⟩ := hcut
                go_upto_region 19 with (fail)
                go_cut [89] from 83 to 88 (fun v89 wz => ∃ y : Bool, v89 = .bool y ∧ Hid (y = false → k1 < (nl l : Nat)) ∧ wz = wc)
                case first =>
                  cases loops with
                  | true =>
                    go_wp2
                    go_meet
                    case rel => exact ⟨false, rfl, (fun _ => hk3.out trivial), rfl⟩
                  | false =>
                    by_cases hkn : k1 ≥ (nl l : Nat)
                    · have d0 : decide (((nl l : Nat) : Int) ≤ k1) = true := decide_eq_true hkn
                      go_wp2
                      go_meet
                      case rel => exact ⟨true, rfl, (fun h => nomatch h), rfl⟩
                    · have d0 : decide (((nl l : Nat) : Int) ≤ k1) = false := decide_eq_false hkn
                      go_wp2
                      go_meet
                      case rel => exact ⟨false, rfl, (fun _ => by omega), rfl⟩
                case rest =>
                  obtain ⟨y, rfl, hk5, rfl⟩ := hcut
                  clear hk3
                  cases y with
                  | true =>
                    go_wp2
                    refine ⟨⟨i + 1, u, gs, by go_num, by omega, by omega, hgl, hgd.out.mono (by omega), hS, h6, h4, hb⟩, by simp [intOf]; omega⟩
                  | false =>
                  have hkn : k1 < (nl l : Nat) := hk5.out rfl
                  have hkk := hk4.out
                  have hHk := Lib.hid hkk
                  clear hk5 hk4 hkk
                  go_upto_region 20 with (fail)
                  obtain ⟨Au, cu, rfl⟩ := Kd.S_slice hS.out
                  obtain ⟨g, cu', he, hgw, hgl', _⟩ := Kd.S_form hS.out (by omega)
                  injection he with he1 _ he2
                  subst he1 he2
                  obtain ⟨oki, ce, hce, hM, hcc, hfr, hoki, hH⟩ := Kd.S_elem hS.out z45 (a : Int) (by omega) (by omega)
                  obtain ⟨v3, v4, v5, v6, v7, v8, rfl, g3, g4, g5, g6, g7, g8⟩ := k45_openM hM
                  obtain ⟨Ap, cp, rfl⟩ := Kd.R_slice g5
                  have hc5 := hcc 5 _ rfl
                  have hf5 := hfr 5
                  have hz : k45.sz = 9 := rfl
                  rw [hz, show ((a : Int)).toNat = a from by simp] at hc5 hf5
                  have h61 := h6.out.cell 1
                  simp only [uf] at h61
                  have p0 : (0 : Int) ≤ (a : Int) := by omega
                  have p1 : (a : Int) < (gs.length : Int) := by omega
                  refine start_ (n := 28) (S := fun w' => w'.cell? ⟨w.heap.size + 1, 1, none⟩ = some (.slice (some ⟨g, 0, none⟩) gs.length cu) ∧ w'.cell? ⟨g, a * 9 + 5, none⟩ = some (.slice Ap (rd_T45 gs (a : Int)).f4.length cp) ∧ w'.cell? (ad.add i) = some (.int .i64 l[i])) (ds := [27]) #[false, false, false, false, false, false, false, false, false, false, false, false, false, false, false, false, false, false, false, false, false, false, false, false, false, false, false, false] (by kernel_rfl) rfl rfl ⟨h61, hc5, hci⟩ (fun hHeld => ?_)
                  refine with_tabW made_tab20 made_bits20 (fun HT_ HW_ => ?_)
                  have hbd : Below w.heap.size w wc.drew := hb.out.drew
                  have h6d : Hid (Bx wc.drew (w.heap.size + 1) _ 32) := blk_drew h6.out
                  have h4d : Hid (Bx wc.drew w.heap.size zf 32) := blk_drew h4.out
                  replace hH := Kd.H_drew hH
                  replace g3 := Kd.R_drew g3
                  replace g4 := Kd.R_drew g4
                  replace g5 := Kd.R_drew g5
                  replace g6 := Kd.R_drew g6
                  replace g7 := Kd.R_drew g7
                  replace g8 := Kd.R_drew g8
                  have hsd : w.heap.size ≤ wc.drew.heap.size := hbd.size
                  clear hM hcc hfr hS h6 h4 hb hc5 hf5 h61 hce hci hz
                  generalize wc.drew = wd at hHeld hbd h6d h4d hH g3 g4 g5 g6 g7 g8 hsd ⊢
                  have hpl : (rd_T45 gs (a : Int)).f4.length ≤ 16 := by
                    have hr : rd_T45 gs (a : Int) = gs[a]'(by omega) := by simp [rd_T45, List.getD_eq_getElem?_getD, show a < gs.length by omega]
                    obtain ⟨ps, e1, e2, _⟩ := hgd.out.each a (by omega)
                    rw [hr, e1]
                    show ps.length ≤ _
                    omega
                  have hr1 := rst_range l[i] 50 (by omega) (by omega)
                  have hr2 := rst_range (wrap64 (Int.tdiv l[i] 3)) 50 (by omega) (by omega)
                  change Kd.H k45 45 wd w.heap.size (fun _ => True) (.slice (some ⟨g, 0, none⟩) gs.length cu) gs (a : Int) oki [.string (rd_T45 gs (a : Int)).f0, .int .i64 (rd_T45 gs (a : Int)).f1, .bool (rd_T45 gs (a : Int)).f2, v3, v4, .slice Ap (rd_T45 gs (a : Int)).f4.length cp, v6, v7, v8] at hH
                  change k48.R 48 wd w.heap.size oki (.slice Ap (rd_T45 gs (a : Int)).f4.length cp) (rd_T45 gs (a : Int)).f4 at g5
                  refine pure_ (i := 0) (N := some 90) (v := ?_) (a' := ?_) #[true, false, false, false, false, false, false, false, false, false, false, false, false, false, false, false, false, false, false, false, false, false, false, false, false, false, false, false] rfl rfl (any_of HT_.out (by kernel_rfl)) (fun _ _ _ h => h) (Or.inl ⟨by rfl, ?_⟩) ?_ ?_
                  rotate_left
                  · intro w'
                    go_simp
                    with_reducible rfl
                  rotate_left
                  · simp only [Act.put, List.setIfInBounds_toArray, List.set_cons_zero, List.set_cons_succ, i64_w, i32_w]
                    rfl
                  refine pure_ (i := 2) (N := some 92) (v := ?_) (a' := ?_) #[true, false, true, false, false, false, false, false, false, false, false, false, false, false, false, false, false, false, false, false, false, false, false, false, false, false, false, false] rfl rfl (any_of HT_.out (by kernel_rfl)) (fun _ _ _ h => h) (Or.inl ⟨by rfl, ?_⟩) ?_ ?_
                  rotate_left
                  · intro w'
                    go_simp
                    with_reducible rfl
                  rotate_left
                  · simp only [Act.put, List.setIfInBounds_toArray, List.set_cons_zero, List.set_cons_succ, i64_w, i32_w]
                    rfl
                  refine pure_ (i := 3) (N := some 93) (v := ?_) (a' := ?_) #[true, false, true, true, false, false, false, false, false, false, false, false, false, false, false, false, false, false, false, false, false, false, false, false, false, false, false, false] rfl rfl (any_of HT_.out (by kernel_rfl)) (fun _ _ _ h => h) (Or.inl ⟨by rfl, ?_⟩) ?_ ?_
                  rotate_left
                  · intro w'
                    go_simp
                    with_reducible rfl
                  rotate_left
                  · simp only [Act.put, List.setIfInBounds_toArray, List.set_cons_zero, List.set_cons_succ, i64_w, i32_w]
                    rfl
                  refine pure_ (i := 5) (N := some 95) (v := ?_) (a' := ?_) #[true, false, true, true, false, true, false, false, false, false, false, false, false, false, false, false, false, false, false, false, false, false, false, false, false, false, false, false] rfl rfl (any_of HT_.out (by kernel_rfl)) (fun _ _ _ h => h) (Or.inl ⟨by rfl, ?_⟩) ?_ ?_
                  rotate_left
                  · intro w'
                    go_simp
                    with_reducible rfl
                  rotate_left
                  · simp only [Act.put, List.setIfInBounds_toArray, List.set_cons_zero, List.set_cons_succ, i64_w, i32_w]
                    rfl
                  refine pure_ (i := 9) (N := some 99) (v := ?_) (a' := ?_) #[true, false, true, true, false, true, false, false, false, true, false, false, false, false, false, false, false, false, false, false, false, false, false, false, false, false, false, false] rfl rfl (any_of HT_.out (by kernel_rfl)) (fun _ _ _ h => h) (Or.inl ⟨by rfl, ?_⟩) ?_ ?_
                  rotate_left
                  · intro w'
                    go_simp
                    with_reducible rfl
                  rotate_left
                  · simp only [Act.put, List.setIfInBounds_toArray, List.set_cons_zero, List.set_cons_succ, i64_w, i32_w]
                    rfl
                  refine pure_ (i := 10) (N := some 100) (v := ?_) (a' := ?_) #[true, false, true, true, false, true, false, false, false, true, true, false, false, false, false, false, false, false, false, false, false, false, false, false, false, false, false, false] rfl rfl (any_of HT_.out (by kernel_rfl)) (fun _ _ _ h => h) (Or.inl ⟨by rfl, ?_⟩) ?_ ?_
                  rotate_left
                  · intro w'
                    go_simp
                    with_reducible rfl
                  rotate_left
                  · simp only [Act.put, List.setIfInBounds_toArray, List.set_cons_zero, List.set_cons_succ, i64_w, i32_w]
                    rfl
                  refine pure_ (i := 11) (N := some 101) (v := ?_) (a' := ?_) #[true, false, true, true, false, true, false, false, false, true, true, true, false, false, false, false, false, false, false, false, false, false, false, false, false, false, false, false] rfl rfl (any_of HT_.out (by kernel_rfl)) (fun _ _ _ h => h) (Or.inl ⟨by rfl, ?_⟩) ?_ ?_
                  rotate_left
                  · intro w'
                    go_simp
                    with_reducible rfl
                  rotate_left
                  · simp only [Act.put, List.setIfInBounds_toArray, List.set_cons_zero, List.set_cons_succ, i64_w, i32_w]
                    rfl
                  refine pure_ (i := 12) (N := some 102) (v := ?_) (a' := ?_) #[true, false, true, true, false, true, false, false, false, true, true, true, true, false, false, false, false, false, false, false, false, false, false, false, false, false, false, false] rfl rfl (any_of HT_.out (by kernel_rfl)) (fun _ _ _ h => h) (Or.inl ⟨by rfl, ?_⟩) ?_ ?_
                  rotate_left
                  · intro w'
                    go_simp
                    with_reducible rfl
                  rotate_left
                  · simp only [Act.put, List.setIfInBounds_toArray, List.set_cons_zero, List.set_cons_succ, i64_w, i32_w]
                    rfl
                  refine pure_ (i := 15) (N := some 105) (v := ?_) (a' := ?_) #[true, false, true, true, false, true, false, false, false, true, true, true, true, false, false, true, false, false, false, false, false, false, false, false, false, false, false, false] rfl rfl (any_of HT_.out (by kernel_rfl)) (fun _ _ _ h => h) (Or.inl ⟨by rfl, ?_⟩) ?_ ?_
                  rotate_left
                  · intro w'
                    go_simp
                    with_reducible rfl
                  rotate_left
                  · simp only [Act.put, List.setIfInBounds_toArray, List.set_cons_zero, List.set_cons_succ, i64_w, i32_w]
                    rfl
                  refine pure_ (i := 16) (N := some 106) (v := ?_) (a' := ?_) #[true, false, true, true, false, true, false, false, false, true, true, true, true, false, false, true, true, false, false, false, false, false, false, false, false, false, false, false] rfl rfl (any_of HT_.out (by kernel_rfl)) (fun _ _ _ h => h) (Or.inl ⟨by rfl, ?_⟩) ?_ ?_
                  rotate_left
                  · intro w'
                    go_simp
                    with_reducible rfl
                  rotate_left
                  · simp only [Act.put, List.setIfInBounds_toArray, List.set_cons_zero, List.set_cons_succ, i64_w, i32_w]
                    rfl
                  refine pure_ (i := 17) (N := some 107) (v := ?_) (a' := ?_) #[true, false, true, true, false, true, false, false, false, true, true, true, true, false, false, true, true, true, false, false, false, false, false, false, false, false, false, false] rfl rfl (any_of HT_.out (by kernel_rfl)) (fun _ _ _ h => h) (Or.inl ⟨by rfl, ?_⟩) ?_ ?_
                  rotate_left
                  · intro w'
                    go_simp
                    with_reducible rfl
                  rotate_left
                  · simp only [Act.put, List.setIfInBounds_toArray, List.set_cons_zero, List.set_cons_succ, i64_w, i32_w]
                    rfl
                  refine take_ (i := 1) (N := some 91) (v := ?_) (a' := ?_) #[true, true, true, true, false, true, false, false, false, true, true, true, true, false, false, true, true, true, false, false, false, false, false, false, false, false, false, false] rfl rfl (take_ofW HT_.out HW_.out (by kernel_rfl)) (fun _ _ _ h => h) (Or.inl ⟨by rfl, ?_⟩) hHeld ?_ ?_
                  rotate_left
                  · rintro w' ⟨s0, s1, s2⟩
                    go_simp
                    with_reducible rfl
                  rotate_left
                  · simp only [Act.put, List.setIfInBounds_toArray, List.set_cons_zero, List.set_cons_succ, i64_w, i32_w]
                    rfl
                  refine take_ (i := 4) (N := some 94) (v := ?_) (a' := ?_) #[true, true, true, true, true, true, false, false, false, true, true, true, true, false, false, true, true, true, false, false, false, false, false, false, false, false, false, false] rfl rfl (take_ofW HT_.out HW_.out (by kernel_rfl)) (fun _ _ _ h => h) (Or.inl ⟨by rfl, ?_⟩) hHeld ?_ ?_
                  rotate_left
                  · rintro w' ⟨s0, s1, s2⟩
                    go_simp
                    with_reducible rfl
                  rotate_left
                  · simp only [Act.put, List.setIfInBounds_toArray, List.set_cons_zero, List.set_cons_succ, i64_w, i32_w]
                    rfl
                  refine pure_ (i := 6) (N := some 96) (v := ?_) (a' := ?_) #[true, true, true, true, true, true, true, false, false, true, true, true, true, false, false, true, true, true, false, false, false, false, false, false, false, false, false, false] rfl rfl (any_of HT_.out (by kernel_rfl)) (fun _ _ _ h => h) (Or.inl ⟨by rfl, ?_⟩) ?_ ?_
                  rotate_left
                  · intro w'
                    go_simp
                    with_reducible rfl
                  rotate_left
                  · simp only [Act.put, List.setIfInBounds_toArray, List.set_cons_zero, List.set_cons_succ, i64_w, i32_w]
                    rfl
                  refine pure_ (i := 7) (N := some 97) (v := ?_) (a' := ?_) #[true, true, true, true, true, true, true, true, false, true, true, true, true, false, false, true, true, true, false, false, false, false, false, false, false, false, false, false] rfl rfl (any_of HT_.out (by kernel_rfl)) (fun _ _ _ h => h) (Or.inl ⟨by rfl, ?_⟩) ?_ ?_
                  rotate_left
                  · intro w'
                    go_simp
                    with_reducible rfl
                  rotate_left
                  · simp only [Act.put, List.setIfInBounds_toArray, List.set_cons_zero, List.set_cons_succ, i64_w, i32_w]
                    rfl
                  refine take_ (i := 8) (N := some 98) (v := ?_) (a' := ?_) #[true, true, true, true, true, true, true, true, true, true, true, true, true, false, false, true, true, true, false, false, false, false, false, false, false, false, false, false] rfl rfl (take_ofW HT_.out HW_.out (by kernel_rfl)) (fun _ _ _ h => h) (Or.inl ⟨by rfl, ?_⟩) hHeld ?_ ?_
                  rotate_left
                  · rintro w' ⟨s0, s1, s2⟩
                    go_simp
                    with_reducible rfl
                  rotate_left
                  · simp only [Act.put, List.setIfInBounds_toArray, List.set_cons_zero, List.set_cons_succ, i64_w, i32_w]
                    rfl
                  refine take_ (i := 13) (N := some 103) (v := ?_) (a' := ?_) #[true, true, true, true, true, true, true, true, true, true, true, true, true, true, false, true, true, true, false, false, false, false, false, false, false, false, false, false] rfl rfl (take_ofW HT_.out HW_.out (by kernel_rfl)) (fun _ _ _ h => h) (Or.inl ⟨by rfl, ?_⟩) hHeld ?_ ?_
                  rotate_left
                  · rintro w' ⟨s0, s1, s2⟩
                    go_simp
                    with_reducible rfl
                  rotate_left
                  · simp only [Act.put, List.setIfInBounds_toArray, List.set_cons_zero, List.set_cons_succ, i64_w, i32_w]
                    rfl
                  refine take_ (i := 18) (N := some 108) (v := ?_) (a' := ?_) #[true, true, true, true, true, true, true, true, true, true, true, true, true, true, false, true, true, true, true, false, false, false, false, false, false, false, false, false] rfl rfl (take_ofW HT_.out HW_.out (by kernel_rfl)) (fun _ _ _ h => h) (Or.inl ⟨by rfl, ?_⟩) hHeld ?_ ?_
                  rotate_left
                  · rintro w' ⟨s0, s1, s2⟩
                    go_simp
                    with_reducible rfl
                  rotate_left
                  · simp only [Act.put, List.setIfInBounds_toArray, List.set_cons_zero, List.set_cons_succ, i64_w, i32_w]
                    rfl
                  refine pure_ (i := 19) (N := some 109) (v := ?_) (a' := ?_) #[true, true, true, true, true, true, true, true, true, true, true, true, true, true, false, true, true, true, true, true, false, false, false, false, false, false, false, false] rfl rfl (any_of HT_.out (by kernel_rfl)) (fun _ _ _ h => h) (Or.inl ⟨by rfl, ?_⟩) ?_ ?_
                  rotate_left
                  · intro w'
                    go_simp
                    with_reducible rfl
                  rotate_left
                  · simp only [Act.put, List.setIfInBounds_toArray, List.set_cons_zero, List.set_cons_succ, i64_w, i32_w]
                    rfl
                  refine one_ (i := 14) (N := some 104) #[true, true, true, true, true, true, true, true, true, true, true, true, true, true, true, true, true, true, true, true, false, false, false, false, false, false, false, false] rfl rfl (one_of HT_.out (by kernel_rfl)) (by decide) (fun K hK => ?_)
                  refine goes_ Try.func20 (by kernel_rfl) rfl #[.int .i64 l[i], .int .i64 50] (by rfl) rfl rfl (by (try simp only [List.map_toArray, List.map_cons, List.map_nil]); first | done | rfl) ?_
                  with_reducible refine (rest_calls l[i] 50 (by omega) (by omega) _).mono ?_
                  rintro e w' ⟨rfl, hw'⟩
                  rw [hw']
                  clear hw'
                  refine ⟨_, rfl, ?_⟩
                  refine hK.out _ _ hHeld (fun hHeld => ?_)
                  clear hK K
                  refine norm_ (a' := ?_) ?_ ?_
                  rotate_left
                  · show Act.put _ (some 104) _ = _
                    simp only [Act.put, List.setIfInBounds_toArray, List.set_cons_zero, List.set_cons_succ, i64_w, i32_w]
                    rfl
                  refine one_ (i := 20) (N := some 110) #[true, true, true, true, true, true, true, true, true, true, true, true, true, true, true, true, true, true, true, true, true, false, false, false, false, false, false, false] rfl rfl (one_of HT_.out (by kernel_rfl)) (by decide) (fun K hK => ?_)
                  refine goes_ Try.func20 (by kernel_rfl) rfl #[.int .i64 (wrap64 (Int.tdiv l[i] 3)), .int .i64 50] (by rfl) rfl rfl (by (try simp only [List.map_toArray, List.map_cons, List.map_nil]); first | done | rfl) ?_
                  with_reducible refine (rest_calls (wrap64 (Int.tdiv l[i] 3)) 50 (by omega) (by omega) _).mono ?_
                  rintro e w' ⟨rfl, hw'⟩
                  rw [hw']
                  clear hw'
                  refine ⟨_, rfl, ?_⟩
                  refine hK.out _ _ hHeld (fun hHeld => ?_)
                  clear hK K
                  refine norm_ (a' := ?_) ?_ ?_
                  rotate_left
                  · show Act.put _ (some 110) _ = _
                    simp only [Act.put, List.setIfInBounds_toArray, List.set_cons_zero, List.set_cons_succ, i64_w, i32_w]
                    rfl
                  refine pure_ (i := 21) (N := some 111) (v := ?_) (a' := ?_) #[true, true, true, true, true, true, true, true, true, true, true, true, true, true, true, true, true, true, true, true, true, true, false, false, false, false, false, false] rfl rfl (any_of HT_.out (by kernel_rfl)) (fun _ _ _ h => h) (Or.inl ⟨by rfl, ?_⟩) ?_ ?_
                  rotate_left
                  · intro w'
                    go_simp
                    with_reducible rfl
                  rotate_left
                  · simp only [Act.put, List.setIfInBounds_toArray, List.set_cons_zero, List.set_cons_succ, i64_w, i32_w]
                    rfl
                  refine pure_ (i := 22) (N := some 112) (v := ?_) (a' := ?_) #[true, true, true, true, true, true, true, true, true, true, true, true, true, true, true, true, true, true, true, true, true, true, true, false, false, false, false, false] rfl rfl (any_of HT_.out (by kernel_rfl)) (fun _ _ _ h => h) (Or.inl ⟨by rfl, ?_⟩) ?_ ?_
                  rotate_left
                  · intro w'
                    go_simp
                    with_reducible rfl
                  rotate_left
                  · simp only [Act.put, List.setIfInBounds_toArray, List.set_cons_zero, List.set_cons_succ, i64_w, i32_w]
                    rfl
                  refine one_ (i := 23) (N := some 113) #[true, true, true, true, true, true, true, true, true, true, true, true, true, true, true, true, true, true, true, true, true, true, true, true, false, false, false, false] rfl rfl (one_of HT_.out (by kernel_rfl)) (by decide) (fun K hK => ?_)
                  refine value_ (w1 := ?_) (v := ?_) (by rfl) rfl ?_ ?_
                  rotate_left 2
                  · go_simp
                    constructor
                    · rfl
                    · rfl
                  refine hK.out _ _ ⟨(World.cell?_alloc_lt _ _ _ (World.block_lt_of_cell? _ _ hHeld.1)).trans hHeld.1, (World.cell?_alloc_lt _ _ _ (World.block_lt_of_cell? _ _ hHeld.2.1)).trans hHeld.2.1, (World.cell?_alloc_lt _ _ _ (World.block_lt_of_cell? _ _ hHeld.2.2)).trans hHeld.2.2⟩ (fun hHeld2 => ?_)
                  clear hK K
                  refine norm_ (a' := ?_) ?_ ?_
                  rotate_left
                  · show Act.put _ (some 113) _ = _
                    simp only [Act.put, List.setIfInBounds_toArray, List.set_cons_zero, List.set_cons_succ, i64_w, i32_w]
                    rfl
                  refine one_ (i := 24) (N := some 114) #[true, true, true, true, true, true, true, true, true, true, true, true, true, true, true, true, true, true, true, true, true, true, true, true, true, false, false, false] rfl rfl (one_of HT_.out (by kernel_rfl)) (by decide) (fun K hK => ?_)
                  refine Kd.R_append_step k48 (w0 := w) w.heap.size (by rfl) (.tmp 98) (.tmp 113) 40 48 (.agg #[(.int .i64 0), (.int .i64 0), (.int .i64 0)]) 24 rfl Try.underlying40 info48 rfl (by decide) (by omega) (.slice Ap (rd_T45 gs (a : Int)).f4.length cp) (rd_T45 gs (a : Int)).f4 (⟨k1, rst l[i] 50, wrap64 (rst (wrap64 (Int.tdiv l[i] 3)) 50 - 25)⟩ : S48) [.int .i64 k1, .int .i64 (rst l[i] 50), .int .i64 (wrap64 (rst (wrap64 (Int.tdiv l[i] 3)) 50 - 25))] (fun k_ => oki k_ ∨ True ∧ wd.heap.size ≤ k_) (fun _ => False) rfl rfl (k48_mkM _ _ _ (⟨k1, rst l[i] 50, wrap64 (rst (wrap64 (Int.tdiv l[i] 3)) 50 - 25)⟩ : S48)) (fun _ hk => hk.elim) (fun k_ hk => .inr ⟨trivial, hk⟩) (Kd.R_mono g5 (fun _ hk => .inl hk)) hbd (by omega) (by omega) ?_
                  intro v9 w9 ho hb9 hg9 _
                  obtain ⟨hS9, hx9, hf9, _, hty9⟩ := part_put (⟨k1, rst l[i] 50, wrap64 (rst (wrap64 (Int.tdiv l[i] 3)) 50 - 25)⟩ : S48) (by omega) hH g3 g4 g5 g6 g7 g8 hg9 ho
                  have hne6 : some (w.heap.size + 1) ≠ (Value.slice Ap (rd_T45 gs (a : Int)).f4.length cp).ownBlock := Kd.R_ne g5 h6d.out (by decide)
                  have hne4 : some w.heap.size ≠ (Value.slice Ap (rd_T45 gs (a : Int)).f4.length cp).ownBlock := Kd.R_ne g5 h4d.out (by decide)
                  have h69 : Bx w9 (w.heap.size + 1) _ 32 := h6d.out.kept (hg9.block _ h6d.out.lt hne6)
                  have h49 : Bx w9 w.heap.size zf 32 := h4d.out.kept (hg9.block _ h4d.out.lt hne4)
                  obtain ⟨A9, c9, rfl⟩ := Kd.R_slice ho
                  have hgne6 : w.heap.size + 1 ≠ g := blk_ne h69 hty9 (by decide)
                  have hgne4 : w.heap.size ≠ g := blk_ne h49 hty9 (by decide)
                  refine hK.out _ _ ⟨(h69.cell 1).trans rfl, hx9, (hb9.cell hbi).trans hci0⟩ (fun hHeld3 => ?_)
                  clear hK K
                  refine norm_ (a' := ?_) ?_ ?_
                  rotate_left
                  · show Act.put _ (some 114) _ = _
                    simp only [Act.put, List.setIfInBounds_toArray, List.set_cons_zero, List.set_cons_succ, i64_w, i32_w]
                    rfl
                  refine pure_ (i := 25) (N := some 115) (v := ?_) (a' := ?_) #[true, true, true, true, true, true, true, true, true, true, true, true, true, true, true, true, true, true, true, true, true, true, true, true, true, true, false, false] rfl rfl (any_of HT_.out (by kernel_rfl)) (fun _ _ _ h => h) (Or.inl ⟨by rfl, ?_⟩) ?_ ?_
                  rotate_left
                  · intro w'
                    go_simp
                    with_reducible rfl
                  rotate_left
                  · simp only [Act.put, List.setIfInBounds_toArray, List.set_cons_zero, List.set_cons_succ, i64_w, i32_w]
                    rfl
                  refine pure_ (i := 26) (N := some 116) (v := ?_) (a' := ?_) #[true, true, true, true, true, true, true, true, true, true, true, true, true, true, true, true, true, true, true, true, true, true, true, true, true, true, true, false] rfl rfl (any_of HT_.out (by kernel_rfl)) (fun _ _ _ h => h) (Or.inl ⟨by rfl, ?_⟩) ?_ ?_
                  rotate_left
                  · intro w'
                    go_simp
                    with_reducible rfl
                  rotate_left
                  · simp only [Act.put, List.setIfInBounds_toArray, List.set_cons_zero, List.set_cons_succ, i64_w, i32_w]
                    rfl
                  refine last_ (i := 27) (N := none) #[true, true, true, true, true, true, true, true, true, true, true, true, true, true, true, true, true, true, true, true, true, true, true, true, true, true, true, true] rfl rfl (one_of HT_.out (by kernel_rfl)) (by decide) (fun K hK => ?_)
                  refine skip_ (w1 := ?_) (by rfl) rfl ?_ ?_
                  rotate_left
                  · go_simp
                    rfl
                  refine hK.out _ _ ?_
                  clear hK K
                  refine done_ (done_of HT_.out (by kernel_rfl)) ?_
                  clear HT_ HW_ hHeld hHeld2 hHeld3
                  rw [List.length_append, List.length_singleton] at hS9
                  have HS9 := Lib.hid hS9
                  have HH6 := Lib.hid h69
                  have HH4 := Lib.hid h49
                  have HB9 := Lib.hid hb9
                  clear hS9 h69 h49 hb9 hx9 hf9 hty9 ho hg9 g3 g4 g5 g6 g7 g8 hH h6d h4d hbd hne6 hne4
                  go_wp2
                  refine ⟨⟨i + 1, .slice (some ⟨g, 0, none⟩) gs.length cu, _, by go_num, by omega, by omega, ?_, ?_, HS9.out, ?_, ?_, ?_⟩, by simp [intOf]; omega⟩
                  · rw [List.length_set]; exact hgl
                  · exact hgd.out.put a (by omega) _ ⟨hk1, by show k1 < _; omega, fun h => hHk.out h, hr1.1, hr1.2, by show -25 ≤ wrap64 _; rw [wr_in _ (by omega) (by omega)]; omega, by show wrap64 _ < 25; rw [wr_in _ (by omega) (by omega)]; omega⟩
                  · exact blk_far HH6.out hgne6 _
                  · exact blk_far HH4.out hgne4 _
                  · exact below_set HB9.out hgw
          · have hex : Hid (PComposeTells.Good loops 16 gs) := hgd.out.mono hi16
            obtain ⟨Au, cu, rfl⟩ := Kd.S_slice hS.out
            have c0 := h6.out.cell 0
            have c1 := h6.out.cell 1
            have c2 := h6.out.cell 2
            have c3 := h6.out.cell 3
            have c4 := h6.out.cell 4
            have c5 := h6.out.cell 5
            have c6 := h6.out.cell 6
            have c7 := h6.out.cell 7
            have c8 := h6.out.cell 8
            have z0 := h4.out.cell 0
            have z1 := h4.out.cell 1
            have z2 := h4.out.cell 2
            have z3 := h4.out.cell 3
            have z4 := h4.out.cell 4
            have z5 := h4.out.cell 5
            have z6 := h4.out.cell 6
            have z7 := h4.out.cell 7
            have z8 := h4.out.cell 8
            have f0 := h4.out.frozen 0
            have f1 := h4.out.frozen 1
            have f2 := h4.out.frozen 2
            have f3 := h4.out.frozen 3
            have f4 := h4.out.frozen 4
            have f5 := h4.out.frozen 5
            have f6 := h4.out.frozen 6
            have f7 := h4.out.frozen 7
            have f8 := h4.out.frozen 8
            simp only [uf, zf] at c0 c1 c2 c3 c4 c5 c6 c7 c8 z0 z1 z2 z3 z4 z5 z6 z7 z8
            have hne : w.heap.size ≠ w.heap.size + 1 := by omega
            have hnd : Hid (¬ (i < l.length ∧ i < 16)) := hcond
            by_cases hil : i < l.length
            · have hi15 : ¬ (i : Int) < 16 := fun h => hcond ⟨hil, by omega⟩
              clear hcond
              have q1 : (i : Int) < (l.length : Int) := by omega
              have d0 : decide ((i : Int) < 16) = false := decide_eq_false hi15
              go_wp2
              refine bodyPost_ret (results_cell_row rfl _ _ w.heap.size 32 (uf (.slice Au (nl l) cu)) (0, 0) _ rfl (zf_set h4.out _) Try.underlying32 rfl (by kernel_rfl)) rfl ?_
              exact made_end hex.out hgl h4.out hS.out hb.out
            · clear hcond
              have q1 : ¬ (i : Int) < (l.length : Int) := by omega
              have d0 : decide ((i : Int) < (l.length : Int)) = false := decide_eq_false q1
              have d1 : decide (i < l.length) = false := decide_eq_false hil
              go_wp2
              refine bodyPost_ret (results_cell_row rfl _ _ w.heap.size 32 (uf (.slice Au (nl l) cu)) (0, 0) _ rfl (zf_set h4.out _) Try.underlying32 rfl (by kernel_rfl)) rfl ?_
              exact made_end hex.out hgl h4.out hS.out hb.out
end Go.Proofs.Ytajjailmmbcolaa
