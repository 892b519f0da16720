/- compose: sets of marks, plain; look-ups in a map[int]bool. -/
import Derived.Maps.Views
import Derived.Test.YtajjailmmbcolaaCa
namespace Go.Proofs.Ytajjailmmbcolaa
open Go Go.Proofs Go.RowKit Go.Maps

theorem plainElem_bool_inv {H : Type} {P : Program} {e : TypeId} (he : P.underlying e = some .bool) {v : Value} {z : DataW H × List MemPlace} (h : plainElem P e v = some z) : ∃ a, v = .bool a ∧ z = (.lit (.bool a), []) := by
  unfold plainElem at h
  rw [he] at h
  cases v <;> simp at h
  subst h
  exact ⟨_, rfl, rfl⟩

section
variable {H : Type} {P : Program} {k : TypeId} {w : World} {b n : Nat} {D : DataW H}
theorem lookup_bool {t e : TypeId} (h : w.ownsMap P k (plainElem P e) b n D) (K : Keyed P k) (ht : P.underlying t = some (.map k e)) (he : P.underlying e = some .bool) (hz : (zeroValue e).run P w = .ok (.bool false) w)
    {key : Value} {kl : Lit} (hkey : keyOf P k key = some kl) : ∃ c, (Instr.lookup t (.map (some b)) key false).run P w = .ok (.bool c) w ∧ D.atKey kl (.lit (.bool false)) = .lit (.bool c) := by
  obtain ⟨v, ps, hrun, hv⟩ := h.lookup K ht hz (plainElem_bool he false) hkey
  obtain ⟨c, rfl, hc⟩ := plainElem_bool_inv he hv
  simp only [Prod.mk.injEq] at hc
  exact ⟨c, hrun, hc.1⟩
end

/-- The marks as a datum. -/
def DM (xs : List Nat) : DataW Unit := xs.foldl (fun D (x : Nat) => D.put (.int .i64 (x : Int)) (.lit (.bool true))) (.map [])
theorem DM_snoc (xs : List Nat) (x : Nat) : DM (xs ++ [x]) = (DM xs).put (.int .i64 (x : Int)) (.lit (.bool true)) := by simp [DM]
theorem isMap_DM_from (xs : List Nat) : ∀ D : DataW Unit, IsMap D → IsMap (xs.foldl (fun D (x : Nat) => D.put (.int .i64 (x : Int)) (.lit (.bool true))) D) := by
  induction xs with
  | nil => exact fun D h => h
  | cons x xs ih => exact fun D h => ih _ (by obtain ⟨es, rfl⟩ := h; exact ⟨_, rfl⟩)
theorem isMap_DM (xs : List Nat) : IsMap (DM xs) := isMap_DM_from xs _ ⟨_, rfl⟩
theorem snoc_ind {α : Type} {P : List α → Prop} (h0 : P []) (h1 : ∀ l x, P l → P (l ++ [x])) (l : List α) : P l := by
  rw [← List.reverse_reverse l]
  induction l.reverse with
  | nil => exact h0
  | cons x l ih => rw [List.reverse_cons]; exact h1 _ _ ih
theorem DM_at (xs : List Nat) (k : Nat) : (DM xs).atKey (.int .i64 (k : Int)) (.lit (.bool false)) = .lit (.bool (decide (k ∈ xs))) := by
  induction xs using snoc_ind with
  | h0 => rfl
  | h1 xs x ih =>
    rw [DM_snoc]
    by_cases e : k = x
    · subst e
      rw [atKey_put_same (isMap_DM xs) (by trivial)]
      simp
    · rw [atKey_put_other (fun h => e (by simp at h; omega)), ih]
      simp [e]

/-- The map in memory. -/
abbrev Mk (w : World) (m : Nat) (xs : List Nat) : Prop := w.ownsMap Try.prog 3 (plainElem (H := Unit) Try.prog 4) m xs.length (DM xs)
theorem wf_nat {k : Nat} (h : k < 9223372036854775808) : (Lit.int .i64 (k : Int)).wf = true := by
  have e : IntKind.i64.min = -9223372036854775808 := by decide
  simp [Lit.wf, e]
  omega
set_option maxRecDepth 100000 in
theorem Mk.look {w : World} {m : Nat} {xs : List Nat} (h : Mk w m xs) (k : Nat) (hk : k < 9223372036854775808) : (Instr.lookup 49 (.map (some m)) (.int .i64 (k : Int)) false).run Try.prog w = .ok (.bool (decide (k ∈ xs))) w := by
  obtain ⟨c, hrun, hat⟩ := lookup_bool (t := 49) h (Maps.int_keyed Try.underlying3) Try.underlying49 Try.underlying4 (Try.zeroValue4 _) (Maps.keyOf_int_mk Try.underlying3 (wf_nat hk))
  rw [DM_at] at hat
  injection hat with hat
  injection hat with hat
  rw [hat]; exact hrun

/-- What is part of a glyph, as numbers. -/
def gn {N : Nat} (x : Sub N) : Nat := x.1.1.toNat
theorem gn_eq {N : Nat} (x : Sub N) : x.1.1 = ((gn x : Nat) : Int) := by have := x.2.1; unfold gn; omega
theorem gn_lt {N : Nat} (x : Sub N) : gn x < N := by have := x.2; unfold gn; omega
def kids (G : Gs) (g : Nat) : List Nat := (flt G.length (G.getD g [])).map gn
/-- Of each of ps: it, and all that comes of it. -/
inductive From (G : Gs) (ps : List Nat) : Nat → Prop
  | here {p : Nat} : p ∈ ps → From G ps p
  | step {p q : Nat} : From G ps p → q ∈ kids G p → From G ps q
theorem From.mono {G : Gs} {ps qs : List Nat} (h : ∀ p ∈ ps, p ∈ qs) {x : Nat} (hx : From G ps x) : From G qs x := by
  induction hx with
  | here h1 => exact .here (h _ h1)
  | step _ h2 ih => exact .step ih h2
theorem From.under {G : Gs} {ps : List Nat} {q : Nat} (hq : From G ps q) {x : Nat} (hx : From G (kids G q) x) : From G ps x := by
  induction hx with
  | here h1 => exact .step hq h1
  | step _ h2 ih => exact .step ih h2
structure Grown (G : Gs) (ps xs ys : List Nat) : Prop where
  sub : ∀ x ∈ xs, x ∈ ys
  nodup : ys.Nodup
  lt : ∀ y ∈ ys, y < G.length
  has : ∀ p ∈ ps, p ∈ ys
  closed : ∀ y ∈ ys, y ∉ xs → ∀ q ∈ kids G y, q ∈ ys
  reach : ∀ y ∈ ys, y ∉ xs → From G ps y
theorem Grown.nil {G : Gs} {xs : List Nat} (hn : xs.Nodup) (hl : ∀ x ∈ xs, x < G.length) : Grown G [] xs xs :=
  ⟨fun _ h => h, hn, hl, fun _ h => (by cases h), fun y h h' => absurd h h', fun y h h' => absurd h h'⟩
theorem Grown.there {G : Gs} {ps xs ys : List Nat} {q : Nat} (h : Grown G ps xs ys) (hq : q ∈ ys) : Grown G (ps ++ [q]) xs ys :=
  ⟨h.sub, h.nodup, h.lt, fun p hp => by
    rcases List.mem_append.1 hp with hp | hp
    · exact h.has p hp
    · rw [List.mem_singleton.1 hp]; exact hq, h.closed, fun y hy hx => (h.reach y hy hx).mono (fun p hp => List.mem_append_left _ hp)⟩
theorem Grown.more {G : Gs} {ps xs ys zs : List Nat} {q : Nat} (h : Grown G ps xs ys) (k : Grown G (kids G q) (ys ++ [q]) zs) : Grown G (ps ++ [q]) xs zs := by
  have hq : q ∈ zs := k.sub q (by simp)
  have hy : ∀ y ∈ ys, y ∈ zs := fun y hy => k.sub y (List.mem_append_left _ hy)
  refine ⟨fun x hx => hy x (h.sub x hx), k.nodup, k.lt, ?_, ?_, ?_⟩
  · intro p hp
    rcases List.mem_append.1 hp with hp | hp
    · exact hy p (h.has p hp)
    · rw [List.mem_singleton.1 hp]; exact hq
  · intro y hyz hyx r hr
    by_cases h1 : y ∈ ys
    · exact hy r (h.closed y h1 hyx r hr)
    · by_cases h2 : y = q
      · subst h2; exact k.has r hr
      · exact k.closed y hyz (by simp [h1, h2]) r hr
  · intro y hyz hyx
    by_cases h1 : y ∈ ys
    · exact (h.reach y h1 hyx).mono (fun p hp => List.mem_append_left _ hp)
    · by_cases h2 : y = q
      · subst h2; exact .here (by simp)
      · exact From.under (.here (by simp)) (k.reach y hyz (by simp [h1, h2]))
theorem nodup_len {N : Nat} {xs : List Nat} (hn : xs.Nodup) (hl : ∀ x ∈ xs, x < N) : xs.length ≤ N := by
  induction N generalizing xs with
  | zero =>
    cases xs with
    | nil => simp
    | cons x xs => have := hl x (by simp); omega
  | succ N ih =>
    by_cases h : N ∈ xs
    · have := ih (xs := xs.erase N) (hn.erase _) (fun x hx => by have := (hn.mem_erase_iff).1 hx; have := hl x this.2; omega)
      rw [List.length_erase_of_mem h] at this
      omega
    · have := ih hn (fun x hx => by have := hl x hx; have : x ≠ N := fun e => h (e ▸ hx); omega)
      omega
end Go.Proofs.Ytajjailmmbcolaa
