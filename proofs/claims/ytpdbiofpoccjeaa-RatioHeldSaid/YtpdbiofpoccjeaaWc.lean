/- The walk over math/bits.Div64. -/
import Derived.Test.YtpdbiofpoccjeaaWa
import Derived.Test.YtpdbiofpoccjeaaNum
import Derived.Lib.ItoaNum
import Derived.Laws.Bits64b
import Derived.Deep.DeepCutAuto
import Derived.Deep.CutBlock
namespace Go.Proofs.Ytpdbiofpoccjeaa
open Go.RowKit
theorem div64_hi0 (lo y : Int) (hl : 0 ≤ lo) (hl' : lo < 18446744073709551616) (hy : 0 < y) (w : World) :
    Calls Try.prog 68 #[.int .u64 0, .int .u64 lo, .int .u64 y] w (RetQ lo.toNat y.toNat w) := by
  have hy0 : (y == 0) = false := by simpa using (by omega : ¬ y = 0)
  have hy1 : ¬ y ≤ 0 := by omega
  go_enter Try.func68, Try.ntmps68
  go_wp2
  go_quiet (fail)
  go_wp2
  go_ret2
  exact ⟨_, _, rfl, (by have := Int.natCast_ediv lo.toNat y.toNat; rw [this]; congr 1 <;> omega), (by have := Int.natCast_emod lo.toNat y.toNat; rw [this]; congr 1 <;> omega), by repeat (first | exact bl_refl _ | apply bl_drewN)⟩
/-- The shift: y is brought up to 64 bits. -/
def Nrm (y s : Nat) : Prop := s ≤ 63 ∧ 9223372036854775808 ≤ y * 2 ^ s ∧ y * 2 ^ s < 18446744073709551616
theorem lz_any (y : Nat) (hy : 0 < y) (hy' : y < 18446744073709551616) (w : World) :
    Calls Try.prog 72 #[.int .u64 (y : Int)] w fun e w' => ∃ s : Nat, e = .returned (.int .i64 (s : Int)) ∧ Nrm y s ∧ w = w' := by
  refine (Try.bits_LeadingZeros64 (y : Int) w (by omega) (by omega)).mono ?_
  rintro e w' ⟨rfl, rfl⟩
  have hb := Lib.bitLenAux_bounds 64 y hy' (by omega)
  have hl := Lib.bitLen_le y 64 (by omega) hy'
  have e0 : Lib.bitLenAux 64 y = Lib.bitLen y := rfl
  rw [e0] at hb
  simp only [Int.toNat_natCast]
  generalize Lib.bitLen y = b at *
  obtain ⟨h1, h2, h3⟩ := hb
  refine ⟨64 - b, ret_int (by omega), ⟨by omega, ?_, ?_⟩, trivial⟩
  · have : (2 : Nat) ^ (b - 1) * 2 ^ (64 - b) = 9223372036854775808 := by rw [← Nat.pow_add, show b - 1 + (64 - b) = 63 by omega]
    have := Nat.mul_le_mul_right (2 ^ (64 - b)) h2
    omega
  · have : (2 : Nat) ^ b * 2 ^ (64 - b) = 18446744073709551616 := by rw [← Nat.pow_add, show b + (64 - b) = 64 by omega]
    have := Nat.mul_lt_mul_of_pos_right h3 (Nat.two_pow_pos (64 - b))
    omega
theorem wrapN (a : Nat) : IntKind.u64.wrap (a : Int) = ((a % 18446744073709551616 : Nat) : Int) := by rw [IntKind.wrap_u64]; omega
theorem wrap_small (a : Nat) (h : a < 18446744073709551616) : IntKind.u64.wrap (a : Int) = (a : Int) := by rw [wrapN, Nat.mod_eq_of_lt h]
theorem mulP (a s : Nat) : (a : Int) * 2 ^ s = ((a * 2 ^ s : Nat) : Int) := by simp
theorem divP (a s : Nat) : (a : Int) / 2 ^ s = ((a / 2 ^ s : Nat) : Int) := by simp
theorem mask32 (a : Nat) (ha : a < 18446744073709551616) : bits .and .u64 (a : Int) 4294967295 = ((a % 4294967296 : Nat) : Int) := by
  have h := bits_and_u64_nat a 4294967295 ha (by omega)
  have e : a &&& 4294967295 = a % 4294967296 := Nat.and_two_pow_sub_one_eq_mod a 32
  rw [e] at h
  exact h
/-- What stands in Div64's variables when the first guess is made. -/
structure Dv (hi lo y s Y v v0 H L u u1 u0 : Nat) : Prop where
  nY : Y = y * 2 ^ s
  d1 : Dig u u1 v v0
  vY : Y = v * 4294967296 + v0
  uN : (hi * 18446744073709551616 + lo) * 2 ^ s = (u * 4294967296 + u1) * 4294967296 + u0
  u0w : u0 < 4294967296
  rY : IntKind.u64.wrap ((y : Int) * 2 ^ s) = (Y : Int)
  rv : (Y : Int) / 4294967296 = (v : Int)
  rv0 : bits .and .u64 (Y : Int) 4294967295 = (v0 : Int)
  rH : IntKind.u64.wrap ((hi : Int) * 2 ^ s) = (H : Int)
  ru : bits .or .u64 (H : Int) ((lo : Int) / 2 ^ (64 - s)) = (u : Int)
  rL : IntKind.u64.wrap ((lo : Int) * 2 ^ s) = (L : Int)
  ru1 : (L : Int) / 4294967296 = (u1 : Int)
  ru0 : bits .and .u64 (L : Int) 4294967295 = (u0 : Int)
theorem dv_made (hi lo y s : Nat) (hl' : lo < 18446744073709551616) (hy : hi < y) (hs : Nrm y s) : ∃ Y v v0 H L u u1 u0, Dv hi lo y s Y v v0 H L u u1 u0 := by
  obtain ⟨s1, s2, s3⟩ := hs
  obtain ⟨w1, w2⟩ := up_word hi lo s s1 hl'
  have hp := Nat.two_pow_pos s
  have hH : (hi + 1) * 2 ^ s ≤ y * 2 ^ s := Nat.mul_le_mul_right _ hy
  rw [Nat.add_mul, Nat.one_mul] at hH
  have hHi : hi * 2 ^ s < 18446744073709551616 := by omega
  refine ⟨y * 2 ^ s, y * 2 ^ s / 4294967296, y * 2 ^ s % 4294967296, hi * 2 ^ s, lo * 2 ^ s % 18446744073709551616, hi * 2 ^ s + lo / 2 ^ (64 - s), lo * 2 ^ s % 18446744073709551616 / 4294967296, lo * 2 ^ s % 18446744073709551616 % 4294967296, rfl, ?_, ?_, ?_, ?_, ?_, ?_, ?_, ?_, ?_, ?_, ?_, ?_⟩
  · have hL : lo * 2 ^ s % 18446744073709551616 < 18446744073709551616 := Nat.mod_lt _ (by omega)
    generalize y * 2 ^ s = Y at *
    generalize hi * 2 ^ s = H at *
    generalize lo / 2 ^ (64 - s) = l at *
    generalize lo * 2 ^ s % 18446744073709551616 = L at *
    generalize 2 ^ s = P at *
    constructor <;> omega
  · omega
  · rw [w2]; omega
  · omega
  · rw [mulP, wrap_small _ s3]
  · omega
  · exact mask32 _ s3
  · rw [mulP, wrap_small _ hHi]
  · rw [divP, bits_or_u64_nat _ _ hHi (by have := Nat.div_le_self lo (2 ^ (64 - s)); omega), or_low _ _ _ w1]
  · rw [mulP, wrapN]
  · omega
  · exact mask32 _ (by omega)
theorem left_at {u u1 v v0 Y : Nat} (h : Dig u u1 v v0) (hY : Y = v * 4294967296 + v0) :
    ((u : Int) * 4294967296 + u1 - (digQ u u1 v v0 : Int) * (Y : Int)) = (((u * 4294967296 + u1) % Y : Nat) : Int) ∧ (u * 4294967296 + u1) % Y < Y := by
  subst hY
  exact dig_left h
theorem wrap_left {u u1 v v0 Q Y : Nat} (h : Dig u u1 v v0) (hQ : digQ u u1 v v0 = Q) (hY : Y = v * 4294967296 + v0) :
    IntKind.u64.wrap (IntKind.u64.wrap (IntKind.u64.wrap ((u : Int) * 4294967296) + (u1 : Int)) - IntKind.u64.wrap ((Q : Int) * (Y : Int))) = (((u * 4294967296 + u1) % Y : Nat) : Int) := by
  obtain ⟨h1, h2⟩ := left_at h hY
  rw [hQ] at h1
  have b := h.v2; have b' := h.z
  generalize (Q : Int) * (Y : Int) = p at *
  generalize (u * 4294967296 + u1) % Y = R at *
  simp only [IntKind.wrap_u64]
  omega
set_option maxHeartbeats 1000000 in
set_option maxRecDepth 100000 in
theorem div64_hi (hi lo y : Nat) (hl' : lo < 18446744073709551616) (hh : 0 < hi) (hy : hi < y) (hy' : y < 18446744073709551616) (w : World) :
    Calls Try.prog 68 #[.int .u64 (hi : Int), .int .u64 (lo : Int), .int .u64 (y : Int)] w (RetQ (hi * 18446744073709551616 + lo) y w) := by
  have hy0 : ((y : Int) == 0) = false := by simpa using (by omega : ¬ y = 0)
  have hy1 : ¬ (y : Int) ≤ hi := by omega
  have hy2 : ((hi : Int) == 0) = false := by simpa using (by omega : ¬ hi = 0)
  go_enter Try.func68, Try.ntmps68
  go_wp2_with fail
  refine (lz_any y (by omega) hy' _).mono ?_
  rintro e w1 ⟨s, rfl, hs, rfl⟩
  have s1 := hs.1
  have s2 : (s : Int) ≤ 63 := by omega
  have s3 : (0 : Int) ≤ s := by omega
  obtain ⟨Y, v, v0, H, L, u, u1, u0, D⟩ := dv_made hi lo y s hl' hy hs
  have HD := hidden D
  have rY := D.rY; have rv := D.rv; have rv0 := D.rv0; have rH := D.rH; have ru := D.ru; have rL := D.rL; have ru1 := D.ru1; have ru0 := D.ru0
  have b1 := D.d1.v1; have b2 := D.d1.v2; have b3 := D.d1.z; have b4 := D.d1.w; have b5 := D.u0w
  have b6 : u < 18446744073709551616 := by have := D.d1.u2; omega
  obtain ⟨q0, hq0⟩ : ∃ q0, u / v = q0 := ⟨_, rfl⟩
  obtain ⟨r0, hr0⟩ : ∃ r0, u % v = r0 := ⟨_, rfl⟩
  have G0 := dig_first D.d1
  have hr1 := dig_mod_lt D.d1
  rw [hq0, hr0] at G0
  rw [hr0] at hr1
  have rq : (u : Int) / (v : Int) = (q0 : Int) := by rw [← hq0]; exact (Int.natCast_ediv u v).symm
  obtain ⟨p0, hp0⟩ : ∃ p0, q0 * v = p0 := ⟨_, rfl⟩
  have hp1 := G0.eq
  rw [hp0] at hp1
  have rp : IntKind.u64.wrap ((q0 : Int) * (v : Int)) = (p0 : Int) := by rw [← Int.natCast_mul, hp0]; exact wrap_small _ (by omega)
  have rr : (u : Int) - (p0 : Int) = (r0 : Int) := by omega
  have c1 : (0 : Int) ≤ (u : Int) - (p0 : Int) := by omega
  have c2 : (u : Int) - (p0 : Int) < 18446744073709551616 := by omega
  have rq' : IntKind.u64.wrap (q0 : Int) = (q0 : Int) := wrap_small _ (by have := G0.hi; omega)
  have vne : ((v : Int) == 0) = false := by simpa using (by omega : ¬ v = 0)
  have hG := hidden G0
  clear D G0 hq0 hr0 hp0 hp1 hs
  obtain ⟨Q1, hQ1⟩ : ∃ Q1, digQ u u1 v v0 = Q1 := ⟨_, rfl⟩
  have hQ1 := hidden hQ1
  go_upto_block 0 with (fail)
  go_cut [15] (fun a w' => a = .int .u64 (Q1 : Int) ∧ w' = w)
  case first =>
    go_wp2_with fail
    go_loopg [15, 16] q0 (fun k a b w' => ∃ q r : Nat, a = .int .u64 (q : Int) ∧ b = .int .u64 (r : Int) ∧ Hid (Gs u u1 v v0 q r) ∧ r < 4294967296 ∧ q ≤ k ∧ w' = w)
    case atStart => exact ⟨q0, r0, rfl, rfl, hG, hr1, Nat.le_refl _, rfl⟩
    case round =>
      clear rq rq' rp rr c1 c2 hG hr1
      obtain ⟨q, r, rfl, rfl, G, hr, hk, rfl⟩ := hrel
      have q1 : q ≤ 4294967297 := G.out.hi
      by_cases hq : 4294967296 ≤ q
      · have t1 : decide ((4294967296 : Int) ≤ (q : Int)) = true := by simp; omega
        obtain ⟨n1, G1⟩ := dig_next HD.out.d1 G.out (Or.inl hq)
        have G1 := hidden G1
        have e1 : (q : Int) - 1 = ((q - 1 : Nat) : Int) := by omega
        by_cases hb : 4294967296 ≤ r + v
        · have t2 : decide ((4294967296 : Int) ≤ (r : Int) + (v : Int)) = true := by simp; omega
          repeat (first | go_big_skip | go_step)
          go_meet
          exact ⟨by rw [← hQ1.out, dig_over HD.out.d1 G1.out hb (by omega)], rfl⟩
        · have t2 : decide ((4294967296 : Int) ≤ (r : Int) + (v : Int)) = false := by simp; omega
          repeat (first | go_big_skip | go_step)
          go_roundg (q - 1)
          case measure => omega
          case rel => exact ⟨q - 1, r + v, rfl, by simp, G1, by omega, Nat.le_refl _, rfl⟩
      · have t1 : decide ((4294967296 : Int) ≤ (q : Int)) = false := by simp; omega
        obtain ⟨m, hm⟩ : ∃ m, q * v0 = m := ⟨_, rfl⟩
        have hm1 : m ≤ 4294967295 * 4294967295 := by rw [← hm]; exact Nat.mul_le_mul (by omega) (by omega)
        have rm : IntKind.u64.wrap ((q : Int) * (v0 : Int)) = (m : Int) := by rw [← Int.natCast_mul, hm]; exact wrap_small _ (by omega)
        have hm := hidden hm
        by_cases hx : 4294967296 * r + u1 < m
        · have t3 : decide (4294967296 * (r : Int) + (u1 : Int) < (m : Int)) = true := by simp; omega
          obtain ⟨n1, G1⟩ := dig_next HD.out.d1 G.out (Or.inr (by rw [hm.out]; exact hx))
          have G1 := hidden G1
          have e1 : (q : Int) - 1 = ((q - 1 : Nat) : Int) := by omega
          by_cases hb : 4294967296 ≤ r + v
          · have t2 : decide ((4294967296 : Int) ≤ (r : Int) + (v : Int)) = true := by simp; omega
            repeat (first | go_big_skip | go_step)
            go_meet
            exact ⟨by rw [← hQ1.out, dig_over HD.out.d1 G1.out hb (by omega)], rfl⟩
          · have t2 : decide ((4294967296 : Int) ≤ (r : Int) + (v : Int)) = false := by simp; omega
            repeat (first | go_big_skip | go_step)
            go_roundg (q - 1)
            case measure => omega
            case rel => exact ⟨q - 1, r + v, rfl, by simp, G1, by omega, Nat.le_refl _, rfl⟩
        · have t3 : decide (4294967296 * (r : Int) + (u1 : Int) < (m : Int)) = false := by simp; omega
          repeat (first | go_big_skip | go_step)
          go_meet
          exact ⟨by rw [← hQ1.out, dig_done HD.out.d1 G.out (by rw [hm.out]; omega)], rfl⟩
  case rest =>
    clear rq rq' rp rr c1 c2 hG hr1
    obtain ⟨rfl, rfl⟩ := hcut
    have rU := wrap_left HD.out.d1 hQ1.out HD.out.vY
    obtain ⟨hU, hlt⟩ := left_at HD.out.d1 HD.out.vY
    obtain ⟨U, eU⟩ : ∃ U, (u * 4294967296 + u1) % Y = U := ⟨_, rfl⟩
    rw [eU] at rU hlt
    have hltY := hlt
    rw [HD.out.vY] at hlt
    have D2 : Hid (Dig U u0 v v0) := ⟨b1, b2, b3, hlt, b5⟩
    have b7 : U < 18446744073709551616 := by omega
    have eU := hidden eU
    obtain ⟨q2, hq2⟩ : ∃ q2, U / v = q2 := ⟨_, rfl⟩
    obtain ⟨r2, hr2'⟩ : ∃ r2, U % v = r2 := ⟨_, rfl⟩
    have G0 := dig_first D2.out
    have hr2 := dig_mod_lt D2.out
    rw [hq2, hr2'] at G0
    rw [hr2'] at hr2
    have rq : (U : Int) / (v : Int) = (q2 : Int) := by rw [← hq2]; exact (Int.natCast_ediv U v).symm
    obtain ⟨p0, hp0⟩ : ∃ p0, q2 * v = p0 := ⟨_, rfl⟩
    have hp1 := G0.eq
    rw [hp0] at hp1
    have rp : IntKind.u64.wrap ((q2 : Int) * (v : Int)) = (p0 : Int) := by rw [← Int.natCast_mul, hp0]; exact wrap_small _ (by omega)
    have rr : (U : Int) - (p0 : Int) = (r2 : Int) := by omega
    have c1 : (0 : Int) ≤ (U : Int) - (p0 : Int) := by omega
    have c2 : (U : Int) - (p0 : Int) < 18446744073709551616 := by omega
    have rq' : IntKind.u64.wrap (q2 : Int) = (q2 : Int) := wrap_small _ (by have := G0.hi; omega)
    have hG := hidden G0
    have q1lt := digQ_lt HD.out.d1
    rw [hQ1.out] at q1lt
    clear G0 hq2 hr2' hp0 hp1 hlt hltY hU
    obtain ⟨Q2, hQ2⟩ : ∃ Q2, digQ U u0 v v0 = Q2 := ⟨_, rfl⟩
    have q2lt := digQ_lt D2.out
    rw [hQ2] at q2lt
    have hQ2 := hidden hQ2
    go_upto_block 2 with (fail)
    go_cut [18] (fun a w' => a = .int .u64 (Q2 : Int) ∧ w' = wc)
    case first =>
      go_wp2_with fail
      go_loopg [18, 16] q2 (fun k a b w' => ∃ q r : Nat, a = .int .u64 (q : Int) ∧ b = .int .u64 (r : Int) ∧ Hid (Gs U u0 v v0 q r) ∧ r < 4294967296 ∧ q ≤ k ∧ w' = wc)
      case atStart => exact ⟨q2, r2, rfl, rfl, hG, hr2, Nat.le_refl _, rfl⟩
      case round =>
        clear rq rq' rp rr c1 c2 hG hr2
        obtain ⟨q, r, rfl, rfl, G, hr, hk, rfl⟩ := hrel
        have q1 : q ≤ 4294967297 := G.out.hi
        by_cases hq : 4294967296 ≤ q
        · have t1 : decide ((4294967296 : Int) ≤ (q : Int)) = true := by simp; omega
          obtain ⟨n1, G1⟩ := dig_next D2.out G.out (Or.inl hq)
          have G1 := hidden G1
          have e1 : (q : Int) - 1 = ((q - 1 : Nat) : Int) := by omega
          by_cases hb : 4294967296 ≤ r + v
          · have t2 : decide ((4294967296 : Int) ≤ (r : Int) + (v : Int)) = true := by simp; omega
            repeat (first | go_big_skip | go_step)
            go_meet
            exact ⟨by rw [← hQ2.out, dig_over D2.out G1.out hb (by omega)], rfl⟩
          · have t2 : decide ((4294967296 : Int) ≤ (r : Int) + (v : Int)) = false := by simp; omega
            repeat (first | go_big_skip | go_step)
            go_roundg (q - 1)
            case measure => omega
            case rel => exact ⟨q - 1, r + v, rfl, by simp, G1, by omega, Nat.le_refl _, rfl⟩
        · have t1 : decide ((4294967296 : Int) ≤ (q : Int)) = false := by simp; omega
          obtain ⟨m, hm⟩ : ∃ m, q * v0 = m := ⟨_, rfl⟩
          have hm1 : m ≤ 4294967295 * 4294967295 := by rw [← hm]; exact Nat.mul_le_mul (by omega) (by omega)
          have rm : IntKind.u64.wrap ((q : Int) * (v0 : Int)) = (m : Int) := by rw [← Int.natCast_mul, hm]; exact wrap_small _ (by omega)
          have hm := hidden hm
          by_cases hx : 4294967296 * r + u0 < m
          · have t3 : decide (4294967296 * (r : Int) + (u0 : Int) < (m : Int)) = true := by simp; omega
            obtain ⟨n1, G1⟩ := dig_next D2.out G.out (Or.inr (by rw [hm.out]; exact hx))
            have G1 := hidden G1
            have e1 : (q : Int) - 1 = ((q - 1 : Nat) : Int) := by omega
            by_cases hb : 4294967296 ≤ r + v
            · have t2 : decide ((4294967296 : Int) ≤ (r : Int) + (v : Int)) = true := by simp; omega
              repeat (first | go_big_skip | go_step)
              go_meet
              exact ⟨by rw [← hQ2.out, dig_over D2.out G1.out hb (by omega)], rfl⟩
            · have t2 : decide ((4294967296 : Int) ≤ (r : Int) + (v : Int)) = false := by simp; omega
              repeat (first | go_big_skip | go_step)
              go_roundg (q - 1)
              case measure => omega
              case rel => exact ⟨q - 1, r + v, rfl, by simp, G1, by omega, Nat.le_refl _, rfl⟩
          · have t3 : decide (4294967296 * (r : Int) + (u0 : Int) < (m : Int)) = false := by simp; omega
            repeat (first | go_big_skip | go_step)
            go_meet
            exact ⟨by rw [← hQ2.out, dig_done D2.out G.out (by rw [hm.out]; omega)], rfl⟩
    case rest =>
      clear rq rq' rp rr c1 c2 hG hr2
      obtain ⟨rfl, rfl⟩ := hcut
      have rR := wrap_left D2.out hQ2.out HD.out.vY
      obtain ⟨R, eR⟩ : ∃ R, (U * 4294967296 + u0) % Y = R := ⟨_, rfl⟩
      rw [eR] at rR
      have eR := hidden eR
      go_wp2_with fail
      go_ret2
      have hy3 : 0 < y := by omega
      have T := dig_two (hi * 18446744073709551616 + lo) (u * 4294967296 + u1) y s Y u0 4294967296 HD.out.nY hy3 HD.out.uN
      have t1 : (u * 4294967296 + u1) / Y = Q1 := by rw [HD.out.vY]; exact hQ1.out
      rw [t1, eU.out, eR.out] at T
      have t2 : (U * 4294967296 + u0) / Y = Q2 := by rw [HD.out.vY]; exact hQ2.out
      rw [t2] at T
      exact ⟨_, _, rfl, by rw [← T.1]; omega, by rw [← T.2]; simp, by repeat (first | exact bl_refl _ | apply bl_drewN)⟩
/-- math/bits.Div64, wherever it doesn't panic. -/
theorem div64_any (hi lo y : Nat) (hl : lo < 18446744073709551616) (hy : hi < y) (hy' : y < 18446744073709551616) (w : World) :
    Calls Try.prog 68 #[.int .u64 (hi : Int), .int .u64 (lo : Int), .int .u64 (y : Int)] w (RetQ (hi * 18446744073709551616 + lo) y w) := by
  rcases Nat.eq_zero_or_pos hi with h | h
  · subst h
    have := div64_hi0 (lo : Int) (y : Int) (by omega) (by omega) (by omega) w
    simpa using this
  · exact div64_hi hi lo y hl h hy hy' w
end Go.Proofs.Ytpdbiofpoccjeaa
