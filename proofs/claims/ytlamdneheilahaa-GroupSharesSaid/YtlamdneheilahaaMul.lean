/- Products modulo the prime of the small group: the program's and the reference's. -/
import Derived.Test.YtlamdneheilahaaDiv
namespace Go.Proofs.Ytlamdneheilahaa
open Go.RowKit Go.Lib

namespace Mul64
theorem maskN (a : Nat) (ha : a < 18446744073709551616) : bits .and .u64 (a : Int) 4294967295 = ((a % 4294967296 : Nat) : Int) := by
  have h := and_lo (a : Int) (by omega) (by omega)
  rw [h]; omega
theorem divN (a : Nat) : (a : Int) / 4294967296 = ((a / 4294967296 : Nat) : Int) := by omega
theorem mulN (a b : Nat) : (a : Int) * (b : Int) = ((a * b : Nat) : Int) := (Int.natCast_mul a b).symm
theorem addN (a b : Nat) : (a : Int) + (b : Int) = ((a + b : Nat) : Int) := (Int.natCast_add a b).symm
theorem wrapN (a : Nat) (ha : a < 18446744073709551616) : IntKind.u64.wrap (a : Int) = (a : Int) := by rw [IntKind.wrap_u64]; omega
theorem wrapM (a : Nat) : IntKind.u64.wrap (a : Int) = ((a % 18446744073709551616 : Nat) : Int) := by rw [IntKind.wrap_u64]; omega
end Mul64

set_option maxHeartbeats 1000000 in
theorem mul64 (x y : Nat) (hx : x < 18446744073709551616) (hy : y < 18446744073709551616) (w : World) :
    Calls Try.prog 47 #[.int .u64 x, .int .u64 y] w fun e w' => e = .returned (.tuple #[.int .u64 ((x * y / 18446744073709551616 : Nat) : Int), .int .u64 ((x * y % 18446744073709551616 : Nat) : Int)]) ∧ w = w' := by
  obtain ⟨bd, bt, bw, hhi⟩ := Lib.mul64_hi x y hx hy
  have ba := Lib.half_mul_le (a := x / 4294967296) (b := y / 4294967296) (by omega) (by omega)
  have bb := Lib.half_mul_le (a := x / 4294967296) (b := y % 4294967296) (by omega) (by omega)
  have bc := Lib.half_mul_le (a := x % 4294967296) (b := y / 4294967296) (by omega) (by omega)
  have ba' : x / 4294967296 * (y / 4294967296) < 18446744073709551616 := by omega
  have bb' : x / 4294967296 * (y % 4294967296) < 18446744073709551616 := by omega
  have bc' : x % 4294967296 * (y / 4294967296) < 18446744073709551616 := by omega
  have bh1 : x / 4294967296 * (y / 4294967296) + (x / 4294967296 * (y % 4294967296) + x % 4294967296 * (y % 4294967296) / 4294967296) / 4294967296 < 18446744073709551616 := by omega
  have bh : x / 4294967296 * (y / 4294967296) + (x / 4294967296 * (y % 4294967296) + x % 4294967296 * (y % 4294967296) / 4294967296) / 4294967296 + ((x / 4294967296 * (y % 4294967296) + x % 4294967296 * (y % 4294967296) / 4294967296) % 4294967296 + x % 4294967296 * (y / 4294967296)) / 4294967296 < 18446744073709551616 := by omega
  go_enter Try.func47, Try.ntmps47
  go_wp2
  simp only [Mul64.maskN x hx, Mul64.maskN y hy, Mul64.divN, Mul64.mulN, Mul64.addN, Mul64.wrapN _ bd, Mul64.wrapN _ bb', Mul64.wrapN _ bt, Mul64.maskN _ bt, Mul64.wrapN _ bc', Mul64.wrapN _ bw, Mul64.wrapN _ ba', Mul64.wrapN _ bh1, Mul64.wrapN _ bh, Mul64.wrapM (x * y)]
  rw [hhi]
  go_ret2
  exact ⟨rfl, rfl⟩

/-- Div64 by the prime, whatever the high part below 2^60. -/
theorem div_q (hi lo : Int) (h0 : 0 ≤ hi) (h1 : hi < 1152921504606846976) (l0 : 0 ≤ lo) (l1 : lo ≤ 18446744073709551615) (w : World) :
    Calls Try.prog 48 #[.int .u64 hi, .int .u64 lo, .int .u64 4611686018427377339] w fun e w' =>
      ∃ q n, e = .returned (.tuple #[.int .u64 q, .int .u64 ((hi * 18446744073709551616 + lo) % 4611686018427377339)]) ∧ w' = w.drewN n := by
  by_cases hz : hi = 0
  · subst hz
    rw [show ((0 : Int) * 18446744073709551616 + lo) = lo from by omega]
    go_enter Try.func48, Try.ntmps48
    go_wp2
    go_quiet (fail)
    go_wp2
    go_ret2
    exact ⟨_, _, rfl, rfl⟩
  · exact (div_p hi lo h0 h1 (by simpa using hz) l0 l1 w).mono fun e w' ⟨⟨q, he⟩, hw⟩ => ⟨q, 0, he, hw.symm⟩

theorem mul_fin (a b : Int) (x y : Nat) (hx : a % 4611686018427377339 = (x : Int)) (hy : b % 4611686018427377339 = (y : Int)) :
    (((x * y / 18446744073709551616 : Nat) : Int) * 18446744073709551616 + ((x * y % 18446744073709551616 : Nat) : Int)) % 4611686018427377339 = a * b % 4611686018427377339 := by
  have h : ((x * y / 18446744073709551616 : Nat) : Int) * 18446744073709551616 + ((x * y % 18446744073709551616 : Nat) : Int) = ((x * y : Nat) : Int) := by omega
  rw [h, Int.natCast_mul, ← hx, ← hy, ← Int.mul_emod]

theorem group_mul (a b : Int) (a0 : 0 ≤ a) (a1 : a ≤ 18446744073709551615) (b0 : 0 ≤ b) (b1 : b ≤ 18446744073709551615) (w : World) :
    Calls Try.prog 19 #[.int .u64 a, .int .u64 b] w fun e w' => e = .returned (.int .u64 (a * b % 4611686018427377339)) ∧ ∃ n, w' = w.drewN n := by
  obtain ⟨x, hx⟩ : ∃ x : Nat, a % 4611686018427377339 = (x : Int) := Int.eq_ofNat_of_zero_le (by omega)
  obtain ⟨y, hy⟩ : ∃ y : Nat, b % 4611686018427377339 = (y : Int) := Int.eq_ofNat_of_zero_le (by omega)
  go_enter Try.func19, Try.ntmps19
  go_wp2_with (go_at_call 47; refine (mul64 x y (by omega) (by omega) _).mono ?_; rintro e w' ⟨rfl, rfl⟩)
  have hb := Nat.mul_le_mul (show x ≤ 4611686018427377338 by omega) (show y ≤ 4611686018427377338 by omega)
  refine (div_q _ _ (by omega) (by omega) (by omega) (by omega) _).mono ?_
  rintro e w' ⟨q, n, rfl, rfl⟩
  go_wp2
  go_ret
  exact ⟨congrArg (fun z => Ending.returned (Value.int .u64 z)) (mul_fin a b x y hx hy), n, rfl⟩

/-- One round of doubling and adding. -/
theorem dbl_step (out a B T : Int) (k : Nat) (h : (out + a * (B / 2 ^ k)) % 4611686018427377339 = T) :
    ((out + a * (B / 2 ^ k % 2)) % 4611686018427377339 + 2 * a % 4611686018427377339 * (B / 2 ^ (k + 1))) % 4611686018427377339 = T := by
  rw [← h]
  have e : B / 2 ^ k = 2 * (B / 2 ^ (k + 1)) + B / 2 ^ k % 2 := by
    rw [Int.pow_succ, ← Int.ediv_ediv_of_nonneg (by exact Int.le_of_lt (Int.pow_pos (by decide)))]
    omega
  have f : out + a * (B / 2 ^ k) = (out + a * (B / 2 ^ k % 2)) + 2 * a * (B / 2 ^ (k + 1)) := by
    conv => lhs; rw [e]
    rw [Int.mul_add, ← Int.mul_assoc, Int.mul_comm a 2]
    omega
  rw [f, Int.add_emod, Int.mul_emod]
  conv => rhs; rw [Int.add_emod, Int.mul_emod]
  simp [Int.emod_emod_of_dvd]

theorem and_one (x : Int) (h0 : 0 ≤ x) (h1 : x ≤ 18446744073709551615) : bits .and .u64 x 1 = x % 2 := by
  rw [u64_and _ _ (by omega) (by omega) (by omega) (by omega)]
  have : ((1 : Int).toNat) = 2 ^ 1 - 1 := by decide
  rw [this, Nat.and_two_pow_sub_one_eq_mod]
  omega

set_option maxHeartbeats 1000000 in
theorem ref_mul (a b : Int) (a0 : 0 ≤ a) (a1 : a ≤ 18446744073709551615) (b0 : 0 ≤ b) (b1 : b ≤ 18446744073709551615) (w : World) :
    Calls Try.prog 20 #[.int .u64 a, .int .u64 b] w fun e w' => e = .returned (.int .u64 (a * b % 4611686018427377339)) ∧ w = w' := by
  obtain ⟨B, hB⟩ : ∃ B, b % 4611686018427377339 = B := ⟨_, rfl⟩
  obtain ⟨A, hA⟩ : ∃ A, a % 4611686018427377339 = A := ⟨_, rfl⟩
  have B0 : 0 ≤ B := by omega
  have B1 : B < 4611686018427377339 := by omega
  have A0 : 0 ≤ A := by omega
  have A1 : A < 4611686018427377339 := by omega
  have fin : Hid (A * B % 4611686018427377339 = a * b % 4611686018427377339) := by rw [← hA, ← hB, ← Int.mul_emod]; rfl
  go_enter Try.func20, Try.ntmps20
  go_wp2
  go_loop [0, 5, 6] (fun x o i => ∃ (k : Nat) (u v : Int), k ≤ 62 ∧ i = .int .i64 k ∧ x = .int .u64 u ∧ o = .int .u64 v ∧ 0 ≤ u ∧ u < 4611686018427377339 ∧ 0 ≤ v ∧ v < 4611686018427377339 ∧ Hid ((v + u * (B / 2 ^ k)) % 4611686018427377339 = A * B % 4611686018427377339)) (fun _ _ i => 62 - (intOf i).toNat)
  case atStart => exact ⟨0, A, 0, by omega, rfl, by rw [hA], rfl, A0, A1, by omega, by omega, by unfold Hid; simp⟩
  case round =>
    obtain ⟨k, u, v, hk, rfl, rfl, rfl, u0, u1, v0, v1, hr⟩ := hrel
    have C0 : 0 ≤ B / 2 ^ k := Int.ediv_nonneg B0 (Int.le_of_lt (Int.pow_pos (by decide)))
    have C1 : B / 2 ^ k ≤ B := Int.ediv_le_self _ B0
    have hbit := hd (and_one (B / 2 ^ k) C0 (by omega))
    have hst := hd (dbl_step v u B _ k hr.out)
    by_cases hlt : k < 62
    · go_wp2
      · have ht : (bits BinOp.and IntKind.u64 (B / 2 ^ k) 1 == 1) = true := by assumption
        rw [hbit.out, beq_iff_eq] at ht
        go_round
        case rel => exact ⟨k + 1, _, _, by omega, by go_num, rfl, rfl, by omega, by omega, by omega, by omega, by have := hst.out; rw [ht, Int.mul_one] at this; exact this⟩
        case measure => simp [intOf]; omega
      · have ht : (bits BinOp.and IntKind.u64 (B / 2 ^ k) 1 == 1) = false := by assumption
        rw [hbit.out, beq_eq_false_iff_ne] at ht
        go_round
        case rel => exact ⟨k + 1, _, _, by omega, by go_num, rfl, rfl, by omega, by omega, v0, v1, by
          have := hst.out
          rw [show B / 2 ^ k % 2 = 0 from by omega, Int.mul_zero, Int.add_zero, Int.emod_eq_of_lt v0 v1] at this
          exact this⟩
        case measure => simp [intOf]; omega
    · obtain rfl : k = 62 := by omega
      have hz : B / 2 ^ 62 = 0 := Int.ediv_eq_zero_of_lt B0 (by omega)
      have hv : Hid (v = a * b % 4611686018427377339) := by
        have h1 := hr.out
        rw [hz, Int.mul_zero, Int.add_zero, fin.out, Int.emod_eq_of_lt v0 v1] at h1
        exact h1
      clear hz
      go_wp2
      go_ret
      exact ⟨by rw [hv.out]; rfl, rfl⟩
end Go.Proofs.Ytlamdneheilahaa
