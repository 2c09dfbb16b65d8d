/- Numbers of the machine and of Lean. -/
import Derived.Test.YtehbbcdhahnkgaaGreatGm
set_option linter.unusedVariables false
set_option linter.unusedSimpArgs false
namespace Go.Proofs.YtehbbcdhahnkgaaGreat
open Go

section
variable (w : Nat) (a b : BitVec w)
theorem bv_lt : (a.toNat : Int) < 2 ^ w := by have := a.isLt; exact_mod_cast this
theorem bv_self : (a.toNat : Int) % 2 ^ w = a.toNat := Int.emod_eq_of_lt (Int.natCast_nonneg _) (bv_lt w a)
theorem bv_add : ((a.toNat : Int) + b.toNat) % 2 ^ w = ((a + b).toNat : Int) := by rw [BitVec.toNat_add]; push_cast; rfl
theorem bv_sub : ((a.toNat : Int) - b.toNat) % 2 ^ w = ((a - b).toNat : Int) := by
 rw [BitVec.toNat_sub]
 have h := b.isLt
 push_cast [Nat.le_of_lt h]
 rw [show (2 : Int) ^ w - b.toNat + a.toNat = ((a.toNat : Int) - b.toNat) + 2 ^ w by omega, Int.add_emod_right]
theorem bv_mul : ((a.toNat : Int) * b.toNat) % 2 ^ w = ((a * b).toNat : Int) := by rw [BitVec.toNat_mul]; push_cast; rfl
theorem bv_div : ((a.toNat : Int).tdiv b.toNat) % 2 ^ w = ((a / b).toNat : Int) := by
 have e : (a.toNat : Int).tdiv b.toNat = ((a / b).toNat : Int) := by rw [BitVec.toNat_udiv]; exact (Int.ofNat_tdiv _ _).symm
 rw [e, bv_self]
theorem bv_mod : ((a.toNat : Int).tmod b.toNat) = ((a % b).toNat : Int) := by rw [BitVec.toNat_umod]; exact (Int.ofNat_tmod _ _).symm
theorem bv_of : BitVec.ofInt w (a.toNat : Int) = a := by rw [BitVec.ofInt_natCast, BitVec.ofNat_toNat, BitVec.setWidth_eq]
theorem bv_shl (n : Nat) : ((a.toNat : Int) * 2 ^ min n w) % 2 ^ w = ((a <<< n).toNat : Int) := by
 rw [BitVec.toNat_shiftLeft, Nat.shiftLeft_eq]
 rcases Nat.le_total n w with h | h
 ·rw [Nat.min_eq_left h]; push_cast; rfl
 ·rw [Nat.min_eq_right h]
  have h1 : (a.toNat * 2 ^ n) % 2 ^ w = 0 := by
   rw [show n = w + (n - w) by omega, Nat.pow_add, ← Nat.mul_assoc, Nat.mul_right_comm]; exact Nat.mul_mod_left _ _
  rw [h1]; exact Int.mul_emod_left _ _
theorem bv_shr (n : Nat) : (a.toNat : Int).fdiv (2 ^ min n w) = ((a >>> n).toNat : Int) := by
 rw [BitVec.toNat_ushiftRight, Nat.shiftRight_eq_div_pow]
 rcases Nat.le_total n w with h | h
 ·rw [Nat.min_eq_left h, Int.fdiv_eq_ediv_of_nonneg _ (by exact_mod_cast Nat.zero_le _)]; push_cast; rfl
 ·rw [Nat.min_eq_right h]
  have hl := a.isLt
  rw [Nat.div_eq_of_lt (Nat.lt_of_lt_of_le hl (Nat.pow_le_pow_right (by decide) h)), Int.fdiv_eq_ediv_of_nonneg _ (by exact_mod_cast Nat.zero_le _), Int.ediv_eq_zero_of_lt (Int.natCast_nonneg _) (bv_lt w a)]
  rfl
end
theorem wrap_u8 (n : Int) : IntKind.u8.wrap n = n % 2 ^ 8 := by simp [IntKind.wrap, IntKind.bits, IntKind.signed]
theorem wrap_u16 (n : Int) : IntKind.u16.wrap n = n % 2 ^ 16 := by simp [IntKind.wrap, IntKind.bits, IntKind.signed]
theorem wrap_u32 (n : Int) : IntKind.u32.wrap n = n % 2 ^ 32 := by simp [IntKind.wrap, IntKind.bits, IntKind.signed]
theorem wrap_u64 (n : Int) : IntKind.u64.wrap n = n % 2 ^ 64 := by simp [IntKind.wrap, IntKind.bits, IntKind.signed]
theorem w64_range (n : Int) : -9223372036854775808 ≤ w64 n ∧ w64 n ≤ 9223372036854775807 := by
 unfold w64 IntKind.wrap IntKind.bits IntKind.signed
 simp only [Bool.true_and]
 split <;> simp only [decide_eq_true_eq] at * <;> omega
theorem w64_id {n : Int} (h : -9223372036854775808 ≤ n) (h' : n ≤ 9223372036854775807) : w64 n = n := by
 unfold w64 IntKind.wrap IntKind.bits IntKind.signed
 simp only [Bool.true_and]
 split <;> simp only [decide_eq_true_eq] at * <;> omega
theorem shrI_range (a : Int) (n : Nat) (h : -9223372036854775808 ≤ a) (h' : a ≤ 9223372036854775807) : -9223372036854775808 ≤ shrI a n ∧ shrI a n ≤ 9223372036854775807 := by
 unfold shrI
 have hp : (1 : Int) ≤ 2 ^ min n 64 := by exact_mod_cast Nat.one_le_two_pow
 generalize (2 : Int) ^ min n 64 = p at hp
 rw [Int.fdiv_eq_ediv_of_nonneg _ (by omega)]
 constructor
 ·rw [Int.le_ediv_iff_mul_le (by omega)]; omega
 ·have : a / p < 9223372036854775808 := by rw [Int.ediv_lt_iff_lt_mul (by omega)]; omega
  omega
theorem tmod_range (a b : Int) (h : -9223372036854775808 ≤ a) (h' : a ≤ 9223372036854775807) : -9223372036854775808 ≤ a.tmod b ∧ a.tmod b ≤ 9223372036854775807 := by
 rcases Int.le_total 0 a with h0 | h0
 ·have h1 := Int.tmod_nonneg b h0
  have h2 : a.tmod b ≤ a := by
   have := Int.natAbs_tmod a b
   have := Nat.mod_le a.natAbs b.natAbs
   omega
  omega
 ·have := Int.natAbs_tmod a b
  have := Nat.mod_le a.natAbs b.natAbs
  have h3 : (-a).tmod b = -(a.tmod b) := Int.neg_tmod a b
  have h4 := Int.tmod_nonneg b (show 0 ≤ -a by omega)
  omega
end Go.Proofs.YtehbbcdhahnkgaaGreat
