/- Plain: what is carried when two numbers are added byte for byte. -/
import Derived.Test.YtlamdneheilahaaDoorAeQPolyBytes
set_option linter.unusedVariables false
set_option linter.unusedSimpArgs false
namespace Go.Proofs.YtlamdneheilahaaDoor.Pl
open Go Poly
theorem shrI8 (x : Int) : shrI x 8 = x / 256 := by
  show x.fdiv 256 = _
  exact Int.fdiv_eq_ediv_of_nonneg x (by decide)
/-- What is carried into a byte. -/
def cc (A S : Nat) : Nat → Nat
  | 0 => 0
  | i + 1 => (A % 256 ^ (i + 1) + S % 256 ^ (i + 1)) / 256 ^ (i + 1)
theorem cc_eq (A S i : Nat) : cc A S i = (A % 256 ^ i + S % 256 ^ i) / 256 ^ i := by
  cases i with
  | zero => simp [cc, Nat.mod_one]
  | succ i => rfl
/-- The sum of two numbers byte for byte. -/
theorem carry_step (A S k : Nat) : (A / 256 ^ k % 256 + S / 256 ^ k % 256 + (A % 256 ^ k + S % 256 ^ k) / 256 ^ k) % 256 = (A + S) / 256 ^ k % 256 ∧
    (A / 256 ^ k % 256 + S / 256 ^ k % 256 + (A % 256 ^ k + S % 256 ^ k) / 256 ^ k) / 256 = (A % 256 ^ (k + 1) + S % 256 ^ (k + 1)) / 256 ^ (k + 1) := by
  have hp : 0 < 256 ^ k := Nat.pow_pos (by decide)
  have hA := Nat.div_add_mod A (256 ^ k)
  have hS := Nat.div_add_mod S (256 ^ k)
  have e1 : (A + S) / 256 ^ k = A / 256 ^ k + S / 256 ^ k + (A % 256 ^ k + S % 256 ^ k) / 256 ^ k := by
    conv => lhs; rw [← hA, ← hS, show 256 ^ k * (A / 256 ^ k) + A % 256 ^ k + (256 ^ k * (S / 256 ^ k) + S % 256 ^ k) = (A % 256 ^ k + S % 256 ^ k) + 256 ^ k * (A / 256 ^ k + S / 256 ^ k) by rw [Nat.mul_add]; omega]
    rw [Nat.add_mul_div_left _ _ hp]; omega
  have m1 : ∀ X : Nat, X % 256 ^ (k + 1) = X % 256 ^ k + 256 ^ k * (X / 256 ^ k % 256) := fun X => by rw [Nat.pow_succ, Nat.mod_mul]
  refine ⟨by rw [e1]; omega, ?_⟩
  rw [m1, m1, Nat.pow_succ, ← Nat.div_div_eq_div_mul, show A % 256 ^ k + 256 ^ k * (A / 256 ^ k % 256) + (S % 256 ^ k + 256 ^ k * (S / 256 ^ k % 256)) = (A % 256 ^ k + S % 256 ^ k) + 256 ^ k * (A / 256 ^ k % 256 + S / 256 ^ k % 256) by rw [Nat.mul_add]; omega, Nat.add_mul_div_left _ _ hp]
  congr 1
  omega
theorem carry_bd (A S k : Nat) : (A % 256 ^ k + S % 256 ^ k) / 256 ^ k ≤ 1 := by
  have hp : 0 < 256 ^ k := Nat.pow_pos (by decide)
  have h1 := Nat.mod_lt A hp; have h2 := Nat.mod_lt S hp
  have : (A % 256 ^ k + S % 256 ^ k) / 256 ^ k < 2 := (Nat.div_lt_iff_lt_mul hp).2 (by omega)
  omega
theorem iu8_nat (n : Nat) : iu8 (n : Int) = UInt8.ofNat n := by
  apply UInt8.toNat_inj.1
  show (BitVec.ofInt 8 (n : Int)).toNat = _
  rw [BitVec.ofInt_natCast, BitVec.toNat_ofNat, UInt8.toNat_ofNat']
theorem byte_eq {n : Nat} {u : UInt8} (h : n % 256 = u.toNat) : iu8 (n : Int) = u := by
  rw [iu8_nat]; apply UInt8.toNat_inj.1; rw [UInt8.toNat_ofNat']; exact h
end Go.Proofs.YtlamdneheilahaaDoor.Pl
