/- Plain: numbers and their bytes. -/
import Derived.Test.YtgbkkfpheahdfaaLsQWords
set_option linter.unusedVariables false
set_option linter.unusedSimpArgs false
namespace Go.Proofs.Ytgbkkfpheahdfaa.Pl
open Go
def bnat (l : List UInt8) : Nat := l.foldl (fun v x => v * 256 + x.toNat) 0
theorem bnat_snoc (l : List UInt8) (x : UInt8) : bnat (l ++ [x]) = bnat l * 256 + x.toNat := by simp [bnat]
theorem snoc_cases {α : Type} {l : List α} {n : Nat} (h : l.length = n + 1) : ∃ l' x, l = l' ++ [x] ∧ l'.length = n :=
  ⟨l.dropLast, l.getLast (by intro e; subst e; simp at h), (List.dropLast_concat_getLast _).symm, by simp [h]⟩
theorem bnat_lt : ∀ {n : Nat} {l : List UInt8}, l.length = n → bnat l < 256 ^ n
  | 0, l, h => by obtain rfl := List.length_eq_zero_iff.1 h; simp [bnat]
  | n + 1, l, h => by
    obtain ⟨l', x, rfl, h'⟩ := snoc_cases h
    have := bnat_lt h'
    have hx := x.toNat_lt
    rw [bnat_snoc, Nat.pow_succ]; omega
theorem shl_or (v : UInt64) (x : UInt8) (h : v.toNat < 72057594037927936) : (shl64 v 8 ||| x.toUInt64).toNat = v.toNat * 256 + x.toNat := by
  have hx := x.toNat_lt
  rw [UInt64.toNat_or]
  have e : (shl64 v 8).toNat = v.toNat <<< 8 := by
    show (v.toBitVec <<< 8).toNat = _
    rw [BitVec.toNat_shiftLeft, UInt64.toNat_toBitVec, Nat.shiftLeft_eq]
    omega
  rw [e, UInt8.toNat_toUInt64, ← Nat.shiftLeft_add_eq_or_of_lt (b := x.toNat) (i := 8) (by omega), Nat.shiftLeft_eq]
theorem nbr_nat : ∀ {n : Nat} {l : List UInt8}, l.length = n → n ≤ 8 → (nbr l).toNat = bnat l
  | 0, l, h, _ => by obtain rfl := List.length_eq_zero_iff.1 h; rfl
  | n + 1, l, h, hn => by
    obtain ⟨l', x, rfl, h'⟩ := snoc_cases h
    have ih := nbr_nat h' (by omega)
    have hl := bnat_lt h'
    have hp : 256 ^ n ≤ 256 ^ 7 := Nat.pow_le_pow_right (by decide) (by omega)
    rw [nbr_snoc, shl_or _ _ (by rw [ih]; omega), bnat_snoc, ih]
theorem shr_nat (v : UInt64) (n : Nat) : (shr64 v n).toNat = v.toNat / 2 ^ n := by
  show (v.toBitVec >>> n).toNat = _
  rw [BitVec.toNat_ushiftRight, Nat.shiftRight_eq_div_pow]; rfl
theorem be_snoc (v : UInt64) : ∀ k : Nat, be v (k + 1) = be (shr64 v 8) k ++ [v.toUInt8]
  | 0 => by
    show [(shr64 v (8 * ((0 : Nat) : Int)).toNat).toUInt8] = [v.toUInt8]
    have : shr64 v (8 * ((0 : Nat) : Int)).toNat = v := UInt64.toNat_inj.1 (by rw [shr_nat]; simp)
    rw [this]
  | k + 1 => by
    rw [be, be_snoc v k, be, List.cons_append]
    congr 2
    apply UInt64.toNat_inj.1
    rw [shr_nat, shr_nat, shr_nat, Nat.div_div_eq_div_mul, ← Nat.pow_add, show (8 * ((k + 1 : Nat) : Int)).toNat = 8 + (8 * (k : Int)).toNat by omega]
theorem bnat_be : ∀ (k : Nat) (v : UInt64), bnat (be v k) = v.toNat % 256 ^ k
  | 0, v => by simp [be, bnat, Nat.mod_one]
  | k + 1, v => by
    have e : v.toNat % 256 ^ (k + 1) = v.toNat % 256 + 256 * (v.toNat / 256 % 256 ^ k) := by rw [Nat.pow_succ, Nat.mul_comm (256 ^ k) 256, Nat.mod_mul]
    rw [be_snoc, bnat_snoc, bnat_be k, shr_nat, UInt64.toNat_toUInt8, e]
    have e2 : (2 : Nat) ^ 8 = 256 := rfl
    rw [e2]
    omega
theorem nbr_be' {k : Nat} (hk : k ≤ 8) (v : UInt64) (hv : v.toNat < 256 ^ k) : nbr (be v k) = v := by
  apply UInt64.toNat_inj.1
  rw [nbr_nat (be_len v k) hk, bnat_be, Nat.mod_eq_of_lt hv]
theorem bnat_inj : ∀ {n : Nat} {l m : List UInt8}, l.length = n → m.length = n → bnat l = bnat m → l = m
  | 0, l, m, h, h', _ => by rw [List.length_eq_zero_iff.1 h, List.length_eq_zero_iff.1 h']
  | n + 1, l, m, h, h', e => by
    obtain ⟨l', x, rfl, hl⟩ := snoc_cases h
    obtain ⟨m', y, rfl, hm⟩ := snoc_cases h'
    rw [bnat_snoc, bnat_snoc] at e
    have hx := x.toNat_lt; have hy := y.toNat_lt
    rw [bnat_inj hl hm (by omega), UInt8.toNat_inj.1 (show x.toNat = y.toNat by omega)]
theorem be_nbr {k : Nat} (hk : k ≤ 8) {l : List UInt8} (h : l.length = k) : be (nbr l) k = l := by
  apply bnat_inj (be_len _ k) h
  have hl := bnat_lt h
  rw [bnat_be, nbr_nat h hk, Nat.mod_eq_of_lt hl]
theorem nbr_lt {k : Nat} (hk : k ≤ 8) {l : List UInt8} (h : l.length = k) : (nbr l).toNat < 256 ^ k := by
  rw [nbr_nat h hk]; exact bnat_lt h
theorem u32_64 (v : UInt64) (h : v.toNat < 4294967296) : v.toUInt32.toUInt64 = v := by
  apply UInt64.toNat_inj.1
  rw [UInt32.toNat_toUInt64, UInt64.toNat_toUInt32]; omega
end Go.Proofs.Ytgbkkfpheahdfaa.Pl
