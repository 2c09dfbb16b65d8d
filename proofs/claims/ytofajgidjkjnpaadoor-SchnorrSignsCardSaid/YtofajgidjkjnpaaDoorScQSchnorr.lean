/- Plain: signatures (schnorr and the document's, ref13, ref15): what both compute. -/
import Derived.Test.YtofajgidjkjnpaaDoorScQDivQ
import Derived.Test.YtofajgidjkjnpaaDoorScQPrf
import Derived.Test.YtofajgidjkjnpaaDoorScQBe
import Derived.Test.YtofajgidjkjnpaaDoorScQLoops
import Derived.Test.YtofajgidjkjnpaaDoorFnsSchnorrSignsA
import Derived.Test.YtofajgidjkjnpaaDoorFnsSchnorrSignsB
set_option linter.unusedVariables false
set_option linter.unusedSimpArgs false
namespace Go.Proofs.YtofajgidjkjnpaaDoor.Pl
open Go
def pm (a b : UInt64) : UInt64 := UInt64.ofNat (a.toNat * b.toNat % 4611686018427377339)
def pw (a e : UInt64) : UInt64 := UInt64.ofNat (a.toNat ^ e.toNat % 4611686018427377339)
theorem ofN {n : Nat} (h : n < 18446744073709551616) : (UInt64.ofNat n).toNat = n := by
  rw [UInt64.toNat_ofNat']; exact Nat.mod_eq_of_lt h
theorem ofN_p (n : Nat) : (UInt64.ofNat (n % 4611686018427377339)).toNat = n % 4611686018427377339 := ofN (by have := Nat.mod_lt n (show 0 < 4611686018427377339 by decide); omega)
theorem pm_nat (a b : UInt64) : (pm a b).toNat = a.toNat * b.toNat % 4611686018427377339 := ofN_p _
theorem pw_nat (a e : UInt64) : (pw a e).toNat = a.toNat ^ e.toNat % 4611686018427377339 := ofN_p _
section
variable (N : Nat) (hN : 4611686018427387904 ≤ N)
include hN
theorem gmul_p (a b : UInt64) : group_Mul N a b = some ((pm a b, ()), ()) := by
  obtain ⟨r, e, h⟩ := gmul_ok N hN a b
  rw [e, show r = pm a b from UInt64.toNat_inj.1 (by rw [h, pm_nat])]
theorem gpow_p (a e : UInt64) : group_Power N a e = some ((pw a e, ()), ()) := by
  obtain ⟨r, e', h⟩ := gpow_ok N hN a e
  rw [e', show r = pw a e from UInt64.toNat_inj.1 (by rw [h, pw_nat])]
omit hN in
theorem iu64N {k : Nat} (h : k < 18446744073709551616) : (iu64 (k : Int)).toNat = k := by
  show (BitVec.ofInt 64 (k : Int)).toNat = _
  rw [BitVec.toNat_ofInt]; omega
theorem rmul_p (a b : UInt64) : ref13_Mul N a b = some ((pm a b, ()), ()) := by
  have hp : (4611686018427377339 : UInt64).toNat = 4611686018427377339 := rfl
  unfold ref13_Mul ref13_Mul_1
  have hA0 : (a % 4611686018427377339).toNat = a.toNat % 4611686018427377339 := by rw [UInt64.toNat_mod, hp]
  have hB0 : (b % 4611686018427377339).toNat = b.toNat % 4611686018427377339 := by rw [UInt64.toNat_mod, hp]
  have hBl : (b % 4611686018427377339).toNat < 4611686018427387904 := by rw [hB0]; omega
  generalize hb' : b % 4611686018427377339 = B at *
  have := loopK_run (step := fun y => ref13_Mul_s2 N y.1.1 y.1.2.1 y.1.2.2.1 y.1.2.2.2.1) (J := fun (e : ((UInt64 × Unit) × (Unit))) => ref13_Mul_3 N e.1.1)
    (fun i : Nat => ((UInt64.ofNat (2 ^ i * (a.toNat % 4611686018427377339) % 4611686018427377339), B, UInt64.ofNat ((a.toNat % 4611686018427377339) * (B.toNat % 2 ^ i) % 4611686018427377339), (i : Int), ()), ())) (n := 62) (e := ((pm a b, ()), ())) ?_ ?_ (show 62 < N by omega)
  · have e0 : UInt64.ofNat (2 ^ 0 * (a.toNat % 4611686018427377339) % 4611686018427377339) = a % 4611686018427377339 := UInt64.toNat_inj.1 (by rw [ofN_p, hA0]; omega)
    have e1 : UInt64.ofNat ((a.toNat % 4611686018427377339) * (B.toNat % 2 ^ 0) % 4611686018427377339) = 0 := by rw [Nat.pow_zero, Nat.mod_one, Nat.mul_zero]; rfl
    rw [e0, e1] at this
    exact this
  · intro i hi
    show ref13_Mul_s2 N (UInt64.ofNat (2 ^ i * (a.toNat % 4611686018427377339) % 4611686018427377339)) B (UInt64.ofNat ((a.toNat % 4611686018427377339) * (B.toNat % 2 ^ i) % 4611686018427377339)) (i : Int) = _
    unfold ref13_Mul_s2
    have hA := ofN_p (2 ^ i * (a.toNat % 4611686018427377339))
    have hO := ofN_p ((a.toNat % 4611686018427377339) * (B.toNat % 2 ^ i))
    generalize hAA : UInt64.ofNat (2 ^ i * (a.toNat % 4611686018427377339) % 4611686018427377339) = A at *
    generalize hOO : UInt64.ofNat ((a.toNat % 4611686018427377339) * (B.toNat % 2 ^ i) % 4611686018427377339) = O at *
    have hAl := Nat.mod_lt (2 ^ i * (a.toNat % 4611686018427377339)) (show 0 < 4611686018427377339 by decide)
    have hOl := Nat.mod_lt ((a.toNat % 4611686018427377339) * (B.toNat % 2 ^ i)) (show 0 < 4611686018427377339 by decide)
    have h2A : (2 * A % 4611686018427377339 : UInt64) = UInt64.ofNat (2 ^ (i + 1) * (a.toNat % 4611686018427377339) % 4611686018427377339) := by
      apply UInt64.toNat_inj.1
      rw [ofN_p, UInt64.toNat_mod, hp, u64mul (by show 2 * A.toNat < _; omega)]
      show 2 * A.toNat % _ = _
      rw [hA, Nat.mul_mod_mod, Nat.pow_succ, ← Nat.mul_assoc, Nat.mul_comm 2]
    have hbit : (shr64 B (iu64 (i : Int)).toNat &&& 1).toNat = B.toNat / 2 ^ i % 2 := by
      rw [UInt64.toNat_and, u64shr, iu64N (by omega)]
      exact Nat.and_two_pow_sub_one_eq_mod _ 1
    have hs : B.toNat % 2 ^ (i + 1) = B.toNat % 2 ^ i + 2 ^ i * (B.toNat / 2 ^ i % 2) := Nat.mod_pow_succ
    rw [dpos (show ((i : Nat) : Int) < 62 by omega), h2A, w64_of (by omega) (by omega)]
    by_cases hb : shr64 B (iu64 (i : Int)).toNat &&& 1 = 1
    · have h1 : B.toNat / 2 ^ i % 2 = 1 := by rw [← hbit, hb]; rfl
      rw [dpos hb]
      have hOA : (O + A) % 4611686018427377339 = UInt64.ofNat ((a.toNat % 4611686018427377339) * (B.toNat % 2 ^ (i + 1)) % 4611686018427377339) := by
        apply UInt64.toNat_inj.1
        rw [ofN_p, UInt64.toNat_mod, hp, u64add (by omega), hO, hA, ← Nat.add_mod, hs, h1, Nat.mul_one, Nat.mul_add, Nat.mul_comm (2 ^ i)]
      rw [hOA]
      rfl
    · have h0 : B.toNat / 2 ^ i % 2 = 0 := by
        rcases (by omega : B.toNat / 2 ^ i % 2 = 0 ∨ B.toNat / 2 ^ i % 2 = 1) with h | h
        · exact h
        · exact absurd (UInt64.toNat_inj.1 (by rw [hbit, h]; rfl)) hb
      rw [dneg hb, hs, h0, Nat.mul_zero, Nat.add_zero, ← hOO]
      rfl
  · show ref13_Mul_s2 N _ _ _ _ = _
    unfold ref13_Mul_s2
    have e : UInt64.ofNat ((a.toNat % 4611686018427377339) * (B.toNat % 2 ^ 62) % 4611686018427377339) = pm a b := by
      apply UInt64.toNat_inj.1
      rw [ofN_p, pm_nat, Nat.mod_eq_of_lt (show B.toNat < 2 ^ 62 from hBl), hB0, ← Nat.mul_mod]
    rw [e]
    rfl
theorem rmul_ok (a b : UInt64) : ∃ r, ref13_Mul N a b = some ((r, ()), ()) ∧ r.toNat = a.toNat * b.toNat % 4611686018427377339 := ⟨_, rmul_p N hN a b, pm_nat a b⟩
theorem rpow_ok (a e : UInt64) : ∃ r, ref13_Power N a e = some ((r, ()), ()) ∧ r.toNat = a.toNat ^ e.toNat % 4611686018427377339 := by
  unfold ref13_Power ref13_Power_1
  have := loopK_of (N := N) (step := fun y => ref13_Power_s2 N y.1.1 y.1.2.1 y.1.2.2.1) (J := fun (e : ((UInt64 × Unit) × (Unit))) => ref13_Power_3 N e.1.1)
    (I := fun y => y.1.2.2.1.toNat * y.1.1.toNat ^ y.1.2.1.toNat % 4611686018427377339 = (a % 4611686018427377339).toNat ^ e.toNat % 4611686018427377339 ∧ y.1.2.2.1.toNat < 4611686018427377339 ∧ y.1.2.1.toNat < 2 ^ 64 ) (μ := fun y => y.1.2.1.toNat.log2 + (if y.1.2.1.toNat = 0 then 0 else 1)) (T := fun r => ∃ v, r = ((v, ()), ()) ∧ v.toNat = (a % 4611686018427377339).toNat ^ e.toNat % 4611686018427377339) ?_
    (x := ((a % 4611686018427377339, e, 1, ()), ())) ⟨by show 1 * _ % _ = _; rw [Nat.one_mul], by show (1 : UInt64).toNat < _; decide, e.toNat_lt⟩ (by
      simp only
      have : e.toNat.log2 < 64 := by
        by_cases h : e.toNat = 0
        · rw [h]; decide
        · exact (Nat.log2_lt h).2 e.toNat_lt
      split <;> omega)
  · obtain ⟨r, h1, v, rfl, h2⟩ := this
    exact ⟨v, h1, by rw [h2, UInt64.toNat_mod]; exact (Nat.pow_mod _ _ _).symm⟩
  · rintro ⟨⟨x, k, r, _⟩, _⟩ ⟨h1, h2, h3⟩
    simp only at h1 h2 h3
    show ∃ o, ref13_Power_s2 N x k r = some o ∧ _
    unfold ref13_Power_s2
    have z : (0 : UInt64).toNat = 0 := rfl
    have o1 : (1 : UInt64).toNat = 1 := rfl
    by_cases hk : (0 : UInt64) < k
    · have hk' : 0 < k.toNat := by rw [UInt64.lt_iff_toNat_lt, z] at hk; exact hk
      obtain ⟨x2, ex, hx2⟩ := rmul_ok N hN x x
      obtain ⟨rx, er, hrx⟩ := rmul_ok N hN r x
      have hs : (shr64 k 1).toNat = k.toNat / 2 := u64shr k 1
      have hbit : (k &&& 1).toNat = k.toNat % 2 := by rw [UInt64.toNat_and, o1]; exact Nat.and_two_pow_sub_one_eq_mod _ 1
      have hmeas : (shr64 k 1).toNat.log2 + (if (shr64 k 1).toNat = 0 then 0 else 1) < k.toNat.log2 + (if k.toNat = 0 then 0 else 1) := by
        rw [hs, if_neg (show ¬ k.toNat = 0 by omega)]
        by_cases h : k.toNat / 2 = 0
        · rw [h, if_pos rfl]; simp
        · rw [if_neg h]
          have : k.toNat.log2 = (k.toNat / 2).log2 + 1 := by
            rw [Nat.log2_def k.toNat, if_pos (by omega)]
          omega
      have hpow : ∀ q : Nat, x2.toNat ^ q % 4611686018427377339 = x.toNat ^ (2 * q) % 4611686018427377339 := by
        intro q
        rw [hx2, ← Nat.pow_mod, Nat.pow_mul, Nat.pow_two]
      by_cases hb : k &&& 1 = 1
      · have hodd : k.toNat % 2 = 1 := by rw [← hbit, hb]; rfl
        simp only [dpos hk, dpos hb, cond_true, er, ex, Option.bind_some]
        refine ⟨_, rfl, ⟨?_, by simp only [hrx]; exact Nat.mod_lt _ (by decide), by simp only [hs]; omega⟩, by simpa only using hmeas⟩
        simp only
        rw [← h1, hs, Nat.mul_mod, hpow, hrx, Nat.mod_mod, ← Nat.mul_mod, Nat.mul_assoc, ← Nat.pow_succ', show (2 * (k.toNat / 2)).succ = k.toNat by omega]
      · have heven : k.toNat % 2 = 0 := by
          rcases (by omega : k.toNat % 2 = 0 ∨ k.toNat % 2 = 1) with h | h
          · exact h
          · exact absurd (UInt64.toNat_inj.1 (by rw [hbit, h]; rfl)) hb
        simp only [dpos hk, dneg hb, cond_true, cond_false, ex, Option.bind_some]
        refine ⟨_, rfl, ⟨?_, h2, by simp only [hs]; omega⟩, by simpa only using hmeas⟩
        simp only
        rw [← h1, hs, Nat.mul_mod, hpow, ← Nat.mul_mod, show 2 * (k.toNat / 2) = k.toNat by omega]
    · have hk' : k.toNat = 0 := by
        have : ¬ 0 < k.toNat := fun h => hk (by rw [UInt64.lt_iff_toNat_lt, z]; exact h)
        omega
      simp only [dneg hk, cond_false]
      refine ⟨_, rfl, _, rfl, r, rfl, ?_⟩
      rw [hk', Nat.pow_zero, Nat.mul_one, Nat.mod_eq_of_lt h2] at h1
      exact h1
theorem rpow_p (a e : UInt64) : ref13_Power N a e = some ((pw a e, ()), ()) := by
  obtain ⟨r, e', h⟩ := rpow_ok N hN a e
  rw [e', show r = pw a e from UInt64.toNat_inj.1 (by rw [h, pw_nat])]
def vsec (s : UInt64) : Bool := decide (1 ≤ s) && decide (s < 2305843009213688669)
omit hN in
theorem valid_p (s : UInt64) : group_valid N s = some ((vsec s, ()), ()) := by
  unfold group_valid vsec
  cases decide ((1 : UInt64) ≤ s) <;> rfl
omit hN in
theorem rvalid_p (s : UInt64) : ref13_Secret N s = some ((vsec s, ()), ()) := by
  unfold ref13_Secret vsec
  cases decide ((1 : UInt64) ≤ s) <;> rfl
def pub (s : UInt64) : UInt64 × Int := if vsec s = true then (pw 4 s, 0) else (0, 13)
omit hN in
theorem pub_t {s : UInt64} (h : vsec s = true) : pub s = (pw 4 s, 0) := if_pos h
omit hN in
theorem pub_f {s : UInt64} (h : vsec s = false) : pub s = (0, 13) := if_neg (by rw [h]; decide)
theorem public_p (s : UInt64) : group_Public N s = some (((pub s).1, (pub s).2, ()), ()) := by
  unfold group_Public
  rw [valid_p]
  simp only [Option.bind_some]
  cases hv : vsec s
  · rw [pub_f hv]; simp only [Bool.not_false, cond_true]
  · rw [pub_t hv]
    simp only [Bool.not_true, cond_false]
    rw [gpow_p N hN]
    generalize pw 4 s = w
    rfl
theorem rpublic_p (s : UInt64) : ref13_Public N s = some (((pub s).1, (pub s).2, ()), ()) := by
  unfold ref13_Public
  rw [rvalid_p]
  simp only [Option.bind_some]
  cases hv : vsec s
  · rw [pub_f hv]; simp only [Bool.not_false, cond_true]
  · rw [pub_t hv]
    simp only [Bool.not_true, cond_false]
    rw [rpow_p N hN]
    generalize pw 4 s = w
    rfl
def elmw (w a : UInt64) : Bool := decide (2 ≤ a) && (decide (a < 4611686018427377339) && decide (w = 1))
def elm (a : UInt64) : Bool := elmw (pw a 2305843009213688669) a
omit hN in
theorem element_q (a w : UInt64) (h : group_Power N a 2305843009213688669 = some ((w, ()), ())) : group_Element N a = some ((elmw w a, ()), ()) := by
  unfold group_Element elmw
  rw [h]
  simp only [Option.bind_some]
  generalize decide (w = 1) = z
  generalize decide (a < 4611686018427377339) = y
  generalize decide (2 ≤ a) = x
  cases x
  · rfl
  · cases y <;> rfl
omit hN in
theorem relement_q (a w : UInt64) (h : ref13_Power N a 2305843009213688669 = some ((w, ()), ())) : ref13_Element N a = some ((elmw w a, ()), ()) := by
  unfold ref13_Element elmw
  rw [h]
  simp only [Option.bind_some]
  generalize decide (w = 1) = z
  generalize decide (a < 4611686018427377339) = y
  generalize decide (2 ≤ a) = x
  cases x
  · rfl
  · cases y <;> rfl
theorem element_p (a : UInt64) : group_Element N a = some ((elm a, ()), ()) := element_q N a _ (gpow_p N hN a _)
theorem relement_p (a : UInt64) : ref13_Element N a = some ((elm a, ()), ()) := relement_q N a _ (rpow_p N hN a _)
def qm (b c : UInt64) : UInt64 := UInt64.ofNat (b.toNat * c.toNat % 2305843009213688669)
omit hN in
theorem ofN_q (n : Nat) : (UInt64.ofNat (n % 2305843009213688669)).toNat = n % 2305843009213688669 := ofN (by have := Nat.mod_lt n (show 0 < 2305843009213688669 by decide); omega)
omit hN in
theorem qm_nat (a b : UInt64) : (qm a b).toNat = a.toNat * b.toNat % 2305843009213688669 := ofN_q _
theorem sum_p (a : UInt64) {b c : UInt64} (hb : b.toNat < 2305843009213688669) (hc : c.toNat < 2305843009213688669) : schnorr_sum N a b c = some (((a % 2305843009213688669 + qm b c) % 2305843009213688669, ()), ()) := by
  obtain ⟨h, l, e1, h1, h2⟩ := mul64_ok N b c
  have hbc := Nat.mul_le_mul (show b.toNat ≤ 2305843009213688668 by omega) (show c.toNat ≤ 2305843009213688668 by omega)
  obtain ⟨r, e2, h3⟩ := div64_okq N hN (hi := h) (lo := l) (by rw [h1]; omega)
  unfold schnorr_sum
  rw [e1, Option.bind_some]
  simp only [e2, Option.bind_some]
  rw [show r.1.2.1 = qm b c from UInt64.toNat_inj.1 (by rw [h3, h1, h2, qm_nat, Nat.div_add_mod'])]
theorem mulq_p {a b : UInt64} (ha : a.toNat < 2305843009213688669) (hb : b.toNat < 2305843009213688669) : ref15_mulq N a b = some ((qm a b, ()), ()) := by
  have hq : (2305843009213688669 : UInt64).toNat = 2305843009213688669 := rfl
  have z : (0 : UInt64).toNat = 0 := rfl
  have o1 : (1 : UInt64).toNat = 1 := rfl
  unfold ref15_mulq ref15_mulq_1
  have ea : a % 2305843009213688669 = a := UInt64.toNat_inj.1 (by rw [UInt64.toNat_mod, hq, Nat.mod_eq_of_lt ha])
  have eb : b % 2305843009213688669 = b := UInt64.toNat_inj.1 (by rw [UInt64.toNat_mod, hq, Nat.mod_eq_of_lt hb])
  rw [ea, eb]
  have := loopK_of (N := N) (step := fun y => ref15_mulq_s2 N y.1.1 y.1.2.1 y.1.2.2.1) (J := fun (e : ((UInt64 × Unit) × (Unit))) => ref15_mulq_3 N e.1.1)
    (I := fun y => (y.1.2.2.1.toNat + y.1.1.toNat * y.1.2.1.toNat) % 2305843009213688669 = a.toNat * b.toNat % 2305843009213688669 ∧ y.1.2.2.1.toNat < 2305843009213688669 ∧ y.1.1.toNat < 2305843009213688669) (μ := fun y => y.1.2.1.toNat.log2 + (if y.1.2.1.toNat = 0 then 0 else 1)) (T := fun r => r = ((qm a b, ()), ())) ?_
    (x := ((a, b, 0, ()), ())) ⟨by simp only; rw [z, Nat.zero_add], by simp only; rw [z]; decide, ha⟩ (by
      simp only
      have : b.toNat.log2 < 64 := by
        by_cases h : b.toNat = 0
        · rw [h]; decide
        · exact (Nat.log2_lt h).2 b.toNat_lt
      split <;> omega)
  · obtain ⟨r, h1, rfl⟩ := this; exact h1
  · rintro ⟨⟨x, k, o, _⟩, _⟩ ⟨h1, h2, h3⟩
    simp only at h1 h2 h3
    show ∃ r, ref15_mulq_s2 N x k o = some r ∧ _
    unfold ref15_mulq_s2
    by_cases hk : (0 : UInt64) < k
    · have hk' : 0 < k.toNat := by rw [UInt64.lt_iff_toNat_lt, z] at hk; exact hk
      have hs : (shr64 k 1).toNat = k.toNat / 2 := u64shr k 1
      have hbit : (k &&& 1).toNat = k.toNat % 2 := by rw [UInt64.toNat_and, o1]; exact Nat.and_two_pow_sub_one_eq_mod _ 1
      have hmeas : (shr64 k 1).toNat.log2 + (if (shr64 k 1).toNat = 0 then 0 else 1) < k.toNat.log2 + (if k.toNat = 0 then 0 else 1) := by
        rw [hs, if_neg (show ¬ k.toNat = 0 by omega)]
        by_cases h : k.toNat / 2 = 0
        · rw [h, if_pos rfl]; simp
        · rw [if_neg h]
          have : k.toNat.log2 = (k.toNat / 2).log2 + 1 := by
            rw [Nat.log2_def k.toNat, if_pos (by omega)]
          omega
      have hx2 : (2 * x % 2305843009213688669 : UInt64).toNat = 2 * x.toNat % 2305843009213688669 := by
        rw [UInt64.toNat_mod, hq, u64mul (by show 2 * x.toNat < _; omega)]; rfl
      have hlt : (2 * x % 2305843009213688669 : UInt64).toNat < 2305843009213688669 := by rw [hx2]; exact Nat.mod_lt _ (by decide)
      have hmul : ∀ u : Nat, (u + (2 * x.toNat % 2305843009213688669) * (k.toNat / 2)) % 2305843009213688669 = (u + x.toNat * (2 * (k.toNat / 2))) % 2305843009213688669 := by
        intro u
        rw [Nat.add_mod, Nat.mod_mul_mod, ← Nat.add_mod, Nat.mul_comm 2 x.toNat, Nat.mul_assoc]
      by_cases hb1 : k &&& 1 = 1
      · have hodd : k.toNat % 2 = 1 := by rw [← hbit, hb1]; rfl
        have hox : ((o + x) % 2305843009213688669 : UInt64).toNat = (o.toNat + x.toNat) % 2305843009213688669 := by rw [UInt64.toNat_mod, hq, u64add (by omega)]
        rw [dpos hk, dpos hb1]
        refine ⟨_, rfl, ⟨?_, by simp only; rw [hox]; exact Nat.mod_lt _ (by decide), hlt⟩, by simpa only using hmeas⟩
        simp only
        have hk2 : x.toNat * k.toNat = x.toNat * (2 * (k.toNat / 2)) + x.toNat := by
          conv => lhs; rw [show k.toNat = 2 * (k.toNat / 2) + 1 by omega, Nat.mul_succ]
        rw [← h1, hox, hx2, hs, hmul, Nat.mod_add_mod, hk2]
        congr 1
        omega
      · have heven : k.toNat % 2 = 0 := by
          rcases (by omega : k.toNat % 2 = 0 ∨ k.toNat % 2 = 1) with h | h
          · exact h
          · exact absurd (UInt64.toNat_inj.1 (by rw [hbit, h]; rfl)) hb1
        rw [dpos hk, dneg hb1]
        refine ⟨_, rfl, ⟨?_, h2, hlt⟩, by simpa only using hmeas⟩
        simp only
        rw [← h1, hx2, hs, hmul, show 2 * (k.toNat / 2) = k.toNat by omega]
    · have hk' : k.toNat = 0 := by
        have : ¬ 0 < k.toNat := fun h => hk (by rw [UInt64.lt_iff_toNat_lt, z]; exact h)
        omega
      rw [dneg hk]
      refine ⟨_, rfl, _, rfl, ?_⟩
      rw [hk', Nat.mul_zero, Nat.add_zero, Nat.mod_eq_of_lt h2] at h1
      rw [show o = qm a b from UInt64.toNat_inj.1 (by rw [h1, qm_nat])]
/-- The number of the first bytes, if there are eight. -/
def fst8 (b : List UInt8) : UInt64 := nbr (b.take 8)
theorem first_p {b : List UInt8} (h8 : 8 ≤ b.length) (hl : b.length ≤ 1000000) : schnorr_first N b = some ((fst8 b, ()), ()) := by
  unfold schnorr_first
  rw [wire_number N (b := b) (at_ := 0) (w := 8) (by omega) (by omega) (by omega) (by omega) (by omega) (by omega)]
  rfl
theorem rfirst_p {b : List UInt8} (h8 : 8 ≤ b.length) (hl : b.length ≤ 1000000) : ref15_first N b = some ((fst8 b, ()), ()) := by
  unfold ref15_first
  rw [ref_number N (b := b) (at_ := 0) (w := 8) (by omega) (by omega) (by omega) (by omega) (by omega) (by omega)]
  rfl
theorem rbytes_p (a : UInt64) : ref13_Bytes N a = some ((), (be a 8, ())) := by
  unfold ref13_Bytes
  rw [ref_put N (v := a) (w := 8) (b := []) (by omega) (by omega) (by simp) (by omega)]
  rfl
noncomputable def chal (r y : UInt64) (m : List UInt8) : UInt64 := fst8 (sha (be r 8 ++ be y 8 ++ m)) % 2305843009213688669
omit hN in
theorem chal_lt (r y : UInt64) (m : List UInt8) : (chal r y m).toNat < 2305843009213688669 := by
  unfold chal
  rw [UInt64.toNat_mod]
  exact Nat.mod_lt _ (by decide)
theorem chal_p (r y : UInt64) {m : List UInt8} (hm : m.length ≤ 1000000) : schnorr_challenge N r y m = some ((chal r y m, ()), ()) := by
  unfold schnorr_challenge chal
  have l1 := be_len r 8
  have l2 := be_len y 8
  have e1 : wire_Put N r 8 [] = some ((), (be r 8, ())) := wire_put N (by omega) (by omega) (by simp) (by omega)
  have e2 : wire_Put N y 8 (be r 8) = some ((), (be r 8 ++ be y 8, ())) := wire_put N (by omega) (by omega) (by omega) (by omega)
  have l3 := sha_len (be r 8 ++ be y 8 ++ m)
  have e3 : sha256_Sum N (be r 8 ++ be y 8 ++ m) = _ := sha_sum N (by simp only [List.length_append]; omega) hN
  have hr : room ((be r 8 ++ be y 8).length + m.length) 1 = true := room_of (by simp only [List.length_append]; omega)
  simp only [e1, e2, e3, hr, Option.bind_some, cond_true, first_p N hN (show 8 ≤ (sha (be r 8 ++ be y 8 ++ m)).length by omega) (by omega)]
theorem rchal_p (r y : UInt64) {m : List UInt8} (hm : m.length ≤ 1000000) : ref15_challenge N r y m = some ((chal r y m, ()), ()) := by
  unfold ref15_challenge chal
  have l1 := be_len r 8
  have l2 := be_len y 8
  have l3 := sha_len (be r 8 ++ be y 8 ++ m)
  have e0 := join3 N (a := be r 8) (b := be y 8) (c := m) (by omega) hN
  have e3 : ref08_Sum N (be r 8 ++ be y 8 ++ m) = _ := ref_sum N (by simp only [List.length_append]; omega) hN
  simp only [rbytes_p N hN, e0, e3, Option.bind_some, rfirst_p N hN (show 8 ≤ (sha (be r 8 ++ be y 8 ++ m)).length by omega) (by omega)]
/-- The number that a signature hides. -/
noncomputable def snum (s : UInt64) (m : List UInt8) : UInt64 := 1 + fst8 (hmac (be s 8) m) % 2305843009213688668
noncomputable def sche (s : UInt64) (m : List UInt8) : UInt64 := chal (pw 4 (snum s m)) (pw 4 s) m
noncomputable def sgn (s : UInt64) (m : List UInt8) : List UInt8 × Int :=
  if vsec s = true then (be (sche s m) 8 ++ be ((snum s m + qm (sche s m) s) % 2305843009213688669) 8, 0) else ([], 13)
omit hN in
theorem snum_lt (s : UInt64) (m : List UInt8) : 1 ≤ (snum s m).toNat ∧ (snum s m).toNat < 2305843009213688669 := by
  unfold snum
  have h : (fst8 (hmac (be s 8) m) % 2305843009213688668).toNat < 2305843009213688668 := by rw [UInt64.toNat_mod]; exact Nat.mod_lt _ (by decide)
  have o1 : (1 : UInt64).toNat = 1 := rfl
  rw [u64add (by rw [o1]; omega), o1]; omega
omit hN in
theorem vsec_lt {s : UInt64} (h : vsec s = true) : s.toNat < 2305843009213688669 := by
  unfold vsec at h
  rw [Bool.and_eq_true, decide_eq_true_eq, decide_eq_true_eq] at h
  exact UInt64.lt_iff_toNat_lt.1 h.2
omit hN in
theorem sgn_len (s : UInt64) (m : List UInt8) : (sgn s m).1.length ≤ 16 := by
  unfold sgn
  split
  · simp only [List.length_append, be_len]; omega
  · simp
theorem sign_p (s : UInt64) {m : List UInt8} (hm : m.length ≤ 1000000) : schnorr_Sign N s m = some (((sgn s m).2, ()), ((sgn s m).1, ())) := by
  unfold schnorr_Sign sgn
  rw [public_p N hN]
  unfold pub
  cases hv : vsec s
  · rfl
  · simp only [if_true]
    have l1 := be_len s 8
    have lh := hmac_len (be s 8) m
    have e1 : wire_Put N s 8 [] = some ((), (be s 8, ())) := wire_put N (by omega) (by omega) (by simp) (by omega)
    have e2 := prf_hmac N (k := be s 8) (b := m) (by omega) (by omega) hN
    have e3 := first_p N hN (b := hmac (be s 8) m) (by omega) (by omega)
    have e4 : wire_Put N (sche s m) 8 [] = some ((), (be (sche s m) 8, ())) := wire_put N (by omega) (by omega) (by simp) (by omega)
    have lc := be_len (sche s m) 8
    have hk := (snum_lt s m).2
    have ek : snum s m % 2305843009213688669 = snum s m := UInt64.toNat_inj.1 (by rw [UInt64.toNat_mod]; exact Nat.mod_eq_of_lt hk)
    have e5 := sum_p N hN (snum s m) (b := sche s m) (c := s) (chal_lt _ _ _) (vsec_lt hv)
    rw [ek] at e5
    have e6 : wire_Put N ((snum s m + qm (sche s m) s) % 2305843009213688669) 8 (be (sche s m) 8) = some ((), (be (sche s m) 8 ++ be ((snum s m + qm (sche s m) s) % 2305843009213688669) 8, ())) := wire_put N (by omega) (by omega) (by omega) (by omega)
    have es : (1 : UInt64) + fst8 (hmac (be s 8) m) % 2305843009213688668 = snum s m := rfl
    have ec : chal (pw 4 (snum s m)) (pw 4 s) m = sche s m := rfl
    simp only [Option.bind_some, decide_true, Bool.not_true, cond_false, e1, e2, e3, es, gpow_p N hN, chal_p N hN _ _ hm, ec, e4, e5, e6]
theorem rsign_p (s : UInt64) {m : List UInt8} (hm : m.length ≤ 1000000) : ref15_Sign N s m = some (((sgn s m).2, ()), ((sgn s m).1, ())) := by
  unfold ref15_Sign sgn
  rw [rpublic_p N hN]
  unfold pub
  cases hv : vsec s
  · rfl
  · simp only [if_true]
    have l1 := be_len s 8
    have lh := hmac_len (be s 8) m
    have e2 := ref_hmac N (k := be s 8) (b := m) (by omega) (by omega) hN
    have e3 := rfirst_p N hN (b := hmac (be s 8) m) (by omega) (by omega)
    have e5 := mulq_p N hN (a := sche s m) (b := s) (chal_lt _ _ _) (vsec_lt hv)
    have es : (1 : UInt64) + fst8 (hmac (be s 8) m) % 2305843009213688668 = snum s m := rfl
    have ec : chal (pw 4 (snum s m)) (pw 4 s) m = sche s m := rfl
    have hr : room ((be (sche s m) 8).length + (be ((snum s m + qm (sche s m) s) % 2305843009213688669) 8).length) 1 = true := room_of (by simp only [be_len]; omega)
    simp only [Option.bind_some, decide_true, Bool.not_true, cond_false, rbytes_p N hN, e2, e3, es, rpow_p N hN, rchal_p N hN _ _ hm, ec, e5, hr, cond_true]
/-- Whether a signature is accepted. -/
noncomputable def vfy (y : UInt64) (m s : List UInt8) : Int :=
  if elm y = true then (if s.length = 16 then (if (2305843009213688669 : UInt64) ≤ fst8 s ∨ (2305843009213688669 : UInt64) ≤ fst8 (s.drop 8) then 5 else if chal (pm (pw 4 (fst8 (s.drop 8))) (pw y (2305843009213688669 - fst8 s))) y m = fst8 s then 0 else 18) else 2) else 13
theorem verify_p (y : UInt64) {m : List UInt8} (hm : m.length ≤ 1000000) (s : List UInt8) : schnorr_Verify N y m s = some ((vfy y m s, ()), ()) := by
  unfold schnorr_Verify vfy
  rw [element_p N hN]
  cases elm y
  · rfl
  · simp only [Option.bind_some, Bool.not_true, cond_false, if_true]
    by_cases h16 : s.length = 16
    · have c1 : cut s 8 s.length = s.drop 8 := by simp [cut]
      have l1 : (s.drop 8).length = 8 := by simp; omega
      rw [if_pos h16]
      simp (disch := omega) only [dpos, dneg, w64_of, inR_of, room_of, tmod_of, cond_true, cond_false, Bool.and_self, Bool.and_true, Bool.true_and, Bool.and_false, Bool.false_and, Bool.not_true, Bool.not_false, Option.bind_some, List.length_cons, List.length_nil, Nat.zero_add, first_p N hN (show 8 ≤ s.length by omega) (by omega), c1, first_p N hN (show 8 ≤ (s.drop 8).length by omega) (by omega), List.getD_cons_zero, List.getD_cons_succ]
      unfold schnorr_Verify_1
      simp only [List.getD_cons_zero, List.getD_cons_succ, gpow_p N hN, gmul_p N hN, chal_p N hN _ _ hm, Option.bind_some]
      by_cases h1 : (2305843009213688669 : UInt64) ≤ fst8 s
      · rw [dpos h1, if_pos (.inl h1)]; rfl
      · by_cases h2 : (2305843009213688669 : UInt64) ≤ fst8 (s.drop 8)
        · rw [dneg h1, dpos h2, if_pos (.inr h2)]; rfl
        · rw [dneg h1, dneg h2, if_neg (by simp only [h1, h2, or_self, not_false_eq_true])]
          by_cases h3 : chal (pm (pw 4 (fst8 (s.drop 8))) (pw y (2305843009213688669 - fst8 s))) y m = fst8 s
          · rw [dpos h3, if_pos h3]; rfl
          · rw [dneg h3, if_neg h3]; rfl
    · rw [if_neg h16]
      simp (disch := omega) only [dpos, dneg, w64_of, inR_of, room_of, tmod_of, cond_true, cond_false, Bool.and_self, Bool.and_true, Bool.true_and, Bool.and_false, Bool.false_and, Bool.not_true, Bool.not_false, Option.bind_some, List.length_cons, List.length_nil, Nat.zero_add]
theorem rverify_p (y : UInt64) {m : List UInt8} (hm : m.length ≤ 1000000) (s : List UInt8) : ref15_Verify N y m s = some ((vfy y m s, ()), ()) := by
  unfold ref15_Verify vfy
  rw [relement_p N hN]
  cases elm y
  · rfl
  · simp only [Option.bind_some, Bool.not_true, cond_false, if_true]
    by_cases h16 : s.length = 16
    · have c1 : cut s 8 s.length = s.drop 8 := by simp [cut]
      have l1 : (s.drop 8).length = 8 := by simp; omega
      rw [if_pos h16]
      simp (disch := omega) only [dpos, dneg, w64_of, inR_of, room_of, tmod_of, cond_true, cond_false, Bool.and_self, Bool.and_true, Bool.true_and, Bool.and_false, Bool.false_and, Bool.not_true, Bool.not_false, Option.bind_some, List.length_cons, List.length_nil, Nat.zero_add, rfirst_p N hN (show 8 ≤ s.length by omega) (by omega), c1, rfirst_p N hN (show 8 ≤ (s.drop 8).length by omega) (by omega)]
      unfold ref15_Verify_1
      simp only [rpow_p N hN, rmul_p N hN, rchal_p N hN _ _ hm, Option.bind_some]
      by_cases h1 : (2305843009213688669 : UInt64) ≤ fst8 s
      · rw [dpos h1, if_pos (.inl h1)]; rfl
      · by_cases h2 : (2305843009213688669 : UInt64) ≤ fst8 (s.drop 8)
        · rw [dneg h1, dpos h2, if_pos (.inr h2)]; rfl
        · rw [dneg h1, dneg h2, if_neg (by simp only [h1, h2, or_self, not_false_eq_true])]
          by_cases h3 : chal (pm (pw 4 (fst8 (s.drop 8))) (pw y (2305843009213688669 - fst8 s))) y m = fst8 s
          · rw [dpos h3, if_pos h3]; rfl
          · rw [dneg h3, if_neg h3]; rfl
    · rw [if_neg h16]
      simp (disch := omega) only [dpos, dneg, w64_of, inR_of, room_of, tmod_of, cond_true, cond_false, Bool.and_self, Bool.and_true, Bool.true_and, Bool.and_false, Bool.false_and, Bool.not_true, Bool.not_false, Option.bind_some, List.length_cons, List.length_nil, Nat.zero_add]
end
end Go.Proofs.YtofajgidjkjnpaaDoor.Pl
