/- Plain: the law Poly1305Adds. -/
import Derived.Test.YtlamdneheilahaaPoQPolyZero
set_option linter.unusedVariables false
set_option linter.unusedSimpArgs false
namespace Go.Proofs.Ytlamdneheilahaa.Pl
open Go Poly
theorem clear15 (d x : UInt8) : (d ^^^ (x &&& 240)) &&& 15 = d &&& 15 := by
  apply UInt8.toNat_inj.1
  have h1 := d.toNat_lt; have h2 := x.toNat_lt
  rw [UInt8.toNat_and, UInt8.toNat_xor, UInt8.toNat_and, UInt8.toNat_and]
  apply Nat.eq_of_testBit_eq
  intro i
  simp only [Nat.testBit_and, Nat.testBit_xor]
  rcases (by omega : i < 8 ∨ 8 ≤ i) with h | h
  · rcases (by omega : i = 0 ∨ i = 1 ∨ i = 2 ∨ i = 3 ∨ i = 4 ∨ i = 5 ∨ i = 6 ∨ i = 7) with rfl | rfl | rfl | rfl | rfl | rfl | rfl | rfl <;> simp [Nat.testBit, show (240 : UInt8).toNat = 240 from rfl, show (15 : UInt8).toNat = 15 from rfl]
  · have : Nat.testBit 15 i = false := Nat.testBit_lt_two_pow (Nat.lt_of_lt_of_le (by decide : 15 < 2 ^ 8) (Nat.pow_le_pow_right (by decide) h))
    simp [this]
theorem clear252 (d x : UInt8) : (d ^^^ (x &&& 3)) &&& 252 = d &&& 252 := by
  apply UInt8.toNat_inj.1
  have h1 := d.toNat_lt; have h2 := x.toNat_lt
  rw [UInt8.toNat_and, UInt8.toNat_xor, UInt8.toNat_and, UInt8.toNat_and]
  apply Nat.eq_of_testBit_eq
  intro i
  simp only [Nat.testBit_and, Nat.testBit_xor]
  rcases (by omega : i < 8 ∨ 8 ≤ i) with h | h
  · rcases (by omega : i = 0 ∨ i = 1 ∨ i = 2 ∨ i = 3 ∨ i = 4 ∨ i = 5 ∨ i = 6 ∨ i = 7) with rfl | rfl | rfl | rfl | rfl | rfl | rfl | rfl <;> simp [Nat.testBit, show (252 : UInt8).toNat = 252 from rfl, show (3 : UInt8).toNat = 3 from rfl]
  · have : Nat.testBit 252 i = false := Nat.testBit_lt_two_pow (Nat.lt_of_lt_of_le (by decide : 252 < 2 ^ 8) (Nat.pow_le_pow_right (by decide) h))
    simp [this]
theorem adds_un (M : Nat) (y : List UInt8) (x : UInt8) (K : List UInt8) (a b c d e f g i j k m n o p q r : UInt8) : law11_Poly1305Adds_2 (M + 20) y x K 4 0 ([a, b, c, d, e, f, g, i, j, k, m, n, o, p, q, r] ++ List.replicate 16 0) [3, 7, 11, 15] =
    law11_Poly1305Adds_7 (M + 20) y K ([a, b, c, d ^^^ (x &&& 240), e ^^^ (x &&& 3), f, g, i ^^^ (x &&& 240), j ^^^ (x &&& 3), k, m, n ^^^ (x &&& 240), o ^^^ (x &&& 3), p, q, r ^^^ (x &&& 240)] ++ List.replicate 16 0) := by kernel_rfl
theorem shrI8 (x : Int) : shrI x 8 = x / 256 := by
  show x.fdiv 256 = _
  exact Int.fdiv_eq_ediv_of_nonneg x (by decide)
/-- What is carried into a byte. -/
def cc (A S : Nat) : Nat → Nat
  | 0 => 0
  | i + 1 => (A % 256 ^ (i + 1) + S % 256 ^ (i + 1)) / 256 ^ (i + 1)
theorem cc_eq (A S i : Nat) : cc A S i = (A % 256 ^ i + S % 256 ^ i) / 256 ^ i := by
  cases i with
  | zero => simp [cc, Nat.mod_one]
  | succ i => rfl
/-- The sum of two numbers byte for byte. -/
theorem carry_step (A S k : Nat) : (A / 256 ^ k % 256 + S / 256 ^ k % 256 + (A % 256 ^ k + S % 256 ^ k) / 256 ^ k) % 256 = (A + S) / 256 ^ k % 256 ∧
    (A / 256 ^ k % 256 + S / 256 ^ k % 256 + (A % 256 ^ k + S % 256 ^ k) / 256 ^ k) / 256 = (A % 256 ^ (k + 1) + S % 256 ^ (k + 1)) / 256 ^ (k + 1) := by
  have hp : 0 < 256 ^ k := Nat.pow_pos (by decide)
  have hA := Nat.div_add_mod A (256 ^ k)
  have hS := Nat.div_add_mod S (256 ^ k)
  have e1 : (A + S) / 256 ^ k = A / 256 ^ k + S / 256 ^ k + (A % 256 ^ k + S % 256 ^ k) / 256 ^ k := by
    conv => lhs; rw [← hA, ← hS, show 256 ^ k * (A / 256 ^ k) + A % 256 ^ k + (256 ^ k * (S / 256 ^ k) + S % 256 ^ k) = (A % 256 ^ k + S % 256 ^ k) + 256 ^ k * (A / 256 ^ k + S / 256 ^ k) by rw [Nat.mul_add]; omega]
    rw [Nat.add_mul_div_left _ _ hp]; omega
  have m1 : ∀ X : Nat, X % 256 ^ (k + 1) = X % 256 ^ k + 256 ^ k * (X / 256 ^ k % 256) := fun X => by rw [Nat.pow_succ, Nat.mod_mul]
  refine ⟨by rw [e1]; omega, ?_⟩
  rw [m1, m1, Nat.pow_succ, ← Nat.div_div_eq_div_mul, show A % 256 ^ k + 256 ^ k * (A / 256 ^ k % 256) + (S % 256 ^ k + 256 ^ k * (S / 256 ^ k % 256)) = (A % 256 ^ k + S % 256 ^ k) + 256 ^ k * (A / 256 ^ k % 256 + S / 256 ^ k % 256) by rw [Nat.mul_add]; omega, Nat.add_mul_div_left _ _ hp]
  congr 1
  omega
theorem carry_bd (A S k : Nat) : (A % 256 ^ k + S % 256 ^ k) / 256 ^ k ≤ 1 := by
  have hp : 0 < 256 ^ k := Nat.pow_pos (by decide)
  have h1 := Nat.mod_lt A hp; have h2 := Nat.mod_lt S hp
  have : (A % 256 ^ k + S % 256 ^ k) / 256 ^ k < 2 := (Nat.div_lt_iff_lt_mul hp).2 (by omega)
  omega
theorem iu8_nat (n : Nat) : iu8 (n : Int) = UInt8.ofNat n := by
  apply UInt8.toNat_inj.1
  show (BitVec.ofInt 8 (n : Int)).toNat = _
  rw [BitVec.ofInt_natCast, BitVec.toNat_ofNat, UInt8.toNat_ofNat']
theorem byte_eq {n : Nat} {u : UInt8} (h : n % 256 = u.toNat) : iu8 (n : Int) = u := by
  rw [iu8_nat]; apply UInt8.toNat_inj.1; rw [UInt8.toNat_ofNat']; exact h
theorem adds_9 (N : Nat) (hN : 4611686018427387904 ≤ N) {K : List UInt8} (hK : K.length = 32) (A : Nat) : law11_Poly1305Adds_9 N K 0 0 (tagB (A + ks K)) (tagB A) = some ((true, ()), ()) := by
  unfold law11_Poly1305Adds_9
  have h16N : 16 < N := by omega
  have l1 := tagB_len (A + ks K)
  have l2 := tagB_len A
  refine (loopK_run (fun i : Nat => ((K, ((cc A (ks K) i : Nat) : Int), (i : Int), ()), (tagB (A + ks K), tagB A, ()))) (n := 16) ?_ (e := ((), ())) ?_ h16N).trans rfl
  · intro i hi
    have q1 := tagB_get (A + ks K) hi
    have q2 := tagB_get A hi
    have q3 : (K.getD ((16 : Int) + (i : Int)).toNat 0).toNat = ks K / 256 ^ i % 256 := by
      unfold ks
      rw [le_dig, show ((16 : Int) + (i : Int)).toNat = 16 + i by omega]
      simp [List.getD]
    have q4 := carry_step A (ks K) i
    have q5 := carry_bd A (ks K) i
    have q6 : ((tagB A).getD i 0).toNat < 256 := UInt8.toNat_lt _
    have q7 : (K.getD ((16 : Int) + (i : Int)).toNat 0).toNat < 256 := UInt8.toNat_lt _
    show law11_Poly1305Adds_s10 N K _ _ _ _ = _
    simp only [cc_eq]
    unfold law11_Poly1305Adds_s10
    have e : (((A % 256 ^ i + ks K % 256 ^ i) / 256 ^ i : Nat) : Int) + ((((tagB A).getD i 0).toNat : Int) + ((K.getD ((16 : Int) + (i : Int)).toNat 0).toNat : Int)) = ((A / 256 ^ i % 256 + ks K / 256 ^ i % 256 + (A % 256 ^ i + ks K % 256 ^ i) / 256 ^ i : Nat) : Int) := by
      rw [q2, q3]; omega
    have e2 : iu8 ((A / 256 ^ i % 256 + ks K / 256 ^ i % 256 + (A % 256 ^ i + ks K % 256 ^ i) / 256 ^ i : Nat) : Int) = (tagB (A + ks K)).getD i 0 := byte_eq (by rw [q1]; exact q4.1)
    have e3 : shrI ((A / 256 ^ i % 256 + ks K / 256 ^ i % 256 + (A % 256 ^ i + ks K % 256 ^ i) / 256 ^ i : Nat) : Int) 8 = (((A % 256 ^ (i + 1) + ks K % 256 ^ (i + 1)) / 256 ^ (i + 1) : Nat) : Int) := by
      rw [shrI8, ← q4.2]; omega
    have hT : A / 256 ^ i % 256 + ks K / 256 ^ i % 256 + (A % 256 ^ i + ks K % 256 ^ i) / 256 ^ i ≤ 600 := by omega
    have hC : (A % 256 ^ i + ks K % 256 ^ i) / 256 ^ i ≤ 600 := by omega
    generalize A / 256 ^ i % 256 + ks K / 256 ^ i % 256 + (A % 256 ^ i + ks K % 256 ^ i) / 256 ^ i = T at hT e e2 e3
    generalize (A % 256 ^ i + ks K % 256 ^ i) / 256 ^ i = C at hC e ⊢
    simp (disch := omega) only [dpos, dneg, w64_of, inR_of, room_of, tmod_of, cond_true, cond_false, Bool.and_self, Bool.and_true, Bool.true_and, Bool.and_false, Bool.false_and, Bool.not_true, Bool.not_false, Option.bind_some, List.length_cons, List.length_nil, Nat.zero_add, Int.toNat_natCast, e, e2, e3, decide_true, Int.natCast_add, Int.natCast_one]
  · show law11_Poly1305Adds_s10 N K _ _ _ _ = _
    unfold law11_Poly1305Adds_s10
    simp (disch := omega) only [dpos, dneg, w64_of, inR_of, room_of, tmod_of, cond_true, cond_false, Bool.and_self, Bool.and_true, Bool.true_and, Bool.and_false, Bool.false_and, Bool.not_true, Bool.not_false, Option.bind_some, List.length_cons, List.length_nil, Nat.zero_add]
theorem adds_1 (N : Nat) (hN : 4611686018427387904 ≤ N) (codes b : List UInt8) (hb : b.length ≤ 200) (x : UInt8) : law11_Poly1305Adds_1 N codes b x = some ((true, ()), ()) := by
  unfold law11_Poly1305Adds_1
  obtain ⟨c0, e0, k0⟩ := new_ok N codes (m := 60) (by omega) (by omega)
  obtain ⟨c1, K, e1, l1, k1⟩ := bytes_ok (N := N) (n := 32) k0 (by omega) (by omega) (by omega)
  have l1' : K.length = 32 := l1
  have hc : cut K 0 16 = K.take 16 := by simp [cut]
  have ht : (K.take 16).length = 16 := by simp; omega
  simp (disch := omega) only [dpos, dneg, w64_of, inR_of, room_of, tmod_of, cond_true, cond_false, Bool.and_self, Bool.and_true, Bool.true_and, Bool.and_false, Bool.false_and, Bool.not_true, Bool.not_false, Option.bind_some, List.length_cons, List.length_nil, Nat.zero_add, e0, e1, hc, List.length_replicate]
  obtain ⟨a, b', c, d, e, f, g, i, j, k, m, n, o, p, q, r, e2⟩ := list16 ht
  obtain ⟨M, hM⟩ := Nat.exists_eq_add_of_le' (show 20 ≤ N by omega)
  have hu := adds_un M b x K a b' c d e f g i j k m n o p q r
  rw [← hM] at hu
  rw [e2]
  refine Eq.trans ?_ (hu.trans ?_)
  · rfl
  generalize hZ : [a, b', c, d ^^^ (x &&& 240), e ^^^ (x &&& 3), f, g, i ^^^ (x &&& 240), j ^^^ (x &&& 3), k, m, n ^^^ (x &&& 240), o ^^^ (x &&& 3), p, q, r ^^^ (x &&& 240)] ++ List.replicate 16 0 = Z
  have hZl : Z.length = 32 := by rw [← hZ]; rfl
  have hkr : kr Z = kr K := by
    unfold kr
    rw [e2, ← hZ]
    show le (ns [a, b', c, (d ^^^ (x &&& 240)) &&& 15, (e ^^^ (x &&& 3)) &&& 252, f, g, (i ^^^ (x &&& 240)) &&& 15, (j ^^^ (x &&& 3)) &&& 252, k, m, (n ^^^ (x &&& 240)) &&& 15, (o ^^^ (x &&& 3)) &&& 252, p, q, (r ^^^ (x &&& 240)) &&& 15]) = _
    simp only [clear15, clear252]
    rfl
  have hks : ks Z = 0 := by
    rw [← hZ]; rfl
  have hz : tag Z b = tagB (acc (kr K) 0 b) := by unfold tag; rw [hkr, hks, Nat.add_zero]
  have hk : tag K b = tagB (acc (kr K) 0 b + ks K) := rfl
  unfold law11_Poly1305Adds_7
  have t1 := tagB_len (acc (kr K) 0 b + ks K)
  have t2 := tagB_len (acc (kr K) 0 b)
  simp (disch := omega) only [dpos, dneg, w64_of, inR_of, room_of, tmod_of, cond_true, cond_false, Bool.and_self, Bool.and_true, Bool.true_and, Bool.and_false, Bool.false_and, Bool.not_true, Bool.not_false, Option.bind_some, List.length_cons, List.length_nil, Nat.zero_add, sum_ok, hz, hk]
  unfold law11_Poly1305Adds_8
  simp only [dpos, dneg, w64_of, inR_of, room_of, tmod_of, cond_true, cond_false, Bool.and_self, Bool.and_true, Bool.true_and, Bool.and_false, Bool.false_and, Bool.not_true, Bool.not_false, Option.bind_some, List.length_cons, List.length_nil, Nat.zero_add]
  exact adds_9 N hN l1' _
theorem adds (codes : List UInt8) (hc : codes.length ≤ 9223372036854775807) (b : List UInt8) (hb : b.length ≤ 9223372036854775807) (x : UInt8) : law11_Poly1305Adds 18446744073709551616 codes b x = some ((true, ()), ()) := by
  unfold law11_Poly1305Adds
  rw [awake11]
  generalize hN0 : 18446744073709551616 = N
  have hN : 4611686018427387904 ≤ N := by omega
  clear hN0
  by_cases h : (200 : Int) < (b.length : Int)
  · have hc : (cut b 0 200).length ≤ 200 := by simp [cut]; omega
    simp (disch := omega) only [dpos, dneg, w64_of, inR_of, room_of, tmod_of, cond_true, cond_false, Bool.and_self, Bool.and_true, Bool.true_and, Bool.and_false, Bool.false_and, Bool.not_true, Bool.not_false, Option.bind_some, List.length_cons, List.length_nil, Nat.zero_add, adds_1]
  · simp (disch := omega) only [dpos, dneg, w64_of, inR_of, room_of, tmod_of, cond_true, cond_false, Bool.and_self, Bool.and_true, Bool.true_and, Bool.and_false, Bool.false_and, Bool.not_true, Bool.not_false, Option.bind_some, List.length_cons, List.length_nil, Nat.zero_add, adds_1]
end Go.Proofs.Ytlamdneheilahaa.Pl
