/- Plain: the law PrfNests. -/
import Derived.Test.YtlamdneheilahaaDoorShQPlus
import Derived.Test.YtlamdneheilahaaDoorFnsPrfNestsA
set_option linter.unusedVariables false
set_option linter.unusedSimpArgs false
namespace Go.Proofs.YtlamdneheilahaaDoor.Pl
open Go
theorem mk_get (m : UInt8) {k : List UInt8} (h : k.length ≤ 64) {i : Nat} (hi : i < 64) : (mk m k).getD i 0 = (pk64 k).getD i 0 ^^^ m := by
  unfold mk; simp [List.getD, List.getElem?_eq_getElem (show i < (pk64 k).length by rw [pk64_len k h]; exact hi)]
theorem nests_2 (N : Nat) {k b : List UInt8} (hk : k.length ≤ 64) (hN : 4611686018427387904 ≤ N) : law09_PrfNests_2 N k b ((pk64 k).length : Int) 0 (pk64 k) (pk64 k) = law09_PrfNests_4 N k b (mk 92 k) (mk 54 k) := by
  unfold law09_PrfNests_2
  have hP := pk64_len k hk
  have h1 := mk_len 92 hk
  have h2 := mk_len 54 hk
  have g1 := fun i hi => mk_get 92 hk (i := i) hi
  have g2 := fun i hi => mk_get 54 hk (i := i) hi
  generalize pk64 k = P at hP g1 g2
  generalize mk 92 k = A at h1 g1
  generalize mk 54 k = B at h2 g2
  have h64N : 64 < N := by omega
  refine (loopK_run (fun i : Nat => ((k, b, (P.length : Int), (i : Int), ()), (A.take i ++ P.drop i, B.take i ++ P.drop i, ()))) (n := 64) ?_ (e := ((k, b, ()), (A, B, ()))) ?_ h64N).trans rfl
  · intro i hi
    have a1 : (A.take i).length = i := by simp; omega
    have b1 : (B.take i).length = i := by simp; omega
    have hd : P.drop i = P.getD i 0 :: P.drop (i + 1) := by
      rw [List.drop_eq_getElem_cons (by omega)]; simp [List.getD, hP, hi]
    show law09_PrfNests_s3 N k b _ _ _ _ = _
    unfold law09_PrfNests_s3
    have l1 : (A.take i ++ P.getD i 0 :: P.drop (i + 1)).length = 64 := by simp; omega
    have l2 : (B.take i ++ P.getD i 0 :: P.drop (i + 1)).length = 64 := by simp; omega
    rw [take_snoc A 0 (by omega), take_snoc B 0 (by omega), g1 i hi, g2 i hi, hd]
    simp (disch := omega) only [dpos, dneg, w64_of, inR_of, room_of, tmod_of, cond_true, cond_false, Bool.and_self, Bool.and_true, Bool.true_and, Bool.and_false, Bool.false_and, Bool.not_true, Bool.not_false, Option.bind_some, List.length_cons, List.length_nil, Nat.zero_add, Int.toNat_natCast, set_mid _ _ _ _ a1, getD_mid _ _ _ a1, set_mid _ _ _ _ b1, getD_mid _ _ _ b1, l1, l2, List.append_assoc, List.cons_append, List.nil_append, Int.natCast_add, Int.natCast_one]
  · show law09_PrfNests_s3 N k b _ _ _ _ = _
    unfold law09_PrfNests_s3
    simp (disch := omega) only [dpos, dneg, w64_of, inR_of, room_of, tmod_of, cond_true, cond_false, Bool.and_self, Bool.and_true, Bool.true_and, Bool.and_false, Bool.false_and, Bool.not_true, Bool.not_false, Option.bind_some, List.length_cons, List.length_nil, Nat.zero_add, List.take_of_length_le (show A.length ≤ 64 by omega), List.take_of_length_le (show B.length ≤ 64 by omega), List.drop_of_length_le (show P.length ≤ 64 by omega), List.append_nil]
theorem nests_4 (N : Nat) {k b : List UInt8} (hkl : k.length ≤ 64) (hb : b.length ≤ 300) (hN : 4611686018427387904 ≤ N) : law09_PrfNests_4 N k b (mk 92 k) (mk 54 k) = some ((true, ()), ()) := by
  unfold law09_PrfNests_4
  have h1 := mk_len 92 hkl
  have h2 := mk_len 54 hkl
  have hh : hk k = k := by unfold hk; rw [if_neg (by omega)]
  have e : sha (mk 92 k ++ sha (mk 54 k ++ b)) = hmac k b := by unfold hmac; rw [hh]
  have l1 : (mk 54 k ++ b).length ≤ 400 := by rw [List.length_append]; omega
  have l2 := sha_len (mk 54 k ++ b)
  have l3 : (mk 92 k ++ sha (mk 54 k ++ b)).length ≤ 400 := by rw [List.length_append]; omega
  have l4 : (b ++ [1]).length ≤ 400 := by simp; omega
  have l5 := hmac_len k (b ++ [1])
  have l6 : (hmac k (b ++ [1]) ++ b).length ≤ 400 := by rw [List.length_append]; omega
  have l7 : (hmac k (b ++ [1]) ++ b ++ [2]).length ≤ 400 := by simp; omega
  have l8 := hmac_len k (hmac k (b ++ [1]) ++ b ++ [2])
  have ep : plus k b (Int.toNat 64) = hmac k (b ++ [1]) ++ hmac k (hmac k (b ++ [1]) ++ b ++ [2]) := by
    show (oo k b 2).take 64 = _
    have e1 : oo k b 2 = hmac k (b ++ [1]) ++ hmac k (hmac k (b ++ [1]) ++ b ++ [2]) := rfl
    rw [e1, List.take_of_length_le (by rw [List.length_append]; omega)]
  unfold wire_Equal bytes_Equal
  simp (disch := omega) only [dpos, dneg, w64_of, inR_of, room_of, tmod_of, cond_true, cond_false, Bool.and_self, Bool.and_true, Bool.true_and, Bool.and_false, Bool.false_and, Bool.not_true, Bool.not_false, Option.bind_some, List.length_cons, List.length_nil, Nat.zero_add, sha_sum, prf_hmac, prf_plus, e, ep, decide_true]
theorem nests (k : List UInt8) (hk : k.length ≤ 9223372036854775807) (b : List UInt8) (hb : b.length ≤ 9223372036854775807) : law09_PrfNests 18446744073709551616 k b = some ((true, ()), ()) := by
  unfold law09_PrfNests
  rw [awake09]
  generalize hN0 : 18446744073709551616 = N
  have hN : 4611686018427387904 ≤ N := by omega
  clear hN0
  simp only [dpos, dneg, w64_of, inR_of, room_of, tmod_of, cond_true, cond_false, Bool.and_self, Bool.and_true, Bool.true_and, Bool.and_false, Bool.false_and, Bool.not_true, Bool.not_false, Option.bind_some, List.length_cons, List.length_nil, Nat.zero_add]
  unfold law09_PrfNests_1
  by_cases c1 : (64 : Int) < (k.length : Int)
  · simp (disch := omega) only [dpos, dneg, w64_of, inR_of, room_of, tmod_of, cond_true, cond_false, Bool.and_self, Bool.and_true, Bool.true_and, Bool.and_false, Bool.false_and, Bool.not_true, Bool.not_false, Option.bind_some, List.length_cons, List.length_nil, Nat.zero_add]
  · by_cases c2 : (300 : Int) < (b.length : Int)
    · simp (disch := omega) only [dpos, dneg, w64_of, inR_of, room_of, tmod_of, cond_true, cond_false, Bool.and_self, Bool.and_true, Bool.true_and, Bool.and_false, Bool.false_and, Bool.not_true, Bool.not_false, Option.bind_some, List.length_cons, List.length_nil, Nat.zero_add]
    · simp (disch := omega) only [dpos, dneg, w64_of, inR_of, room_of, tmod_of, cond_true, cond_false, Bool.and_self, Bool.and_true, Bool.true_and, Bool.and_false, Bool.false_and, Bool.not_true, Bool.not_false, Option.bind_some, List.length_cons, List.length_nil, Nat.zero_add]
      show law09_PrfNests_2 N k b ((pk64 k).length : Int) 0 (pk64 k) (pk64 k) = _
      rw [nests_2 N (by omega) hN, nests_4 N (by omega) (by omega) hN]
end Go.Proofs.YtlamdneheilahaaDoor.Pl
