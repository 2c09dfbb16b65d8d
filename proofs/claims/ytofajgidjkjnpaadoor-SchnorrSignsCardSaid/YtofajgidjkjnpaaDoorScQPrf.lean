/- Plain: the keyed hash, the program's and the reference's: one function of the bytes. -/
import Derived.Test.YtofajgidjkjnpaaDoorScQSha
import Derived.Test.YtofajgidjkjnpaaDoorScQEqual
import Derived.Test.YtofajgidjkjnpaaDoorFnsSchnorrSignsA
set_option linter.unusedVariables false
set_option linter.unusedSimpArgs false
namespace Go.Proofs.YtofajgidjkjnpaaDoor.Pl
open Go
noncomputable section
/-- The key in 64 bytes. -/
def pk64 (k : List UInt8) : List UInt8 := splice (List.replicate 64 0) k
theorem pk64_len (k : List UInt8) (h : k.length ≤ 64) : (pk64 k).length = 64 := by simp [pk64, splice]; omega
def hk (k : List UInt8) : List UInt8 := if 64 < k.length then sha k else k
theorem hk_len (k : List UInt8) : (hk k).length ≤ 64 := by
  unfold hk; split
  · rw [sha_len]; decide
  · omega
def mk (m : UInt8) (k : List UInt8) : List UInt8 := (pk64 k).map (· ^^^ m)
theorem mk_len (m : UInt8) {k : List UInt8} (h : k.length ≤ 64) : (mk m k).length = 64 := by simp [mk, pk64_len k h]
def hmac (k b : List UInt8) : List UInt8 := sha (mk 92 (hk k) ++ sha (mk 54 (hk k) ++ b))
theorem hmac_len (k b : List UInt8) : (hmac k b).length = 32 := sha_len _
theorem hmac_f1 (N : Nat) (m : UInt8) {b t : List UInt8} (ht : t.length = 64) (hb : b.length ≤ 17592186044416) (hN : 4611686018427387904 ≤ N) : prf_Hmac_f1 N m b t = some ((), (sha (t.map (· ^^^ m) ++ b), ())) := by
  unfold prf_Hmac_f1 prf_Hmac_f1_1
  have hl : (t.map (· ^^^ m)).length = 64 := by simp [ht]
  generalize hT : t.map (· ^^^ m) = T at hl
  refine (loopK_run (fun i : Nat => ((m, b, t, (i : Int), ()), (T.take i, ()))) (n := 64) ?_ (e := ((b, ()), (T, ()))) ?_ (by omega)).trans ?_
  · intro i hi
    have hti : (T.take i).length = i := by simp; omega
    have hg : T.getD i 0 = t.getD i 0 ^^^ m := by
      rw [← hT]; simp [List.getD, List.getElem?_eq_getElem (show i < t.length by omega)]
    show prf_Hmac_f1_s2 N m b t _ _ = _
    unfold prf_Hmac_f1_s2
    simp (disch := omega) only [dpos, dneg, w64_of, inR_of, room_of, tmod_of, cond_true, cond_false, Bool.and_self, Bool.and_true, Bool.true_and, Bool.and_false, Bool.false_and, Bool.not_true, Bool.not_false, Option.bind_some, List.length_cons, List.length_nil, Nat.zero_add, Int.toNat_natCast, Int.natCast_add, Int.natCast_one, hti]
    rw [take_snoc T 0 (by omega), hg]
  · show prf_Hmac_f1_s2 N m b t _ _ = _
    unfold prf_Hmac_f1_s2
    simp (disch := omega) only [dpos, dneg, w64_of, inR_of, room_of, tmod_of, cond_true, cond_false, Bool.and_self, Bool.and_true, Bool.true_and, Bool.and_false, Bool.false_and, Bool.not_true, Bool.not_false, Option.bind_some, List.length_cons, List.length_nil, Nat.zero_add, List.take_of_length_le (show T.length ≤ 64 by omega)]
  · show prf_Hmac_f1_3 N b T = _
    unfold prf_Hmac_f1_3
    have ha : (T ++ b).length ≤ 17592186044516 := by rw [List.length_append]; omega
    simp (disch := omega) only [dpos, dneg, w64_of, inR_of, room_of, tmod_of, cond_true, cond_false, Bool.and_self, Bool.and_true, Bool.true_and, Bool.and_false, Bool.false_and, Bool.not_true, Bool.not_false, Option.bind_some, List.length_cons, List.length_nil, Nat.zero_add, sha_sum]
theorem prf_hmac (N : Nat) {k b : List UInt8} (hk' : k.length ≤ 17592186044416) (hb : b.length ≤ 17592186044416) (hN : 4611686018427387904 ≤ N) : prf_Hmac N k b = some ((), (hmac k b, ())) := by
  have h1 : ∀ k : List UInt8, k.length ≤ 64 → prf_Hmac_1 N k b (List.replicate 64 0) = some ((), (sha (mk 92 k ++ sha (mk 54 k ++ b)), ())) := by
    intro k hk
    have hp := pk64_len k hk
    have hs := sha_len (mk 54 k ++ b)
    unfold prf_Hmac_1
    show (prf_Hmac_f1 N 54 b (pk64 k)).bind _ = _
    rw [hmac_f1 N 54 hp hb hN, Option.bind_some]
    show (prf_Hmac_f1 N 92 (sha (mk 54 k ++ b)) (pk64 k)).bind _ = _
    rw [hmac_f1 N 92 hp (by omega) hN, Option.bind_some]
    rfl
  unfold prf_Hmac hmac hk
  by_cases h : (64 : Int) < (k.length : Int)
  · have hs := sha_len k
    simp (disch := omega) only [dpos, dneg, w64_of, inR_of, room_of, tmod_of, cond_true, cond_false, Bool.and_self, Bool.and_true, Bool.true_and, Bool.and_false, Bool.false_and, Bool.not_true, Bool.not_false, Option.bind_some, List.length_cons, List.length_nil, Nat.zero_add, sha_sum, h1, if_pos]
  · simp (disch := omega) only [dpos, dneg, w64_of, inR_of, room_of, tmod_of, cond_true, cond_false, Bool.and_self, Bool.and_true, Bool.true_and, Bool.and_false, Bool.false_and, Bool.not_true, Bool.not_false, Option.bind_some, List.length_cons, List.length_nil, Nat.zero_add, h1, if_neg]
theorem join_ok (N : Nat) {l : List (List UInt8)} (hl : l.length ≤ 1000000) (hf : l.flatten.length ≤ 35184372088832) (hN : 4611686018427387904 ≤ N) : ref09_Join N l = some ((), (l.flatten, ())) := by
  unfold ref09_Join ref09_Join_1
  refine (loopK_run (fun i : Nat => ((l, (i : Int), ()), ((l.take i).flatten, ()))) (n := l.length) ?_ (e := ((), (l.flatten, ()))) ?_ (by omega)).trans rfl
  · intro i hi
    have e : (l.take (i + 1)).flatten = (l.take i).flatten ++ l.getD i [] := by rw [take_snoc l [] hi]; simp
    have h2 : ((l.take (i + 1)).flatten).length ≤ l.flatten.length := by
      have := congrArg (fun x => x.flatten.length) (List.take_append_drop (i + 1) l)
      simp only [List.flatten_append, List.length_append] at this
      omega
    rw [e, List.length_append] at h2
    show ref09_Join_s2 N l _ _ = _
    unfold ref09_Join_s2
    simp (disch := omega) only [dpos, dneg, w64_of, inR_of, room_of, tmod_of, cond_true, cond_false, Bool.and_self, Bool.and_true, Bool.true_and, Bool.and_false, Bool.false_and, Bool.not_true, Bool.not_false, Option.bind_some, List.length_cons, List.length_nil, Nat.zero_add, Int.toNat_natCast, Int.natCast_add, Int.natCast_one, e]
  · show ref09_Join_s2 N l _ _ = _
    unfold ref09_Join_s2
    simp (disch := omega) only [dpos, dneg, w64_of, inR_of, room_of, tmod_of, cond_true, cond_false, Bool.and_self, Bool.and_true, Bool.true_and, Bool.and_false, Bool.false_and, Bool.not_true, Bool.not_false, Option.bind_some, List.length_cons, List.length_nil, Nat.zero_add, List.take_length]
theorem join2 (N : Nat) {a b : List UInt8} (h : a.length + b.length ≤ 35184372088832) (hN : 4611686018427387904 ≤ N) : ref09_Join N [a, b] = some ((), (a ++ b, ())) := by
  rw [join_ok N (by simp) (by simpa using h) hN]; simp
theorem join3 (N : Nat) {a b c : List UInt8} (h : a.length + b.length + c.length ≤ 35184372088832) (hN : 4611686018427387904 ≤ N) : ref09_Join N [a, b, c] = some ((), (a ++ b ++ c, ())) := by
  rw [join_ok N (by simp) (by simp; omega) hN]; simp
theorem join4 (N : Nat) {a b c d : List UInt8} (h : a.length + b.length + c.length + d.length ≤ 35184372088832) (hN : 4611686018427387904 ≤ N) : ref09_Join N [a, b, c, d] = some ((), (a ++ b ++ c ++ d, ())) := by
  rw [join_ok N (by simp) (by simp; omega) hN]; simp
theorem set_mid (A : List UInt8) (x v : UInt8) (B : List UInt8) {i : Nat} (h : A.length = i) : (A ++ x :: B).set i v = A ++ v :: B := by
  subst h; simp
theorem getD_mid (A : List UInt8) (x : UInt8) (B : List UInt8) {i : Nat} (h : A.length = i) : (A ++ x :: B).getD i 0 = x := by
  subst h; simp [List.getD]
theorem pk64_get {k : List UInt8} (h : k.length ≤ 64) {i : Nat} (hi : i < 64) : (pk64 k).getD i 0 = if i < k.length then k.getD i 0 else 0 := by
  have e : pk64 k = k ++ List.replicate (64 - k.length) 0 := by
    unfold pk64 splice
    rw [List.take_of_length_le (by rw [List.length_replicate]; exact h), List.drop_replicate]
  rw [e]
  split
  · simp [List.getD, List.getElem?_append_left ‹_›]
  · simp only [List.getD, List.getElem?_append_right (by omega : k.length ≤ i)]
    rw [List.getElem?_replicate]
    split <;> rfl
theorem mask_ok1 (N : Nat) {k : List UInt8} (m : UInt8) (h : k.length ≤ 64) (hN : 4611686018427387904 ≤ N) : ref09_mask_1 N k m = some ((), (mk m k, ())) := by
  unfold ref09_mask_1 ref09_mask_2
  have hl := mk_len m h
  have hg : ∀ i, i < 64 → (mk m k).getD i 0 = if i < k.length then m ^^^ k.getD i 0 else m := by
    intro i hi
    have : (mk m k).getD i 0 = (pk64 k).getD i 0 ^^^ m := by
      unfold mk; simp [List.getD, List.getElem?_eq_getElem (show i < (pk64 k).length by rw [pk64_len k h]; exact hi)]
    rw [this, pk64_get h hi]
    split
    · exact UInt8.xor_comm ..
    · simp
  generalize mk m k = T at hl hg
  have h64N : 64 < N := by omega
  refine (loopK_run (fun i : Nat => ((k, m, (i : Int), ()), (T.take i ++ List.replicate (64 - i) 0, ()))) (n := 64) ?_ (e := ((), (T, ()))) ?_ h64N).trans rfl
  · intro i hi
    have hti : (T.take i).length = i := by simp; omega
    have hr : List.replicate (64 - i) (0 : UInt8) = 0 :: List.replicate (64 - (i + 1)) 0 := by rw [show 64 - i = (64 - (i + 1)) + 1 by omega, List.replicate_succ]
    show ref09_mask_s3 N k m _ _ = _
    unfold ref09_mask_s3
    have h64 : (T.take i ++ m :: List.replicate (64 - (i + 1)) 0).length = 64 := by simp; omega
    have h64' : (T.take i ++ (0 : UInt8) :: List.replicate (64 - (i + 1)) 0).length = 64 := by simp; omega
    rw [take_snoc T 0 (by omega), hg i hi, hr]
    simp only [Int.toNat_natCast, set_mid _ _ _ _ hti, getD_mid _ _ _ hti]
    by_cases hik : i < k.length
    · simp (disch := omega) only [dpos, dneg, w64_of, inR_of, room_of, tmod_of, cond_true, cond_false, Bool.and_self, Bool.and_true, Bool.true_and, Bool.and_false, Bool.false_and, Bool.not_true, Bool.not_false, Option.bind_some, List.length_cons, List.length_nil, Nat.zero_add, Int.natCast_add, Int.natCast_one, h64, h64', if_pos, List.append_assoc, List.cons_append, List.nil_append]
    · simp (disch := omega) only [dpos, dneg, w64_of, inR_of, room_of, tmod_of, cond_true, cond_false, Bool.and_self, Bool.and_true, Bool.true_and, Bool.and_false, Bool.false_and, Bool.not_true, Bool.not_false, Option.bind_some, List.length_cons, List.length_nil, Nat.zero_add, Int.natCast_add, Int.natCast_one, h64, h64', if_neg, List.append_assoc, List.cons_append, List.nil_append]
  · show ref09_mask_s3 N k m _ _ = _
    unfold ref09_mask_s3
    simp (disch := omega) only [dpos, dneg, w64_of, inR_of, room_of, tmod_of, cond_true, cond_false, Bool.and_self, Bool.and_true, Bool.true_and, Bool.and_false, Bool.false_and, Bool.not_true, Bool.not_false, Option.bind_some, List.length_cons, List.length_nil, Nat.zero_add, List.take_of_length_le (show T.length ≤ 64 by omega)]
    simp
theorem mask_ok (N : Nat) {k : List UInt8} (m : UInt8) (h : k.length ≤ 17592186044416) (hN : 4611686018427387904 ≤ N) : ref09_mask N k m = some ((), (mk m (hk k), ())) := by
  unfold ref09_mask hk
  by_cases h64 : (64 : Int) < (k.length : Int)
  · have hs := sha_len k
    simp (disch := omega) only [dpos, dneg, w64_of, inR_of, room_of, tmod_of, cond_true, cond_false, Bool.and_self, Bool.and_true, Bool.true_and, Bool.and_false, Bool.false_and, Bool.not_true, Bool.not_false, Option.bind_some, List.length_cons, List.length_nil, Nat.zero_add, ref_sum, mask_ok1, if_pos]
  · simp (disch := omega) only [dpos, dneg, w64_of, inR_of, room_of, tmod_of, cond_true, cond_false, Bool.and_self, Bool.and_true, Bool.true_and, Bool.and_false, Bool.false_and, Bool.not_true, Bool.not_false, Option.bind_some, List.length_cons, List.length_nil, Nat.zero_add, mask_ok1, if_neg]
theorem ref_hmac (N : Nat) {k b : List UInt8} (hk' : k.length ≤ 17592186044416) (hb : b.length ≤ 17592186044416) (hN : 4611686018427387904 ≤ N) : ref09_Hmac N k b = some ((), (hmac k b, ())) := by
  have h1 := mk_len 92 (hk_len k)
  have h2 := mk_len 54 (hk_len k)
  have h5 : (mk 54 (hk k) ++ b).length ≤ 17592186044516 := by simp; omega
  have h6 := sha_len (mk 54 (hk k) ++ b)
  have h7 : (mk 92 (hk k) ++ sha (mk 54 (hk k) ++ b)).length ≤ 17592186044516 := by rw [List.length_append]; omega
  unfold ref09_Hmac hmac
  simp (disch := omega) only [dpos, dneg, w64_of, inR_of, room_of, tmod_of, cond_true, cond_false, Bool.and_self, Bool.and_true, Bool.true_and, Bool.and_false, Bool.false_and, Bool.not_true, Bool.not_false, Option.bind_some, List.length_cons, List.length_nil, Nat.zero_add, mask_ok, join2, ref_sum]
end
end Go.Proofs.YtofajgidjkjnpaaDoor.Pl
