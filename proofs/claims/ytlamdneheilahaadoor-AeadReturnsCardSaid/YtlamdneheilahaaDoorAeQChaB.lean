/- Plain: ChaCha20 over bytes, the program's and the reference's. -/
import Derived.Test.YtlamdneheilahaaDoorAeQChaA
import Derived.Test.YtlamdneheilahaaDoorFnsAeadReturnsA
set_option linter.unusedVariables false
set_option linter.unusedSimpArgs false
namespace Go.Proofs.YtlamdneheilahaaDoor.Pl
open Go
noncomputable section
theorem set_mid (A : List UInt8) (x v : UInt8) (B : List UInt8) {i : Nat} (h : A.length = i) : (A ++ x :: B).set i v = A ++ v :: B := by
  subst h; simp
theorem getD_mid (A : List UInt8) (x : UInt8) (B : List UInt8) {i : Nat} (h : A.length = i) : (A ++ x :: B).getD i 0 = x := by
  subst h; simp [List.getD]
/-- The encrypted bytes. -/
def cx (k : List UInt8) (c : UInt32) (n b : List UInt8) : List UInt8 := (List.range b.length).map fun i => b.getD i 0 ^^^ (cblk k (c + UInt32.ofNat (i / 64)) n).getD (i % 64) 0
theorem cx_len (k : List UInt8) (c : UInt32) (n b : List UInt8) : (cx k c n b).length = b.length := by simp [cx]
theorem cx_get (k : List UInt8) (c : UInt32) (n b : List UInt8) {i : Nat} (h : i < b.length) : (cx k c n b).getD i 0 = b.getD i 0 ^^^ (cblk k (c + UInt32.ofNat (i / 64)) n).getD (i % 64) 0 := by
  simp [cx, List.getD, h]
theorem cx_twice (k : List UInt8) (c : UInt32) (n b : List UInt8) : cx k c n (cx k c n b) = b := by
  apply List.ext_getElem
  · rw [cx_len, cx_len]
  · intro i h1 h2
    have e1 : (cx k c n (cx k c n b)).getD i 0 = (cx k c n (cx k c n b))[i] := by simp [List.getD, h1]
    have e2 : b.getD i 0 = b[i] := by simp [List.getD, h2]
    rw [← e1, ← e2, cx_get _ _ _ _ (by rw [cx_len]; exact h2), cx_get _ _ _ _ h2, UInt8.xor_assoc, UInt8.xor_self, UInt8.xor_zero]
def ctr (c : UInt32) : Nat → UInt32
  | 0 => c
  | i + 1 => if i % 64 = 0 then ctr c i + 1 else ctr c i
theorem ctr_val (c : UInt32) (i : Nat) : ctr c i = c + UInt32.ofNat ((i + 63) / 64) := by
  induction i with
  | zero => simp [ctr]
  | succ i ih =>
    rw [ctr]
    split
    · rename_i h
      rw [ih, show (i + 1 + 63) / 64 = (i + 63) / 64 + 1 by omega, UInt32.ofNat_add, UInt32.add_assoc]; rfl
    · rename_i h
      rw [ih, show (i + 1 + 63) / 64 = (i + 63) / 64 by omega]
def msk (k : List UInt8) (c : UInt32) (n : List UInt8) : Nat → List UInt8
  | 0 => []
  | i + 1 => cblk k (c + UInt32.ofNat (i / 64)) n
section
variable (N : Nat) (hN : 4611686018427387904 ≤ N) {k n : List UInt8} (c : UInt32) (hk : k.length = 32) (hn : n.length = 12)
include hN hk hn
theorem xor_ok {b : List UInt8} (hb : b.length ≤ 17592186044416) : chacha_Xor N k c n b = some ((true, ()), (cx k c n b, ())) := by
  unfold chacha_Xor
  rw [(state_ok N hN c hk hn).1]
  simp only [dpos, dneg, w64_of, inR_of, room_of, tmod_of, cond_true, cond_false, Bool.and_self, Bool.and_true, Bool.true_and, Bool.and_false, Bool.false_and, Bool.not_true, Bool.not_false, Option.bind_some, List.length_cons, List.length_nil, Nat.zero_add]
  unfold chacha_Xor_1
  have hT := cx_len k c n b
  have hg := fun i h => cx_get k c n b (i := i) h
  generalize cx k c n b = T at hT hg
  have hbN : b.length < N := by omega
  refine (loopK_run (fun i : Nat => ((k, ctr c i, n, b, (b.length : Int), (i : Int), ()), (T.take i, msk k c n i, ()))) (n := b.length) ?_ (e := ((), (T, ()))) ?_ hbN).trans rfl
  · intro i hi
    have hti : (T.take i).length = i := by simp; omega
    have hcl := cblk_len k (c + UInt32.ofNat (i / 64)) n
    have ht := hg i hi
    show chacha_Xor_s2 N k _ n b _ _ _ _ = _
    unfold chacha_Xor_s2
    rw [take_snoc T 0 (by omega), ht]
    have e64 : ((i : Int) % 64).toNat = i % 64 := by omega
    by_cases hm : i % 64 = 0
    · have hbl : chacha_Block N k (ctr c i) n = some ((true, ()), (cblk k (c + UInt32.ofNat (i / 64)) n, ())) := by
        rw [cblock_ok N hN _ hk hn, ctr_val, show (i + 63) / 64 = i / 64 by omega]
      simp (disch := omega) only [dpos, dneg, w64_of, inR_of, room_of, tmod_of, cond_true, cond_false, Bool.and_self, Bool.and_true, Bool.true_and, Bool.and_false, Bool.false_and, Bool.not_true, Bool.not_false, Option.bind_some, List.length_cons, List.length_nil, Nat.zero_add, Int.toNat_natCast, e64, hbl, hti, ctr, msk, if_pos, Int.natCast_add, Int.natCast_one]
    · have hms : msk k c n i = cblk k (c + UInt32.ofNat (i / 64)) n := by
        cases i with
        | zero => simp at hm
        | succ i => rw [msk, show (i + 1) / 64 = i / 64 by omega]
      rw [hms]
      simp (disch := omega) only [dpos, dneg, w64_of, inR_of, room_of, tmod_of, cond_true, cond_false, Bool.and_self, Bool.and_true, Bool.true_and, Bool.and_false, Bool.false_and, Bool.not_true, Bool.not_false, Option.bind_some, List.length_cons, List.length_nil, Nat.zero_add, Int.toNat_natCast, e64, hti, ctr, msk, if_neg, Int.natCast_add, Int.natCast_one]
  · show chacha_Xor_s2 N k _ n b _ _ _ _ = _
    unfold chacha_Xor_s2
    simp (disch := omega) only [dpos, dneg, w64_of, inR_of, room_of, tmod_of, cond_true, cond_false, Bool.and_self, Bool.and_true, Bool.true_and, Bool.and_false, Bool.false_and, Bool.not_true, Bool.not_false, Option.bind_some, List.length_cons, List.length_nil, Nat.zero_add]
    rw [List.take_of_length_le (by omega)]
theorem rxor_ok {b : List UInt8} (hb : b.length ≤ 17592186044416) : ref10_Xor N k c n b = some ((true, ()), (cx k c n b, ())) := by
  unfold ref10_Xor ref10_Xor_1
  simp (disch := omega) only [dpos, dneg, w64_of, inR_of, room_of, tmod_of, cond_true, cond_false, Bool.and_self, Bool.and_true, Bool.true_and, Bool.and_false, Bool.false_and, Bool.not_true, Bool.not_false, Option.bind_some, List.length_cons, List.length_nil, Nat.zero_add]
  unfold ref10_Xor_2
  have hT := cx_len k c n b
  have hg := fun i h => cx_get k c n b (i := i) h
  generalize cx k c n b = T at hT hg
  have hmN : (b.length + 63) / 64 < N := by omega
  refine (loopK_run (fun j : Nat => ((k, c, n, b, ((64 * j : Nat) : Int), ()), (T.take (64 * j) ++ b.drop (64 * j), ()))) (n := (b.length + 63) / 64) ?_ (e := ((), (T, ()))) ?_ hmN).trans rfl
  · intro j hj
    show ref10_Xor_s3 N k c n b _ _ = _
    have hj64 : 64 * j < b.length := by omega
    unfold ref10_Xor_s3 ref10_Xor_4 ref10_Xor_6
    have hdiv : (((64 * j : Nat) : Int).tdiv 64) = (j : Int) := by
      rw [Int.tdiv_eq_ediv_of_nonneg (by omega)]; omega
    have hi32 : iu32 (j : Int) = UInt32.ofNat j := by
      apply UInt32.toNat_inj.1
      show (BitVec.ofInt 32 (j : Int)).toNat = _
      rw [BitVec.ofInt_natCast, BitVec.toNat_ofNat, UInt32.toNat_ofNat']
    have hbl : ref10_Block N k (c + UInt32.ofNat j) n = some ((true, ()), (cblk k (c + UInt32.ofNat j) n, ())) := rblock_ok N hN _ hk hn
    simp (disch := omega) only [dpos, dneg, w64_of, inR_of, room_of, tmod_of, cond_true, cond_false, Bool.and_self, Bool.and_true, Bool.true_and, Bool.and_false, Bool.false_and, Bool.not_true, Bool.not_false, Option.bind_some, List.length_cons, List.length_nil, Nat.zero_add, hdiv, hi32, hbl]
    unfold ref10_Xor_7
    obtain ⟨m, hm⟩ : ∃ m, m = min 64 (b.length - 64 * j) := ⟨_, rfl⟩
    have hmN' : m < N := by omega
    have hcl := cblk_len k (c + UInt32.ofNat j) n
    refine (loopK_run (fun q : Nat => ((k, c, n, b, ((64 * j : Nat) : Int), ((64 * j + q : Nat) : Int), ()), (T.take (64 * j + q) ++ b.drop (64 * j + q), cblk k (c + UInt32.ofNat j) n, ()))) (n := m) ?_ (e := ((k, c, n, b, ((64 * j : Nat) : Int), ()), (T.take (64 * j + m) ++ b.drop (64 * j + m), ()))) ?_ hmN').trans ?_
    · intro q hq
      have ht := hg (64 * j + q) (by omega)
      rw [show (64 * j + q) / 64 = j by omega, show (64 * j + q) % 64 = q by omega] at ht
      have hti : (T.take (64 * j + q)).length = 64 * j + q := by simp; omega
      have hd : b.drop (64 * j + q) = b.getD (64 * j + q) 0 :: b.drop (64 * j + q + 1) := by
        rw [List.drop_eq_getElem_cons (by omega)]; simp [List.getD, show 64 * j + q < b.length by omega]
      have e1 : (((64 * j + q : Nat) : Int) - ((64 * j : Nat) : Int)).toNat = q := by omega
      have l1 : (T.take (64 * j + q) ++ b.getD (64 * j + q) 0 :: b.drop (64 * j + q + 1)).length = b.length := by simp; omega
      show ref10_Xor_s8 N k c n b _ _ _ _ = _
      unfold ref10_Xor_s8 ref10_Xor_9
      rw [show 64 * j + (q + 1) = 64 * j + q + 1 by omega, take_snoc T 0 (by omega), ht, hd]
      simp (disch := omega) only [dpos, dneg, w64_of, inR_of, room_of, tmod_of, cond_true, cond_false, Bool.and_self, Bool.and_true, Bool.true_and, Bool.and_false, Bool.false_and, Bool.not_true, Bool.not_false, Option.bind_some, List.length_cons, List.length_nil, Nat.zero_add, Int.toNat_natCast, e1, l1, set_mid _ _ _ _ hti, getD_mid _ _ _ hti, List.append_assoc, List.cons_append, List.nil_append]
      rw [show ((64 * j + q : Nat) : Int) + 1 = ((64 * j + q + 1 : Nat) : Int) by omega]
    · show ref10_Xor_s8 N k c n b _ _ _ _ = _
      unfold ref10_Xor_s8 ref10_Xor_9
      by_cases hlast : b.length ≤ 64 * j + m
      · simp (disch := omega) only [dpos, dneg, w64_of, inR_of, room_of, tmod_of, cond_true, cond_false, Bool.and_self, Bool.and_true, Bool.true_and, Bool.and_false, Bool.false_and, Bool.not_true, Bool.not_false, Option.bind_some, List.length_cons, List.length_nil, Nat.zero_add]
      · simp (disch := omega) only [dpos, dneg, w64_of, inR_of, room_of, tmod_of, cond_true, cond_false, Bool.and_self, Bool.and_true, Bool.true_and, Bool.and_false, Bool.false_and, Bool.not_true, Bool.not_false, Option.bind_some, List.length_cons, List.length_nil, Nat.zero_add]
    · show ref10_Xor_10 N k c n b _ _ = _
      unfold ref10_Xor_10
      simp (disch := omega) only [dpos, dneg, w64_of, inR_of, room_of, tmod_of, cond_true, cond_false, Bool.and_self, Bool.and_true, Bool.true_and, Bool.and_false, Bool.false_and, Bool.not_true, Bool.not_false, Option.bind_some, List.length_cons, List.length_nil, Nat.zero_add]
      rw [show ((64 * j : Nat) : Int) + 64 = ((64 * (j + 1) : Nat) : Int) by omega]
      by_cases hfull : 64 ≤ b.length - 64 * j
      · rw [show 64 * j + m = 64 * (j + 1) by omega]
      · rw [List.take_of_length_le (show T.length ≤ 64 * j + m by omega), List.take_of_length_le (show T.length ≤ 64 * (j + 1) by omega), List.drop_of_length_le (show b.length ≤ 64 * j + m by omega), List.drop_of_length_le (show b.length ≤ 64 * (j + 1) by omega)]
  · show ref10_Xor_s3 N k c n b _ _ = _
    unfold ref10_Xor_s3
    simp (disch := omega) only [dpos, dneg, w64_of, inR_of, room_of, tmod_of, cond_true, cond_false, Bool.and_self, Bool.and_true, Bool.true_and, Bool.and_false, Bool.false_and, Bool.not_true, Bool.not_false, Option.bind_some, List.length_cons, List.length_nil, Nat.zero_add]
    rw [List.take_of_length_le (by omega), List.drop_of_length_le (by omega), List.append_nil]
end
end
end Go.Proofs.YtlamdneheilahaaDoor.Pl
