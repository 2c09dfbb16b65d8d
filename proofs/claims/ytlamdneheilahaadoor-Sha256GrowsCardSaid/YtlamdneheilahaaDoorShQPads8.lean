/- Plain: the laws Sha256Pads and Sha256Grows. -/
import Derived.Test.YtlamdneheilahaaDoorShQSums8
import Derived.Test.YtlamdneheilahaaDoorFnsSha256GrowsA
set_option linter.unusedVariables false
set_option linter.unusedSimpArgs false
namespace Go.Proofs.YtlamdneheilahaaDoor.Pl
open Go
theorem shl8_or (a : UInt64) (x : UInt8) : (shl64 a 8 ||| x.toUInt64).toNat = (a.toNat * 256 + x.toNat) % 18446744073709551616 := by
  have h1 : (shl64 a 8).toNat = (a.toNat % 72057594037927936) <<< 8 := by
    show (a.toBitVec <<< 8).toNat = _
    rw [BitVec.toNat_shiftLeft, Nat.shiftLeft_eq, Nat.shiftLeft_eq]
    show a.toNat * 256 % 18446744073709551616 = _
    omega
  have hx : x.toNat < 2 ^ 8 := x.toNat_lt
  rw [UInt64.toNat_or, h1, UInt8.toNat_toUInt64, ← Nat.shiftLeft_add_eq_or_of_lt hx, Nat.shiftLeft_eq]
  have := a.toNat_lt
  omega
theorem digit (v : UInt64) {k : Nat} (hk : k < 8) : ((shr64 v (8 * (k : Int)).toNat).toUInt8).toNat = v.toNat / 256 ^ k % 256 := by
  rw [UInt64.toNat_toUInt8]
  show (v.toBitVec >>> ((8 * (k : Int)).toNat)).toNat % 256 = _
  rw [BitVec.toNat_ushiftRight, Nat.shiftRight_eq_div_pow, show (8 * (k : Int)).toNat = 8 * k by omega, Nat.pow_mul]
  rfl
theorem fold_be (v : UInt64) : ∀ {k : Nat} (a : UInt64), k ≤ 8 → ((be v k).foldl (fun v x => shl64 v 8 ||| x.toUInt64) a).toNat = (a.toNat * 256 ^ k + v.toNat % 256 ^ k) % 18446744073709551616 := by
  intro k
  induction k with
  | zero => intro a _; have := a.toNat_lt; simp [be]; omega
  | succ k ih =>
    intro a hk
    simp only [be, List.foldl_cons]
    rw [ih _ (by omega), shl8_or, digit v (by omega)]
    have e1 : v.toNat % 256 ^ (k + 1) = v.toNat / 256 ^ k % 256 * 256 ^ k + v.toNat % 256 ^ k := by
      rw [Nat.pow_succ, Nat.mod_mul]; rw [Nat.mul_comm]; omega
    rw [e1, Nat.add_mod, Nat.mul_mod, Nat.mod_mod, ← Nat.mul_mod, ← Nat.add_mod, Nat.add_mul, Nat.pow_succ, Nat.add_assoc]
    congr 2
    rw [Nat.mul_assoc, Nat.mul_comm 256]
theorem nbr_be (v : UInt64) : nbr (be v 8) = v := by
  apply UInt64.toNat_inj.1
  unfold nbr
  rw [fold_be v 0 (Nat.le_refl 8)]
  have := v.toNat_lt
  show (0 * 256 ^ 8 + v.toNat % 18446744073709551616) % 18446744073709551616 = _
  omega
theorem pads8_2 (N : Nat) (hN : 4611686018427387904 ≤ N) (n : Int) (v : UInt64) (z : Nat) (hz : z < 64) (hv : v = iu64 n * 8) : law08_Sha256Pads_2 N n v true (List.replicate z 0) ((List.replicate z (0 : UInt8)).length : Int) 0 = some ((true, ()), ()) := by
  unfold law08_Sha256Pads_2
  refine (loopK_run (fun i : Nat => ((n, v, true, List.replicate z 0, ((List.replicate z (0 : UInt8)).length : Int), (i : Int), ()), ())) (n := z) ?_ (e := ((n, v, true, ()), ())) ?_ (by omega)).trans ?_
  · intro i hi
    show law08_Sha256Pads_s3 N n v true _ _ _ = _
    unfold law08_Sha256Pads_s3
    have hg : (List.replicate z (0 : UInt8)).getD i 0 = 0 := by simp [List.getD, hi]
    simp (disch := omega) only [dpos, dneg, w64_of, inR_of, room_of, tmod_of, cond_true, cond_false, Bool.and_self, Bool.and_true, Bool.true_and, Bool.and_false, Bool.false_and, Bool.not_true, Bool.not_false, Option.bind_some, List.length_cons, List.length_nil, Nat.zero_add, List.length_replicate, Int.toNat_natCast, hg, decide_true, Int.natCast_add, Int.natCast_one]
  · show law08_Sha256Pads_s3 N n v true _ _ _ = _
    unfold law08_Sha256Pads_s3
    simp (disch := omega) only [dpos, dneg, w64_of, inR_of, room_of, tmod_of, cond_true, cond_false, Bool.and_self, Bool.and_true, Bool.true_and, Bool.and_false, Bool.false_and, Bool.not_true, Bool.not_false, Option.bind_some, List.length_cons, List.length_nil, Nat.zero_add, List.length_replicate]
  · show law08_Sha256Pads_4 N n v true = _
    unfold law08_Sha256Pads_4
    simp [hv]
theorem pads8 (l : Int) (h0 : -9223372036854775808 ≤ l) (h1 : l ≤ 9223372036854775807) : law08_Sha256Pads 18446744073709551616 l = some ((true, ()), ()) := by
  unfold law08_Sha256Pads
  rw [awake08]
  generalize hN0 : 18446744073709551616 = N
  have hN : 4611686018427387904 ≤ N := by omega
  clear hN0
  obtain ⟨n, hn, hlt⟩ : ∃ n : Nat, make_Mod N l 1099511627776 = some (((n : Int), ()), ()) ∧ n < 1099511627776 := by
    unfold make_Mod
    have e : l.tmod 1099511627776 = if 0 ≤ l then l % 1099511627776 else -((-l) % 1099511627776) := by
      split
      · exact Int.tmod_eq_emod_of_nonneg ‹_›
      · rw [← Int.tmod_eq_emod_of_nonneg (by omega : 0 ≤ -l), Int.neg_tmod, Int.neg_neg]
    rw [e]
    by_cases hl : l.tmod 1099511627776 < 0
    · rw [e] at hl
      refine ⟨((if 0 ≤ l then l % 1099511627776 else -((-l) % 1099511627776)) + 1099511627776).toNat, ?_, by omega⟩
      simp (disch := omega) only [dpos, dneg, w64_of, inR_of, room_of, tmod_of, cond_true, cond_false, Bool.and_self, Bool.and_true, Bool.true_and, Bool.and_false, Bool.false_and, Bool.not_true, Bool.not_false, Option.bind_some, List.length_cons, List.length_nil, Nat.zero_add]
      rw [Int.toNat_of_nonneg (by omega)]
    · rw [e] at hl
      refine ⟨(if 0 ≤ l then l % 1099511627776 else -((-l) % 1099511627776)).toNat, ?_, by omega⟩
      simp (disch := omega) only [dpos, dneg, w64_of, inR_of, room_of, tmod_of, cond_true, cond_false, Bool.and_self, Bool.and_true, Bool.true_and, Bool.and_false, Bool.false_and, Bool.not_true, Bool.not_false, Option.bind_some, List.length_cons, List.length_nil, Nat.zero_add]
      rw [Int.toNat_of_nonneg (by omega)]
  have hp := pad_len n
  obtain ⟨z, hz⟩ : ∃ z, z = (119 - n % 64) % 64 := ⟨_, rfl⟩
  have hpad : pad n = (128 :: List.replicate z 0) ++ be (iu64 (n : Int) * 8) 8 := by unfold pad; rw [hz]
  have hg : (pad n).getD (Int.toNat 0) 0 = 128 := by rw [hpad]; rfl
  have hg' : (pad n).getD 0 0 = 128 := by rw [hpad]; rfl
  simp (disch := omega) only [dpos, dneg, w64_of, inR_of, room_of, tmod_of, cond_true, cond_false, Bool.and_self, Bool.and_true, Bool.true_and, Bool.and_false, Bool.false_and, Bool.not_true, Bool.not_false, Option.bind_some, List.length_cons, List.length_nil, Nat.zero_add, hn, sha_pad, Int.toNat_natCast, hg, hg', decide_true]
  unfold law08_Sha256Pads_1
  have hd : ((pad n).drop (((pad n).length : Int) - 8).toNat).take (8 : Int).toNat = be (iu64 (n : Int) * 8) 8 := by
    have e1 : (((pad n).length : Int) - 8).toNat = (128 :: List.replicate z (0 : UInt8)).length := by simp; omega
    rw [e1, hpad, List.drop_left, List.take_of_length_le (by rw [be_len]; decide)]
  have hc : cut (pad n) 1 (((pad n).length : Int) - 8).toNat = List.replicate z 0 := by
    have e1 : (((pad n).length : Int) - 8).toNat = 1 + z := by omega
    rw [e1, cut_at, hpad]
    show (List.replicate z (0 : UInt8) ++ _).take z = _
    rw [List.take_left' (by simp)]
  simp (disch := omega) only [dpos, dneg, w64_of, inR_of, room_of, tmod_of, cond_true, cond_false, Bool.and_self, Bool.and_true, Bool.true_and, Bool.and_false, Bool.false_and, Bool.not_true, Bool.not_false, Option.bind_some, List.length_cons, List.length_nil, Nat.zero_add, wire_number, hd, hc, nbr_be]
  exact pads8_2 N hN _ _ z (by omega) rfl

theorem grow_out (M : Nat) (x : List UInt8) (a b c d e f g h : UInt32) : law08_Sha256Grows_6 (M + 20) x [a, b, c, d, e, f, g, h] 0 [] = law08_Sha256Grows_8 (M + 20) x (out8 [a, b, c, d, e, f, g, h]) := by kernel_rfl
theorem grows8_1 (N : Nat) (hN : 4611686018427387904 ≤ N) (b : List UInt8) (hb : b.length ≤ 1000) : law08_Sha256Grows_1 N b = some ((true, ()), ()) := by
  unfold law08_Sha256Grows_1
  have hp := pad_len b.length
  have hl : (b ++ pad b.length).length = b.length + (pad b.length).length := List.length_append ..
  simp (disch := omega) only [dpos, dneg, w64_of, inR_of, room_of, tmod_of, cond_true, cond_false, Bool.and_self, Bool.and_true, Bool.true_and, Bool.and_false, Bool.false_and, Bool.not_true, Bool.not_false, Option.bind_some, List.length_cons, List.length_nil, Nat.zero_add, sha_pad, Int.toNat_natCast]
  unfold law08_Sha256Grows_2
  simp only [cond_false]
  have ha := all_len b
  have hs : sha b = out8 (chain (b ++ pad b.length) g_sha256_initial ((b ++ pad b.length).length / 64)) := rfl
  generalize b ++ pad b.length = all at ha hl hs
  generalize all.length / 64 = n at ha hs
  show law08_Sha256Grows_3 N b 0 all g_sha256_initial = _
  have hst : g_sha256_initial.length = 8 := rfl
  generalize g_sha256_initial = st at hst hs
  unfold law08_Sha256Grows_3
  refine (loopK_run (fun i : Nat => ((b, all, ((64 * i : Nat) : Int), ()), (chain all st i, ()))) (n := n) ?_ (e := ((b, ()), (chain all st n, ()))) ?_ (by omega)).trans ?_
  · intro i hi
    have hc := chain_len all hst i
    have e2 : ((64 * i : Nat) : Int) + 64 = ((64 * (i + 1) : Nat) : Int) := by omega
    have e3 : cut all (64 * i) (64 * (i + 1)) = (all.drop (64 * i)).take 64 := cut_at all (64 * i) 64
    have e4 : ((all.drop (64 * i)).take 64).length = 64 := by simp; omega
    show law08_Sha256Grows_s4 N _ _ _ _ = _
    unfold law08_Sha256Grows_s4
    simp (disch := omega) only [dpos, dneg, w64_of, inR_of, room_of, tmod_of, cond_true, cond_false, Bool.and_self, Bool.and_true, Bool.true_and, Bool.and_false, Bool.false_and, Bool.not_true, Bool.not_false, Option.bind_some, List.length_cons, List.length_nil, Nat.zero_add, e2, Int.toNat_natCast, e3, sha_block, hc, e4, chain]
  · show law08_Sha256Grows_s4 N _ _ _ _ = _
    unfold law08_Sha256Grows_s4
    simp (disch := omega) only [dpos, dneg, w64_of, inR_of, room_of, tmod_of, cond_true, cond_false, Bool.and_self, Bool.and_true, Bool.true_and, Bool.and_false, Bool.false_and, Bool.not_true, Bool.not_false, Option.bind_some, List.length_cons, List.length_nil, Nat.zero_add]
  · show law08_Sha256Grows_5 N b (chain all st n) = _
    unfold law08_Sha256Grows_5
    obtain ⟨a, x, c, d, e, f, g, h, e1⟩ := list8 (chain_len all hst n)
    rw [e1] at hs ⊢
    obtain ⟨M, hM⟩ := Nat.exists_eq_add_of_le' (show 20 ≤ N by omega)
    have : law08_Sha256Grows_6 N b [a, x, c, d, e, f, g, h] 0 [] = law08_Sha256Grows_8 N b (out8 [a, x, c, d, e, f, g, h]) := by rw [hM]; exact grow_out M b a x c d e f g h
    rw [this, ← hs]
    unfold law08_Sha256Grows_8 wire_Equal bytes_Equal
    simp (disch := omega) only [dpos, dneg, w64_of, inR_of, room_of, tmod_of, cond_true, cond_false, Bool.and_self, Bool.and_true, Bool.true_and, Bool.and_false, Bool.false_and, Bool.not_true, Bool.not_false, Option.bind_some, List.length_cons, List.length_nil, Nat.zero_add, sha_sum, decide_true]
theorem grows8 (b : List UInt8) (hb : b.length ≤ 9223372036854775807) : law08_Sha256Grows 18446744073709551616 b = some ((true, ()), ()) := by
  unfold law08_Sha256Grows
  rw [awake08]
  generalize hN0 : 18446744073709551616 = N
  have hN : 4611686018427387904 ≤ N := by omega
  clear hN0
  by_cases h : (1000 : Int) < (b.length : Int)
  · have hc : (cut b 0 1000).length ≤ 1000 := by simp [cut]; omega
    simp (disch := omega) only [dpos, dneg, w64_of, inR_of, room_of, tmod_of, cond_true, cond_false, Bool.and_self, Bool.and_true, Bool.true_and, Bool.and_false, Bool.false_and, Bool.not_true, Bool.not_false, Option.bind_some, List.length_cons, List.length_nil, Nat.zero_add, grows8_1]
  · simp (disch := omega) only [dpos, dneg, w64_of, inR_of, room_of, tmod_of, cond_true, cond_false, Bool.and_self, Bool.and_true, Bool.true_and, Bool.and_false, Bool.false_and, Bool.not_true, Bool.not_false, Option.bind_some, List.length_cons, List.length_nil, Nat.zero_add, grows8_1]
end Go.Proofs.YtlamdneheilahaaDoor.Pl
