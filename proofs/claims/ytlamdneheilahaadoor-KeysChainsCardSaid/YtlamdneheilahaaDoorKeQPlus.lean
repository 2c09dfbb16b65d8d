/- Plain: the bytes of a key, and how bytes are cut; the laws PrfNests and PrfMany. -/
import Derived.Test.YtlamdneheilahaaDoorKeQPrf
import Derived.Test.YtlamdneheilahaaDoorFnsKeysChainsA
set_option linter.unusedVariables false
set_option linter.unusedSimpArgs false
namespace Go.Proofs.YtlamdneheilahaaDoor.Pl
open Go
noncomputable section
def tt (k s : List UInt8) : Nat → List UInt8
  | 0 => []
  | i + 1 => hmac k (tt k s i ++ s ++ [iu8 ((i : Int) + 1)])
def oo (k s : List UInt8) : Nat → List UInt8
  | 0 => []
  | i + 1 => oo k s i ++ tt k s (i + 1)
theorem tt_len (k s : List UInt8) (i : Nat) : (tt k s i).length ≤ 32 := by
  cases i with
  | zero => simp [tt]
  | succ i => rw [tt, hmac_len]; exact Nat.le_refl _
theorem oo_len (k s : List UInt8) (i : Nat) : (oo k s i).length = 32 * i := by
  induction i with
  | zero => rfl
  | succ i ih => rw [oo, List.length_append, ih, tt, hmac_len]; omega
def plus (k s : List UInt8) (n : Nat) : List UInt8 := (oo k s ((n + 31) / 32)).take n
theorem plus_len (k s : List UInt8) (n : Nat) : (plus k s n).length = n := by
  unfold plus; rw [List.length_take, oo_len]; omega
theorem prf_plus (N : Nat) {k s : List UInt8} {n : Int} (hk : k.length ≤ 17592186044416) (hs : s.length ≤ 8796093022208) (h0 : 0 ≤ n) (h1 : n ≤ 8160) (hN : 4611686018427387904 ≤ N) :
    prf_Plus N k s n = some ((plus k s n.toNat, 0, ()), ()) := by
  obtain ⟨m, rfl⟩ := Int.eq_ofNat_of_zero_le h0
  unfold prf_Plus prf_Plus_1
  simp (disch := omega) only [dpos, dneg, w64_of, inR_of, room_of, tmod_of, cond_true, cond_false, Bool.and_self, Bool.and_true, Bool.true_and, Bool.and_false, Bool.false_and, Bool.not_true, Bool.not_false, Option.bind_some, List.length_cons, List.length_nil, Nat.zero_add, Int.toNat_natCast]
  obtain ⟨c, hc⟩ : ∃ c, c = (m + 31) / 32 := ⟨_, rfl⟩
  have hcN : c < N := by omega
  unfold prf_Plus_2
  refine (loopK_run (fun i : Nat => ((k, s, (m : Int), (i : Int) + 1, ()), (oo k s i, tt k s i, ()))) (n := c) ?_ (e := (((m : Int), ()), (oo k s c, ()))) ?_ hcN).trans ?_
  · intro i hi
    have l1 := oo_len k s i
    have l2 := tt_len k s i
    have l3 := hmac_len k (tt k s i ++ s ++ [iu8 ((i : Int) + 1)])
    have l4 : (tt k s i ++ s).length ≤ 8796093022308 := by rw [List.length_append]; omega
    have l5 : (tt k s i ++ s ++ [iu8 ((i : Int) + 1)]).length ≤ 8796093022408 := by simp; omega
    show prf_Plus_s3 N k s _ _ _ _ = _
    unfold prf_Plus_s3
    simp (disch := omega) only [dpos, dneg, w64_of, inR_of, room_of, tmod_of, cond_true, cond_false, Bool.and_self, Bool.and_true, Bool.true_and, Bool.and_false, Bool.false_and, Bool.not_true, Bool.not_false, Option.bind_some, List.length_cons, List.length_nil, Nat.zero_add, prf_hmac, oo, tt, Int.natCast_add, Int.natCast_one]
  · have l1 := oo_len k s c
    show prf_Plus_s3 N k s _ _ _ _ = _
    unfold prf_Plus_s3
    simp (disch := omega) only [dpos, dneg, w64_of, inR_of, room_of, tmod_of, cond_true, cond_false, Bool.and_self, Bool.and_true, Bool.true_and, Bool.and_false, Bool.false_and, Bool.not_true, Bool.not_false, Option.bind_some, List.length_cons, List.length_nil, Nat.zero_add]
  · have l1 := oo_len k s c
    show prf_Plus_4 N _ (oo k s c) = _
    unfold prf_Plus_4
    simp (disch := omega) only [dpos, dneg, w64_of, inR_of, room_of, tmod_of, cond_true, cond_false, Bool.and_self, Bool.and_true, Bool.true_and, Bool.and_false, Bool.false_and, Bool.not_true, Bool.not_false, Option.bind_some, List.length_cons, List.length_nil, Nat.zero_add, Int.toNat_natCast, cut, List.drop_zero, plus, ← hc]
theorem ref_plus (N : Nat) {k s : List UInt8} {n : Int} (hk : k.length ≤ 17592186044416) (hs : s.length ≤ 8796093022208) (h0 : 0 ≤ n) (h1 : n ≤ 8160) (hN : 4611686018427387904 ≤ N) :
    ref09_Plus N k s n = some ((plus k s n.toNat, 0, ()), ()) := by
  obtain ⟨m, rfl⟩ := Int.eq_ofNat_of_zero_le h0
  unfold ref09_Plus ref09_Plus_1
  simp (disch := omega) only [dpos, dneg, w64_of, inR_of, room_of, tmod_of, cond_true, cond_false, Bool.and_self, Bool.and_true, Bool.true_and, Bool.and_false, Bool.false_and, Bool.not_true, Bool.not_false, Option.bind_some, List.length_cons, List.length_nil, Nat.zero_add, Int.toNat_natCast]
  obtain ⟨c, hc⟩ : ∃ c, c = (m + 31) / 32 := ⟨_, rfl⟩
  have hcN : c < N := by omega
  unfold ref09_Plus_2
  refine (loopK_run (fun i : Nat => ((k, s, (m : Int), (i : Int) + 1, ()), (oo k s i, tt k s i, ()))) (n := c) ?_ (e := (((m : Int), ()), (oo k s c, ()))) ?_ hcN).trans ?_
  · intro i hi
    have l1 := oo_len k s i
    have l2 := tt_len k s i
    have l3 := hmac_len k (tt k s i ++ s ++ [iu8 ((i : Int) + 1)])
    have l5 : (tt k s i ++ s ++ [iu8 ((i : Int) + 1)]).length ≤ 8796093022408 := by simp; omega
    have j : ref09_Join N [tt k s i, s, [iu8 ((i : Int) + 1)]] = some ((), (tt k s i ++ s ++ [iu8 ((i : Int) + 1)], ())) := join3 N (by simp; omega) hN
    show ref09_Plus_s3 N k s _ _ _ _ = _
    unfold ref09_Plus_s3
    simp (disch := omega) only [dpos, dneg, w64_of, inR_of, room_of, tmod_of, cond_true, cond_false, Bool.and_self, Bool.and_true, Bool.true_and, Bool.and_false, Bool.false_and, Bool.not_true, Bool.not_false, Option.bind_some, List.length_cons, List.length_nil, Nat.zero_add, j, ref_hmac, oo, tt, Int.natCast_add, Int.natCast_one]
  · have l1 := oo_len k s c
    show ref09_Plus_s3 N k s _ _ _ _ = _
    unfold ref09_Plus_s3
    simp (disch := omega) only [dpos, dneg, w64_of, inR_of, room_of, tmod_of, cond_true, cond_false, Bool.and_self, Bool.and_true, Bool.true_and, Bool.and_false, Bool.false_and, Bool.not_true, Bool.not_false, Option.bind_some, List.length_cons, List.length_nil, Nat.zero_add]
  · have l1 := oo_len k s c
    show ref09_Plus_4 N _ (oo k s c) = _
    unfold ref09_Plus_4
    simp (disch := omega) only [dpos, dneg, w64_of, inR_of, room_of, tmod_of, cond_true, cond_false, Bool.and_self, Bool.and_true, Bool.true_and, Bool.and_false, Bool.false_and, Bool.not_true, Bool.not_false, Option.bind_some, List.length_cons, List.length_nil, Nat.zero_add, Int.toNat_natCast, cut, List.drop_zero, plus, ← hc]
end
end Go.Proofs.YtlamdneheilahaaDoor.Pl
