/- Plain: the law KeysProve. -/
import Derived.Test.YtlamdneheilahaaDoorShQKeys
import Derived.Test.YtlamdneheilahaaDoorShQSplit
import Derived.Test.YtlamdneheilahaaDoorShQMod
import Derived.Test.YtlamdneheilahaaDoorFnsKeysProveA
set_option linter.unusedVariables false
set_option linter.unusedSimpArgs false
namespace Go.Proofs.YtlamdneheilahaaDoor.Pl
open Go
theorem awake16 : law16_awake 18446744073709551616 = some ((true, ()), ()) := by kernel_rfl
theorem prove_ (m : List UInt8) (hm : m.length ≤ 140737488351232) (n : List UInt8) (hn : n.length ≤ 140737488351232) (p : List UInt8) (hp : p.length ≤ 140737488351232) (s : List UInt8) (hs : s.length ≤ 140737488351232)
    (k : Int) (hk : -9223372036854775808 ≤ k) (hk' : k ≤ 9223372036854775807) (d : List UInt8) (hd : d.length ≤ 140737488351232) : law16_KeysProve 18446744073709551616 m n p s k d = some ((true, ()), ()) := by
  unfold law16_KeysProve
  rw [awake16]
  generalize hN0 : 18446744073709551616 = N
  have hN : 4611686018427387904 ≤ N := by omega
  clear hN0
  simp (disch := omega) only [dpos, dneg, w64_of, inR_of, room_of, tmod_of, cond_true, cond_false, Bool.and_self, Bool.and_true, Bool.true_and, Bool.and_false, Bool.false_and, Bool.not_true, Bool.not_false, Option.bind_some, List.length_cons, List.length_nil, Nat.zero_add]
  by_cases c : (1500 : Int) < (m.length : Int) + (n.length : Int) + (p.length : Int) + (s.length : Int) + (d.length : Int)
  · simp (disch := omega) only [dpos, dneg, w64_of, inR_of, room_of, tmod_of, cond_true, cond_false, Bool.and_self, Bool.and_true, Bool.true_and, Bool.and_false, Bool.false_and, Bool.not_true, Bool.not_false, Option.bind_some, List.length_cons, List.length_nil, Nat.zero_add]
  · obtain ⟨m1, m2, m3⟩ := mod_ok N k (n := 256) (by omega) (by omega)
    simp (disch := omega) only [dpos, dneg, w64_of, inR_of, room_of, tmod_of, cond_true, cond_false, Bool.and_self, Bool.and_true, Bool.true_and, Bool.and_false, Bool.false_and, Bool.not_true, Bool.not_false, Option.bind_some, List.length_cons, List.length_nil, Nat.zero_add, m1]
    have l1 : ([iu8 (mod_ k 256), 0, 0, 0] ++ d).length ≤ 2000 := by simp; omega
    have l2 := hmac_len p ([iu8 (mod_ k 256), 0, 0, 0] ++ d)
    have l3 : (m ++ n ++ hmac p ([iu8 (mod_ k 256), 0, 0, 0] ++ d)).length ≤ 2000 := by rw [List.length_append, List.length_append]; omega
    unfold keys_Octets ref16_Octets
    simp (disch := omega) only [dpos, dneg, w64_of, inR_of, room_of, tmod_of, cond_true, cond_false, Bool.and_self, Bool.and_true, Bool.true_and, Bool.and_false, Bool.false_and, Bool.not_true, Bool.not_false, Option.bind_some, List.length_cons, List.length_nil, Nat.zero_add, prf_hmac, ref_hmac, kjoin3, join3, equal_ok, decide_true]
    generalize m ++ n ++ hmac p ([iu8 (mod_ k 256), 0, 0, 0] ++ d) = o at l3
    have hsh : ∀ kp : List UInt8, kp.length ≤ 100 → ((prf_Hmac N s kp).bind fun y1 => (prf_Hmac N y1.2.1 o).bind fun y2 => some ((), (y2.2.1, ()))) = some ((), (hmac (hmac s kp) o, ())) := by
      intro kp hkp
      have l4 := hmac_len s kp
      simp (disch := omega) only [dpos, dneg, w64_of, inR_of, room_of, tmod_of, cond_true, cond_false, Bool.and_self, Bool.and_true, Bool.true_and, Bool.and_false, Bool.false_and, Bool.not_true, Bool.not_false, Option.bind_some, List.length_cons, List.length_nil, Nat.zero_add, prf_hmac]
    have hrh : ∀ kp : List UInt8, kp.length ≤ 100 → ((ref09_Hmac N s kp).bind fun y1 => (ref09_Hmac N y1.2.1 o).bind fun y2 => some ((), (y2.2.1, ()))) = some ((), (hmac (hmac s kp) o, ())) := by
      intro kp hkp
      have l4 := hmac_len s kp
      simp (disch := omega) only [dpos, dneg, w64_of, inR_of, room_of, tmod_of, cond_true, cond_false, Bool.and_self, Bool.and_true, Bool.true_and, Bool.and_false, Bool.false_and, Bool.not_true, Bool.not_false, Option.bind_some, List.length_cons, List.length_nil, Nat.zero_add, ref_hmac]
    unfold keys_Shared ref16_Shared
    rw [hsh _ (by decide), hrh _ (by decide)]
    have l5 := fun x => hmac_len (hmac s x) o
    simp only [Option.bind_some]
    rw [equal_ok (by rw [l5]; decide) (by rw [l5]; decide) (by rw [l5]; omega)]
    simp only [dpos, dneg, w64_of, inR_of, room_of, tmod_of, cond_true, cond_false, Bool.and_self, Bool.and_true, Bool.true_and, Bool.and_false, Bool.false_and, Bool.not_true, Bool.not_false, Option.bind_some, List.length_cons, List.length_nil, Nat.zero_add, decide_true]
end Go.Proofs.YtlamdneheilahaaDoor.Pl
