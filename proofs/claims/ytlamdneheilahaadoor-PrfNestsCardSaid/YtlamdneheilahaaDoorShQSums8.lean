/- Plain: the law Sha256Sums. -/
import Derived.Test.YtlamdneheilahaaDoorShQSha
import Derived.Test.YtlamdneheilahaaDoorShQEqual
import Derived.Test.YtlamdneheilahaaDoorFnsPrfNestsA
set_option linter.unusedVariables false
set_option linter.unusedSimpArgs false
namespace Go.Proofs.YtlamdneheilahaaDoor.Pl
open Go
theorem awake08 : law08_awake 18446744073709551616 = some ((true, ()), ()) := by kernel_rfl
theorem sums8_1 (N : Nat) (hN : 4611686018427387904 ≤ N) (b : List UInt8) (hb : b.length ≤ 4000) (m : UInt8) : law08_Sha256Sums_1 N b m = some ((true, ()), ()) := by
  unfold law08_Sha256Sums_1
  have hm : m.toNat < 256 := m.toNat_lt
  have hc : (b ++ List.replicate ((m.toNat : Int) % 130).toNat (0 : UInt8)).length ≤ 5000 := by simp; omega
  have h1 := sha_len b
  have h2 := sha_len (b ++ List.replicate ((m.toNat : Int) % 130).toNat (0 : UInt8))
  simp (disch := omega) only [dpos, dneg, w64_of, inR_of, room_of, tmod_of, cond_true, cond_false, Bool.and_self, Bool.and_true, Bool.true_and, Bool.and_false, Bool.false_and, Bool.not_true, Bool.not_false, Option.bind_some, List.length_cons, List.length_nil, Nat.zero_add, List.length_replicate, sha_sum, ref_sum, equal_ok, decide_true]
theorem sums8 (b : List UInt8) (hb : b.length ≤ 9223372036854775807) (m : UInt8) : law08_Sha256Sums 18446744073709551616 b m = some ((true, ()), ()) := by
  unfold law08_Sha256Sums
  rw [awake08]
  generalize hN : 18446744073709551616 = N
  have hN' : 4611686018427387904 ≤ N := by omega
  clear hN
  by_cases h : (4000 : Int) < (b.length : Int)
  · have hc : (cut b 0 4000).length ≤ 4000 := by simp [cut]; omega
    simp (disch := omega) only [dpos, dneg, w64_of, inR_of, room_of, tmod_of, cond_true, cond_false, Bool.and_self, Bool.and_true, Bool.true_and, Bool.and_false, Bool.false_and, Bool.not_true, Bool.not_false, Option.bind_some, List.length_cons, List.length_nil, Nat.zero_add, sums8_1]
  · simp (disch := omega) only [dpos, dneg, w64_of, inR_of, room_of, tmod_of, cond_true, cond_false, Bool.and_self, Bool.and_true, Bool.true_and, Bool.and_false, Bool.false_and, Bool.not_true, Bool.not_false, Option.bind_some, List.length_cons, List.length_nil, Nat.zero_add, sums8_1]
end Go.Proofs.YtlamdneheilahaaDoor.Pl
