/- Plain: the law PrfSums. -/
import Derived.Test.YtlamdneheilahaaDoorShQPrf
import Derived.Test.YtlamdneheilahaaDoorFnsPrfBeginsA
set_option linter.unusedVariables false
set_option linter.unusedSimpArgs false
namespace Go.Proofs.YtlamdneheilahaaDoor.Pl
open Go
theorem awake09 : law09_awake 18446744073709551616 = some ((true, ()), ()) := by kernel_rfl
theorem prfsums (k : List UInt8) (hk : k.length ≤ 9223372036854775807) (b : List UInt8) (hb : b.length ≤ 9223372036854775807) (long : Bool) : law09_PrfSums 18446744073709551616 k b long = some ((true, ()), ()) := by
  unfold law09_PrfSums
  rw [awake09]
  generalize hN0 : 18446744073709551616 = N
  have hN : 4611686018427387904 ≤ N := by omega
  clear hN0
  have h2 : ∀ k b : List UInt8, k.length ≤ 2000 → b.length ≤ 1000 → law09_PrfSums_2 N k b = some ((true, ()), ()) := by
    intro k b hk hb
    have h := hmac_len k b
    unfold law09_PrfSums_2
    simp (disch := omega) only [dpos, dneg, w64_of, inR_of, room_of, tmod_of, cond_true, cond_false, Bool.and_self, Bool.and_true, Bool.true_and, Bool.and_false, Bool.false_and, Bool.not_true, Bool.not_false, Option.bind_some, List.length_cons, List.length_nil, Nat.zero_add, prf_hmac, ref_hmac, equal_ok, decide_true]
  simp only [dpos, dneg, w64_of, inR_of, room_of, tmod_of, cond_true, cond_false, Bool.and_self, Bool.and_true, Bool.true_and, Bool.and_false, Bool.false_and, Bool.not_true, Bool.not_false, Option.bind_some, List.length_cons, List.length_nil, Nat.zero_add]
  unfold law09_PrfSums_1
  by_cases c1 : (1000 : Int) < (k.length : Int)
  · simp (disch := omega) only [dpos, dneg, w64_of, inR_of, room_of, tmod_of, cond_true, cond_false, Bool.and_self, Bool.and_true, Bool.true_and, Bool.and_false, Bool.false_and, Bool.not_true, Bool.not_false, Option.bind_some, List.length_cons, List.length_nil, Nat.zero_add]
  · by_cases c2 : (1000 : Int) < (b.length : Int)
    · simp (disch := omega) only [dpos, dneg, w64_of, inR_of, room_of, tmod_of, cond_true, cond_false, Bool.and_self, Bool.and_true, Bool.true_and, Bool.and_false, Bool.false_and, Bool.not_true, Bool.not_false, Option.bind_some, List.length_cons, List.length_nil, Nat.zero_add]
    · have h3 : (k ++ List.replicate 65 (0 : UInt8)).length ≤ 2000 := by simp; omega
      cases long <;> simp (disch := omega) only [dpos, dneg, w64_of, inR_of, room_of, tmod_of, cond_true, cond_false, Bool.and_self, Bool.and_true, Bool.true_and, Bool.and_false, Bool.false_and, Bool.not_true, Bool.not_false, Option.bind_some, List.length_cons, List.length_nil, Nat.zero_add, List.length_replicate, h2]
end Go.Proofs.YtlamdneheilahaaDoor.Pl
