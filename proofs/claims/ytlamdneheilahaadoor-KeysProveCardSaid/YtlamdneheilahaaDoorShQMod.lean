/- Plain: a rest as the program makes it (make.Mod). -/
import Derived.Test.YtlamdneheilahaaDoorShQWords
import Derived.Test.YtlamdneheilahaaDoorFnsKeysProveA
set_option linter.unusedVariables false
set_option linter.unusedSimpArgs false
namespace Go.Proofs.YtlamdneheilahaaDoor.Pl
open Go
noncomputable section
/-- A rest as the program makes it. -/
def mod_ (x n : Int) : Int := if x.tmod n < 0 then x.tmod n + n else x.tmod n
theorem mod_ok (N : Nat) (x : Int) {n : Int} (h : 0 < n) (h' : n ≤ 4611686018427387904) : make_Mod N x n = some ((mod_ x n, ()), ()) ∧ 0 ≤ mod_ x n ∧ mod_ x n < n := by
  have b1 : x.tmod n < n := Int.tmod_lt_of_pos _ h
  have b2 : -n < x.tmod n := by
    by_cases hx : 0 ≤ x
    · have := Int.tmod_nonneg n hx; omega
    · have := Int.tmod_lt_of_pos (-x) h
      rw [Int.neg_tmod] at this; omega
  unfold make_Mod mod_
  by_cases hm : x.tmod n < 0
  · refine ⟨?_, by rw [if_pos hm]; omega, by rw [if_pos hm]; omega⟩
    generalize x.tmod n = y at *
    simp (disch := omega) only [dpos, dneg, w64_of, cond_true, cond_false, Bool.not_true, Bool.not_false, if_pos]
  · refine ⟨?_, by rw [if_neg hm]; omega, by rw [if_neg hm]; omega⟩
    generalize x.tmod n = y at *
    simp (disch := omega) only [dpos, dneg, w64_of, cond_true, cond_false, Bool.not_true, Bool.not_false, if_neg]
end
end Go.Proofs.YtlamdneheilahaaDoor.Pl
