/- Plain: the laws Poly1305Zero and Poly1305Adds. -/
import Derived.Test.YtlamdneheilahaaPoQPolyBytes
import Derived.Test.YtlamdneheilahaaPoQCodes
import Derived.Test.YtlamdneheilahaaPoQEqual
import Derived.Test.YtlamdneheilahaaFnsPoly1305OneA
set_option linter.unusedVariables false
set_option linter.unusedSimpArgs false
namespace Go.Proofs.Ytlamdneheilahaa.Pl
open Go Poly
theorem awake11 : law11_awake 18446744073709551616 = some ((true, ()), ()) := by kernel_rfl
theorem acc_zero (v : Nat) (hv : v = 0) (l : List UInt8) : acc 0 v l = 0 := by
  obtain ⟨n, hn⟩ : ∃ n, n = l.length := ⟨_, rfl⟩
  induction n using Nat.strongRecOn generalizing v l with
  | _ n ih =>
    by_cases h : l = []
    · subst h; rw [acc_nil, hv]
    · rw [acc_step _ _ h]
      have hp : 0 < l.length := List.length_pos_iff.2 h
      exact ih (l.drop 16).length (by simp; omega) _ (by simp) _ rfl
theorem zero_ (codes : List UInt8) (hc : codes.length ≤ 9223372036854775807) (b : List UInt8) (hb : b.length ≤ 9223372036854775807) : law11_Poly1305Zero 18446744073709551616 codes b = some ((true, ()), ()) := by
  unfold law11_Poly1305Zero
  rw [awake11]
  generalize hN0 : 18446744073709551616 = N
  have hN : 4611686018427387904 ≤ N := by omega
  have hbN : b.length < N := by omega
  clear hN0
  obtain ⟨c0, e0, k0⟩ := new_ok N codes (m := 40) (by omega) (by omega)
  obtain ⟨c1, s, e1, l1, k1⟩ := bytes_ok (N := N) (n := 16) k0 (by omega) (by omega) (by omega)
  have l1' : s.length = 16 := l1
  have hk : (List.replicate 16 (0 : UInt8) ++ s).length = 32 := by simp [l1']
  have ht : tag (List.replicate 16 0 ++ s) b = s := by
    unfold tag kr ks
    have h1 : (List.replicate 16 (0 : UInt8) ++ s).take 16 = List.replicate 16 0 := List.take_left' (by simp)
    have h2 : (List.replicate 16 (0 : UInt8) ++ s).drop 16 = s := List.drop_left' (by simp)
    rw [h1, h2]
    have h3 : le (ns (clm (List.replicate 16 0))) = 0 := by decide
    rw [h3, acc_zero 0 rfl, Nat.zero_add, tagB_le l1']
  simp (disch := omega) only [dpos, dneg, w64_of, inR_of, room_of, tmod_of, cond_true, cond_false, Bool.and_self, Bool.and_true, Bool.true_and, Bool.and_false, Bool.false_and, Bool.not_true, Bool.not_false, Option.bind_some, List.length_cons, List.length_nil, Nat.zero_add, e0, e1, List.length_replicate, sum_ok, ht, equal_ok, decide_true]
end Go.Proofs.Ytlamdneheilahaa.Pl
