/- Plain: keys: what is joined and authenticated. -/
import Derived.Test.YtlamdneheilahaaDoorKeQPrf
import Derived.Test.YtlamdneheilahaaDoorKeQEqual
import Derived.Test.YtlamdneheilahaaDoorFnsKeysChainsA
set_option linter.unusedVariables false
set_option linter.unusedSimpArgs false
namespace Go.Proofs.YtlamdneheilahaaDoor.Pl
open Go
theorem kjoin_ok (N : Nat) {l : List (List UInt8)} (hl : l.length ≤ 1000000) (hf : l.flatten.length ≤ 35184372088832) (hN : 4611686018427387904 ≤ N) : keys_join N l = some ((), (l.flatten, ())) := by
  unfold keys_join keys_join_1
  refine (loopK_run (fun i : Nat => ((l, (l.length : Int), (i : Int), ()), ((l.take i).flatten, ()))) (n := l.length) ?_ (e := ((), (l.flatten, ()))) ?_ (by omega)).trans rfl
  · intro i hi
    have e : (l.take (i + 1)).flatten = (l.take i).flatten ++ l.getD i [] := by rw [take_snoc l [] hi]; simp
    have h2 : ((l.take (i + 1)).flatten).length ≤ l.flatten.length := by
      have := congrArg (fun x => x.flatten.length) (List.take_append_drop (i + 1) l)
      simp only [List.flatten_append, List.length_append] at this
      omega
    rw [e, List.length_append] at h2
    show keys_join_s2 N l _ _ _ = _
    unfold keys_join_s2
    simp (disch := omega) only [dpos, dneg, w64_of, inR_of, room_of, tmod_of, cond_true, cond_false, Bool.and_self, Bool.and_true, Bool.true_and, Bool.and_false, Bool.false_and, Bool.not_true, Bool.not_false, Option.bind_some, List.length_cons, List.length_nil, Nat.zero_add, Int.toNat_natCast, Int.natCast_add, Int.natCast_one, e]
  · show keys_join_s2 N l _ _ _ = _
    unfold keys_join_s2
    simp (disch := omega) only [dpos, dneg, w64_of, inR_of, room_of, tmod_of, cond_true, cond_false, Bool.and_self, Bool.and_true, Bool.true_and, Bool.and_false, Bool.false_and, Bool.not_true, Bool.not_false, Option.bind_some, List.length_cons, List.length_nil, Nat.zero_add, List.take_length]
theorem kjoin2 (N : Nat) {a b : List UInt8} (h : a.length + b.length ≤ 35184372088832) (hN : 4611686018427387904 ≤ N) : keys_join N [a, b] = some ((), (a ++ b, ())) := by
  rw [kjoin_ok N (by simp) (by simpa using h) hN]; simp
theorem kjoin3 (N : Nat) {a b c : List UInt8} (h : a.length + b.length + c.length ≤ 35184372088832) (hN : 4611686018427387904 ≤ N) : keys_join N [a, b, c] = some ((), (a ++ b ++ c, ())) := by
  rw [kjoin_ok N (by simp) (by simp; omega) hN]; simp
/-- Whether both nonces have a right length. -/
def nok (a b : List UInt8) : Bool := decide (16 ≤ a.length) && decide (a.length ≤ 256) && decide (16 ≤ b.length) && decide (b.length ≤ 256)
theorem nonces_ok (N : Nat) (a b : List UInt8) (ha : a.length ≤ 17592186044416) (hb : b.length ≤ 17592186044416) (hN : 4611686018427387904 ≤ N) : keys_nonces N [a, b] = some ((nok a b, ()), ()) := by
  obtain ⟨M, rfl⟩ := Nat.exists_eq_add_of_le' (show 3 ≤ N by omega)
  unfold keys_nonces keys_nonces_1
  have s0 : ∀ M, keys_nonces_s2 M [a, b] (([a, b] : List (List UInt8)).length : Int) 0 = bif decide ((a.length : Int) < 16) then some (.rt ((false, ()), ())) else bif decide (256 < (a.length : Int)) then some (.rt ((false, ()), ())) else some (.go (([a, b], (([a, b] : List (List UInt8)).length : Int), 1, ()), ())) := fun M => by kernel_rfl
  have s1 : ∀ M, keys_nonces_s2 M [a, b] (([a, b] : List (List UInt8)).length : Int) 1 = bif decide ((b.length : Int) < 16) then some (.rt ((false, ()), ())) else bif decide (256 < (b.length : Int)) then some (.rt ((false, ()), ())) else some (.go (([a, b], (([a, b] : List (List UInt8)).length : Int), 2, ()), ())) := fun M => by kernel_rfl
  have s2 : ∀ M, keys_nonces_s2 M [a, b] (([a, b] : List (List UInt8)).length : Int) 2 = some (.br ((), ())) := fun M => by kernel_rfl
  unfold nok
  rw [show M + 3 = M + 2 + 1 from rfl, loopK_succ]
  simp only [s0]
  by_cases a1 : (a.length : Int) < 16
  · simp (disch := omega) only [dpos, dneg, cond_true, cond_false, Option.bind_some, Bool.and_true, Bool.true_and, Bool.and_false, Bool.false_and, Bool.and_self]
  · by_cases a2 : (256 : Int) < (a.length : Int)
    · simp (disch := omega) only [dpos, dneg, cond_true, cond_false, Option.bind_some, Bool.and_true, Bool.true_and, Bool.and_false, Bool.false_and, Bool.and_self]
    · simp (disch := omega) only [dpos, dneg, cond_true, cond_false, Option.bind_some, Bool.and_true, Bool.true_and, Bool.and_false, Bool.false_and, Bool.and_self]
      rw [show M + 2 = M + 1 + 1 from rfl, loopK_succ]
      simp only [s1]
      by_cases b1 : (b.length : Int) < 16
      · simp (disch := omega) only [dpos, dneg, cond_true, cond_false, Option.bind_some, Bool.and_true, Bool.true_and, Bool.and_false, Bool.false_and, Bool.and_self]
      · by_cases b2 : (256 : Int) < (b.length : Int)
        · simp (disch := omega) only [dpos, dneg, cond_true, cond_false, Option.bind_some, Bool.and_true, Bool.true_and, Bool.and_false, Bool.false_and, Bool.and_self]
        · simp (disch := omega) only [dpos, dneg, cond_true, cond_false, Option.bind_some, Bool.and_true, Bool.true_and, Bool.and_false, Bool.false_and, Bool.and_self]
          rw [loopK_succ]
          simp only [s2]
          rfl
end Go.Proofs.YtlamdneheilahaaDoor.Pl
