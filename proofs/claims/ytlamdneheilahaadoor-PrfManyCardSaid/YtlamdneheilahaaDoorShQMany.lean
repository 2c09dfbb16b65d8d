/- Plain: the law PrfMany. -/
import Derived.Test.YtlamdneheilahaaDoorShQSplit
import Derived.Test.YtlamdneheilahaaDoorShQMod
import Derived.Test.YtlamdneheilahaaDoorShQPrfSums
import Derived.Test.YtlamdneheilahaaDoorFnsPrfManyA
set_option linter.unusedVariables false
set_option linter.unusedSimpArgs false
namespace Go.Proofs.YtlamdneheilahaaDoor.Pl
open Go
theorem same_ok (N : Nat) {a : List (List UInt8)} (ha : a.length ≤ 1000000) (he : ∀ x ∈ a, x.length ≤ 17592186044416) (hN : 4611686018427387904 ≤ N) : law09_same N a a = some ((true, ()), ()) := by
  unfold law09_same law09_same_1
  simp (disch := omega) only [dpos, dneg, w64_of, inR_of, room_of, tmod_of, cond_true, cond_false, Bool.and_self, Bool.and_true, Bool.true_and, Bool.and_false, Bool.false_and, Bool.not_true, Bool.not_false, Option.bind_some, List.length_cons, List.length_nil, Nat.zero_add]
  refine (loopK_run (fun i : Nat => ((a, a, (a.length : Int), (i : Int), ()), ())) (n := a.length) ?_ (e := ((), ())) ?_ (by omega)).trans rfl
  · intro i hi
    have hx : (a.getD i []).length ≤ 17592186044416 := by
      apply he; simp [List.getD, hi]
    show law09_same_s2 N a a _ _ = _
    unfold law09_same_s2
    simp (disch := omega) only [dpos, dneg, w64_of, inR_of, room_of, tmod_of, cond_true, cond_false, Bool.and_self, Bool.and_true, Bool.true_and, Bool.and_false, Bool.false_and, Bool.not_true, Bool.not_false, Option.bind_some, List.length_cons, List.length_nil, Nat.zero_add, Int.toNat_natCast, equal_ok, decide_true, Int.natCast_add, Int.natCast_one]
  · show law09_same_s2 N a a _ _ = _
    unfold law09_same_s2
    simp (disch := omega) only [dpos, dneg, w64_of, inR_of, room_of, tmod_of, cond_true, cond_false, Bool.and_self, Bool.and_true, Bool.true_and, Bool.and_false, Bool.false_and, Bool.not_true, Bool.not_false, Option.bind_some, List.length_cons, List.length_nil, Nat.zero_add]
theorem many_9 (N : Nat) {s : List UInt8} {l1 l2 : List Int} (hs : s.length ≤ 300) (h1 : l1.length ≤ 50) (h2 : l2.length ≤ 50) (hN : 4611686018427387904 ≤ N) : law09_PrfMany_7 N s l1 l2 = some ((true, ()), ()) := by
  unfold law09_PrfMany_7 law09_PrfMany_8
  have h2N : 2 < N := by omega
  have hlen : ([l1, l2] : List (List Int)).length = 2 := rfl
  have hall : ∀ i, i < 2 → (([l1, l2] : List (List Int)).getD i []).length ≤ 50 := by
    intro i hi
    rcases (by omega : i = 0 ∨ i = 1) with rfl | rfl
    · exact h1
    · exact h2
  generalize ([l1, l2] : List (List Int)) = L at hlen hall
  refine (loopK_run (fun i : Nat => ((s, (L.length : Int), (i : Int), ()), (L, ()))) (n := 2) ?_ (e := ((), ())) ?_ h2N).trans rfl
  · intro i hi
    have hx := hall i hi
    show law09_PrfMany_s9 N s _ _ L = _
    unfold law09_PrfMany_s9
    simp (disch := omega) only [dpos, dneg, w64_of, inR_of, room_of, tmod_of, cond_true, cond_false, Bool.and_self, Bool.and_true, Bool.true_and, Bool.and_false, Bool.false_and, Bool.not_true, Bool.not_false, Option.bind_some, List.length_cons, List.length_nil, Nat.zero_add, Int.toNat_natCast, prf_split, ref_split, decide_true, Int.natCast_add, Int.natCast_one]
    generalize L.getD i [] = x at hx
    have hsame : law09_same N (splR (spl s x)).2.1 (splR (spl s x)).2.1 = some ((true, ()), ()) := by
      cases h : spl s x with
      | none => exact same_ok N (by simp [splR]) (by simp [splR]) hN
      | some l =>
        obtain ⟨q1, q2⟩ := spl_elem h
        exact same_ok N (by simp only [splR]; omega) (fun y hy => by have := q2 y hy; omega) hN
    simp only [hsame, dpos, dneg, w64_of, inR_of, room_of, tmod_of, cond_true, cond_false, Bool.and_self, Bool.and_true, Bool.true_and, Bool.and_false, Bool.false_and, Bool.not_true, Bool.not_false, Option.bind_some, List.length_cons, List.length_nil, Nat.zero_add]
  · show law09_PrfMany_s9 N s _ _ L = _
    unfold law09_PrfMany_s9
    simp (disch := omega) only [dpos, dneg, w64_of, inR_of, room_of, tmod_of, cond_true, cond_false, Bool.and_self, Bool.and_true, Bool.true_and, Bool.and_false, Bool.false_and, Bool.not_true, Bool.not_false, Option.bind_some, List.length_cons, List.length_nil, Nat.zero_add]
theorem many_4 (N : Nat) {s : List UInt8} {l : List Int} (hs : s.length ≤ 300) (hl : l.length ≤ 50) (hN : 4611686018427387904 ≤ N) : law09_PrfMany_4 N s l = some ((true, ()), ()) := by
  unfold law09_PrfMany_4 law09_PrfMany_5
  have hlN : l.length < N := by omega
  refine (loopK_run (fun i : Nat => ((s, l, l, (l.length : Int), (i : Int), ()), ((l.take i).map (fun x => mod_ x 9 - 1), ()))) (n := l.length) ?_ (e := ((s, l, ()), (l.map (fun x => mod_ x 9 - 1), ()))) ?_ hlN).trans ?_
  · intro i hi
    have ht : (l.take i).length = i := by simp; omega
    obtain ⟨m1, m2, m3⟩ := mod_ok N (l.getD i 0) (n := 9) (by omega) (by omega)
    show law09_PrfMany_s6 N s l l _ _ _ = _
    unfold law09_PrfMany_s6
    simp (disch := omega) only [dpos, dneg, w64_of, inR_of, room_of, tmod_of, cond_true, cond_false, Bool.and_self, Bool.and_true, Bool.true_and, Bool.and_false, Bool.false_and, Bool.not_true, Bool.not_false, Option.bind_some, List.length_cons, List.length_nil, Nat.zero_add, Int.toNat_natCast, m1, List.length_map, ht, Int.natCast_add, Int.natCast_one]
    rw [take_snoc l 0 hi, List.map_append]
    rfl
  · show law09_PrfMany_s6 N s l l _ _ _ = _
    unfold law09_PrfMany_s6
    simp (disch := omega) only [dpos, dneg, w64_of, inR_of, room_of, tmod_of, cond_true, cond_false, Bool.and_self, Bool.and_true, Bool.true_and, Bool.and_false, Bool.false_and, Bool.not_true, Bool.not_false, Option.bind_some, List.length_cons, List.length_nil, Nat.zero_add, List.take_length]
  · exact many_9 N hs hl (by simpa using hl) hN
theorem many (k : List UInt8) (hk : k.length ≤ 9223372036854775807) (s : List UInt8) (hs : s.length ≤ 9223372036854775807) (n : Int) (hn : -9223372036854775808 ≤ n) (hn' : n ≤ 9223372036854775807) (l : List Int) (hl : l.length ≤ 9223372036854775807) :
    law09_PrfMany 18446744073709551616 k s n l = some ((true, ()), ()) := by
  unfold law09_PrfMany
  rw [awake09]
  generalize hN0 : 18446744073709551616 = N
  have hN : 4611686018427387904 ≤ N := by omega
  clear hN0
  simp only [dpos, dneg, w64_of, inR_of, room_of, tmod_of, cond_true, cond_false, Bool.and_self, Bool.and_true, Bool.true_and, Bool.and_false, Bool.false_and, Bool.not_true, Bool.not_false, Option.bind_some, List.length_cons, List.length_nil, Nat.zero_add]
  unfold law09_PrfMany_1
  by_cases c1 : (300 : Int) < (k.length : Int)
  · simp (disch := omega) only [dpos, dneg, w64_of, inR_of, room_of, tmod_of, cond_true, cond_false, Bool.and_self, Bool.and_true, Bool.true_and, Bool.and_false, Bool.false_and, Bool.not_true, Bool.not_false, Option.bind_some, List.length_cons, List.length_nil, Nat.zero_add]
  · by_cases c2 : (300 : Int) < (s.length : Int)
    · simp (disch := omega) only [dpos, dneg, w64_of, inR_of, room_of, tmod_of, cond_true, cond_false, Bool.and_self, Bool.and_true, Bool.true_and, Bool.and_false, Bool.false_and, Bool.not_true, Bool.not_false, Option.bind_some, List.length_cons, List.length_nil, Nat.zero_add]
    · by_cases c3 : (50 : Int) < (l.length : Int)
      · simp (disch := omega) only [dpos, dneg, w64_of, inR_of, room_of, tmod_of, cond_true, cond_false, Bool.and_self, Bool.and_true, Bool.true_and, Bool.and_false, Bool.false_and, Bool.not_true, Bool.not_false, Option.bind_some, List.length_cons, List.length_nil, Nat.zero_add]
      · obtain ⟨m1, m2, m3⟩ := mod_ok N n (n := 140) (by omega) (by omega)
        simp (disch := omega) only [dpos, dneg, w64_of, inR_of, room_of, tmod_of, cond_true, cond_false, Bool.and_self, Bool.and_true, Bool.true_and, Bool.and_false, Bool.false_and, Bool.not_true, Bool.not_false, Option.bind_some, List.length_cons, List.length_nil, Nat.zero_add, m1]
        unfold law09_PrfMany_2
        have h2N : 2 < N := by omega
        generalize mod_ n 140 = n' at *
        refine (loopK_run (fun i : Nat => ((k, s, l, (([n, n'] : List Int).length : Int), (i : Int), ()), ([n, n'], ()))) (n := 2) ?_ (e := ((s, l, ()), ())) ?_ h2N).trans ?_
        · have hlen : ([n, n'] : List Int).length = 2 := rfl
          generalize ([n, n'] : List Int) = L at hlen
          intro i hi
          show law09_PrfMany_s3 N k s l _ _ L = _
          unfold law09_PrfMany_s3
          have p3 := pl_len k s 300
          have px := pl_len k s (L.getD i 0)
          simp (disch := omega) only [dpos, dneg, w64_of, inR_of, room_of, tmod_of, cond_true, cond_false, Bool.and_self, Bool.and_true, Bool.true_and, Bool.and_false, Bool.false_and, Bool.not_true, Bool.not_false, Option.bind_some, List.length_cons, List.length_nil, Nat.zero_add, Int.toNat_natCast, prf_pl, ref_pl, equal_ok, decide_true, Int.natCast_add, Int.natCast_one]
          by_cases q1 : 300 < L.getD i 0
          · by_cases q2 : L.getD i 0 ≤ 8160
            · simp (disch := omega) only [dpos, dneg, w64_of, inR_of, room_of, tmod_of, cond_true, cond_false, Bool.and_self, Bool.and_true, Bool.true_and, Bool.and_false, Bool.false_and, Bool.not_true, Bool.not_false, Option.bind_some, List.length_cons, List.length_nil, Nat.zero_add]
            · simp (disch := omega) only [dpos, dneg, w64_of, inR_of, room_of, tmod_of, cond_true, cond_false, Bool.and_self, Bool.and_true, Bool.true_and, Bool.and_false, Bool.false_and, Bool.not_true, Bool.not_false, Option.bind_some, List.length_cons, List.length_nil, Nat.zero_add]
          · simp (disch := omega) only [dpos, dneg, w64_of, inR_of, room_of, tmod_of, cond_true, cond_false, Bool.and_self, Bool.and_true, Bool.true_and, Bool.and_false, Bool.false_and, Bool.not_true, Bool.not_false, Option.bind_some, List.length_cons, List.length_nil, Nat.zero_add]
        · have hlen : ([n, n'] : List Int).length = 2 := rfl
          generalize ([n, n'] : List Int) = L at hlen
          show law09_PrfMany_s3 N k s l _ _ L = _
          unfold law09_PrfMany_s3
          simp (disch := omega) only [dpos, dneg, w64_of, inR_of, room_of, tmod_of, cond_true, cond_false, Bool.and_self, Bool.and_true, Bool.true_and, Bool.and_false, Bool.false_and, Bool.not_true, Bool.not_false, Option.bind_some, List.length_cons, List.length_nil, Nat.zero_add]
        · show law09_PrfMany_4 N s l = _
          exact many_4 N (by omega) (by omega) hN
end Go.Proofs.YtlamdneheilahaaDoor.Pl
