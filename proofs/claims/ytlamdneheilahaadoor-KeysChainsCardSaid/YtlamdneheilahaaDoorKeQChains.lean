/- Plain: the law KeysChains. -/
import Derived.Test.YtlamdneheilahaaDoorKeQDerive
import Derived.Test.YtlamdneheilahaaDoorFnsKeysChainsA
set_option linter.unusedVariables false
set_option linter.unusedSimpArgs false
namespace Go.Proofs.YtlamdneheilahaaDoor.Pl
open Go
theorem plus_pre (k s : List UInt8) (n m : Nat) (h : (n + m + 31) / 32 = (n + 31) / 32) : (plus k s (n + m)).take n = plus k s n := by
  unfold plus
  rw [List.take_take, Nat.min_eq_left (by omega), h]
theorem glue {x : List UInt8} (h : x.length = 172) : ((((([] ++ pc x 0 32) ++ pc x 32 36) ++ pc x 68 36) ++ pc x 104 32) ++ pc x 136 32) = x.take 168 := by
  have step : ∀ o n, x.take o ++ pc x o n = x.take (o + n) := fun o n => by
    unfold pc; rw [← List.take_add]
  have e0 : ([] : List UInt8) = x.take 0 := by simp
  rw [e0, step, step, step, step, step]
theorem chain_join (M : Nat) (s ni nr : List UInt8) (e : Int) (all : List UInt8) (f : Int) (both : List UInt8) (a b c d g : List UInt8) (h : a.length + b.length + c.length + d.length + g.length ≤ 1000) :
    law16_KeysChains_3 (M + 6) s ni nr e all f 5 0 both (a, b, c, d, g, ()) [] [a, b, c, d, g] = law16_KeysChains_5 (M + 6) s ni nr e all f both (a, b, c, d, g, ()) ((((([] ++ a) ++ b) ++ c) ++ d) ++ g) := by
  unfold law16_KeysChains_3
  refine (loopK_run (fun i : Nat => ((s, ni, nr, e, all, f, 5, (i : Int), ()), (both, (a, b, c, d, g, ()), (([a, b, c, d, g] : List (List UInt8)).take i).flatten, [a, b, c, d, g], ()))) (n := 5) ?_ (e := ((s, ni, nr, e, all, f, ()), (both, (a, b, c, d, g, ()), [a, b, c, d, g].flatten, ()))) ?_ (by omega)).trans ?_
  · have hlen : ([a, b, c, d, g] : List (List UInt8)).length = 5 := rfl
    have hfl : ([a, b, c, d, g] : List (List UInt8)).flatten.length ≤ 1000 := by simp; omega
    generalize ([a, b, c, d, g] : List (List UInt8)) = l at hlen hfl
    intro i hi
    have e1 : (l.take (i + 1)).flatten = (l.take i).flatten ++ l.getD i [] := by rw [take_snoc l [] (by omega)]; simp
    have h2 : ((l.take (i + 1)).flatten).length ≤ l.flatten.length := by
      have := congrArg (fun x => x.flatten.length) (List.take_append_drop (i + 1) l)
      simp only [List.flatten_append, List.length_append] at this
      omega
    rw [e1, List.length_append] at h2
    show law16_KeysChains_s4 (M + 6) s ni nr e all f _ _ both _ _ l = _
    unfold law16_KeysChains_s4
    simp (disch := omega) only [dpos, dneg, w64_of, inR_of, room_of, tmod_of, cond_true, cond_false, Bool.and_self, Bool.and_true, Bool.true_and, Bool.and_false, Bool.false_and, Bool.not_true, Bool.not_false, Option.bind_some, List.length_cons, List.length_nil, Nat.zero_add, Int.toNat_natCast, Int.natCast_add, Int.natCast_one, e1]
  · show law16_KeysChains_s4 (M + 6) s ni nr e all f _ _ both _ _ _ = _
    unfold law16_KeysChains_s4
    simp (disch := omega) only [dpos, dneg, w64_of, inR_of, room_of, tmod_of, cond_true, cond_false, Bool.and_self, Bool.and_true, Bool.true_and, Bool.and_false, Bool.false_and, Bool.not_true, Bool.not_false, Option.bind_some, List.length_cons, List.length_nil, Nat.zero_add]
    rfl
  · show law16_KeysChains_5 (M + 6) s ni nr e all f both _ _ = _
    congr 1
    simp
theorem chains (codes : List UInt8) (hc : codes.length ≤ 9223372036854775807) (s : List UInt8) (hs : s.length ≤ 9223372036854775807) (i r : UInt64) :
    law16_KeysChains 18446744073709551616 codes s i r = some ((true, ()), ()) := by
  unfold law16_KeysChains
  rw [awake16]
  generalize hN0 : 18446744073709551616 = N
  have hN : 4611686018427387904 ≤ N := by omega
  clear hN0
  simp only [dpos, dneg, w64_of, inR_of, room_of, tmod_of, cond_true, cond_false, Bool.and_self, Bool.and_true, Bool.true_and, Bool.and_false, Bool.false_and, Bool.not_true, Bool.not_false, Option.bind_some, List.length_cons, List.length_nil, Nat.zero_add]
  unfold law16_KeysChains_1
  by_cases c1 : (200 : Int) < (s.length : Int)
  · simp (disch := omega) only [dpos, dneg, w64_of, inR_of, room_of, tmod_of, cond_true, cond_false, Bool.and_self, Bool.and_true, Bool.true_and, Bool.and_false, Bool.false_and, Bool.not_true, Bool.not_false, Option.bind_some, List.length_cons, List.length_nil, Nat.zero_add]
  · by_cases c2 : (s.length : Int) = 0
    · simp (disch := omega) only [dpos, dneg, w64_of, inR_of, room_of, tmod_of, cond_true, cond_false, Bool.and_self, Bool.and_true, Bool.true_and, Bool.and_false, Bool.false_and, Bool.not_true, Bool.not_false, Option.bind_some, List.length_cons, List.length_nil, Nat.zero_add]
    · obtain ⟨c0, e0, k0⟩ := new_ok N codes (m := 160) (by omega) (by omega)
      obtain ⟨v1, c1', e1, a0, a1, k1⟩ := next_ok N (n := 20) k0 (by omega)
      obtain ⟨c2', ni, e2, l2, k2⟩ := bytes_ok (N := N) (n := 16 + v1) k1 (by omega) (by omega) (by omega)
      obtain ⟨v3, c3', e3, b0, b1, k3⟩ := next_ok N (n := 20) k2 (by omega)
      obtain ⟨c4', nr, e4, l4, k4⟩ := bytes_ok (N := N) (n := 16 + v3) k3 (by omega) (by omega) (by omega)
      have hnok : nok ni nr = true := by unfold nok; simp (disch := omega) only [dpos, Bool.and_self]
      have hks : kseed ni nr s = (hmac (ni ++ nr) s, 0) := by unfold kseed; rw [if_pos ⟨hnok, by omega⟩]
      have lb : (ni ++ nr).length ≤ 80 := by rw [List.length_append]; omega
      have lh := hmac_len (ni ++ nr) s
      simp (disch := omega) only [dpos, dneg, w64_of, inR_of, room_of, tmod_of, cond_true, cond_false, Bool.and_self, Bool.and_true, Bool.true_and, Bool.and_false, Bool.false_and, Bool.not_true, Bool.not_false, Option.bind_some, List.length_cons, List.length_nil, Nat.zero_add, e0, e1, e2, e3, e4, kseed_ok, hks, prf_hmac, equal_ok, decide_true]
      unfold law16_KeysChains_2
      have hkd : kderive (hmac (ni ++ nr) s) ni nr i r = (dkeys (hmac (ni ++ nr) s) ni nr i r, 0) := by unfold kderive; rw [if_pos hnok]
      have l1 := be_len i 8
      have l2' := be_len r 8
      have l3 : (ni ++ nr ++ be i 8).length ≤ 100 := by rw [List.length_append]; omega
      have l4' : (ni ++ nr ++ be i 8 ++ be r 8).length ≤ 120 := by rw [List.length_append]; omega
      have w1 : ref01_Put N (ni ++ nr) i 8 = some ((), (ni ++ nr ++ be i 8, ())) := by rw [ref_put N (by omega) (by omega) (by omega) (by omega)]; rfl
      have w2 : ref01_Put N (ni ++ nr ++ be i 8) r 8 = some ((), (ni ++ nr ++ be i 8 ++ be r 8, ())) := by rw [ref_put N (by omega) (by omega) (by omega) (by omega)]; rfl
      have p1 : prf_Plus N (hmac (ni ++ nr) s) (ni ++ nr ++ be i 8 ++ be r 8) 168 = some ((plus (hmac (ni ++ nr) s) (ni ++ nr ++ be i 8 ++ be r 8) 168, 0, ()), ()) := prf_plus N (by omega) (by omega) (by omega) (by omega) hN
      simp (disch := omega) only [dpos, dneg, w64_of, inR_of, room_of, tmod_of, cond_true, cond_false, Bool.and_self, Bool.and_true, Bool.true_and, Bool.and_false, Bool.false_and, Bool.not_true, Bool.not_false, Option.bind_some, List.length_cons, List.length_nil, Nat.zero_add, kderive_ok, hkd, w1, w2, p1]
      obtain ⟨M, hM⟩ := Nat.exists_eq_add_of_le' (show 6 ≤ N by omega)
      have ha : ni ++ nr ++ (be i 8 ++ be r 8) = ni ++ nr ++ be i 8 ++ be r 8 := by simp
      have hx := plus_len (hmac (ni ++ nr) s) (ni ++ nr ++ be i 8 ++ be r 8) 172
      have hpre := plus_pre (hmac (ni ++ nr) s) (ni ++ nr ++ be i 8 ++ be r 8) 168 4 (by decide)
      unfold dkeys
      rw [ha]
      generalize hy : hmac (ni ++ nr) s = y at *
      generalize ni ++ nr ++ be i 8 ++ be r 8 = z at *
      generalize plus y z 172 = x at *
      have q1 := pc_len (x := x) (o := 0) (n := 32) (by omega)
      have q2 := pc_len (x := x) (o := 32) (n := 36) (by omega)
      have q3 := pc_len (x := x) (o := 68) (n := 36) (by omega)
      have q4 := pc_len (x := x) (o := 104) (n := 32) (by omega)
      have q5 := pc_len (x := x) (o := 136) (n := 32) (by omega)
      have hj := chain_join M s ni nr 0 (plus y z 168) 0 (ni ++ nr) (pc x 0 32) (pc x 32 36) (pc x 68 36) (pc x 104 32) (pc x 136 32) (by omega)
      rw [← hM, glue hx] at hj
      have hpre' : x.take 168 = plus y z 168 := hpre
      rw [hpre'] at hj
      have lp := plus_len y z 168
      refine Eq.trans ?_ (hj.trans ?_)
      · rfl
      · unfold law16_KeysChains_5
        simp (disch := omega) only [dpos, dneg, w64_of, inR_of, room_of, tmod_of, cond_true, cond_false, Bool.and_self, Bool.and_true, Bool.true_and, Bool.and_false, Bool.false_and, Bool.not_true, Bool.not_false, Option.bind_some, List.length_cons, List.length_nil, Nat.zero_add, equal_ok, decide_true]
        unfold law16_KeysChains_6
        have hkr : krekey (pc x 0 32) ni nr s = (hmac (pc x 0 32) (s ++ ni ++ nr), 0) := by unfold krekey; rw [if_pos ⟨hnok, by omega⟩]
        have hs3 : s ++ ni ++ nr = s ++ (ni ++ nr) := by simp
        have l9 : (s ++ (ni ++ nr)).length ≤ 300 := by rw [List.length_append]; omega
        have l8 := hmac_len (pc x 0 32) (s ++ (ni ++ nr))
        simp (disch := omega) only [dpos, dneg, w64_of, inR_of, room_of, tmod_of, cond_true, cond_false, Bool.and_self, Bool.and_true, Bool.true_and, Bool.and_false, Bool.false_and, Bool.not_true, Bool.not_false, Option.bind_some, List.length_cons, List.length_nil, Nat.zero_add, krekey_ok, hkr, hs3, prf_hmac, equal_ok, decide_true]
end Go.Proofs.YtlamdneheilahaaDoor.Pl
