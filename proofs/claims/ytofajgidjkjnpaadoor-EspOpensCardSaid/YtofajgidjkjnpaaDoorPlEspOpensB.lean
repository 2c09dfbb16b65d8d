/- Plain: the law EspOpens. -/
import Derived.Test.YtofajgidjkjnpaaDoorPlEspOpensA
import Derived.Test.YtofajgidjkjnpaaDoorFnsEspOpensB
set_option linter.unusedVariables false
set_option linter.unusedSimpArgs false
namespace Go.Proofs.YtofajgidjkjnpaaDoor.Pl
open Go
theorem opens_body (N : Nat) (hN : 4611686018427387904 ≤ N) (k : List UInt8) (n : UInt64) (L : List (List UInt8)) (hL : ∀ x ∈ L, x.length ≤ 100000) (h4 : L.length = 4) :
    law24_EspOpens_3 N n 4 0 k L = some ((true, ()), ()) := by
  unfold law24_EspOpens_3
  refine (loopK_run (fun i : Nat => ((k, n, 4, (i : Int), ()), (L, ()))) (n := 4) ?_ (e := ((), ())) ?_ (by omega)).trans rfl
  · intro i hi
    show law24_EspOpens_s4 N _ _ _ _ _ = _
    unfold law24_EspOpens_s4 law24_EspOpens_5 law24_EspOpens_7
    have hr : inR (i : Int) L.length = true := inR_of (by omega) (by omega)
    have hi4 : ((i : Nat) : Int) < 4 := by omega
    rw [dpos hi4, hr]
    simp only [cond_true, Int.toNat_natCast]
    have hx : (L.getD i []).length ≤ 100000 := by
      rw [List.getD_eq_getElem?_getD, List.getElem?_eq_getElem (by omega)]
      exact hL _ (List.getElem_mem _)
    generalize L.getD i [] = x at *
    unfold law24_EspOpens_8
    have h3 : ([n, n + 4294967296, n + 1] : List UInt64).length = 3 := rfl
    generalize ([n, n + 4294967296, n + 1] : List UInt64) = M at *
    rw [h3]
    refine (loopK_run (fun j : Nat => ((k, n, x, 4, (i : Int), ((3 : Nat) : Int), (j : Int), ()), (L, M, ()))) (n := 3) ?_ (e := ((k, n, x, 4, (i : Int), ()), (L, ()))) ?_ (by omega)).trans ?_
    · intro j hj
      show law24_EspOpens_s9 N _ _ _ _ _ _ _ _ _ = _
      unfold law24_EspOpens_s9
      have hr : inR (j : Int) M.length = true := inR_of (by omega) (by omega)
      have hj3 : ((j : Nat) : Int) < ((3 : Nat) : Int) := by omega
      have hle := eopen_len k x (M.getD j 0)
      rw [dpos hj3, hr]
      simp (disch := omega) only [dpos, dneg, w64_of, inR_of, room_of, tmod_of, cond_true, cond_false, Bool.and_self, Bool.and_true, Bool.true_and, Bool.and_false, Bool.false_and, Bool.not_true, Bool.not_false, Option.bind_some, List.length_cons, List.length_nil, Nat.zero_add, Int.toNat_natCast, eopen_ok N hN, reopen_ok N hN, decide_true, same24 N hN, Int.natCast_add, Int.natCast_one]
    · show law24_EspOpens_s9 N _ _ _ _ _ _ _ _ _ = _
      unfold law24_EspOpens_s9
      rfl
    · unfold law24_EspOpens_10 law24_EspOpens_11
      simp (disch := omega) only [dpos, dneg, w64_of, inR_of, room_of, tmod_of, cond_true, cond_false, Bool.and_self, Bool.and_true, Bool.true_and, Bool.and_false, Bool.false_and, Bool.not_true, Bool.not_false, Option.bind_some, List.length_cons, List.length_nil, Nat.zero_add, head_ok N (show 8 < N by omega), rhead_ok N (show 8 < N by omega), decide_true, Int.natCast_add, Int.natCast_one]
  · show law24_EspOpens_s4 N _ _ _ _ _ = _
    unfold law24_EspOpens_s4
    rfl
theorem esp_opens (codes : List UInt8) (hc : codes.length ≤ 9223372036854775807) (raw : List UInt8) (hr : raw.length ≤ 9223372036854775807) (p : List UInt8) (hp : p.length ≤ 9223372036854775807) (num : UInt64)
    (at_ : Int) (_n0 : -9223372036854775808 ≤ at_) (_n1 : at_ ≤ 9223372036854775807) (by_ : UInt8) :
    law24_EspOpens 18446744073709551616 codes raw p num at_ by_ = some ((true, ()), ()) := by
  unfold law24_EspOpens
  rw [awake24]
  generalize hN0 : 18446744073709551616 = N
  have hN : 4611686018427387904 ≤ N := by omega
  clear hN0
  simp only [dpos, dneg, w64_of, inR_of, room_of, tmod_of, cond_true, cond_false, Bool.and_self, Bool.and_true, Bool.true_and, Bool.and_false, Bool.false_and, Bool.not_true, Bool.not_false, Option.bind_some, List.length_cons, List.length_nil, Nat.zero_add]
  unfold law24_EspOpens_1
  by_cases hl : (200 : Int) < (raw.length : Int)
  · simp (disch := omega) only [dpos, dneg, w64_of, inR_of, room_of, tmod_of, cond_true, cond_false, Bool.and_self, Bool.and_true, Bool.true_and, Bool.and_false, Bool.false_and, Bool.not_true, Bool.not_false, Option.bind_some, List.length_cons, List.length_nil, Nat.zero_add]
  by_cases hl2 : (200 : Int) < (p.length : Int)
  · simp (disch := omega) only [dpos, dneg, w64_of, inR_of, room_of, tmod_of, cond_true, cond_false, Bool.and_self, Bool.and_true, Bool.true_and, Bool.and_false, Bool.false_and, Bool.not_true, Bool.not_false, Option.bind_some, List.length_cons, List.length_nil, Nat.zero_add]
  obtain ⟨c0, e0, k0⟩ := dnew_ok N codes (m := 30) (by omega) (by omega) hc
  obtain ⟨k, c1, e1, k1, hk⟩ := key_ok N k0
  obtain ⟨v1, c2, e2, a0, a1, k2⟩ := dnext_ok N k1 (n := 256) (by omega) (by omega)
  obtain ⟨v2, c3, e3, b0, b1, k3⟩ := dnext_ok N k2 (n := 9) (by omega) (by omega)
  simp (disch := omega) only [dpos, dneg, w64_of, inR_of, room_of, tmod_of, cond_true, cond_false, Bool.and_self, Bool.and_true, Bool.true_and, Bool.and_false, Bool.false_and, Bool.not_true, Bool.not_false, Option.bind_some, List.length_cons, List.length_nil, Nat.zero_add, e0, e1, e2, e3, reseal_ok N hN]
  have hsl := eseal_len k 9 (1 + num % 1099511627776) v1 p v2
  generalize 1 + num % 1099511627776 = n at *
  generalize (eseal k 9 n v1 p v2).1 = b at *
  have key : ∀ odd : List UInt8, odd.length ≤ 100000 → law24_EspOpens_2 N raw at_ n k b odd = some ((true, ()), ()) := by
    intro odd ho
    unfold law24_EspOpens_2
    obtain ⟨v, e4, d0, d1⟩ := dmod_ok N at_ (n := (b.length : Int) + 1) (by omega) (by omega)
    simp (disch := omega) only [dpos, dneg, w64_of, inR_of, room_of, tmod_of, cond_true, cond_false, Bool.and_self, Bool.and_true, Bool.true_and, Bool.and_false, Bool.false_and, Bool.not_true, Bool.not_false, Option.bind_some, List.length_cons, List.length_nil, Nat.zero_add, e4]
    refine opens_body N hN k n _ ?_ rfl
    intro x hx
    simp only [List.mem_cons, List.not_mem_nil, or_false] at hx
    rcases hx with rfl | rfl | rfl | rfl
    · omega
    · omega
    · omega
    · simp [cut]; omega
  by_cases hb : (0 : Int) < (b.length : Int)
  · obtain ⟨v, e4, d0, d1⟩ := dmod_ok N at_ (n := (b.length : Int)) (by omega) (by omega)
    simp (disch := omega) only [dpos, dneg, w64_of, inR_of, room_of, tmod_of, cond_true, cond_false, Bool.and_self, Bool.and_true, Bool.true_and, Bool.and_false, Bool.false_and, Bool.not_true, Bool.not_false, Option.bind_some, List.length_cons, List.length_nil, Nat.zero_add, e4]
    exact key _ (by rw [List.length_set]; omega)
  · simp (disch := omega) only [dpos, dneg, w64_of, inR_of, room_of, tmod_of, cond_true, cond_false, Bool.and_self, Bool.and_true, Bool.true_and, Bool.and_false, Bool.false_and, Bool.not_true, Bool.not_false, Option.bind_some, List.length_cons, List.length_nil, Nat.zero_add]
    exact key _ (by omega)
end Go.Proofs.YtofajgidjkjnpaaDoor.Pl
