/- Plain: the law SchnorrSigns. -/
import Derived.Test.YtofajgidjkjnpaaDoorScQSchnorr
import Derived.Test.YtofajgidjkjnpaaDoorScQCodes
import Derived.Test.YtofajgidjkjnpaaDoorFnsSchnorrSignsB
set_option linter.unusedVariables false
set_option linter.unusedSimpArgs false
namespace Go.Proofs.YtofajgidjkjnpaaDoor.Pl
open Go
theorem awake15 : law15_awake 18446744073709551616 = some ((true, ()), ()) := by kernel_rfl
theorem word_ok (N : Nat) (hN : 4611686018427387904 ≤ N) {c : List UInt8 × (Int × Unit)} (hc : COk c) : ∃ v c', make_Codes_Word N c = some ((v, ()), (c', ())) ∧ COk c' := by
  unfold make_Codes_Word
  obtain ⟨u, c1, e1, u0, u1, k1⟩ := next_ok N (n := 6) hc (by omega)
  rw [e1, Option.bind_some]
  by_cases h0 : u = 0
  · obtain ⟨w, c2, e2, _, _, k2⟩ := next_ok N (n := 4) k1 (by omega)
    rw [dpos h0, cond_true, e2]
    exact ⟨_, _, rfl, k2⟩
  by_cases h1 : u = 1
  · obtain ⟨w, c2, e2, _, _, k2⟩ := next_ok N (n := 3) k1 (by omega)
    rw [dneg h0, dpos h1, cond_false, cond_true, e2]
    exact ⟨_, _, rfl, k2⟩
  · rw [dneg h0, dneg h1, cond_false, cond_false]
    unfold make_Codes_Word_1
    have := loopK_of (N := N) (step := fun y => make_Codes_Word_s2 N y.1.1 y.1.2.1 y.2.1) (J := fun (e : ((UInt64 × Unit) × ((List UInt8 × (Int × Unit)) × Unit))) => make_Codes_Word_3 N e.1.1 e.2.1)
      (I := fun y => ∃ (i : Nat) (v : UInt64) (d : List UInt8 × (Int × Unit)), y = ((v, (i : Int), ()), (d, ())) ∧ i ≤ 8 ∧ COk d) (μ := fun y => (8 - y.1.2.1).toNat) (T := fun r => ∃ v c', r = ((v, ()), (c', ())) ∧ COk c') ?_ (x := ((0, 0, ()), (c1, ()))) ⟨0, 0, c1, rfl, by omega, k1⟩ (by simp only; omega)
    · obtain ⟨r, h1, v, c', rfl, h2⟩ := this; exact ⟨v, c', h1, h2⟩
    · rintro _ ⟨i, v, d, rfl, hi, hd⟩
      show ∃ r, make_Codes_Word_s2 N v (i : Int) d = some r ∧ _
      unfold make_Codes_Word_s2
      by_cases hlt : i < 8
      · obtain ⟨w, d', e, _, _, k⟩ := next_ok N (n := 256) hd (by omega)
        rw [dpos (by omega), cond_true, e, Option.bind_some]
        have hw : w64 ((i : Int) + 1) = ((i + 1 : Nat) : Int) := by rw [w64_of (by omega) (by omega)]; rfl
        rw [hw]
        exact ⟨_, rfl, ⟨i + 1, _, d', rfl, by omega, k⟩, by simp only; omega⟩
      · rw [dneg (by omega), cond_false]
        exact ⟨_, rfl, _, rfl, v, d, rfl, hd⟩
theorem secret_ok (N : Nat) (hN : 4611686018427387904 ≤ N) {c : List UInt8 × (Int × Unit)} (hc : COk c) : ∃ v c', make_Codes_Secret N c = some ((v, ()), (c', ())) ∧ COk c' ∧ vsec v = true := by
  unfold make_Codes_Secret
  obtain ⟨w, c1, e1, k1⟩ := word_ok N hN hc
  rw [e1]
  refine ⟨_, _, rfl, k1, ?_⟩
  have h : (w % 2305843009213688668).toNat < 2305843009213688668 := by rw [UInt64.toNat_mod]; exact Nat.mod_lt _ (by decide)
  have o1 : (1 : UInt64).toNat = 1 := rfl
  have o2 : (2305843009213688669 : UInt64).toNat = 2305843009213688669 := rfl
  show vsec (1 + w % 2305843009213688668) = true
  unfold vsec
  rw [Bool.and_eq_true, decide_eq_true_eq, decide_eq_true_eq, UInt64.le_iff_toNat_le, UInt64.lt_iff_toNat_lt, u64add (by rw [o1]; omega), o1, o2]
  omega
theorem or64_ok {a b : Int} (a0 : 0 ≤ a) (a1 : a < 65536) (b0 : 0 ≤ b) (b1 : b < 65536) : 0 ≤ or64 a b ∧ or64 a b < 65536 := by
  obtain ⟨x, rfl⟩ := Int.eq_ofNat_of_zero_le a0
  obtain ⟨y, rfl⟩ := Int.eq_ofNat_of_zero_le b0
  unfold or64
  have e : (BitVec.ofInt 64 (x : Int) ||| BitVec.ofInt 64 (y : Int)).toNat = x ||| y := by
    rw [BitVec.toNat_or, BitVec.toNat_ofInt, BitVec.toNat_ofInt]
    congr 1 <;> omega
  have h := Nat.or_lt_two_pow (n := 16) (show x < 2 ^ 16 by omega) (show y < 2 ^ 16 by omega)
  rw [e, w64_of (by omega) (by omega)]
  omega
theorem change_ok (N : Nat) {b : List UInt8} (hb : b.length ≤ 1000000) {c : List UInt8 × (Int × Unit)} (hc : COk c) : ∃ v c', make_Codes_Change N b c = some ((v, ()), (c', ())) ∧ COk c' ∧ v.length ≤ b.length + 1 := by
  unfold make_Codes_Change
  obtain ⟨u, c1, e1, u0, u1, k1⟩ := next_ok N (n := 5) hc (by omega)
  rw [room_of (by omega), cond_true, e1, Option.bind_some]
  by_cases h0 : u = 0
  · obtain ⟨w, c2, e2, _, _, k2⟩ := next_ok N (n := 256) k1 (by omega)
    rw [dpos h0, cond_true, e2]
    simp (disch := omega) only [dpos, dneg, w64_of, inR_of, room_of, tmod_of, cond_true, cond_false, Bool.and_self, Bool.and_true, Bool.true_and, Bool.and_false, Bool.false_and, Bool.not_true, Bool.not_false, Option.bind_some, List.length_cons, List.length_nil, Nat.zero_add]
    exact ⟨_, _, rfl, k2, by simp⟩
  by_cases h1 : u = 1
  · obtain ⟨w, c2, e2, w0, w1, k2⟩ := next_ok N (n := 9) k1 (by omega)
    rw [dneg h0, dpos h1, cond_false, cond_true, e2]
    simp only [Option.bind_some]
    have hm0 : 0 ≤ (b.length : Int) * w := Int.mul_nonneg (by omega) w0
    have hm : (b.length : Int) * w ≤ (b.length : Int) * 8 := Int.mul_le_mul_of_nonneg_left (by omega) (by omega)
    have e3 : w64 ((w64 ((b.length : Int) * w)).tdiv 9) = (b.length : Int) * w / 9 := by
      rw [w64_of (x := (b.length : Int) * w) (by omega) (by omega), Int.tdiv_eq_ediv_of_nonneg hm0, w64_of (by omega) (by omega)]
    rw [e3]
    have q0 : 0 ≤ (b.length : Int) * w / 9 := by omega
    have q1 : (b.length : Int) * w / 9 ≤ b.length := by omega
    generalize (b.length : Int) * w / 9 = q at *
    simp (disch := omega) only [dpos, dneg, w64_of, inR_of, room_of, tmod_of, cond_true, cond_false, Bool.and_self, Bool.and_true, Bool.true_and, Bool.and_false, Bool.false_and, Bool.not_true, Bool.not_false, Option.bind_some, List.length_cons, List.length_nil, Nat.zero_add]
    exact ⟨_, _, rfl, k2, by simp [cut]; omega⟩
  · rw [dneg h0, dneg h1, cond_false, cond_false]
    by_cases hl : (0 : Int) < (b.length : Int)
    · obtain ⟨w, c2, e2, w0, w1, k2⟩ := next_ok N (n := 256) k1 (by omega)
      obtain ⟨x, c3, e3, x0, x1, k3⟩ := next_ok N (n := 256) k2 (by omega)
      obtain ⟨y, c4, e4, y0, y1, k4⟩ := next_ok N (n := 255) k3 (by omega)
      rw [dpos hl, cond_true, e2, Option.bind_some, e3, Option.bind_some]
      have hs : shlI w 8 = w * 256 := by
        unfold shlI
        have : w * 2 ^ min 8 64 = w * 256 := rfl
        rw [this, w64_of (by omega) (by omega)]
      obtain ⟨z0, z1⟩ := or64_ok (a := shlI w 8) (b := x) (by rw [hs]; omega) (by rw [hs]; omega) x0 (by omega)
      have hn : ¬ ((b.length : Int) = 0) := by omega
      have ht0 : 0 ≤ (or64 (shlI w 8) x).tmod (b.length : Int) := Int.tmod_nonneg _ z0
      have ht1 : (or64 (shlI w 8) x).tmod (b.length : Int) < (b.length : Int) := Int.tmod_lt_of_pos _ hl
      simp only [dneg hn, Bool.not_false, cond_true, inR_of ht0 ht1, e4, Option.bind_some]
      exact ⟨_, _, rfl, k4, by rw [List.length_set]; omega⟩
    · rw [dneg hl, cond_false]
      exact ⟨_, _, rfl, k1, by omega⟩
theorem signs (codes : List UInt8) (hc : codes.length ≤ 9223372036854775807) (secret pubk : UInt64) (m : List UInt8) (hm : m.length ≤ 9223372036854775807) (sig : List UInt8) (hsig : sig.length ≤ 9223372036854775807) :
    law15_SchnorrSigns 18446744073709551616 codes secret pubk m sig = some ((true, ()), ()) := by
  unfold law15_SchnorrSigns
  rw [awake15]
  generalize hN0 : 18446744073709551616 = N
  have hN : 4611686018427387904 ≤ N := by omega
  clear hN0
  simp only [dpos, dneg, w64_of, inR_of, room_of, tmod_of, cond_true, cond_false, Bool.and_self, Bool.and_true, Bool.true_and, Bool.and_false, Bool.false_and, Bool.not_true, Bool.not_false, Option.bind_some, List.length_cons, List.length_nil, Nat.zero_add]
  by_cases hl : (300 : Int) < (m.length : Int)
  · rw [dpos hl]; rfl
  rw [dneg hl, cond_false]
  obtain ⟨c0, e0, k0⟩ := new_ok N codes (m := 80) (by omega) (by omega)
  obtain ⟨x, c1, e1, k1, hx⟩ := secret_ok N hN k0
  rw [e0, Option.bind_some, e1, Option.bind_some, rpublic_p N hN, Option.bind_some, rsign_p N hN x (m := m) (by omega), Option.bind_some]
  have hs := sgn_len x m
  generalize (sgn x m).1 = s at *
  generalize (pub x).1 = y at *
  show law15_SchnorrSigns_1 N pubk m sig y 2 0 c1 s [secret, x] = _
  have h2 : ([secret, x] : List UInt64).length = 2 := rfl
  generalize ([secret, x] : List UInt64) = L at *
  unfold law15_SchnorrSigns_1
  refine (loopK_run (fun i : Nat => ((pubk, m, sig, y, 2, (i : Int), ()), (c1, s, L, ()))) (n := 2) ?_ (e := ((pubk, m, sig, y, ()), (c1, s, ()))) ?_ (by omega)).trans ?_
  · intro i hi
    show law15_SchnorrSigns_s2 N pubk m sig y 2 (i : Int) c1 s L = _
    unfold law15_SchnorrSigns_s2
    have hr : inR (i : Int) L.length = true := inR_of (by omega) (by omega)
    have hg := sgn_len (L.getD i 0) m
    rw [dpos (show ((i : Nat) : Int) < 2 by omega), hr]
    simp only [cond_true, Int.toNat_natCast, sign_p N hN _ (show m.length ≤ 1000000 by omega), rsign_p N hN _ (show m.length ≤ 1000000 by omega), Option.bind_some, decide_true, Bool.not_true, cond_false]
    rw [equal_ok (by omega) (by omega) (by omega)]
    simp only [Option.bind_some, decide_true, Bool.not_true, cond_false]
    rw [w64_of (by omega) (by omega)]; rfl
  · rfl
  · show law15_SchnorrSigns_3 N pubk m sig y c1 s = _
    unfold law15_SchnorrSigns_3
    obtain ⟨z, c2, e2, k2, hz⟩ := change_ok N (b := s) (by omega) k1
    rw [e2, Option.bind_some]
    show law15_SchnorrSigns_4 N m 4 0 [(y, s, ()), (pubk, s, ()), (y, sig, ()), (y, z, ())] = _
    have h4 : ([(y, s, ()), (pubk, s, ()), (y, sig, ()), (y, z, ())] : List (UInt64 × (List UInt8 × Unit))).length = 4 := rfl
    generalize ([(y, s, ()), (pubk, s, ()), (y, sig, ()), (y, z, ())] : List (UInt64 × (List UInt8 × Unit))) = A at *
    unfold law15_SchnorrSigns_4
    refine (loopK_run (fun i : Nat => ((m, 4, (i : Int), ()), (A, ()))) (n := 4) ?_ (e := ((), ())) ?_ (by omega)).trans rfl
    · intro i hi
      show law15_SchnorrSigns_s5 N m 4 (i : Int) A = _
      unfold law15_SchnorrSigns_s5
      have hr : inR (i : Int) A.length = true := inR_of (by omega) (by omega)
      rw [dpos (show ((i : Nat) : Int) < 4 by omega), hr]
      simp only [cond_true, Int.toNat_natCast, verify_p N hN _ (show m.length ≤ 1000000 by omega), rverify_p N hN _ (show m.length ≤ 1000000 by omega), Option.bind_some, decide_true, Bool.not_true, cond_false]
      rw [w64_of (by omega) (by omega)]; rfl
    · rfl
end Go.Proofs.YtofajgidjkjnpaaDoor.Pl
