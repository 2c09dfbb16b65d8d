/- Plain: the law LookupSees. -/
import Derived.Test.YtgbkkfpheahdfaaLsQSees
import Derived.Test.YtgbkkfpheahdfaaLsQReturns
import Derived.Test.YtgbkkfpheahdfaaFnsLookupSeesA
set_option linter.unusedVariables false
set_option linter.unusedSimpArgs false
namespace Go.Proofs.Ytgbkkfpheahdfaa.Pl
open Go
/-- The head of a packet that was built. -/
def Hd (r : List UInt8) : Prop := (∃ r', r = 69 :: r' ∧ 19 ≤ r'.length ∧ r'.length ≤ 5000) ∨ (∃ r', r = 96 :: r' ∧ 39 ≤ r'.length ∧ r'.length ≤ 5000)
section
variable (N : Nat) (hN : 4611686018427387904 ≤ N)
include hN
theorem sbuild {p : Pkt} (v1 : lval p.1 = true) (v2 : lval p.2.1 = true) (fam : p.1.1 = p.2.1.1) (q0 : 0 ≤ p.2.2.1) (q1 : p.2.2.1 ≤ 255) (q44 : p.2.2.1 ≠ 44) (s1 : prt p.2.2.2.1 = true) (s2 : prt p.2.2.2.2.1 = true) {d : List UInt8} (h4 : 4 ≤ d.length) (hd : d.length ≤ 900) :
    ∃ r, ref22_Build N p d = some ((0, ()), (r, ())) ∧ Hd r := by
  obtain ⟨x, hx⟩ : ∃ x, trn (tcpB p) p.2.2.2.1 p.2.2.2.2.1 d = some x := by
    unfold trn
    split
    · split
      · exact ⟨_, rfl⟩
      · rw [if_neg (by omega)]; exact ⟨_, rfl⟩
    · exact ⟨_, rfl⟩
  have hxl := trn_len hx
  have core : lookup_Build_1 N d (decide (p.1.1 = 6)) p = bif decide (p.1.1 = 6) then lookup_Build_2 N (decide (p.1.1 = 6)) 40 p x else lookup_Build_2 N (decide (p.1.1 = 6)) 20 p x := by
    unfold lookup_Build_1
    rw [transport_ok N hN p (by omega), hx]
    rfl
  have hb : lookup_Build N p d = bif decide (p.1.1 = 6) then lookup_Build_2 N (decide (p.1.1 = 6)) 40 p x else lookup_Build_2 N (decide (p.1.1 = 6)) 20 p x := by
    unfold lookup_Build
    simp only [svalid_ok, v1, v2, Option.bind_some, Bool.not_true, cond_false, dpos fam, dneg (show ¬ p.2.2.1 < 0 by omega), dneg (show ¬ 255 < p.2.2.1 by omega), dneg q44, lport_ok, s1, s2]
    rw [core]
    generalize (bif decide (p.1.1 = 6) then lookup_Build_2 N (decide (p.1.1 = 6)) 40 p x else lookup_Build_2 N (decide (p.1.1 = 6)) 20 p x) = Z
    cases decide (p.1.1 = 6) <;> rfl
  obtain ⟨e, r, e1, e2, _⟩ := build_ok N hN p (d := d) (by omega)
  rw [hb] at e1
  by_cases h6 : p.1.1 = 6
  · rw [dpos h6, cond_true, lb6 N hN p (by omega)] at e1
    simp only [Option.some.injEq, Prod.mk.injEq, and_true] at e1
    obtain ⟨ee, er⟩ := e1
    rw [← ee, ← er] at e2
    refine ⟨_, e2, .inr ⟨_, rfl, ?_, ?_⟩⟩ <;> simp only [List.length_append, be_len, List.length_cons, List.length_nil, List.append_eq, List.nil_append] <;> omega
  · obtain ⟨l1, l0, a3, a2, a1, a0, b3, b2, b1, b0, v, eL, eA, eB, hc, hbuild⟩ := lb4 N hN p (x := x) (by omega)
    rw [dneg h6, cond_false, hbuild] at e1
    simp only [Option.some.injEq, Prod.mk.injEq, and_true] at e1
    obtain ⟨ee, er⟩ := e1
    rw [← ee, ← er] at e2
    refine ⟨_, e2, .inl ⟨_, rfl, ?_, ?_⟩⟩ <;> simp only [List.append_eq, List.length_append, List.length_cons, List.length_nil] <;> omega
end
theorem or_nn {a b : Int} (a0 : 0 ≤ a) (a1 : a < 65536) (b0 : 0 ≤ b) (b1 : b < 65536) : 0 ≤ or64 a b := by
  obtain ⟨n, rfl⟩ := Int.eq_ofNat_of_zero_le a0
  obtain ⟨m, rfl⟩ := Int.eq_ofNat_of_zero_le b0
  unfold or64
  have e : (BitVec.ofInt 64 (n : Int) ||| BitVec.ofInt 64 (m : Int)).toNat = n ||| m := by
    rw [BitVec.toNat_or, BitVec.toNat_ofInt, BitVec.toNat_ofInt]
    have e1 : ((n : Int) % ((2 ^ 64 : Nat) : Int)).toNat = n := by omega
    have e2 : ((m : Int) % ((2 ^ 64 : Nat) : Int)).toNat = m := by omega
    rw [e1, e2]
  have h : n ||| m < 2 ^ 16 := Nat.or_lt_two_pow (by omega) (by omega)
  have h2 : (2 : Nat) ^ 16 = 65536 := rfl
  rw [e, w64_of (by omega) (by omega)]
  omega
theorem change_ok (N : Nat) {c : List UInt8 × (Int × Unit)} (hc : COk c) {b : List UInt8} (hb : b.length ≤ 100000) : ∃ r c', make_Codes_Change N b c = some ((r, ()), (c', ())) ∧ COk c' ∧ r.length ≤ b.length + 1 := by
  unfold make_Codes_Change
  rw [room_of (by omega), cond_true]
  obtain ⟨v, c1, e1, v0, v1, k1⟩ := next_ok N (n := 5) hc (by omega)
  rw [e1, Option.bind_some]
  by_cases h0 : v = 0
  · obtain ⟨u, c2, e2, _, _, k2⟩ := next_ok N (n := 256) k1 (by omega)
    simp only [dpos h0, cond_true, e2, Option.bind_some]
    rw [room_of (by simp only [List.length_cons, List.length_nil]; omega), cond_true]
    exact ⟨_, _, rfl, k2, by rw [List.length_append]; simp⟩
  by_cases h1 : v = 1
  · obtain ⟨u, c2, e2, u0, u1, k2⟩ := next_ok N (n := 9) k1 (by omega)
    simp only [dneg h0, dpos h1, cond_true, cond_false, e2, Option.bind_some]
    have hm0 : 0 ≤ (b.length : Int) * u := Int.mul_nonneg (by omega) u0
    have hm1 : (b.length : Int) * u ≤ (b.length : Int) * 8 := Int.mul_le_mul_of_nonneg_left (by omega) (by omega)
    have hw : w64 ((b.length : Int) * u) = (b.length : Int) * u := w64_of (by omega) (by omega)
    have ht : ((b.length : Int) * u).tdiv 9 = (b.length : Int) * u / 9 := Int.tdiv_eq_ediv_of_nonneg hm0
    rw [hw, ht, w64_of (by omega) (by omega), dpos (show (0 : Int) ≤ 0 by omega), dpos (show (0 : Int) ≤ (b.length : Int) * u / 9 by omega), dpos (show (b.length : Int) * u / 9 ≤ (b.length : Int) by omega)]
    simp only [Bool.and_self, cond_true]
    exact ⟨_, _, rfl, k2, by simp [cut]; omega⟩
  · simp only [dneg h0, dneg h1, cond_false]
    by_cases hp : (0 : Int) < (b.length : Int)
    · obtain ⟨u, c2, e2, u0, u1, k2⟩ := next_ok N (n := 256) k1 (by omega)
      obtain ⟨w, c3, e3, w0, w1, k3⟩ := next_ok N (n := 256) k2 (by omega)
      obtain ⟨y, c4, e4, _, _, k4⟩ := next_ok N (n := 255) k3 (by omega)
      rw [dpos hp]
      simp only [cond_true, e2, e3, Option.bind_some]
      have hz0 : 0 ≤ or64 (shlI u 8) w := by
        obtain ⟨n, rfl⟩ := Int.eq_ofNat_of_zero_le u0
        rw [shlI8 (by omega)]
        exact or_nn (by omega) (by omega) w0 (by omega)
      generalize or64 (shlI u 8) w = z at hz0
      have hz : 0 ≤ z.tmod (b.length : Int) := Int.tmod_nonneg _ hz0
      have hlt : z.tmod (b.length : Int) < (b.length : Int) := Int.tmod_lt_of_pos _ hp
      rw [dneg (show ¬ (b.length : Int) = 0 by omega), Bool.not_false, cond_true, inR_of hz hlt]
      simp only [cond_true, e4, Option.bind_some]
      exact ⟨_, _, rfl, k4, by rw [List.length_set]; omega⟩
    · rw [dneg hp]; exact ⟨_, _, rfl, k1, by omega⟩
theorem get_head {r' : List UInt8} {x : UInt8} : (x :: r').getD 0 0 = x := rfl
section
variable (N : Nat) (hN : 4611686018427387904 ≤ N)
include hN
theorem fragment_ok {c : List UInt8 × (Int × Unit)} (hc : COk c) {x : List UInt8} (hx : Hd x) : ∃ c' r, law22_fragment N x c = some ((), (c', r, ())) ∧ COk c' ∧ r.length ≤ 6000 := by
  unfold law22_fragment
  obtain ⟨v, c1, e1, v0, v1, k1⟩ := next_ok N (n := 4) hc (by omega)
  rcases hx with ⟨r, rfl, l0, l1⟩ | ⟨r, rfl, l0, l1⟩
  · have hl : (69 :: r).length = r.length + 1 := rfl
    have i0 : ∀ {k : Int} {l : List UInt8}, 0 ≤ k → k < 20 → 20 ≤ l.length → inR k l.length = true := fun h0 h1 h2 => inR_of h0 (by omega)
    rw [room_of (by omega), cond_true, dneg (show ¬ ((69 :: r).length : Int) < 20 by omega), cond_false, e1, Option.bind_some]
    rw [inR_of v0 (by simpa using v1), cond_true, i0 (by omega) (by omega) (by omega), cond_true, get_head]
    rw [dpos (show shr8 (69 : UInt8) 4 = 4 by decide), cond_true]
    generalize ([(8192 : Int), 5, 8195, 16384] : List Int).getD v.toNat 0 = f
    obtain ⟨w, c2, e2, w0, w1, k2⟩ := next_ok N (n := 3) k1 (by omega)
    have i1 : ∀ (k : Int) (l : List UInt8), 0 ≤ k → k < 20 → 20 ≤ l.length → inR k l.length = true := fun k l h0 h1 h2 => inR_of h0 (by omega)
    rw [i1 6 (69 :: r) (by omega) (by omega) (by omega)]
    simp only [cond_true]
    rw [i1 7 ((69 :: r).set 6 (iu8 (shrI f 8))) (by omega) (by omega) (by rw [List.length_set]; omega)]
    obtain ⟨q, hq, hql⟩ : ∃ q, ((69 :: r).set 6 (iu8 (shrI f 8))).set 7 (iu8 f) = 69 :: q ∧ q.length = r.length := ⟨(r.set 5 (iu8 (shrI f 8))).set 6 (iu8 f), rfl, by rw [List.length_set, List.length_set]⟩
    simp only [cond_true, hq, e2, Option.bind_some]
    have hlq : (69 :: q).length = r.length + 1 := by rw [List.length_cons, hql]
    by_cases h2 : w = 2
    · rw [dpos h2]
      simp only [cond_true]
      have hs0 : (69 :: q).set 0 ((69 :: q).getD 0 0 + 1) = 70 :: q := rfl
      rw [i1 0 (69 :: q) (by omega) (by omega) (by omega)]
      simp only [cond_true, hs0]
      have hl70 : (70 :: q).length = r.length + 1 := by rw [List.length_cons, hql]
      have hc20 : (cut (70 :: q) 0 20).length = 20 := by simp only [cut, List.drop_zero, List.length_take]; omega
      have hcr : (cut (70 :: q) 20 (70 :: q).length).length = r.length + 1 - 20 := by simp only [cut, List.length_drop, List.length_take]; omega
      have hcr' : (cut (70 :: q) 20 (q.length + 1)).length = r.length + 1 - 20 := hcr
      rw [dpos (show (0 : Int) ≤ 0 by omega), dpos (show (0 : Int) ≤ 20 by omega), dpos (show (20 : Int) ≤ ((70 :: q).length : Int) by omega), dpos (show ((70 :: q).length : Int) ≤ ((70 :: q).length : Int) by omega)]
      simp only [Bool.and_self, cond_true]
      rw [room_of (by rw [hc20]; omega), cond_true, room_of (by rw [hc20]; simp only [List.length_cons, List.length_nil]; omega), cond_true]
      obtain ⟨y, hy, hyl⟩ : ∃ y, cut (70 :: q) 0 20 ++ [1, 1, 1, 0] ++ cut (70 :: q) 20 (70 :: q).length = 70 :: y ∧ y.length + 1 = r.length + 5 := by
        refine ⟨q.take 19 ++ [1, 1, 1, 0] ++ cut (70 :: q) 20 (70 :: q).length, rfl, ?_⟩
        simp only [List.length_append, List.length_take, List.length_cons, List.length_nil, hcr']
        omega
      rw [room_of (by simp only [List.length_append, hc20, List.length_cons, List.length_nil, hcr']; omega), cond_true, hy]
      have hyl' : (70 :: y).length = r.length + 5 := by rw [List.length_cons]; omega
      generalize hn : ((70 :: y).length : Int) = n
      rw [i1 2 (70 :: y) (by omega) (by omega) (by omega), cond_true]
      rw [i1 3 ((70 :: y).set 2 (iu8 (shrI n 8))) (by omega) (by omega) (by rw [List.length_set]; omega)]
      simp only [cond_true]
      rw [i1 10 (((70 :: y).set 2 (iu8 (shrI n 8))).set 3 (iu8 n)) (by omega) (by omega) (by rw [List.length_set, List.length_set]; omega)]
      simp only [cond_true]
      rw [i1 11 ((((70 :: y).set 2 (iu8 (shrI n 8))).set 3 (iu8 n)).set 10 0) (by omega) (by omega) (by rw [List.length_set, List.length_set, List.length_set]; omega)]
      simp only [cond_true]
      obtain ⟨z, hz, hzl⟩ : ∃ z, ((((70 :: y).set 2 (iu8 (shrI n 8))).set 3 (iu8 n)).set 10 0).set 11 0 = 70 :: z ∧ z.length = y.length := ⟨(((y.set 1 (iu8 (shrI n 8))).set 2 (iu8 n)).set 9 0).set 10 0, rfl, by simp only [List.length_set]⟩
      rw [hz]
      have hzl' : (70 :: z).length = r.length + 5 := by rw [List.length_cons, hzl]; omega
      have h24 : w64 ((((70 : UInt8) &&& 15).toNat : Int) * 4) = 24 := by rw [show (((70 : UInt8) &&& 15).toNat : Int) = 6 from rfl]; exact w64_of (by omega) (by omega)
      rw [i1 0 (70 :: z) (by omega) (by omega) (by omega), cond_true, get_head, h24, dpos (show (0 : Int) ≤ 24 by omega), dpos (show (24 : Int) ≤ ((70 :: z).length : Int) by omega)]
      simp only [Bool.and_self, cond_true]
      obtain ⟨cs, _, c22, _⟩ := checksum_ok N hN (b := cut (70 :: z) 0 24) (by simp only [cut, List.drop_zero, List.length_take]; omega)
      rw [show ((24 : Int)).toNat = 24 from rfl, c22, Option.bind_some, i1 10 (70 :: z) (by omega) (by omega) (by omega), cond_true]
      rw [i1 11 ((70 :: z).set 10 (iu8 (shrI cs 8))) (by omega) (by omega) (by rw [List.length_set]; omega), cond_true]
      exact ⟨_, _, rfl, k2, by rw [List.length_set, List.length_set]; omega⟩
    · rw [dneg h2]
      simp only [cond_false]
      rw [i1 10 (69 :: q) (by omega) (by omega) (by omega), cond_true]
      rw [i1 11 ((69 :: q).set 10 0) (by omega) (by omega) (by rw [List.length_set]; omega)]
      simp only [cond_true]
      obtain ⟨z, hz, hzl⟩ : ∃ z, ((69 :: q).set 10 0).set 11 0 = 69 :: z ∧ z.length = q.length := ⟨(q.set 9 0).set 10 0, rfl, by simp only [List.length_set]⟩
      rw [hz]
      have hzl' : (69 :: z).length = r.length + 1 := by rw [List.length_cons, hzl, hql]
      have h20 : w64 ((((69 : UInt8) &&& 15).toNat : Int) * 4) = 20 := by rw [show (((69 : UInt8) &&& 15).toNat : Int) = 5 from rfl]; exact w64_of (by omega) (by omega)
      rw [i1 0 (69 :: z) (by omega) (by omega) (by omega), cond_true, get_head, h20, dpos (show (0 : Int) ≤ 0 by omega), dpos (show (0 : Int) ≤ 20 by omega), dpos (show (20 : Int) ≤ ((69 :: z).length : Int) by omega)]
      simp only [Bool.and_self, cond_true]
      obtain ⟨cs, _, c22, _⟩ := checksum_ok N hN (b := cut (69 :: z) 0 20) (by simp only [cut, List.drop_zero, List.length_take]; omega)
      rw [show ((20 : Int)).toNat = 20 from rfl, c22, Option.bind_some, i1 10 (69 :: z) (by omega) (by omega) (by omega), cond_true]
      rw [i1 11 ((69 :: z).set 10 (iu8 (shrI cs 8))) (by omega) (by omega) (by rw [List.length_set]; omega), cond_true]
      exact ⟨_, _, rfl, k2, by rw [List.length_set, List.length_set]; omega⟩
  · have hl : (96 :: r).length = r.length + 1 := rfl
    have i1 : ∀ (k : Int) (l : List UInt8), 0 ≤ k → k < 40 → 40 ≤ l.length → inR k l.length = true := fun k l h0 h1 h2 => inR_of h0 (by omega)
    rw [room_of (by omega), cond_true, dneg (show ¬ ((96 :: r).length : Int) < 20 by omega), cond_false, e1, Option.bind_some]
    rw [inR_of v0 (by simpa using v1), cond_true, i1 0 (96 :: r) (by omega) (by omega) (by omega), cond_true, get_head]
    rw [dneg (show ¬ shr8 (96 : UInt8) 4 = 4 by decide), cond_false, dneg (show ¬ ((96 :: r).length : Int) < 40 by omega), cond_false]
    generalize ([(8192 : Int), 5, 8195, 16384] : List Int).getD v.toNat 0 = f
    obtain ⟨w, c2, e2, w0, w1, k2⟩ := next_ok N (n := 2) k1 (by omega)
    rw [i1 6 (96 :: r) (by omega) (by omega) (by omega)]
    simp only [cond_true, e2, Option.bind_some]
    generalize or64 (shlI f 3) w = g
    generalize and64 f 4095 = g2
    generalize (96 :: r).getD 6 0 = g3
    have hs : ((96 :: r).set 6 44).length = r.length + 1 := by rw [List.length_set, hl]
    generalize (96 :: r).set 6 44 = q at hs
    have hc40 : (cut q 0 40).length = 40 := by simp only [cut, List.drop_zero, List.length_take]; omega
    have hcr : (cut q 40 q.length).length = r.length + 1 - 40 := by simp only [cut, List.length_drop, List.length_take]; omega
    rw [dpos (show (0 : Int) ≤ 0 by omega), dpos (show (0 : Int) ≤ 40 by omega), dpos (show (40 : Int) ≤ (q.length : Int) by omega), dpos (show (q.length : Int) ≤ (q.length : Int) by omega)]
    simp only [Bool.and_self, cond_true]
    rw [room_of (by rw [hc40]; omega), cond_true, room_of (by rw [hc40]; simp only [List.length_cons, List.length_nil]; omega), cond_true]
    have hy : (cut q 0 40 ++ [g3, 0, iu8 (shrI g2 5), iu8 g, 0, 0, 0, 1]).length = 48 := by simp only [List.length_append, hc40, List.length_cons, List.length_nil]
    generalize cut q 0 40 ++ [g3, 0, iu8 (shrI g2 5), iu8 g, 0, 0, 0, 1] = y at hy
    rw [room_of (by rw [hy, hcr]; omega), cond_true]
    have hz : (y ++ cut q 40 q.length).length = r.length + 9 := by rw [List.length_append, hy, hcr]; omega
    generalize y ++ cut q 40 q.length = z at hz
    rw [i1 4 z (by omega) (by omega) (by omega), cond_true]
    generalize w64 ((z.length : Int) - 40) = m
    rw [i1 5 (z.set 4 (iu8 (shrI m 8))) (by omega) (by omega) (by rw [List.length_set]; omega), cond_true]
    exact ⟨_, _, rfl, k2, by rw [List.length_set, List.length_set]; omega⟩
theorem shorter_ok {c : List UInt8 × (Int × Unit)} (hc : COk c) {x : List UInt8} (hx : x.length ≤ 10000) : ∃ c' r, law22_shorter N x c = some ((), (c', r, ())) ∧ r.length ≤ 5000 := by
  unfold law22_shorter
  obtain ⟨s, e, _, e2⟩ := see_eq N hN (b := x) (by omega)
  rw [e2, Option.bind_some]
  cases decide (((s, e, ()) : Sn × Int × Unit).2.1 = 0)
  · exact ⟨_, _, rfl, by simp⟩
  · obtain ⟨v, c1, e1, v0, v1, k1⟩ := next_ok N (n := 5) hc (by omega)
    obtain ⟨c3, d, e3, hd, k3⟩ := bytes_ok (N := N) (n := v) k1 v0 (by omega) (by omega)
    obtain ⟨e5, r, _, e4, hr⟩ := build_ok N hN (s.1.1, s.1.2.1, s.1.2.2.1, -1, -1, ()) (d := d) (by omega)
    simp only [Bool.not_true, cond_false, e1, e3, Option.bind_some]
    rw [e4]
    exact ⟨_, _, rfl, hr⟩
theorem sees_1 {L : List (List UInt8)} {k : Int} (hk : (L.length : Int) = k) (hL : ∀ b ∈ L, b.length ≤ 9223372036854775807) (h6 : L.length ≤ 1000) : law22_LookupSees_1 N k 0 L = some ((true, ()), ()) := by
  unfold law22_LookupSees_1
  refine (loopK_run (fun i : Nat => ((k, (i : Int), ()), (L, ()))) (n := L.length) ?_ (e := ((), ())) ?_ (by omega)).trans rfl
  · intro i hi
    show law22_LookupSees_s2 N k (i : Int) L = _
    unfold law22_LookupSees_s2
    have hg : L.getD i [] ∈ L := by rw [List.getD, List.getElem?_eq_getElem hi]; exact List.getElem_mem hi
    obtain ⟨s, e, e1, e2⟩ := see_eq N hN (hL _ hg)
    rw [dpos (show (i : Int) < k by omega), inR_of (by omega) (by omega), w64_of (by omega) (by omega)]
    simp only [cond_true, Int.toNat_natCast, e1, e2, Option.bind_some, decide_true, Bool.not_true, cond_false]
    have hT : dq T90 s s = true := rdq _ _ rfl
    rw [hT]
    rfl
  · show law22_LookupSees_s2 N k (L.length : Int) L = _
    unfold law22_LookupSees_s2
    rw [dneg (by omega)]; rfl
end
theorem prt_of {s : Int} (h : -1 ≤ s ∧ s ≤ 65535) : prt s = true := by
  unfold prt
  rw [dpos h.1, dpos h.2]; rfl
theorem sees (b : List UInt8) (hb : b.length ≤ 9223372036854775807) (codes : List UInt8) (hc : codes.length ≤ 9223372036854775807) : law22_LookupSees 18446744073709551616 b codes = some ((true, ()), ()) := by
  unfold law22_LookupSees
  rw [awake22r]
  generalize hN0 : 18446744073709551616 = N
  have hN : 4611686018427387904 ≤ N := by omega
  clear hN0
  simp only [Option.bind_some, Bool.not_true, cond_false]
  obtain ⟨c0, e0, k0⟩ := new_ok N codes (m := 160) (by omega) (by omega)
  obtain ⟨f, a, a', q, s, t, c1, e1, k1, hf, ha, ha', hq, hs, ht⟩ := rpacket N k0
  obtain ⟨v, c2, e2, v0, v1, k2⟩ := next_ok N (n := 12) k1 (by omega)
  have hw : w64 (4 + v) = 4 + v := w64_of (by omega) (by omega)
  obtain ⟨c3, d, e3, hd, k3⟩ := bytes_ok (N := N) (n := 4 + v) k2 (by omega) (by omega) (by omega)
  have hq' : 0 ≤ q ∧ q ≤ 255 ∧ q ≠ 44 := by unfold PrOk at hq; omega
  obtain ⟨r, e4, hr⟩ := sbuild N hN (p := (a, a', q, s, t, ())) (lval_of hf ha) (lval_of hf ha') (ha.1.trans ha'.1.symm) hq'.1 hq'.2.1 hq'.2.2 (prt_of hs) (prt_of ht) (d := d) (by omega) (by omega)
  have hrl : r.length ≤ 5001 := by rcases hr with ⟨r', rfl, _, h⟩ | ⟨r', rfl, _, h⟩ <;> rw [List.length_cons] <;> omega
  obtain ⟨c5, y, e5, k5, hy⟩ := fragment_ok N hN k3 hr
  obtain ⟨r1, c6, e6, k6, h1⟩ := change_ok N k5 (b := r) (by omega)
  obtain ⟨r2, c7, e7, k7, h2⟩ := change_ok N k6 (b := y) (by omega)
  obtain ⟨c8, r3, e8, h3⟩ := shorter_ok N hN k7 (x := r) (by omega)
  have e0' : make_New N codes (160 : Int) = _ := e0
  rw [e0', Option.bind_some, e1, Option.bind_some, e2, Option.bind_some]
  simp only [hw]
  rw [e3, Option.bind_some]
  simp only []
  rw [e4, Option.bind_some]
  simp only []
  rw [e5, Option.bind_some]
  simp only []
  rw [e6, Option.bind_some]
  simp only []
  rw [e7, Option.bind_some]
  simp only []
  rw [e8, Option.bind_some]
  refine sees_1 N hN rfl (fun x hx => ?_) (by simp)
  simp only [List.mem_cons, List.not_mem_nil, or_false] at hx
  rcases hx with rfl | rfl | rfl | rfl | rfl | rfl <;> omega
end Go.Proofs.Ytgbkkfpheahdfaa.Pl
