/- Plain: the law LookupReturns, joined. -/
import Derived.Test.YtgbkkfpheahdfaaLsQRet
set_option linter.unusedVariables false
set_option linter.unusedSimpArgs false
namespace Go.Proofs.Ytgbkkfpheahdfaa.Pl
open Go
/-- An address of a family, within it. -/
def AOk (f : Int) (a : Int × (UInt64 × (UInt64 × Unit))) : Prop := a.1 = f ∧ (f = 4 → a.2.1 = 0 ∧ a.2.2.1.toNat < 4294967296)
theorem address_ok (N : Nat) {c : List UInt8 × (Int × Unit)} (f : Int) (hc : COk c) : ∃ a c', make_Codes_Address N f c = some ((a, ()), (c', ())) ∧ COk c' ∧ AOk f a := by
  unfold make_Codes_Address
  by_cases hf : f = 4
  · obtain ⟨u, c2, e2, u0, u1, k2⟩ := next_ok N (n := 4) hc (by omega)
    obtain ⟨z, c3, e3, z0, z1, k3⟩ := next_ok N (n := 8) k2 (by omega)
    rw [dpos hf, e2]
    simp only [cond_true, Option.bind_some]
    rw [inR_of u0 (by simpa using u1), cond_true, e3]
    refine ⟨_, _, rfl, k3, rfl, fun _ => ⟨rfl, ?_⟩⟩
    simp only
    have hu : u.toNat = 0 ∨ u.toNat = 1 ∨ u.toNat = 2 ∨ u.toNat = 3 := by omega
    obtain ⟨q, hq, rfl⟩ : ∃ q : Nat, q < 8 ∧ z = (q : Int) := ⟨z.toNat, by omega, by omega⟩
    have hz : ∀ q : Nat, q < 8 → (iu64 (q : Int)).toNat = q := by decide
    have hadd : ∀ x : UInt64, x.toNat ≤ 4294967288 → (x + iu64 (q : Int)).toNat < 4294967296 := by
      intro x hx
      rw [UInt64.toNat_add, hz q hq]; omega
    rcases hu with h | h | h | h <;> rw [h] <;> exact hadd _ (by decide)
  · obtain ⟨u, c2, e2, u0, u1, k2⟩ := next_ok N (n := 3) hc (by omega)
    obtain ⟨z, c3, e3, z0, z1, k3⟩ := next_ok N (n := 3) k2 (by omega)
    obtain ⟨y, c4, e4, y0, y1, k4⟩ := next_ok N (n := 8) k3 (by omega)
    rw [dneg hf, e2]
    simp only [cond_false, Option.bind_some]
    rw [inR_of u0 (by simpa using u1), cond_true, e3]
    simp only [Option.bind_some]
    rw [inR_of z0 (by simpa using z1), cond_true, e4]
    exact ⟨_, _, rfl, k4, rfl, fun h => absurd h hf⟩
theorem mport_ok (N : Nat) {c : List UInt8 × (Int × Unit)} (hc : COk c) : ∃ v c', make_Codes_port N c = some ((v, ()), (c', ())) ∧ COk c' ∧ 0 ≤ v ∧ v ≤ 65535 := by
  unfold make_Codes_port
  obtain ⟨u, c1, e1, u0, u1, k1⟩ := next_ok N (n := 5) hc (by omega)
  obtain ⟨z, c2, e2, z0, z1, k2⟩ := next_ok N (n := 6) k1 (by omega)
  rw [e1]
  simp only [Option.bind_some]
  rw [inR_of u0 (by simpa using u1), cond_true, e2]
  have hx : ∀ x : Int, x = ([(0 : Int), (80 : Int), (443 : Int), (65530 : Int), (1 : Int)] : List Int).getD u.toNat 0 → 0 ≤ x ∧ x ≤ 65530 := by
    rintro x rfl
    have : u.toNat = 0 ∨ u.toNat = 1 ∨ u.toNat = 2 ∨ u.toNat = 3 ∨ u.toNat = 4 := by omega
    rcases this with h | h | h | h | h <;> rw [h] <;> decide
  obtain ⟨x0, x1⟩ := hx _ rfl
  refine ⟨_, _, rfl, k2, ?_, ?_⟩ <;> simp only <;> rw [w64_of (by omega) (by omega)] <;> omega
def PrOk (q : Int) : Prop := q = 6 ∨ q = 17 ∨ q = 1 ∨ q = 58 ∨ q = 0 ∨ q = 255 ∨ q = 8 ∨ q = 3
theorem rpacket (N : Nat) {c : List UInt8 × (Int × Unit)} (hc : COk c) : ∃ f a b q s t c', make_Codes_Packet N c = some (((a, b, q, s, t, ()), ()), (c', ())) ∧ COk c' ∧ (f = 4 ∨ f = 6) ∧ AOk f a ∧ AOk f b ∧ PrOk q ∧ (-1 ≤ s ∧ s ≤ 65535) ∧ (-1 ≤ t ∧ t ≤ 65535) := by
  unfold make_Codes_Packet
  obtain ⟨v, c1, e1, v0, v1, k1⟩ := next_ok N (n := 4) hc (by omega)
  rw [e1]
  simp only [Option.bind_some]
  have key : ∀ (f : Int) x, (f = 4 ∨ f = 6) → ∃ g a b q s t c', make_Codes_Packet_1 N f c1 x = some (((a, b, q, s, t, ()), ()), (c', ())) ∧ COk c' ∧ (g = 4 ∨ g = 6) ∧ AOk g a ∧ AOk g b ∧ PrOk q ∧ (-1 ≤ s ∧ s ≤ 65535) ∧ (-1 ≤ t ∧ t ≤ 65535) := by
    intro f x hf
    unfold make_Codes_Packet_1
    obtain ⟨a, c2, e2, k2, ha⟩ := address_ok N f k1
    obtain ⟨b, c3, e3, k3, hb⟩ := address_ok N f k2
    obtain ⟨u, c4, e4, u0, u1, k4⟩ := next_ok N (n := 8) k3 (by omega)
    obtain ⟨w, c5, e5, w0, w1, k5⟩ := next_ok N (n := 4) k4 (by omega)
    rw [e2]; simp only [Option.bind_some]
    rw [e3]; simp only [Option.bind_some]
    rw [e4]; simp only [Option.bind_some]
    rw [inR_of u0 (by simpa using u1), cond_true, e5]
    simp only [Option.bind_some]
    have hx : PrOk (([(6 : Int), (17 : Int), (1 : Int), (58 : Int), (0 : Int), (255 : Int), (8 : Int), (3 : Int)] : List Int).getD u.toNat 0) := by
      have : u.toNat = 0 ∨ u.toNat = 1 ∨ u.toNat = 2 ∨ u.toNat = 3 ∨ u.toNat = 4 ∨ u.toNat = 5 ∨ u.toNat = 6 ∨ u.toNat = 7 := by omega
      unfold PrOk
      rcases this with h | h | h | h | h | h | h | h <;> rw [h] <;> decide
    by_cases h0 : w = 0
    · rw [dpos h0]
      exact ⟨f, _, _, _, _, _, _, rfl, k5, hf, ha, hb, hx, ⟨by omega, by omega⟩, ⟨by omega, by omega⟩⟩
    by_cases h1 : w = 1
    · rw [dneg h0, dpos h1]
      obtain ⟨y, c6, e6, k6, y0, y1⟩ := mport_ok N k5
      rw [e6]
      exact ⟨f, _, _, _, _, _, _, rfl, k6, hf, ha, hb, hx, ⟨by simp only; omega, by simp only; omega⟩, ⟨by omega, by omega⟩⟩
    · rw [dneg h0, dneg h1]
      obtain ⟨y, c6, e6, k6, y0, y1⟩ := mport_ok N k5
      obtain ⟨z, c7, e7, k7, z0, z1⟩ := mport_ok N k6
      rw [e6]
      simp only [cond_false, Option.bind_some]
      rw [e7]
      exact ⟨f, _, _, _, _, _, _, rfl, k7, hf, ha, hb, hx, ⟨by (try simp only); omega, by (try simp only); omega⟩, ⟨by (try simp only); omega, by (try simp only); omega⟩⟩
  by_cases h3 : v = 3
  · rw [dpos h3]; exact key 6 ((0, 0, 0, ()), (0, 0, 0, ()), 0, 0, 0, ()) (.inr rfl)
  · rw [dneg h3]; exact key 4 ((0, 0, 0, ()), (0, 0, 0, ()), 0, 0, 0, ()) (.inl rfl)
theorem lval_of {f : Int} {a : Ad} (hf : f = 4 ∨ f = 6) (h : AOk f a) : lval a = true := by
  unfold lval
  rcases hf with rfl | rfl
  · obtain ⟨h1, h2⟩ := h.2 rfl
    rw [dpos h.1, dpos h1, dpos (UInt64.lt_iff_toNat_lt.2 h2), Bool.and_self, Bool.and_self, Bool.or_true]
  · rw [dpos h.1, Bool.true_or]
theorem max0 {s : Int} (h : -1 ≤ s ∧ s ≤ 65535) : 0 ≤ (bif decide ((0 : Int) < s) then s else 0) ∧ (bif decide ((0 : Int) < s) then s else 0) ≤ 65535 := by
  by_cases hs : 0 < s
  · rw [dpos hs]; simp only [cond_true]; omega
  · rw [dneg hs]; simp only [cond_false]; omega
theorem ret_law (N : Nat) (hN : 4611686018427387904 ≤ N) {f : Int} {a b : Ad} {q s t : Int} (hf : f = 4 ∨ f = 6) (ha : AOk f a) (hb : AOk f b) (hq : PrOk q) (hs : -1 ≤ s ∧ s ≤ 65535) (ht : -1 ≤ t ∧ t ≤ 65535) {d : List UInt8} (h4 : 4 ≤ d.length) (hd : d.length ≤ 900) :
    (bif decide (q = 6) then law22_LookupReturns_1 N true (a, b, q, s, t, ()) d else law22_LookupReturns_1 N (decide (q = 17)) (a, b, q, s, t, ()) d) = some ((true, ()), ()) := by
  have va := lval_of hf ha
  have vb := lval_of hf hb
  have fm : a.1 = b.1 := ha.1.trans hb.1.symm
  have tcp : ∀ q : Int, q = 6 ∨ q = 17 → law22_LookupReturns_4 N (a, b, q, (bif decide ((0 : Int) < s) then s else 0), (bif decide ((0 : Int) < t) then t else 0), ()) d = some ((true, ()), ()) := by
    intro q hq
    obtain ⟨s0, s1⟩ := max0 hs
    obtain ⟨t0, t1⟩ := max0 ht
    refine ret_4 N hN ⟨va, vb, fm, ⟨by simp only; omega, by simp only; omega, by simp only; omega, by simp only; omega, by simp only; omega⟩, ?_⟩ h4 hd
    rw [if_pos hq]
    exact ⟨s0, s1, t0, t1⟩
  have non : ∀ q : Int, 0 ≤ q → q ≤ 255 → q ≠ 44 → q ≠ 1 → q ≠ 58 → q ≠ 6 → q ≠ 17 → law22_LookupReturns_4 N (a, b, q, -1, -1, ()) d = some ((true, ()), ()) := by
    intro q q0 q1 q2 q3 q4 q5 q6
    refine ret_4 N hN ⟨va, vb, fm, ⟨q0, q1, q2, q3, q4⟩, ?_⟩ h4 hd
    rw [if_neg (show ¬ (q = 6 ∨ q = 17) by omega)]
    exact ⟨rfl, rfl⟩
  rcases hq with rfl | rfl | rfl | rfl | rfl | rfl | rfl | rfl
  · exact tcp 6 (.inl rfl)
  · exact tcp 17 (.inr rfl)
  · exact non 50 (by omega) (by omega) (by omega) (by omega) (by omega) (by omega) (by omega)
  · exact non 50 (by omega) (by omega) (by omega) (by omega) (by omega) (by omega) (by omega)
  · exact non 0 (by omega) (by omega) (by omega) (by omega) (by omega) (by omega) (by omega)
  · exact non 255 (by omega) (by omega) (by omega) (by omega) (by omega) (by omega) (by omega)
  · exact non 8 (by omega) (by omega) (by omega) (by omega) (by omega) (by omega) (by omega)
  · exact non 3 (by omega) (by omega) (by omega) (by omega) (by omega) (by omega) (by omega)
theorem returns (codes : List UInt8) (hc : codes.length ≤ 9223372036854775807) : law22_LookupReturns 18446744073709551616 codes = some ((true, ()), ()) := by
  unfold law22_LookupReturns
  rw [awake22r]
  generalize hN0 : 18446744073709551616 = N
  have hN : 4611686018427387904 ≤ N := by omega
  clear hN0
  simp only [Option.bind_some, Bool.not_true, cond_false]
  obtain ⟨c0, e0, k0⟩ := new_ok N codes (m := 120) (by omega) (by omega)
  obtain ⟨f, a, b, q, s, t, c1, e1, k1, hf, ha, hb, hq, hs, ht⟩ := rpacket N k0
  obtain ⟨v, c2, e2, v0, v1, k2⟩ := next_ok N (n := 20) k1 (by omega)
  have hw : w64 (4 + v) = 4 + v := w64_of (by omega) (by omega)
  obtain ⟨c3, d, e3, hd, k3⟩ := bytes_ok (N := N) (n := 4 + v) k2 (by omega) (by omega) (by omega)
  have e0' : make_New N codes (120 : Int) = _ := e0
  rw [e0', Option.bind_some, e1, Option.bind_some, e2, Option.bind_some]
  simp only [hw]
  rw [e3, Option.bind_some]
  exact ret_law N hN hf ha hb hq hs ht (show 4 ≤ d.length by omega) (show d.length ≤ 900 by omega)
end Go.Proofs.Ytgbkkfpheahdfaa.Pl
