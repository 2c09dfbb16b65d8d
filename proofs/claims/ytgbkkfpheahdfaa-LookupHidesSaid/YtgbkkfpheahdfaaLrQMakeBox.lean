/- Plain: boxes that are made (make.Codes.Box). -/
import Derived.Test.YtgbkkfpheahdfaaLrQCodes
import Derived.Test.YtgbkkfpheahdfaaFnsLookupHidesA
set_option linter.unusedVariables false
set_option linter.unusedSimpArgs false
namespace Go.Proofs.Ytgbkkfpheahdfaa.Pl
open Go
theorem list_at {α : Type} (N : Nat) {i : Int} {n : Nat} (h0 : 0 ≤ i) (h1 : i < (n : Int)) : inR i n = true := inR_of h0 h1
theorem ports_ok (N : Nat) {c : List UInt8 × (Int × Unit)} (hc : COk c) : ∃ l c', make_Codes_Ports N c = some ((l, ()), (c', ())) ∧ COk c' ∧ ∃ a b : Int, l = [a, b] ∧ -1 ≤ a ∧ a ≤ b ∧ b ≤ 65535 := by
  unfold make_Codes_Ports make_Codes_Ports_1
  obtain ⟨v, c1, e1, v0, v1, k1⟩ := next_ok N (n := 7) hc (by omega)
  rw [e1]
  simp only [Option.bind_some]
  by_cases h0 : v = 0
  · rw [dpos h0]; exact ⟨_, _, rfl, k1, _, _, rfl, by omega, by omega, by omega⟩
  by_cases h1 : v = 1
  · rw [dneg h0, dpos h1]; exact ⟨_, _, rfl, k1, _, _, rfl, by omega, by omega, by omega⟩
  by_cases h2 : v = 2
  · rw [dneg h0, dneg h1, dpos h2]; exact ⟨_, _, rfl, k1, _, _, rfl, by omega, by omega, by omega⟩
  by_cases h3 : v = 3
  · rw [dneg h0, dneg h1, dneg h2, dpos h3]; exact ⟨_, _, rfl, k1, _, _, rfl, by omega, by omega, by omega⟩
  by_cases h4 : v = 4
  · obtain ⟨u, c2, e2, u0, u1, k2⟩ := next_ok N (n := 9) k1 (by omega)
    rw [dneg h0, dneg h1, dneg h2, dneg h3, dpos h4, e2]
    exact ⟨_, _, rfl, k2, _, _, rfl, by omega, by simp only; omega, by simp only; omega⟩
  · obtain ⟨u, c2, e2, u0, u1, k2⟩ := next_ok N (n := 4) k1 (by omega)
    obtain ⟨z, c3, e3, z0, z1, k3⟩ := next_ok N (n := 6) k2 (by omega)
    rw [dneg h0, dneg h1, dneg h2, dneg h3, dneg h4, e2]
    simp only [cond_false, Option.bind_some]
    rw [inR_of u0 (by simpa using u1), cond_true, e3]
    have hx : ∀ x : Int, x = ([(0 : Int), (80 : Int), (443 : Int), (65530 : Int)] : List Int).getD u.toNat 0 → 0 ≤ x ∧ x ≤ 65530 := by
      rintro x rfl
      have : u.toNat = 0 ∨ u.toNat = 1 ∨ u.toNat = 2 ∨ u.toNat = 3 := by omega
      rcases this with h | h | h | h <;> rw [h] <;> decide
    obtain ⟨x0, x1⟩ := hx _ rfl
    refine ⟨_, _, rfl, k3, _, _, rfl, ?_, ?_, ?_⟩ <;> (try simp only) <;> (try rw [w64_of (by omega) (by omega)]) <;> omega
/-- An address of a family, within it. -/
def AOk (f : Int) (a : Int × (UInt64 × (UInt64 × Unit))) : Prop := a.1 = f ∧ (f = 4 → a.2.1 = 0 ∧ a.2.2.1.toNat < 4294967296)
theorem address_ok (N : Nat) {c : List UInt8 × (Int × Unit)} (f : Int) (hc : COk c) : ∃ a c', make_Codes_Address N f c = some ((a, ()), (c', ())) ∧ COk c' ∧ AOk f a := by
  unfold make_Codes_Address
  by_cases hf : f = 4
  · obtain ⟨u, c2, e2, u0, u1, k2⟩ := next_ok N (n := 4) hc (by omega)
    obtain ⟨z, c3, e3, z0, z1, k3⟩ := next_ok N (n := 8) k2 (by omega)
    rw [dpos hf, e2]
    simp only [cond_true, Option.bind_some]
    rw [inR_of u0 (by simpa using u1), cond_true, e3]
    refine ⟨_, _, rfl, k3, rfl, fun _ => ⟨rfl, ?_⟩⟩
    simp only
    have hu : u.toNat = 0 ∨ u.toNat = 1 ∨ u.toNat = 2 ∨ u.toNat = 3 := by omega
    obtain ⟨q, hq, rfl⟩ : ∃ q : Nat, q < 8 ∧ z = (q : Int) := ⟨z.toNat, by omega, by omega⟩
    have hz : ∀ q : Nat, q < 8 → (iu64 (q : Int)).toNat = q := by decide
    have hadd : ∀ x : UInt64, x.toNat ≤ 4294967288 → (x + iu64 (q : Int)).toNat < 4294967296 := by
      intro x hx
      rw [UInt64.toNat_add, hz q hq]; omega
    rcases hu with h | h | h | h <;> rw [h] <;> exact hadd _ (by decide)
  · obtain ⟨u, c2, e2, u0, u1, k2⟩ := next_ok N (n := 3) hc (by omega)
    obtain ⟨z, c3, e3, z0, z1, k3⟩ := next_ok N (n := 3) k2 (by omega)
    obtain ⟨y, c4, e4, y0, y1, k4⟩ := next_ok N (n := 8) k3 (by omega)
    rw [dneg hf, e2]
    simp only [cond_false, Option.bind_some]
    rw [inR_of u0 (by simpa using u1), cond_true, e3]
    simp only [Option.bind_some]
    rw [inR_of z0 (by simpa using z1), cond_true, e4]
    exact ⟨_, _, rfl, k4, rfl, fun h => absurd h hf⟩
theorem and_le_u (x y : UInt64) : (x &&& y).toNat ≤ x.toNat := by rw [UInt64.toNat_and]; exact Nat.and_le_left
theorem le_or_u (x y : UInt64) : x.toNat ≤ (x ||| y).toNat := by rw [UInt64.toNat_or]; exact Nat.left_le_or
theorem shl1 {k : Int} (h0 : 0 ≤ k) (h1 : k < 32) : (shl64 (1 : UInt64) (iu64 k).toNat).toNat < 2 ^ 32 := by
  obtain ⟨q, rfl⟩ := Int.eq_ofNat_of_zero_le h0
  have hq : q < 32 := by omega
  clear h0 h1
  have : ∀ q : Nat, q < 32 → (shl64 (1 : UInt64) (iu64 (q : Int)).toNat).toNat < 2 ^ 32 := by decide +kernel
  exact this q hq
theorem bits_ok (N : Nat) (f : Int) (hf : f = 4 ∨ f = 6) : ref18_bits N f = some ((if f = 4 then 32 else 128, ()), ()) := by
  unfold ref18_bits
  rcases hf with rfl | rfl <;> rfl
theorem valid_ok (N : Nat) {f : Int} {a : Int × (UInt64 × (UInt64 × Unit))} (hf : f = 4 ∨ f = 6) (ha : AOk f a) : ref05_Valid N a = some ((true, ()), ()) := by
  unfold ref05_Valid
  obtain ⟨h1, h2⟩ := ha
  rw [h1]
  rcases hf with rfl | rfl
  · obtain ⟨h3, h4⟩ := h2 rfl
    have : a.2.2.1 < (4294967296 : UInt64) := by rw [UInt64.lt_iff_toNat_lt]; exact h4
    rw [dpos rfl, dpos h3, dpos this]; rfl
  · rfl
/-- A range of addresses of a family. -/
def SOk (f : Int) (lo hi : Int × (UInt64 × (UInt64 × Unit))) : Prop := AOk f lo ∧ AOk f hi ∧ lo.2.1.toNat ≤ hi.2.1.toNat ∧ (lo.2.1.toNat = hi.2.1.toNat → lo.2.2.1.toNat ≤ hi.2.2.1.toNat)
theorem prefix_ok (N : Nat) {f : Int} {a : Int × (UInt64 × (UInt64 × Unit))} {n : Int} (hf : f = 4 ∨ f = 6) (ha : AOk f a) (h0 : 0 ≤ n) (h1 : n ≤ 32) (hN : 4611686018427387904 ≤ N) : ∃ lo hi e, ref18_Prefix N a n = some ((lo, hi, e, ()), ()) ∧ SOk f lo hi := by
  unfold ref18_Prefix ref18_Prefix_1
  have hb : n ≤ (if f = 4 then 32 else 128 : Int) := by split <;> omega
  have hb2 : (if f = 4 then 32 else 128 : Int) ≤ 128 := by split <;> omega
  have hb3 : f = 4 → (if f = 4 then 32 else 128 : Int) = 32 := fun h => if_pos h
  have hbits := bits_ok N f hf
  generalize (if f = 4 then 32 else 128 : Int) = B at *
  rw [valid_ok N hf ha, ha.1, hbits]
  simp (disch := omega) only [dpos, dneg, w64_of, inR_of, room_of, tmod_of, cond_true, cond_false, Bool.and_self, Bool.and_true, Bool.true_and, Bool.and_false, Bool.false_and, Bool.not_true, Bool.not_false, Option.bind_some, List.length_cons, List.length_nil, Nat.zero_add]
  unfold ref18_Prefix_2
  have := loopK_of (N := N) (step := fun y => ref18_Prefix_s3 N y.1.1 y.2.1 y.2.2.1 y.2.2.2.1 y.2.2.2.2.1 y.2.2.2.2.2.1) (J := fun (e : ((Unit) × ((Int × (UInt64 × (UInt64 × Unit))) × (Int × (UInt64 × (UInt64 × Unit))) × (Int × (UInt64 × (UInt64 × Unit))) × (Int × (UInt64 × (UInt64 × Unit))) × Unit))) => ref18_Prefix_4 N e.2.1 e.2.2.1 e.2.2.2.1 e.2.2.2.2.1)
    (I := fun y => 0 ≤ y.1.1 ∧ y.1.1 ≤ B ∧ y.2.1 = a ∧ AOk f y.2.2.2.2.1 ∧ AOk f y.2.2.2.2.2.1 ∧ y.2.2.2.2.1.2.1.toNat ≤ y.2.2.2.2.2.1.2.1.toNat ∧ y.2.2.2.2.1.2.2.1.toNat ≤ y.2.2.2.2.2.1.2.2.1.toNat) (μ := fun y => (B - y.1.1).toNat) (T := fun r => ∃ lo hi e, r = ((lo, hi, e, ()), ()) ∧ SOk f lo hi) ?_
    (x := ((n, ()), (a, (0, 0, 0, ()), (0, 0, 0, ()), a, a, ()))) ⟨h0, hb, rfl, ha, ha, Nat.le_refl _, Nat.le_refl _⟩ (by simp only; omega)
  · obtain ⟨r, h1, lo, hi, e, rfl, h2⟩ := this
    exact ⟨lo, hi, e, h1, h2⟩
  · rintro ⟨⟨i, _⟩, a', t4, t5, lo, hi, _⟩ ⟨i0, i1, rfl, hl, hh, q1, q2⟩
    simp only at i0 i1 hl hh q1 q2
    show ∃ o, ref18_Prefix_s3 N i a' t4 t5 lo hi = some o ∧ _
    unfold ref18_Prefix_s3
    rw [ha.1, hbits]
    by_cases hi' : i < B
    · simp (disch := omega) only [dpos, dneg, w64_of, inR_of, room_of, tmod_of, cond_true, cond_false, Bool.and_self, Bool.and_true, Bool.true_and, Bool.and_false, Bool.false_and, Bool.not_true, Bool.not_false, Option.bind_some, List.length_cons, List.length_nil, Nat.zero_add]
      by_cases h64 : 64 ≤ B - 1 - i
      · rw [dpos h64]
        refine ⟨_, rfl, ⟨by simp only; omega, by simp only; omega, rfl, ⟨hl.1, fun h => ?_⟩, ⟨hh.1, fun h => ?_⟩, ?_, q2⟩, by simp only; omega⟩
        · have := hb3 h; omega
        · have := hb3 h; omega
        · exact Nat.le_trans (and_le_u _ _) (Nat.le_trans q1 (le_or_u _ _))
      · rw [dneg h64]
        refine ⟨_, rfl, ⟨by simp only; omega, by simp only; omega, rfl, ⟨hl.1, fun h => ?_⟩, ⟨hh.1, fun h => ?_⟩, q1, ?_⟩, by simp only; omega⟩
        · exact ⟨(hl.2 h).1, Nat.lt_of_le_of_lt (and_le_u _ _) (hl.2 h).2⟩
        · refine ⟨(hh.2 h).1, ?_⟩
          have hB := hb3 h
          simp only [UInt64.toNat_or]
          have hs : (shl64 (1 : UInt64) (iu64 (w64 (B - 1 - i))).toNat).toNat < 2 ^ 32 := by rw [w64_of (by omega) (by omega)]; exact shl1 (by omega) (by omega)
          rw [w64_of (by omega) (by omega)] at hs
          exact Nat.or_lt_two_pow (n := 32) (hh.2 h).2 hs
        · exact Nat.le_trans (and_le_u _ _) (Nat.le_trans q2 (le_or_u _ _))
    · rw [Option.bind_some, dneg hi']
      exact ⟨_, rfl, _, rfl, lo, hi, 0, rfl, hl, hh, q1, fun _ => q2⟩
theorem span_ok (N : Nat) {c : List UInt8 × (Int × Unit)} {f : Int} (hf : f = 4 ∨ f = 6) (hc : COk c) (hN : 4611686018427387904 ≤ N) : ∃ lo hi c', make_Codes_Span N f c = some ((lo, hi, ()), (c', ())) ∧ COk c' ∧ SOk f lo hi := by
  unfold make_Codes_Span make_Codes_Span_1
  obtain ⟨v, c1, e1, v0, v1, k1⟩ := next_ok N (n := 5) hc (by omega)
  rw [e1]
  simp only [Option.bind_some]
  by_cases h0 : v = 0
  · rw [dpos h0]
    unfold ref18_All
    obtain ⟨lo, hi, e, hp, hs⟩ := prefix_ok N (a := (f, 0, 0, ())) (n := 0) hf ⟨rfl, fun _ => ⟨rfl, by show (0 : UInt64).toNat < _; decide⟩⟩ (by omega) (by omega) hN
    rw [hp]
    exact ⟨_, _, _, rfl, k1, hs⟩
  by_cases h1 : v = 1
  · rw [dneg h0, dpos h1]
    obtain ⟨a, c2, e2, k2, ha⟩ := address_ok N f k1
    obtain ⟨u, c3, e3, u0, u1, k3⟩ := next_ok N (n := 25) k2 (by omega)
    obtain ⟨lo, hi, e, hp, hs⟩ := prefix_ok N (a := a) (n := 8 + u) hf ha (by omega) (by omega) hN
    simp (disch := omega) only [dpos, dneg, w64_of, inR_of, room_of, tmod_of, cond_true, cond_false, Bool.and_self, Bool.and_true, Bool.true_and, Bool.and_false, Bool.false_and, Bool.not_true, Bool.not_false, Option.bind_some, List.length_cons, List.length_nil, Nat.zero_add, e2, e3, hp]
    exact ⟨_, _, _, rfl, k3, hs⟩
  · rw [dneg h0, dneg h1]
    obtain ⟨a, c2, e2, k2, ha⟩ := address_ok N f k1
    obtain ⟨b, c3, e3, k3, hb⟩ := address_ok N f k2
    simp only [dpos, dneg, w64_of, inR_of, room_of, tmod_of, cond_true, cond_false, Bool.and_self, Bool.and_true, Bool.true_and, Bool.and_false, Bool.false_and, Bool.not_true, Bool.not_false, Option.bind_some, List.length_cons, List.length_nil, Nat.zero_add, e2, e3]
    by_cases q1 : b.2.1 < a.2.1
    · rw [dpos q1]
      rw [UInt64.lt_iff_toNat_lt] at q1
      exact ⟨_, _, _, rfl, k3, hb, ha, by omega, by omega⟩
    · rw [dneg q1]
      rw [UInt64.lt_iff_toNat_lt] at q1
      by_cases q2 : a.2.1 = b.2.1
      · rw [dpos q2]
        by_cases q3 : b.2.2.1 < a.2.2.1
        · rw [dpos q3]
          rw [UInt64.lt_iff_toNat_lt] at q3
          exact ⟨_, _, _, rfl, k3, hb, ha, by rw [q2]; omega, by omega⟩
        · rw [dneg q3]
          rw [UInt64.lt_iff_toNat_lt] at q3
          exact ⟨_, _, _, rfl, k3, ha, hb, by rw [q2]; omega, by omega⟩
      · rw [dneg q2]
        rw [← UInt64.toNat_inj] at q2
        exact ⟨_, _, _, rfl, k3, ha, hb, by omega, by omega⟩
/-- A box that is right. -/
structure BOk (b : (Int × (UInt64 × (UInt64 × Unit))) × ((Int × (UInt64 × (UInt64 × Unit))) × ((Int × (UInt64 × (UInt64 × Unit))) × ((Int × (UInt64 × (UInt64 × Unit))) × (Int × (Int × (List Int × (List Int × Unit)))))))) : Prop where
  fam : ∃ f, (f = 4 ∨ f = 6) ∧ SOk f b.1 b.2.1 ∧ SOk f b.2.2.1 b.2.2.2.1
  proto : 0 ≤ b.2.2.2.2.1 ∧ b.2.2.2.2.1 ≤ b.2.2.2.2.2.1 ∧ b.2.2.2.2.2.1 ≤ 255
  lport : ∃ x y : Int, b.2.2.2.2.2.2.1 = [x, y] ∧ -1 ≤ x ∧ x ≤ y ∧ y ≤ 65535
  rport : ∃ x y : Int, b.2.2.2.2.2.2.2.1 = [x, y] ∧ -1 ≤ x ∧ x ≤ y ∧ y ≤ 65535
theorem box_ok (N : Nat) {c : List UInt8 × (Int × Unit)} (hc : COk c) (hN : 4611686018427387904 ≤ N) : ∃ b c', make_Codes_Box N c = some ((b, ()), (c', ())) ∧ COk c' ∧ BOk b := by
  unfold make_Codes_Box
  obtain ⟨v, c1, e1, v0, v1, k1⟩ := next_ok N (n := 4) hc (by omega)
  rw [e1]
  have key : ∀ f : Int, (f = 4 ∨ f = 6) → ∃ b c', make_Codes_Box_1 N f c1 ((0, 0, 0, ()), (0, 0, 0, ()), (0, 0, 0, ()), (0, 0, 0, ()), 0, 0, List.replicate 2 0, List.replicate 2 0, ()) = some ((b, ()), (c', ())) ∧ COk c' ∧ BOk b := by
    intro f hf
    unfold make_Codes_Box_1
    obtain ⟨l1, h1, c2, e2, k2, s1⟩ := span_ok N hf k1 hN
    obtain ⟨l2, h2, c3, e3, k3, s2⟩ := span_ok N hf k2 hN
    obtain ⟨u, c4, e4, u0, u1, k4⟩ := next_ok N (n := 5) k3 (by omega)
    rw [e2, Option.bind_some, e3, Option.bind_some, e4, Option.bind_some]
    have fin : ∀ {c5 : List UInt8 × (Int × Unit)} (_ : COk c5) (x y : Int) (_ : 0 ≤ x) (_ : x ≤ y) (_ : y ≤ 255) t, ∃ b c', make_Codes_Box_2 N c5 t (l1, h1, l2, h2, x, y, List.replicate 2 0, List.replicate 2 0, ()) = some ((b, ()), (c', ())) ∧ COk c' ∧ BOk b := by
      intro c5 k5 x y x0 xy y1 t
      unfold make_Codes_Box_2
      obtain ⟨la, c6, e6, k6, p1⟩ := ports_ok N k5
      obtain ⟨lb, c7, e7, k7, p2⟩ := ports_ok N k6
      rw [e6, Option.bind_some, e7]
      exact ⟨_, _, rfl, k7, ⟨f, hf, s1, s2⟩, ⟨x0, xy, y1⟩, p1, p2⟩
    simp only
    by_cases q0 : u = 0
    · rw [dpos q0, cond_true]; exact fin k4 _ _ (by omega) (by omega) (by omega) _
    by_cases q1 : u = 1
    · rw [dneg q0, dpos q1, cond_false, cond_true]; exact fin k4 _ _ (by omega) (by omega) (by omega) _
    by_cases q2 : u = 2
    · obtain ⟨z, c5, e5, z0, z1, k5⟩ := next_ok N (n := 5) k4 (by omega)
      rw [dneg q0, dneg q1, dpos q2, e5]
      simp only [cond_true, cond_false, Option.bind_some]
      rw [inR_of z0 (by simpa using z1), cond_true]
      have hx : ∀ x : Int, x = ([(0 : Int), (1 : Int), (6 : Int), (17 : Int), (58 : Int)] : List Int).getD z.toNat 0 → 0 ≤ x ∧ x ≤ 58 := by
        rintro x rfl
        have : z.toNat = 0 ∨ z.toNat = 1 ∨ z.toNat = 2 ∨ z.toNat = 3 ∨ z.toNat = 4 := by omega
        rcases this with h | h | h | h | h <;> rw [h] <;> decide
      obtain ⟨x0, x1⟩ := hx _ rfl
      exact fin k5 _ _ x0 (Int.le_refl _) (by omega) _
    · obtain ⟨z, c5, e5, z0, z1, k5⟩ := next_ok N (n := 7) k4 (by omega)
      obtain ⟨y, c6, e6, y0, y1, k6⟩ := next_ok N (n := 12) k5 (by omega)
      rw [dneg q0, dneg q1, dneg q2, e5]
      simp only [cond_false, Option.bind_some, e6]
      rw [w64_of (by omega) (by omega)]
      exact fin k6 _ _ z0 (by omega) (by omega) _
  simp only [Option.bind_some]
  by_cases h : w64 (4 + w64 ((w64 (2 * v)).tdiv 3)) = 4
  · rw [dpos h, h]; exact key 4 (.inl rfl)
  · rw [dneg h]; exact key 6 (.inr rfl)
end Go.Proofs.Ytgbkkfpheahdfaa.Pl
