/- Plain: the division by the order of the group (math/bits.Div64 by q). -/
import Derived.Test.YtofajgidjkjnpaaDoorScQGroup
set_option linter.unusedVariables false
set_option linter.unusedSimpArgs false
namespace Go.Proofs.YtofajgidjkjnpaaDoor.Pl
open Go
theorem c_2q : (4294925032 : UInt64).toNat = 4294925032 := rfl
theorem c_4q : (18446744073709509352 : UInt64).toNat = 18446744073709509352 := rfl
theorem k_mq {x : UInt64} (h : x.toNat ≤ 4294967298) : ∃ m, x * 4294925032 = m ∧ m.toNat = x.toNat * 4294925032 := ⟨_, rfl, by rw [u64mul (by rw [c_2q]; omega), c_2q]⟩
theorem div_10q (N : Nat) {u0 q1 V q0 : UInt64} (h1 : q0.toNat * 18446744073709509352 ≤ V.toNat * 4294967296 + u0.toNat) (h2 : V.toNat * 4294967296 + u0.toNat < (q0.toNat + 1) * 18446744073709509352) :
    ∃ r, math_bits_Div64_10 N 18446744073709509352 3 u0 q1 V q0 = some r ∧ r.1.2.1.toNat = (V.toNat * 4294967296 + u0.toNat - q0.toNat * 18446744073709509352) / 8 := by
  refine ⟨_, rfl, ?_⟩
  show (shr64 (V * 4294967296 + u0 - q0 * 18446744073709509352) (3 : UInt64).toNat).toNat = _
  rw [u64shr]
  show _ / 8 = _
  congr 1
  rw [UInt64.toNat_sub, UInt64.toNat_add, UInt64.toNat_mul, UInt64.toNat_mul, c_1, c_4q]
  have := u0.toNat_lt; have := q0.toNat_lt; have := V.toNat_lt
  omega
theorem ar1q {x1 z V u : Nat} (i1 : (x1 + 1) * 4294967295 + z = V) (i2 : z ≤ 4294967295) (hx : x1 + 1 ≤ 4294967298) (hb : 4294967296 ≤ z + 4294967295) : x1 * 18446744073709509352 ≤ V * 4294967296 + u := by
  subst i1; omega
theorem ar2q {x z V u : Nat} (i1 : x * 4294967295 + z = V) (g : ¬ 4294967296 * z + u < x * 4294925032) : x * 18446744073709509352 ≤ V * 4294967296 + u := by
  subst i1; omega
theorem ar3q {x1 z V u : Nat} (i1 : (x1 + 1) * 4294967295 + z = V) (g : 4294967296 ≤ x1 + 1 ∨ 4294967296 * z + u < (x1 + 1) * 4294925032) (hu : u ≤ 4294967295) (hV : V < 18446744073709509352): V * 4294967296 + u < (x1 + 1) * 18446744073709509352 := by
  rcases g with g | g
  · clear i1; omega
  · subst i1; clear hu hV; omega
set_option maxRecDepth 20000 in
/-- The second digit. -/
theorem div_7q (N : Nat) (hN : 4611686018427387904 ≤ N) {u0 q1 V : UInt64} (hV : V.toNat < 18446744073709509352) (hu : u0.toNat ≤ 4294967295) :
    ∃ r, math_bits_Div64_7 N 18446744073709509352 3 4294967295 4294925032 u0 q1 (V - V / 4294967295 * 4294967295) V (V / 4294967295) = some r ∧ r.1.2.1.toNat = (V.toNat * 4294967296 + u0.toNat) % 18446744073709509352 / 8 := by
  unfold math_bits_Div64_7
  have hq0 : (V / 4294967295).toNat = V.toNat / 4294967295 := by rw [UInt64.toNat_div, c_0]
  have hm0 : (V / 4294967295 * 4294967295).toNat = V.toNat / 4294967295 * 4294967295 := by rw [u64mul (by rw [hq0, c_0]; omega), hq0, c_0]
  have hr0 : (V - V / 4294967295 * 4294967295).toNat = V.toNat - V.toNat / 4294967295 * 4294967295 := by rw [u64sub (by rw [hm0]; omega), hm0]
  have fin : ∀ q0 : UInt64, q0.toNat * 18446744073709509352 ≤ V.toNat * 4294967296 + u0.toNat → V.toNat * 4294967296 + u0.toNat < (q0.toNat + 1) * 18446744073709509352 → ∃ r, math_bits_Div64_10 N 18446744073709509352 3 u0 q1 V q0 = some r ∧ r.1.2.1.toNat = (V.toNat * 4294967296 + u0.toNat) % 18446744073709509352 / 8 := by
    intro q0 a b
    obtain ⟨r, e, hr⟩ := div_10q N (q1 := q1) a b
    refine ⟨r, e, ?_⟩
    rw [hr]
    congr 1
    omega
  clear hm0
  generalize V - V / 4294967295 * 4294967295 = Z0 at *
  generalize V / 4294967295 = X0 at *
  refine loopK_of (I := fun y => ∃ x z : UInt64, y = ((18446744073709509352, 3, 4294967295, 4294925032, u0, q1, z, V, x, ()), ()) ∧ x.toNat * 4294967295 + z.toNat = V.toNat ∧ z.toNat ≤ 4294967295 ∧ V.toNat * 4294967296 + u0.toNat < (x.toNat + 1) * 18446744073709509352)
    (μ := fun y => (y.1.2.2.2.2.2.2.2.2.1 : UInt64).toNat) (T := fun (r : math_bits_Div64_R) => r.1.2.1.toNat = (V.toNat * 4294967296 + u0.toNat) % 18446744073709509352 / 8) ?_ ⟨X0, Z0, rfl, by rw [hq0, hr0]; omega, by rw [hr0]; omega, by rw [hq0]; omega⟩ (by simp only [hq0]; omega)
  rintro y ⟨x, z, rfl, i1, i2, i3⟩
  show ∃ o, math_bits_Div64_s8 N 18446744073709509352 3 4294967295 4294925032 u0 q1 z V x = some o ∧ _
  unfold math_bits_Div64_s8 math_bits_Div64_9
  have hx : x.toNat ≤ 4294967298 := by omega
  obtain ⟨m1, f1, hm1⟩ := k_s i2
  obtain ⟨m2, f2, hm2⟩ := k_a (m := m1) (u := u0) (by omega)
  obtain ⟨m3, f3, hm3⟩ := k_mq (show x.toNat ≤ 4294967298 by omega)
  obtain ⟨z1, f4, hz1⟩ := k_z i2
  rw [f1, f2, f3, f4]
  have d1 := @k_le x
  have d2 : m2 < m3 ↔ m2.toNat < m3.toNat := UInt64.lt_iff_toNat_lt
  have d3 := @k_le z1
  have body : (4294967296 ≤ x.toNat ∨ m2.toNat < m3.toNat) → ∃ o, (bif decide ((4294967296 : UInt64) ≤ z1) then some (Lo.br ((18446744073709509352, 3, u0, q1, V, x - 1, ()), ())) else some (Lo.go ((18446744073709509352, 3, 4294967295, 4294925032, u0, q1, z1, V, x - 1, ()), ())) : Option (Lo ((UInt64 × UInt64 × UInt64 × UInt64 × UInt64 × UInt64 × UInt64 × UInt64 × UInt64 × Unit) × (Unit)) ((UInt64 × UInt64 × UInt64 × UInt64 × UInt64 × UInt64 × Unit) × (Unit)) math_bits_Div64_R)) = some o ∧ match o with
      | .go x' => (∃ x z : UInt64, x' = ((18446744073709509352, 3, 4294967295, 4294925032, u0, q1, z, V, x, ()), ()) ∧ x.toNat * 4294967295 + z.toNat = V.toNat ∧ z.toNat ≤ 4294967295 ∧ V.toNat * 4294967296 + u0.toNat < (x.toNat + 1) * 18446744073709509352) ∧ x'.1.2.2.2.2.2.2.2.2.1.toNat < x.toNat
      | .br e => ∃ r, math_bits_Div64_10 N e.1.1 e.1.2.1 e.1.2.2.1 e.1.2.2.2.1 e.1.2.2.2.2.1 e.1.2.2.2.2.2.1 = some r ∧ r.1.2.1.toNat = (V.toNat * 4294967296 + u0.toNat) % 18446744073709509352 / 8
      | .rt r => r.1.2.1.toNat = (V.toNat * 4294967296 + u0.toNat) % 18446744073709509352 / 8 := by
    intro hg
    obtain ⟨x1, f5, hx1⟩ := k_x (x := x) (by omega)
    rw [f5]
    have y1 : (x1.toNat + 1) * 4294967295 + z.toNat = V.toNat := by rw [hx1, Nat.sub_add_cancel (by omega)]; exact i1
    have y2 : x1.toNat + 1 ≤ 4294967298 := by omega
    have y3 : 4294967296 ≤ x1.toNat + 1 ∨ 4294967296 * z.toNat + u0.toNat < (x1.toNat + 1) * 4294925032 := by
      rw [hx1, Nat.sub_add_cancel (by omega)]
      rw [hm2, hm1, hm3] at hg
      exact hg
    have y4 : V.toNat * 4294967296 + u0.toNat < (x1.toNat + 1) * 18446744073709509352 := ar3q y1 y3 hu hV
    by_cases hb : (4294967296 : UInt64) ≤ z1
    · rw [dpos hb, cond_true]
      have hb' := d3.1 hb
      exact ⟨_, rfl, fin x1 (ar1q y1 i2 y2 (by omega)) y4⟩
    · rw [dneg hb, cond_false]
      have hb' : ¬ 4294967296 ≤ z1.toNat := fun e => hb (d3.2 e)
      exact ⟨_, rfl, ⟨x1, z1, rfl, ar4 y1 hz1, ar5 i2 hz1 hb', y4⟩, by show x1.toNat < x.toNat; omega⟩
  by_cases g1 : (4294967296 : UInt64) ≤ x
  · rw [dpos g1]
    simp only [cond_true, cond_false]
    obtain ⟨o, ho, h⟩ := body (.inl (d1.1 g1))
    exact ⟨o, ho, by cases o <;> exact h⟩
  · rw [dneg g1]
    by_cases g2 : m2 < m3
    · rw [dpos g2]
      simp only [cond_true, cond_false]
      obtain ⟨o, ho, h⟩ := body (.inr (d2.1 g2))
      exact ⟨o, ho, by cases o <;> exact h⟩
    · rw [dneg g2]
      have g1' : ¬ 4294967296 ≤ x.toNat := fun e => g1 (d1.2 e)
      have g2' : ¬ m2.toNat < m3.toNat := fun e => g2 (d2.2 e)
      exact ⟨_, rfl, fin x (ar2q i1 (by rw [hm2, hm1, hm3] at g2'; exact g2')) i3⟩
set_option maxRecDepth 20000 in
/-- The first digit, and all. -/
theorem div_3q (N : Nat) (hN : 4611686018427387904 ≤ N) {U u1 u0 : UInt64} (hU : U.toNat < 4611686018427387904) (hu1 : u1.toNat ≤ 4294967295) (hu0 : u0.toNat ≤ 4294967295) :
    ∃ r, math_bits_Div64_3 N 18446744073709509352 3 4294967295 4294925032 U u1 u0 (U / 4294967295) (U - U / 4294967295 * 4294967295) = some r ∧ r.1.2.1.toNat = ((U.toNat * 4294967296 + u1.toNat) % 18446744073709509352 * 4294967296 + u0.toNat) % 18446744073709509352 / 8 := by
  unfold math_bits_Div64_3
  have hq0 : (U / 4294967295).toNat = U.toNat / 4294967295 := by rw [UInt64.toNat_div, c_0]
  have hm0 : (U / 4294967295 * 4294967295).toNat = U.toNat / 4294967295 * 4294967295 := by rw [u64mul (by rw [hq0, c_0]; omega), hq0, c_0]
  have hr0 : (U - U / 4294967295 * 4294967295).toNat = U.toNat - U.toNat / 4294967295 * 4294967295 := by rw [u64sub (by rw [hm0]; omega), hm0]
  have fin : ∀ q : UInt64, q.toNat * 18446744073709509352 ≤ U.toNat * 4294967296 + u1.toNat → U.toNat * 4294967296 + u1.toNat < (q.toNat + 1) * 18446744073709509352 → ∃ r, math_bits_Div64_6 N 18446744073709509352 3 4294967295 4294925032 U u1 u0 q = some r ∧ r.1.2.1.toNat = ((U.toNat * 4294967296 + u1.toNat) % 18446744073709509352 * 4294967296 + u0.toNat) % 18446744073709509352 / 8 := by
    intro q a b
    unfold math_bits_Div64_6
    have hnz : ¬ (4294967295 : UInt64) = 0 := by decide
    have hV : (U * 4294967296 + u1 - q * 18446744073709509352).toNat = (U.toNat * 4294967296 + u1.toNat) % 18446744073709509352 := by
      rw [UInt64.toNat_sub, UInt64.toNat_add, UInt64.toNat_mul, UInt64.toNat_mul, c_1, c_4q]
      have := u1.toNat_lt; have := q.toNat_lt
      omega
    rw [dneg hnz]
    obtain ⟨r, e, hr⟩ := div_7q N hN (u0 := u0) (q1 := q) (V := U * 4294967296 + u1 - q * 18446744073709509352) (by rw [hV]; exact Nat.mod_lt _ (by decide)) hu0
    exact ⟨r, e, by rw [hr, hV]⟩
  clear hm0
  generalize U - U / 4294967295 * 4294967295 = Z0 at *
  generalize U / 4294967295 = X0 at *
  refine loopK_of (I := fun y => ∃ x z : UInt64, y = ((18446744073709509352, 3, 4294967295, 4294925032, U, u1, u0, x, z, ()), ()) ∧ x.toNat * 4294967295 + z.toNat = U.toNat ∧ z.toNat ≤ 4294967295 ∧ U.toNat * 4294967296 + u1.toNat < (x.toNat + 1) * 18446744073709509352)
    (μ := fun y => y.1.2.2.2.2.2.2.2.1.toNat) (T := fun (r : math_bits_Div64_R) => r.1.2.1.toNat = ((U.toNat * 4294967296 + u1.toNat) % 18446744073709509352 * 4294967296 + u0.toNat) % 18446744073709509352 / 8) ?_ ⟨X0, Z0, rfl, by rw [hq0, hr0]; omega, by rw [hr0]; omega, by rw [hq0]; omega⟩ (by simp only [hq0]; omega)
  rintro y ⟨x, z, rfl, i1, i2, i3⟩
  show ∃ o, math_bits_Div64_s4 N 18446744073709509352 3 4294967295 4294925032 U u1 u0 x z = some o ∧ _
  unfold math_bits_Div64_s4 math_bits_Div64_5
  have hx : x.toNat ≤ 2147483648 := by omega
  obtain ⟨m1, f1, hm1⟩ := k_s i2
  obtain ⟨m2, f2, hm2⟩ := k_a (m := m1) (u := u1) (by omega)
  obtain ⟨m3, f3, hm3⟩ := k_mq (show x.toNat ≤ 4294967298 by omega)
  obtain ⟨z1, f4, hz1⟩ := k_z i2
  rw [f1, f2, f3, f4]
  have d1 : ¬ (4294967296 : UInt64) ≤ x := fun e => by have := k_le.1 e; omega
  have d2 : m2 < m3 ↔ m2.toNat < m3.toNat := UInt64.lt_iff_toNat_lt
  have d3 := @k_le z1
  rw [dneg d1]
  by_cases g2 : m2 < m3
  · have hg := d2.1 g2
    obtain ⟨x1, f5, hx1⟩ := k_x (x := x) (by omega)
    rw [f5]
    have y1 : (x1.toNat + 1) * 4294967295 + z.toNat = U.toNat := by rw [hx1, Nat.sub_add_cancel (by omega)]; exact i1
    have y2 : x1.toNat + 1 ≤ 4294967298 := by omega
    have y3 : 4294967296 ≤ x1.toNat + 1 ∨ 4294967296 * z.toNat + u1.toNat < (x1.toNat + 1) * 4294925032 := by
      rw [hx1, Nat.sub_add_cancel (by omega)]
      rw [hm2, hm1, hm3] at hg
      exact Or.inr hg
    have y4 : U.toNat * 4294967296 + u1.toNat < (x1.toNat + 1) * 18446744073709509352 := ar3q y1 y3 hu1 (by omega)
    rw [dpos g2]
    by_cases hb : (4294967296 : UInt64) ≤ z1
    · have hb' := d3.1 hb
      simp only [dpos hb, cond_true, cond_false]
      exact ⟨_, rfl, fin x1 (ar1q y1 i2 y2 (by omega)) y4⟩
    · have hb' : ¬ 4294967296 ≤ z1.toNat := fun e => hb (d3.2 e)
      simp only [dneg hb, cond_true, cond_false]
      exact ⟨_, rfl, ⟨x1, z1, rfl, ar4 y1 hz1, ar5 i2 hz1 hb', y4⟩, by show x1.toNat < x.toNat; omega⟩
  · have g2' : ¬ m2.toNat < m3.toNat := fun e => g2 (d2.2 e)
    rw [dneg g2]
    exact ⟨_, rfl, fin x (ar2q i1 (by rw [hm2, hm1, hm3] at g2'; exact g2')) i3⟩
theorem lz_okq (N : Nat) : math_bits_LeadingZeros64 N 2305843009213688669 = some ((3, ()), ()) := by kernel_rfl
theorem div64_okq (N : Nat) (hN : 4611686018427387904 ≤ N) {hi lo : UInt64} (h : hi.toNat < 288230376151711744) : ∃ r, math_bits_Div64 N hi lo 2305843009213688669 = some r ∧ r.1.2.1.toNat = (hi.toNat * 18446744073709551616 + lo.toNat) % 2305843009213688669 := by
  have hp : (2305843009213688669 : UInt64).toNat = 2305843009213688669 := rfl
  unfold math_bits_Div64 math_bits_Div64_1 math_bits_Div64_2
  have n0 : ¬ (2305843009213688669 : UInt64) = 0 := by decide
  have n1 : ¬ (2305843009213688669 : UInt64) ≤ hi := by rw [UInt64.le_iff_toNat_le, hp]; omega
  simp only [dneg n0, dneg n1, cond_false, Bool.not_false, cond_true]
  by_cases hz : hi = 0
  · subst hz
    rw [dpos rfl, cond_true]
    refine ⟨_, rfl, ?_⟩
    show (lo % 2305843009213688669).toNat = _
    rw [UInt64.toNat_mod, hp]
    have : (0 : UInt64).toNat = 0 := rfl
    rw [this, Nat.zero_mul, Nat.zero_add]
  · rw [dneg hz, lz_okq]
    simp only [cond_false, Option.bind_some]
    have e1 : (iu64 3).toNat = 3 := rfl
    have e2 : ((64 : UInt64) - iu64 3).toNat = 61 := rfl
    have e3 : iu64 3 = 3 := rfl
    have y1 : shl64 2305843009213688669 3 = 18446744073709509352 := rfl
    have y2 : shr64 18446744073709509352 32 = 4294967295 := rfl
    have y3 : (18446744073709509352 : UInt64) &&& 4294967295 = 4294925032 := rfl
    have n2 : ¬ (4294967295 : UInt64) = 0 := by decide
    rw [e1, e2, e3, y1, y2, y3]
    simp only [dneg n2, Bool.not_false, cond_true]
    have hlo := lo.toNat_lt
    have hsl : (shl64 hi 3).toNat = hi.toNat * 8 := by
      show (hi.toBitVec <<< 3).toNat = _
      rw [BitVec.toNat_shiftLeft, Nat.shiftLeft_eq]
      have : hi.toBitVec.toNat = hi.toNat := rfl
      rw [this]
      exact Nat.mod_eq_of_lt (by omega)
    have hsr : (shr64 lo 61).toNat = lo.toNat / 2305843009213693952 := u64shr lo 61
    have hU : (shl64 hi 3 ||| shr64 lo 61).toNat = hi.toNat * 8 + lo.toNat / 2305843009213693952 := by
      rw [UInt64.toNat_or, hsl, hsr, show hi.toNat * 8 = hi.toNat <<< 3 by rw [Nat.shiftLeft_eq], ← Nat.shiftLeft_add_eq_or_of_lt (show lo.toNat / 2305843009213693952 < 2 ^ 3 by omega)]
    have hL : (shl64 lo 3).toNat = lo.toNat * 8 % 18446744073709551616 := by
      show (lo.toBitVec <<< 3).toNat = _
      rw [BitVec.toNat_shiftLeft, Nat.shiftLeft_eq]; rfl
    have hu1 : (shr64 (shl64 lo 3) 32).toNat = lo.toNat * 8 % 18446744073709551616 / 4294967296 := by rw [u64shr, hL]
    have hu0 : (shl64 lo 3 &&& 4294967295).toNat = lo.toNat * 8 % 18446744073709551616 % 4294967296 := by rw [u64lo, hL]
    obtain ⟨r, e, hr⟩ := div_3q N hN (U := shl64 hi 3 ||| shr64 lo 61) (u1 := shr64 (shl64 lo 3) 32) (u0 := shl64 lo 3 &&& 4294967295) (by rw [hU]; omega) (by rw [hu1]; omega) (by rw [hu0]; omega)
    refine ⟨r, e, ?_⟩
    rw [hr, hU, hu1, hu0]
    generalize hi.toNat = H at *
    generalize lo.toNat = L at *
    omega
end Go.Proofs.YtofajgidjkjnpaaDoor.Pl
