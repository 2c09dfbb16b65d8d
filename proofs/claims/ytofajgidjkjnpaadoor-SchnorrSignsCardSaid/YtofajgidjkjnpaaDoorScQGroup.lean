/- Plain: products and powers in the small group (group.Mul, group.Power). -/
import Derived.Test.YtofajgidjkjnpaaDoorScQBase
import Derived.Lib.Mul64
import Derived.Test.YtofajgidjkjnpaaDoorNum
import Derived.Test.YtofajgidjkjnpaaDoorFnsSchnorrSignsA
set_option linter.unusedVariables false
set_option linter.unusedSimpArgs false
namespace Go.Proofs.YtofajgidjkjnpaaDoor.Pl
open Go
noncomputable section
theorem u64add {x y : UInt64} (h : x.toNat + y.toNat < 18446744073709551616) : (x + y).toNat = x.toNat + y.toNat := by
  rw [UInt64.toNat_add]; exact Nat.mod_eq_of_lt h
theorem u64mul {x y : UInt64} (h : x.toNat * y.toNat < 18446744073709551616) : (x * y).toNat = x.toNat * y.toNat := by
  rw [UInt64.toNat_mul]; exact Nat.mod_eq_of_lt h
theorem u64sub {x y : UInt64} (h : y.toNat ≤ x.toNat) : (x - y).toNat = x.toNat - y.toNat := UInt64.toNat_sub_of_le _ _ (UInt64.le_iff_toNat_le.2 h)
theorem u64shr (x : UInt64) (n : Nat) : (shr64 x n).toNat = x.toNat / 2 ^ n := by
  show (x.toBitVec >>> n).toNat = _
  rw [BitVec.toNat_ushiftRight, Nat.shiftRight_eq_div_pow]; rfl
theorem u64lo (x : UInt64) : (x &&& 4294967295).toNat = x.toNat % 4294967296 := by
  rw [UInt64.toNat_and]; exact Nat.and_two_pow_sub_one_eq_mod _ 32
theorem mul64_ok (N : Nat) (x y : UInt64) : ∃ h l, math_bits_Mul64 N x y = some ((h, l, ()), ()) ∧ h.toNat = x.toNat * y.toNat / 18446744073709551616 ∧ l.toNat = x.toNat * y.toNat % 18446744073709551616 := by
  have hx := x.toNat_lt; have hy := y.toNat_lt
  obtain ⟨bd, bt, bw, hhi⟩ := Lib.mul64_hi x.toNat y.toNat hx hy
  have ba := Lib.half_mul_le (a := x.toNat / 4294967296) (b := y.toNat / 4294967296) (by omega) (by omega)
  have bb := Lib.half_mul_le (a := x.toNat / 4294967296) (b := y.toNat % 4294967296) (by omega) (by omega)
  have bc := Lib.half_mul_le (a := x.toNat % 4294967296) (b := y.toNat / 4294967296) (by omega) (by omega)
  have be := Lib.half_mul_le (a := x.toNat % 4294967296) (b := y.toNat % 4294967296) (by omega) (by omega)
  have s32 : ∀ z : UInt64, (shr64 z 32).toNat = z.toNat / 4294967296 := fun z => u64shr z 32
  have m1 : (shr64 x 32 * shr64 y 32).toNat = x.toNat / 4294967296 * (y.toNat / 4294967296) := by rw [u64mul (by rw [s32, s32]; omega), s32, s32]
  have m2 : (shr64 x 32 * (y &&& 4294967295)).toNat = x.toNat / 4294967296 * (y.toNat % 4294967296) := by rw [u64mul (by rw [s32, u64lo]; omega), s32, u64lo]
  have m3 : ((x &&& 4294967295) * (y &&& 4294967295)).toNat = x.toNat % 4294967296 * (y.toNat % 4294967296) := by rw [u64mul (by rw [u64lo, u64lo]; omega), u64lo, u64lo]
  have m4 : ((x &&& 4294967295) * shr64 y 32).toNat = x.toNat % 4294967296 * (y.toNat / 4294967296) := by rw [u64mul (by rw [u64lo, s32]; omega), u64lo, s32]
  have t1 : (shr64 x 32 * (y &&& 4294967295) + shr64 ((x &&& 4294967295) * (y &&& 4294967295)) 32).toNat = x.toNat / 4294967296 * (y.toNat % 4294967296) + x.toNat % 4294967296 * (y.toNat % 4294967296) / 4294967296 := by
    rw [u64add (by rw [s32, m2, m3]; omega), s32, m2, m3]
  have t2 : ((shr64 x 32 * (y &&& 4294967295) + shr64 ((x &&& 4294967295) * (y &&& 4294967295)) 32 &&& 4294967295) + (x &&& 4294967295) * shr64 y 32).toNat = (x.toNat / 4294967296 * (y.toNat % 4294967296) + x.toNat % 4294967296 * (y.toNat % 4294967296) / 4294967296) % 4294967296 + x.toNat % 4294967296 * (y.toNat / 4294967296) := by
    rw [u64add (by rw [u64lo, t1, m4]; omega), u64lo, t1, m4]
  refine ⟨_, _, rfl, ?_, UInt64.toNat_mul ..⟩
  rw [← hhi]
  rw [u64add (by rw [u64add (by rw [m1, s32, t1]; omega), m1, s32, t1, s32, t2]; omega), u64add (by rw [m1, s32, t1]; omega), m1, s32, t1, s32, t2]
theorem c_0 : (4294967295 : UInt64).toNat = 4294967295 := rfl
theorem c_1 : (4294967296 : UInt64).toNat = 4294967296 := rfl
theorem c_2 : (4294925036 : UInt64).toNat = 4294925036 := rfl
theorem c_3 : (1 : UInt64).toNat = 1 := rfl
theorem c_4 : (18446744073709509356 : UInt64).toNat = 18446744073709509356 := rfl
theorem k_z {z : UInt64} (h : z.toNat ≤ 4294967295) : ∃ z1, z + 4294967295 = z1 ∧ z1.toNat = z.toNat + 4294967295 := ⟨_, rfl, by rw [u64add (by rw [c_0]; omega), c_0]⟩
theorem k_x {x : UInt64} (h : 1 ≤ x.toNat) : ∃ x1, x - 1 = x1 ∧ x1.toNat = x.toNat - 1 := ⟨_, rfl, by rw [u64sub (by rw [c_3]; omega), c_3]⟩
theorem k_m {x : UInt64} (h : x.toNat ≤ 4294967298) : ∃ m, x * 4294925036 = m ∧ m.toNat = x.toNat * 4294925036 := ⟨_, rfl, by rw [u64mul (by rw [c_2]; omega), c_2]⟩
theorem k_s {z : UInt64} (h : z.toNat ≤ 4294967295) : ∃ m, 4294967296 * z = m ∧ m.toNat = 4294967296 * z.toNat := ⟨_, rfl, by rw [u64mul (by rw [c_1]; omega), c_1]⟩
theorem k_a {m u : UInt64} (h : m.toNat + u.toNat < 18446744073709551616) : ∃ a, m + u = a ∧ a.toNat = m.toNat + u.toNat := ⟨_, rfl, u64add h⟩
theorem k_le {z : UInt64} : (4294967296 : UInt64) ≤ z ↔ 4294967296 ≤ z.toNat := by rw [UInt64.le_iff_toNat_le, c_1]
theorem div_10 (N : Nat) {u0 q1 V q0 : UInt64} (h1 : q0.toNat * 18446744073709509356 ≤ V.toNat * 4294967296 + u0.toNat) (h2 : V.toNat * 4294967296 + u0.toNat < (q0.toNat + 1) * 18446744073709509356) :
    ∃ r, math_bits_Div64_10 N 18446744073709509356 2 u0 q1 V q0 = some r ∧ r.1.2.1.toNat = (V.toNat * 4294967296 + u0.toNat - q0.toNat * 18446744073709509356) / 4 := by
  refine ⟨_, rfl, ?_⟩
  show (shr64 (V * 4294967296 + u0 - q0 * 18446744073709509356) (2 : UInt64).toNat).toNat = _
  rw [u64shr]
  show _ / 4 = _
  congr 1
  rw [UInt64.toNat_sub, UInt64.toNat_add, UInt64.toNat_mul, UInt64.toNat_mul, c_1, c_4]
  have := u0.toNat_lt; have := q0.toNat_lt; have := V.toNat_lt
  omega
theorem ar1 {x1 z V u : Nat} (i1 : (x1 + 1) * 4294967295 + z = V) (i2 : z ≤ 4294967295) (hx : x1 + 1 ≤ 4294967298) (hb : 4294967296 ≤ z + 4294967295) : x1 * 18446744073709509356 ≤ V * 4294967296 + u := by
  subst i1; omega
theorem ar2 {x z V u : Nat} (i1 : x * 4294967295 + z = V) (g : ¬ 4294967296 * z + u < x * 4294925036) : x * 18446744073709509356 ≤ V * 4294967296 + u := by
  subst i1; omega
theorem ar3 {x1 z V u : Nat} (i1 : (x1 + 1) * 4294967295 + z = V) (g : 4294967296 ≤ x1 + 1 ∨ 4294967296 * z + u < (x1 + 1) * 4294925036) (hu : u ≤ 4294967295) (hV : V < 18446744073709509356): V * 4294967296 + u < (x1 + 1) * 18446744073709509356 := by
  rcases g with g | g
  · clear i1; omega
  · subst i1; clear hu hV; omega
theorem ar4 {x1 z z1 V : Nat} (i1 : (x1 + 1) * 4294967295 + z = V) (h : z1 = z + 4294967295) : x1 * 4294967295 + z1 = V := by
  subst i1 h; omega
theorem ar5 {z z1 : Nat} (i2 : z ≤ 4294967295) (h : z1 = z + 4294967295) (hb : ¬ 4294967296 ≤ z1) : z1 ≤ 4294967295 := by subst h; omega
set_option maxRecDepth 20000 in
/-- The second digit. -/
theorem div_7 (N : Nat) (hN : 4611686018427387904 ≤ N) {u0 q1 V : UInt64} (hV : V.toNat < 18446744073709509356) (hu : u0.toNat ≤ 4294967295) :
    ∃ r, math_bits_Div64_7 N 18446744073709509356 2 4294967295 4294925036 u0 q1 (V - V / 4294967295 * 4294967295) V (V / 4294967295) = some r ∧ r.1.2.1.toNat = (V.toNat * 4294967296 + u0.toNat) % 18446744073709509356 / 4 := by
  unfold math_bits_Div64_7
  have hq0 : (V / 4294967295).toNat = V.toNat / 4294967295 := by rw [UInt64.toNat_div, c_0]
  have hm0 : (V / 4294967295 * 4294967295).toNat = V.toNat / 4294967295 * 4294967295 := by rw [u64mul (by rw [hq0, c_0]; omega), hq0, c_0]
  have hr0 : (V - V / 4294967295 * 4294967295).toNat = V.toNat - V.toNat / 4294967295 * 4294967295 := by rw [u64sub (by rw [hm0]; omega), hm0]
  have fin : ∀ q0 : UInt64, q0.toNat * 18446744073709509356 ≤ V.toNat * 4294967296 + u0.toNat → V.toNat * 4294967296 + u0.toNat < (q0.toNat + 1) * 18446744073709509356 → ∃ r, math_bits_Div64_10 N 18446744073709509356 2 u0 q1 V q0 = some r ∧ r.1.2.1.toNat = (V.toNat * 4294967296 + u0.toNat) % 18446744073709509356 / 4 := by
    intro q0 a b
    obtain ⟨r, e, hr⟩ := div_10 N (q1 := q1) a b
    refine ⟨r, e, ?_⟩
    rw [hr]
    congr 1
    omega
  clear hm0
  generalize V - V / 4294967295 * 4294967295 = Z0 at *
  generalize V / 4294967295 = X0 at *
  refine loopK_of (I := fun y => ∃ x z : UInt64, y = ((18446744073709509356, 2, 4294967295, 4294925036, u0, q1, z, V, x, ()), ()) ∧ x.toNat * 4294967295 + z.toNat = V.toNat ∧ z.toNat ≤ 4294967295 ∧ V.toNat * 4294967296 + u0.toNat < (x.toNat + 1) * 18446744073709509356)
    (μ := fun y => (y.1.2.2.2.2.2.2.2.2.1 : UInt64).toNat) (T := fun (r : math_bits_Div64_R) => r.1.2.1.toNat = (V.toNat * 4294967296 + u0.toNat) % 18446744073709509356 / 4) ?_ ⟨X0, Z0, rfl, by rw [hq0, hr0]; omega, by rw [hr0]; omega, by rw [hq0]; omega⟩ (by simp only [hq0]; omega)
  rintro y ⟨x, z, rfl, i1, i2, i3⟩
  show ∃ o, math_bits_Div64_s8 N 18446744073709509356 2 4294967295 4294925036 u0 q1 z V x = some o ∧ _
  unfold math_bits_Div64_s8 math_bits_Div64_9
  have hx : x.toNat ≤ 4294967298 := by omega
  obtain ⟨m1, f1, hm1⟩ := k_s i2
  obtain ⟨m2, f2, hm2⟩ := k_a (m := m1) (u := u0) (by omega)
  obtain ⟨m3, f3, hm3⟩ := k_m (show x.toNat ≤ 4294967298 by omega)
  obtain ⟨z1, f4, hz1⟩ := k_z i2
  rw [f1, f2, f3, f4]
  have d1 := @k_le x
  have d2 : m2 < m3 ↔ m2.toNat < m3.toNat := UInt64.lt_iff_toNat_lt
  have d3 := @k_le z1
  have body : (4294967296 ≤ x.toNat ∨ m2.toNat < m3.toNat) → ∃ o, (bif decide ((4294967296 : UInt64) ≤ z1) then some (Lo.br ((18446744073709509356, 2, u0, q1, V, x - 1, ()), ())) else some (Lo.go ((18446744073709509356, 2, 4294967295, 4294925036, u0, q1, z1, V, x - 1, ()), ())) : Option (Lo ((UInt64 × UInt64 × UInt64 × UInt64 × UInt64 × UInt64 × UInt64 × UInt64 × UInt64 × Unit) × (Unit)) ((UInt64 × UInt64 × UInt64 × UInt64 × UInt64 × UInt64 × Unit) × (Unit)) math_bits_Div64_R)) = some o ∧ match o with
      | .go x' => (∃ x z : UInt64, x' = ((18446744073709509356, 2, 4294967295, 4294925036, u0, q1, z, V, x, ()), ()) ∧ x.toNat * 4294967295 + z.toNat = V.toNat ∧ z.toNat ≤ 4294967295 ∧ V.toNat * 4294967296 + u0.toNat < (x.toNat + 1) * 18446744073709509356) ∧ x'.1.2.2.2.2.2.2.2.2.1.toNat < x.toNat
      | .br e => ∃ r, math_bits_Div64_10 N e.1.1 e.1.2.1 e.1.2.2.1 e.1.2.2.2.1 e.1.2.2.2.2.1 e.1.2.2.2.2.2.1 = some r ∧ r.1.2.1.toNat = (V.toNat * 4294967296 + u0.toNat) % 18446744073709509356 / 4
      | .rt r => r.1.2.1.toNat = (V.toNat * 4294967296 + u0.toNat) % 18446744073709509356 / 4 := by
    intro hg
    obtain ⟨x1, f5, hx1⟩ := k_x (x := x) (by omega)
    rw [f5]
    have y1 : (x1.toNat + 1) * 4294967295 + z.toNat = V.toNat := by rw [hx1, Nat.sub_add_cancel (by omega)]; exact i1
    have y2 : x1.toNat + 1 ≤ 4294967298 := by omega
    have y3 : 4294967296 ≤ x1.toNat + 1 ∨ 4294967296 * z.toNat + u0.toNat < (x1.toNat + 1) * 4294925036 := by
      rw [hx1, Nat.sub_add_cancel (by omega)]
      rw [hm2, hm1, hm3] at hg
      exact hg
    have y4 : V.toNat * 4294967296 + u0.toNat < (x1.toNat + 1) * 18446744073709509356 := ar3 y1 y3 hu hV
    by_cases hb : (4294967296 : UInt64) ≤ z1
    · rw [dpos hb, cond_true]
      have hb' := d3.1 hb
      exact ⟨_, rfl, fin x1 (ar1 y1 i2 y2 (by omega)) y4⟩
    · rw [dneg hb, cond_false]
      have hb' : ¬ 4294967296 ≤ z1.toNat := fun e => hb (d3.2 e)
      exact ⟨_, rfl, ⟨x1, z1, rfl, ar4 y1 hz1, ar5 i2 hz1 hb', y4⟩, by show x1.toNat < x.toNat; omega⟩
  by_cases g1 : (4294967296 : UInt64) ≤ x
  · rw [dpos g1]
    simp only [cond_true, cond_false]
    obtain ⟨o, ho, h⟩ := body (.inl (d1.1 g1))
    exact ⟨o, ho, by cases o <;> exact h⟩
  · rw [dneg g1]
    by_cases g2 : m2 < m3
    · rw [dpos g2]
      simp only [cond_true, cond_false]
      obtain ⟨o, ho, h⟩ := body (.inr (d2.1 g2))
      exact ⟨o, ho, by cases o <;> exact h⟩
    · rw [dneg g2]
      have g1' : ¬ 4294967296 ≤ x.toNat := fun e => g1 (d1.2 e)
      have g2' : ¬ m2.toNat < m3.toNat := fun e => g2 (d2.2 e)
      exact ⟨_, rfl, fin x (ar2 i1 (by rw [hm2, hm1, hm3] at g2'; exact g2')) i3⟩
set_option maxRecDepth 20000 in
/-- The first digit, and all. -/
theorem div_3 (N : Nat) (hN : 4611686018427387904 ≤ N) {U u1 u0 : UInt64} (hU : U.toNat < 4611686018427387904) (hu1 : u1.toNat ≤ 4294967295) (hu0 : u0.toNat ≤ 4294967295) :
    ∃ r, math_bits_Div64_3 N 18446744073709509356 2 4294967295 4294925036 U u1 u0 (U / 4294967295) (U - U / 4294967295 * 4294967295) = some r ∧ r.1.2.1.toNat = ((U.toNat * 4294967296 + u1.toNat) % 18446744073709509356 * 4294967296 + u0.toNat) % 18446744073709509356 / 4 := by
  unfold math_bits_Div64_3
  have hq0 : (U / 4294967295).toNat = U.toNat / 4294967295 := by rw [UInt64.toNat_div, c_0]
  have hm0 : (U / 4294967295 * 4294967295).toNat = U.toNat / 4294967295 * 4294967295 := by rw [u64mul (by rw [hq0, c_0]; omega), hq0, c_0]
  have hr0 : (U - U / 4294967295 * 4294967295).toNat = U.toNat - U.toNat / 4294967295 * 4294967295 := by rw [u64sub (by rw [hm0]; omega), hm0]
  have fin : ∀ q : UInt64, q.toNat * 18446744073709509356 ≤ U.toNat * 4294967296 + u1.toNat → U.toNat * 4294967296 + u1.toNat < (q.toNat + 1) * 18446744073709509356 → ∃ r, math_bits_Div64_6 N 18446744073709509356 2 4294967295 4294925036 U u1 u0 q = some r ∧ r.1.2.1.toNat = ((U.toNat * 4294967296 + u1.toNat) % 18446744073709509356 * 4294967296 + u0.toNat) % 18446744073709509356 / 4 := by
    intro q a b
    unfold math_bits_Div64_6
    have hnz : ¬ (4294967295 : UInt64) = 0 := by decide
    have hV : (U * 4294967296 + u1 - q * 18446744073709509356).toNat = (U.toNat * 4294967296 + u1.toNat) % 18446744073709509356 := by
      rw [UInt64.toNat_sub, UInt64.toNat_add, UInt64.toNat_mul, UInt64.toNat_mul, c_1, c_4]
      have := u1.toNat_lt; have := q.toNat_lt
      omega
    rw [dneg hnz]
    obtain ⟨r, e, hr⟩ := div_7 N hN (u0 := u0) (q1 := q) (V := U * 4294967296 + u1 - q * 18446744073709509356) (by rw [hV]; exact Nat.mod_lt _ (by decide)) hu0
    exact ⟨r, e, by rw [hr, hV]⟩
  clear hm0
  generalize U - U / 4294967295 * 4294967295 = Z0 at *
  generalize U / 4294967295 = X0 at *
  refine loopK_of (I := fun y => ∃ x z : UInt64, y = ((18446744073709509356, 2, 4294967295, 4294925036, U, u1, u0, x, z, ()), ()) ∧ x.toNat * 4294967295 + z.toNat = U.toNat ∧ z.toNat ≤ 4294967295 ∧ U.toNat * 4294967296 + u1.toNat < (x.toNat + 1) * 18446744073709509356)
    (μ := fun y => y.1.2.2.2.2.2.2.2.1.toNat) (T := fun (r : math_bits_Div64_R) => r.1.2.1.toNat = ((U.toNat * 4294967296 + u1.toNat) % 18446744073709509356 * 4294967296 + u0.toNat) % 18446744073709509356 / 4) ?_ ⟨X0, Z0, rfl, by rw [hq0, hr0]; omega, by rw [hr0]; omega, by rw [hq0]; omega⟩ (by simp only [hq0]; omega)
  rintro y ⟨x, z, rfl, i1, i2, i3⟩
  show ∃ o, math_bits_Div64_s4 N 18446744073709509356 2 4294967295 4294925036 U u1 u0 x z = some o ∧ _
  unfold math_bits_Div64_s4 math_bits_Div64_5
  have hx : x.toNat ≤ 2147483648 := by omega
  obtain ⟨m1, f1, hm1⟩ := k_s i2
  obtain ⟨m2, f2, hm2⟩ := k_a (m := m1) (u := u1) (by omega)
  obtain ⟨m3, f3, hm3⟩ := k_m (show x.toNat ≤ 4294967298 by omega)
  obtain ⟨z1, f4, hz1⟩ := k_z i2
  rw [f1, f2, f3, f4]
  have d1 : ¬ (4294967296 : UInt64) ≤ x := fun e => by have := k_le.1 e; omega
  have d2 : m2 < m3 ↔ m2.toNat < m3.toNat := UInt64.lt_iff_toNat_lt
  have d3 := @k_le z1
  rw [dneg d1]
  by_cases g2 : m2 < m3
  · have hg := d2.1 g2
    obtain ⟨x1, f5, hx1⟩ := k_x (x := x) (by omega)
    rw [f5]
    have y1 : (x1.toNat + 1) * 4294967295 + z.toNat = U.toNat := by rw [hx1, Nat.sub_add_cancel (by omega)]; exact i1
    have y2 : x1.toNat + 1 ≤ 4294967298 := by omega
    have y3 : 4294967296 ≤ x1.toNat + 1 ∨ 4294967296 * z.toNat + u1.toNat < (x1.toNat + 1) * 4294925036 := by
      rw [hx1, Nat.sub_add_cancel (by omega)]
      rw [hm2, hm1, hm3] at hg
      exact Or.inr hg
    have y4 : U.toNat * 4294967296 + u1.toNat < (x1.toNat + 1) * 18446744073709509356 := ar3 y1 y3 hu1 (by omega)
    rw [dpos g2]
    by_cases hb : (4294967296 : UInt64) ≤ z1
    · have hb' := d3.1 hb
      simp only [dpos hb, cond_true, cond_false]
      exact ⟨_, rfl, fin x1 (ar1 y1 i2 y2 (by omega)) y4⟩
    · have hb' : ¬ 4294967296 ≤ z1.toNat := fun e => hb (d3.2 e)
      simp only [dneg hb, cond_true, cond_false]
      exact ⟨_, rfl, ⟨x1, z1, rfl, ar4 y1 hz1, ar5 i2 hz1 hb', y4⟩, by show x1.toNat < x.toNat; omega⟩
  · have g2' : ¬ m2.toNat < m3.toNat := fun e => g2 (d2.2 e)
    rw [dneg g2]
    exact ⟨_, rfl, fin x (ar2 i1 (by rw [hm2, hm1, hm3] at g2'; exact g2')) i3⟩
theorem lz_ok (N : Nat) : math_bits_LeadingZeros64 N 4611686018427377339 = some ((2, ()), ()) := by kernel_rfl
theorem div64_ok (N : Nat) (hN : 4611686018427387904 ≤ N) {hi lo : UInt64} (h : hi.toNat < 1152921504606846976) : ∃ r, math_bits_Div64 N hi lo 4611686018427377339 = some r ∧ r.1.2.1.toNat = (hi.toNat * 18446744073709551616 + lo.toNat) % 4611686018427377339 := by
  have hp : (4611686018427377339 : UInt64).toNat = 4611686018427377339 := rfl
  unfold math_bits_Div64 math_bits_Div64_1 math_bits_Div64_2
  have n0 : ¬ (4611686018427377339 : UInt64) = 0 := by decide
  have n1 : ¬ (4611686018427377339 : UInt64) ≤ hi := by rw [UInt64.le_iff_toNat_le, hp]; omega
  simp only [dneg n0, dneg n1, cond_false, Bool.not_false, cond_true]
  by_cases hz : hi = 0
  · subst hz
    rw [dpos rfl, cond_true]
    refine ⟨_, rfl, ?_⟩
    show (lo % 4611686018427377339).toNat = _
    rw [UInt64.toNat_mod, hp]
    have : (0 : UInt64).toNat = 0 := rfl
    rw [this, Nat.zero_mul, Nat.zero_add]
  · rw [dneg hz, lz_ok]
    simp only [cond_false, Option.bind_some]
    have e1 : (iu64 2).toNat = 2 := rfl
    have e2 : ((64 : UInt64) - iu64 2).toNat = 62 := rfl
    have e3 : iu64 2 = 2 := rfl
    have y1 : shl64 4611686018427377339 2 = 18446744073709509356 := rfl
    have y2 : shr64 18446744073709509356 32 = 4294967295 := rfl
    have y3 : (18446744073709509356 : UInt64) &&& 4294967295 = 4294925036 := rfl
    have n2 : ¬ (4294967295 : UInt64) = 0 := by decide
    rw [e1, e2, e3, y1, y2, y3]
    simp only [dneg n2, Bool.not_false, cond_true]
    have hlo := lo.toNat_lt
    have hsl : (shl64 hi 2).toNat = hi.toNat * 4 := by
      show (hi.toBitVec <<< 2).toNat = _
      rw [BitVec.toNat_shiftLeft, Nat.shiftLeft_eq]
      have : hi.toBitVec.toNat = hi.toNat := rfl
      rw [this]
      exact Nat.mod_eq_of_lt (by omega)
    have hsr : (shr64 lo 62).toNat = lo.toNat / 4611686018427387904 := u64shr lo 62
    have hU : (shl64 hi 2 ||| shr64 lo 62).toNat = hi.toNat * 4 + lo.toNat / 4611686018427387904 := by
      rw [UInt64.toNat_or, hsl, hsr, show hi.toNat * 4 = hi.toNat <<< 2 by rw [Nat.shiftLeft_eq], ← Nat.shiftLeft_add_eq_or_of_lt (show lo.toNat / 4611686018427387904 < 2 ^ 2 by omega)]
    have hL : (shl64 lo 2).toNat = lo.toNat * 4 % 18446744073709551616 := by
      show (lo.toBitVec <<< 2).toNat = _
      rw [BitVec.toNat_shiftLeft, Nat.shiftLeft_eq]; rfl
    have hu1 : (shr64 (shl64 lo 2) 32).toNat = lo.toNat * 4 % 18446744073709551616 / 4294967296 := by rw [u64shr, hL]
    have hu0 : (shl64 lo 2 &&& 4294967295).toNat = lo.toNat * 4 % 18446744073709551616 % 4294967296 := by rw [u64lo, hL]
    obtain ⟨r, e, hr⟩ := div_3 N hN (U := shl64 hi 2 ||| shr64 lo 62) (u1 := shr64 (shl64 lo 2) 32) (u0 := shl64 lo 2 &&& 4294967295) (by rw [hU]; omega) (by rw [hu1]; omega) (by rw [hu0]; omega)
    refine ⟨r, e, ?_⟩
    rw [hr, hU, hu1, hu0]
    generalize hi.toNat = H at *
    generalize lo.toNat = L at *
    omega
theorem gmul_ok (N : Nat) (hN : 4611686018427387904 ≤ N) (a b : UInt64) : ∃ r, group_Mul N a b = some ((r, ()), ()) ∧ r.toNat = a.toNat * b.toNat % 4611686018427377339 := by
  have hp : (4611686018427377339 : UInt64).toNat = 4611686018427377339 := rfl
  obtain ⟨h, l, e1, h1, h2⟩ := mul64_ok N (a % 4611686018427377339) (b % 4611686018427377339)
  rw [UInt64.toNat_mod, UInt64.toNat_mod, hp] at h1 h2
  have hb := Nat.mul_le_mul (show a.toNat % 4611686018427377339 ≤ 4611686018427377338 by omega) (show b.toNat % 4611686018427377339 ≤ 4611686018427377338 by omega)
  obtain ⟨r, e2, h3⟩ := div64_ok N hN (hi := h) (lo := l) (by rw [h1]; omega)
  unfold group_Mul
  rw [e1, Option.bind_some]
  simp only [e2, Option.bind_some]
  refine ⟨_, rfl, ?_⟩
  rw [h3, h1, h2, Nat.div_add_mod', ← Nat.mul_mod]
theorem gpow_ok (N : Nat) (hN : 4611686018427387904 ≤ N) (a e : UInt64) : ∃ r, group_Power N a e = some ((r, ()), ()) ∧ r.toNat = a.toNat ^ e.toNat % 4611686018427377339 := by
  unfold group_Power group_Power_1
  have := loopK_of (N := N) (step := fun y => group_Power_s2 N y.1.1 y.1.2.1 y.1.2.2.1) (J := fun (e : ((UInt64 × Unit) × (Unit))) => group_Power_3 N e.1.1)
    (I := fun y => y.1.2.2.1.toNat * y.1.1.toNat ^ y.1.2.1.toNat % 4611686018427377339 = a.toNat ^ e.toNat % 4611686018427377339 ∧ y.1.2.2.1.toNat < 4611686018427377339 ∧ y.1.2.1.toNat < 2 ^ 64 ) (μ := fun y => y.1.2.1.toNat.log2 + (if y.1.2.1.toNat = 0 then 0 else 1)) (T := fun r => ∃ v, r = ((v, ()), ()) ∧ v.toNat = a.toNat ^ e.toNat % 4611686018427377339) ?_
    (x := ((a, e, 1, ()), ())) ⟨by show 1 * _ % _ = _; rw [Nat.one_mul], by show (1 : UInt64).toNat < _; decide, e.toNat_lt⟩ (by
      simp only
      have : e.toNat.log2 < 64 := by
        by_cases h : e.toNat = 0
        · rw [h]; decide
        · exact (Nat.log2_lt h).2 e.toNat_lt
      split <;> omega)
  · obtain ⟨r, h1, v, rfl, h2⟩ := this
    exact ⟨v, h1, h2⟩
  · rintro ⟨⟨x, k, r, _⟩, _⟩ ⟨h1, h2, h3⟩
    simp only at h1 h2 h3
    show ∃ o, group_Power_s2 N x k r = some o ∧ _
    unfold group_Power_s2
    have z : (0 : UInt64).toNat = 0 := rfl
    have o1 : (1 : UInt64).toNat = 1 := rfl
    by_cases hk : (0 : UInt64) < k
    · have hk' : 0 < k.toNat := by rw [UInt64.lt_iff_toNat_lt, z] at hk; exact hk
      obtain ⟨x2, ex, hx2⟩ := gmul_ok N hN x x
      obtain ⟨rx, er, hrx⟩ := gmul_ok N hN r x
      have hs : (shr64 k 1).toNat = k.toNat / 2 := u64shr k 1
      have hbit : (k &&& 1).toNat = k.toNat % 2 := by rw [UInt64.toNat_and, o1]; exact Nat.and_two_pow_sub_one_eq_mod _ 1
      have hmeas : (shr64 k 1).toNat.log2 + (if (shr64 k 1).toNat = 0 then 0 else 1) < k.toNat.log2 + (if k.toNat = 0 then 0 else 1) := by
        rw [hs, if_neg (show ¬ k.toNat = 0 by omega)]
        by_cases h : k.toNat / 2 = 0
        · rw [h, if_pos rfl]; simp
        · rw [if_neg h]
          have : k.toNat.log2 = (k.toNat / 2).log2 + 1 := by
            rw [Nat.log2_def k.toNat, if_pos (by omega)]
          omega
      have hpow : ∀ q : Nat, x2.toNat ^ q % 4611686018427377339 = x.toNat ^ (2 * q) % 4611686018427377339 := by
        intro q
        rw [hx2, ← Nat.pow_mod, Nat.pow_mul, Nat.pow_two]
      by_cases hb : k &&& 1 = 1
      · have hodd : k.toNat % 2 = 1 := by rw [← hbit, hb]; rfl
        simp only [dpos hk, dpos hb, cond_true, er, ex, Option.bind_some]
        refine ⟨_, rfl, ⟨?_, by simp only [hrx]; exact Nat.mod_lt _ (by decide), by simp only [hs]; omega⟩, by simpa only using hmeas⟩
        simp only
        rw [← h1, hs, Nat.mul_mod, hpow, hrx, Nat.mod_mod, ← Nat.mul_mod, Nat.mul_assoc, ← Nat.pow_succ', show (2 * (k.toNat / 2)).succ = k.toNat by omega]
      · have heven : k.toNat % 2 = 0 := by
          rcases (by omega : k.toNat % 2 = 0 ∨ k.toNat % 2 = 1) with h | h
          · exact h
          · exact absurd (UInt64.toNat_inj.1 (by rw [hbit, h]; rfl)) hb
        simp only [dpos hk, dneg hb, cond_true, cond_false, ex, Option.bind_some]
        refine ⟨_, rfl, ⟨?_, h2, by simp only [hs]; omega⟩, by simpa only using hmeas⟩
        simp only
        rw [← h1, hs, Nat.mul_mod, hpow, ← Nat.mul_mod, show 2 * (k.toNat / 2) = k.toNat by omega]
    · have hk' : k.toNat = 0 := by
        have : ¬ 0 < k.toNat := fun h => hk (by rw [UInt64.lt_iff_toNat_lt, z]; exact h)
        omega
      simp only [dneg hk, cond_false]
      refine ⟨_, rfl, _, rfl, r, rfl, ?_⟩
      rw [hk', Nat.pow_zero, Nat.mul_one, Nat.mod_eq_of_lt h2] at h1
      exact h1
end
end Go.Proofs.YtofajgidjkjnpaaDoor.Pl
