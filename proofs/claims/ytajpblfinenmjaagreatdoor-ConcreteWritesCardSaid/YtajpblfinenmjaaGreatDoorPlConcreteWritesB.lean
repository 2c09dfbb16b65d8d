/- The ghost machine: an evaluator of the program's text over plain data, and its soundness. -/
import Derived.Test.YtajpblfinenmjaaGreatDoorPlConcreteWritesA
import Derived.Lib.Mul64
import Derived.Test.YtajpblfinenmjaaGreatDoorNum
import Derived.Test.YtajpblfinenmjaaGreatDoorFntConcreteWritesA
import Derived.Test.YtajpblfinenmjaaGreatDoorFnvConcreteWritesA
import Derived.Test.YtajpblfinenmjaaGreatDoorRngConcreteWritesC
set_option linter.unusedVariables false
set_option linter.unusedSimpArgs false
set_option linter.unusedSectionVars false
namespace Go.Proofs.YtajpblfinenmjaaGreatDoor.Pl
open Go
noncomputable section
theorem u64add {x y : UInt64} (h : x.toNat + y.toNat < 18446744073709551616) : (x + y).toNat = x.toNat + y.toNat := by
 rw [UInt64.toNat_add]; exact Nat.mod_eq_of_lt h
theorem u64mul {x y : UInt64} (h : x.toNat * y.toNat < 18446744073709551616) : (x * y).toNat = x.toNat * y.toNat := by
 rw [UInt64.toNat_mul]; exact Nat.mod_eq_of_lt h
theorem u64sub {x y : UInt64} (h : y.toNat ≤ x.toNat) : (x - y).toNat = x.toNat - y.toNat := UInt64.toNat_sub_of_le _ _ (UInt64.le_iff_toNat_le.2 h)
theorem u64shr (x : UInt64) (n : Nat) : (shr64 x n).toNat = x.toNat / 2 ^ n := by
 show (x.toBitVec >>> n).toNat = _
 rw [BitVec.toNat_ushiftRight, Nat.shiftRight_eq_div_pow]; rfl
theorem u64lo (x : UInt64) : (x &&& 4294967295).toNat = x.toNat % 4294967296 := by
 rw [UInt64.toNat_and]; exact Nat.and_two_pow_sub_one_eq_mod _ 32
theorem zwkg (N : Nat) (x y : UInt64) : ∃ h l, zq23 N x y = some ((h, l, ()), ()) ∧ h.toNat = x.toNat * y.toNat / 18446744073709551616 ∧ l.toNat = x.toNat * y.toNat % 18446744073709551616 := by
 have hx := x.toNat_lt; have hy := y.toNat_lt
 obtain ⟨bd, bt, bw, hhi⟩ := Lib.mul64_hi x.toNat y.toNat hx hy
 have ba := Lib.half_mul_le (a := x.toNat / 4294967296) (b := y.toNat / 4294967296) (by omega) (by omega)
 have bb := Lib.half_mul_le (a := x.toNat / 4294967296) (b := y.toNat % 4294967296) (by omega) (by omega)
 have bc := Lib.half_mul_le (a := x.toNat % 4294967296) (b := y.toNat / 4294967296) (by omega) (by omega)
 have be := Lib.half_mul_le (a := x.toNat % 4294967296) (b := y.toNat % 4294967296) (by omega) (by omega)
 have s32 : ∀ z : UInt64, (shr64 z 32).toNat = z.toNat / 4294967296 := fun z => u64shr z 32
 have m1 : (shr64 x 32 * shr64 y 32).toNat = x.toNat / 4294967296 * (y.toNat / 4294967296) := by rw [u64mul (by rw [s32, s32]; omega), s32, s32]
 have m2 : (shr64 x 32 * (y &&& 4294967295)).toNat = x.toNat / 4294967296 * (y.toNat % 4294967296) := by rw [u64mul (by rw [s32, u64lo]; omega), s32, u64lo]
 have m3 : ((x &&& 4294967295) * (y &&& 4294967295)).toNat = x.toNat % 4294967296 * (y.toNat % 4294967296) := by rw [u64mul (by rw [u64lo, u64lo]; omega), u64lo, u64lo]
 have m4 : ((x &&& 4294967295) * shr64 y 32).toNat = x.toNat % 4294967296 * (y.toNat / 4294967296) := by rw [u64mul (by rw [u64lo, s32]; omega), u64lo, s32]
 have t1 : (shr64 x 32 * (y &&& 4294967295) + shr64 ((x &&& 4294967295) * (y &&& 4294967295)) 32).toNat = x.toNat / 4294967296 * (y.toNat % 4294967296) + x.toNat % 4294967296 * (y.toNat % 4294967296) / 4294967296 := by
  rw [u64add (by rw [s32, m2, m3]; omega), s32, m2, m3]
 have t2 : ((shr64 x 32 * (y &&& 4294967295) + shr64 ((x &&& 4294967295) * (y &&& 4294967295)) 32 &&& 4294967295) + (x &&& 4294967295) * shr64 y 32).toNat = (x.toNat / 4294967296 * (y.toNat % 4294967296) + x.toNat % 4294967296 * (y.toNat % 4294967296) / 4294967296) % 4294967296 + x.toNat % 4294967296 * (y.toNat / 4294967296) := by
  rw [u64add (by rw [u64lo, t1, m4]; omega), u64lo, t1, m4]
 refine ⟨_, _, rfl, ?_, UInt64.toNat_mul ..⟩
 rw [← hhi]
 rw [u64add (by rw [u64add (by rw [m1, s32, t1]; omega), m1, s32, t1, s32, t2]; omega), u64add (by rw [m1, s32, t1]; omega), m1, s32, t1, s32, t2]
theorem c_0 : (4294967295 : UInt64).toNat = 4294967295 := rfl
theorem c_1 : (4294967296 : UInt64).toNat = 4294967296 := rfl
theorem c_2 : (4294925036 : UInt64).toNat = 4294925036 := rfl
theorem c_3 : (1 : UInt64).toNat = 1 := rfl
theorem c_4 : (18446744073709509356 : UInt64).toNat = 18446744073709509356 := rfl
theorem k_z {z : UInt64} (h : z.toNat ≤ 4294967295) : ∃ z1, z + 4294967295 = z1 ∧ z1.toNat = z.toNat + 4294967295 := ⟨_, rfl, by rw [u64add (by rw [c_0]; omega), c_0]⟩
theorem k_x {x : UInt64} (h : 1 ≤ x.toNat) : ∃ x1, x - 1 = x1 ∧ x1.toNat = x.toNat - 1 := ⟨_, rfl, by rw [u64sub (by rw [c_3]; omega), c_3]⟩
theorem k_m {x : UInt64} (h : x.toNat ≤ 4294967298) : ∃ m, x * 4294925036 = m ∧ m.toNat = x.toNat * 4294925036 := ⟨_, rfl, by rw [u64mul (by rw [c_2]; omega), c_2]⟩
theorem k_s {z : UInt64} (h : z.toNat ≤ 4294967295) : ∃ m, 4294967296 * z = m ∧ m.toNat = 4294967296 * z.toNat := ⟨_, rfl, by rw [u64mul (by rw [c_1]; omega), c_1]⟩
theorem k_a {m u : UInt64} (h : m.toNat + u.toNat < 18446744073709551616) : ∃ a, m + u = a ∧ a.toNat = m.toNat + u.toNat := ⟨_, rfl, u64add h⟩
theorem k_le {z : UInt64} : (4294967296 : UInt64) ≤ z ↔ 4294967296 ≤ z.toNat := by rw [UInt64.le_iff_toNat_le, c_1]
theorem div_10 (N : Nat) {u0 q1 V q0 : UInt64} (h1 : q0.toNat * 18446744073709509356 ≤ V.toNat * 4294967296 + u0.toNat) (h2 : V.toNat * 4294967296 + u0.toNat < (q0.toNat + 1) * 18446744073709509356) :
  ∃ r, zq19_10 N 18446744073709509356 2 u0 q1 V q0 = some r ∧ r.1.2.1.toNat = (V.toNat * 4294967296 + u0.toNat - q0.toNat * 18446744073709509356) / 4 := by
 refine ⟨_, rfl, ?_⟩
 show (shr64 (V * 4294967296 + u0 - q0 * 18446744073709509356) (2 : UInt64).toNat).toNat = _
 rw [u64shr]
 show _ / 4 = _
 congr 1
 rw [UInt64.toNat_sub, UInt64.toNat_add, UInt64.toNat_mul, UInt64.toNat_mul, c_1, c_4]
 have := u0.toNat_lt; have := q0.toNat_lt; have := V.toNat_lt
 omega
theorem ar1 {x1 z V u : Nat} (i1 : (x1 + 1) * 4294967295 + z = V) (i2 : z ≤ 4294967295) (hx : x1 + 1 ≤ 4294967298) (hb : 4294967296 ≤ z + 4294967295) : x1 * 18446744073709509356 ≤ V * 4294967296 + u := by
 subst i1; omega
theorem ar2 {x z V u : Nat} (i1 : x * 4294967295 + z = V) (g : ¬ 4294967296 * z + u < x * 4294925036) : x * 18446744073709509356 ≤ V * 4294967296 + u := by
 subst i1; omega
theorem ar3 {x1 z V u : Nat} (i1 : (x1 + 1) * 4294967295 + z = V) (g : 4294967296 ≤ x1 + 1 ∨ 4294967296 * z + u < (x1 + 1) * 4294925036) (hu : u ≤ 4294967295) (hV : V < 18446744073709509356): V * 4294967296 + u < (x1 + 1) * 18446744073709509356 := by
 rcases g with g | g
 ·clear i1; omega
 ·subst i1; clear hu hV; omega
theorem ar4 {x1 z z1 V : Nat} (i1 : (x1 + 1) * 4294967295 + z = V) (h : z1 = z + 4294967295) : x1 * 4294967295 + z1 = V := by
 subst i1 h; omega
theorem ar5 {z z1 : Nat} (i2 : z ≤ 4294967295) (h : z1 = z + 4294967295) (hb : ¬ 4294967296 ≤ z1) : z1 ≤ 4294967295 := by subst h; omega
set_option maxRecDepth 20000 in
theorem div_7 (N : Nat) (hN : 4611686018427387904 ≤ N) {u0 q1 V : UInt64} (hV : V.toNat < 18446744073709509356) (hu : u0.toNat ≤ 4294967295) :
  ∃ r, zq19_7 N 18446744073709509356 2 4294967295 4294925036 u0 q1 (V - V / 4294967295 * 4294967295) V (V / 4294967295) = some r ∧ r.1.2.1.toNat = (V.toNat * 4294967296 + u0.toNat) % 18446744073709509356 / 4 := by
 unfold zq19_7
 have hq0 : (V / 4294967295).toNat = V.toNat / 4294967295 := by rw [UInt64.toNat_div, c_0]
 have hm0 : (V / 4294967295 * 4294967295).toNat = V.toNat / 4294967295 * 4294967295 := by rw [u64mul (by rw [hq0, c_0]; omega), hq0, c_0]
 have hr0 : (V - V / 4294967295 * 4294967295).toNat = V.toNat - V.toNat / 4294967295 * 4294967295 := by rw [u64sub (by rw [hm0]; omega), hm0]
 have fin : ∀ q0 : UInt64, q0.toNat * 18446744073709509356 ≤ V.toNat * 4294967296 + u0.toNat → V.toNat * 4294967296 + u0.toNat < (q0.toNat + 1) * 18446744073709509356 → ∃ r, zq19_10 N 18446744073709509356 2 u0 q1 V q0 = some r ∧ r.1.2.1.toNat = (V.toNat * 4294967296 + u0.toNat) % 18446744073709509356 / 4 := by
  intro q0 a b
  obtain ⟨r, e, hr⟩ := div_10 N (q1 := q1) a b
  refine ⟨r, e, ?_⟩
  rw [hr]
  congr 1
  omega
 clear hm0
 generalize V - V / 4294967295 * 4294967295 = Z0 at *
 generalize V / 4294967295 = X0 at *
 refine zwj (I := fun y => ∃ x z : UInt64, y = ((18446744073709509356, 2, 4294967295, 4294925036, u0, q1, z, V, x, ()), ()) ∧ x.toNat * 4294967295 + z.toNat = V.toNat ∧ z.toNat ≤ 4294967295 ∧ V.toNat * 4294967296 + u0.toNat < (x.toNat + 1) * 18446744073709509356)
  (μ := fun y => (y.1.2.2.2.2.2.2.2.2.1 : UInt64).toNat) (T := fun (r : zq19_R) => r.1.2.1.toNat = (V.toNat * 4294967296 + u0.toNat) % 18446744073709509356 / 4) ?_ ⟨X0, Z0, rfl, by rw [hq0, hr0]; omega, by rw [hr0]; omega, by rw [hq0]; omega⟩ (by simp only [hq0]; omega)
 rintro y ⟨x, z, rfl, i1, i2, i3⟩
 show ∃ o, zq19_s8 N 18446744073709509356 2 4294967295 4294925036 u0 q1 z V x = some o ∧ _
 unfold zq19_s8 zq19_9
 have hx : x.toNat ≤ 4294967298 := by omega
 obtain ⟨m1, f1, hm1⟩ := k_s i2
 obtain ⟨m2, f2, hm2⟩ := k_a (m := m1) (u := u0) (by omega)
 obtain ⟨m3, f3, hm3⟩ := k_m (show x.toNat ≤ 4294967298 by omega)
 obtain ⟨z1, f4, hz1⟩ := k_z i2
 rw [f1, f2, f3, f4]
 have d1 := @k_le x
 have d2 : m2 < m3 ↔ m2.toNat < m3.toNat := UInt64.lt_iff_toNat_lt
 have d3 := @k_le z1
 have body : (4294967296 ≤ x.toNat ∨ m2.toNat < m3.toNat) → ∃ o, (bif decide ((4294967296 : UInt64) ≤ z1) then some (Lo.br ((18446744073709509356, 2, u0, q1, V, x - 1, ()), ())) else some (Lo.go ((18446744073709509356, 2, 4294967295, 4294925036, u0, q1, z1, V, x - 1, ()), ())) : Option (Lo ((UInt64 × UInt64 × UInt64 × UInt64 × UInt64 × UInt64 × UInt64 × UInt64 × UInt64 × Unit) × (Unit)) ((UInt64 × UInt64 × UInt64 × UInt64 × UInt64 × UInt64 × Unit) × (Unit)) zq19_R)) = some o ∧ match o with
   | .go x' => (∃ x z : UInt64, x' = ((18446744073709509356, 2, 4294967295, 4294925036, u0, q1, z, V, x, ()), ()) ∧ x.toNat * 4294967295 + z.toNat = V.toNat ∧ z.toNat ≤ 4294967295 ∧ V.toNat * 4294967296 + u0.toNat < (x.toNat + 1) * 18446744073709509356) ∧ x'.1.2.2.2.2.2.2.2.2.1.toNat < x.toNat
   | .br e => ∃ r, zq19_10 N e.1.1 e.1.2.1 e.1.2.2.1 e.1.2.2.2.1 e.1.2.2.2.2.1 e.1.2.2.2.2.2.1 = some r ∧ r.1.2.1.toNat = (V.toNat * 4294967296 + u0.toNat) % 18446744073709509356 / 4
   | .rt r => r.1.2.1.toNat = (V.toNat * 4294967296 + u0.toNat) % 18446744073709509356 / 4 := by
  intro hg
  obtain ⟨x1, f5, hx1⟩ := k_x (x := x) (by omega)
  rw [f5]
  have y1 : (x1.toNat + 1) * 4294967295 + z.toNat = V.toNat := by rw [hx1, Nat.sub_add_cancel (by omega)]; exact i1
  have y2 : x1.toNat + 1 ≤ 4294967298 := by omega
  have y3 : 4294967296 ≤ x1.toNat + 1 ∨ 4294967296 * z.toNat + u0.toNat < (x1.toNat + 1) * 4294925036 := by
   rw [hx1, Nat.sub_add_cancel (by omega)]
   rw [hm2, hm1, hm3] at hg
   exact hg
  have y4 : V.toNat * 4294967296 + u0.toNat < (x1.toNat + 1) * 18446744073709509356 := ar3 y1 y3 hu hV
  by_cases hb : (4294967296 : UInt64) ≤ z1
  ·rw [dpos hb, cond_true]
   have hb' := d3.1 hb
   exact ⟨_, rfl, fin x1 (ar1 y1 i2 y2 (by omega)) y4⟩
  ·rw [dneg hb, cond_false]
   have hb' : ¬ 4294967296 ≤ z1.toNat := fun e => hb (d3.2 e)
   exact ⟨_, rfl, ⟨x1, z1, rfl, ar4 y1 hz1, ar5 i2 hz1 hb', y4⟩, by show x1.toNat < x.toNat; omega⟩
 by_cases g1 : (4294967296 : UInt64) ≤ x
 ·rw [dpos g1]
  simp only [cond_true, cond_false]
  obtain ⟨o, ho, h⟩ := body (.inl (d1.1 g1))
  exact ⟨o, ho, by cases o <;> exact h⟩
 ·rw [dneg g1]
  by_cases g2 : m2 < m3
  ·rw [dpos g2]
   simp only [cond_true, cond_false]
   obtain ⟨o, ho, h⟩ := body (.inr (d2.1 g2))
   exact ⟨o, ho, by cases o <;> exact h⟩
  ·rw [dneg g2]
   have g1' : ¬ 4294967296 ≤ x.toNat := fun e => g1 (d1.2 e)
   have g2' : ¬ m2.toNat < m3.toNat := fun e => g2 (d2.2 e)
   exact ⟨_, rfl, fin x (ar2 i1 (by rw [hm2, hm1, hm3] at g2'; exact g2')) i3⟩
set_option maxRecDepth 20000 in
theorem div_3 (N : Nat) (hN : 4611686018427387904 ≤ N) {U u1 u0 : UInt64} (hU : U.toNat < 4611686018427387904) (hu1 : u1.toNat ≤ 4294967295) (hu0 : u0.toNat ≤ 4294967295) :
  ∃ r, zq19_3 N 18446744073709509356 2 4294967295 4294925036 U u1 u0 (U / 4294967295) (U - U / 4294967295 * 4294967295) = some r ∧ r.1.2.1.toNat = ((U.toNat * 4294967296 + u1.toNat) % 18446744073709509356 * 4294967296 + u0.toNat) % 18446744073709509356 / 4 := by
 unfold zq19_3
 have hq0 : (U / 4294967295).toNat = U.toNat / 4294967295 := by rw [UInt64.toNat_div, c_0]
 have hm0 : (U / 4294967295 * 4294967295).toNat = U.toNat / 4294967295 * 4294967295 := by rw [u64mul (by rw [hq0, c_0]; omega), hq0, c_0]
 have hr0 : (U - U / 4294967295 * 4294967295).toNat = U.toNat - U.toNat / 4294967295 * 4294967295 := by rw [u64sub (by rw [hm0]; omega), hm0]
 have fin : ∀ q : UInt64, q.toNat * 18446744073709509356 ≤ U.toNat * 4294967296 + u1.toNat → U.toNat * 4294967296 + u1.toNat < (q.toNat + 1) * 18446744073709509356 → ∃ r, zq19_6 N 18446744073709509356 2 4294967295 4294925036 U u1 u0 q = some r ∧ r.1.2.1.toNat = ((U.toNat * 4294967296 + u1.toNat) % 18446744073709509356 * 4294967296 + u0.toNat) % 18446744073709509356 / 4 := by
  intro q a b
  unfold zq19_6
  have hnz : ¬ (4294967295 : UInt64) = 0 := by decide
  have hV : (U * 4294967296 + u1 - q * 18446744073709509356).toNat = (U.toNat * 4294967296 + u1.toNat) % 18446744073709509356 := by
   rw [UInt64.toNat_sub, UInt64.toNat_add, UInt64.toNat_mul, UInt64.toNat_mul, c_1, c_4]
   have := u1.toNat_lt; have := q.toNat_lt
   omega
  rw [dneg hnz]
  obtain ⟨r, e, hr⟩ := div_7 N hN (u0 := u0) (q1 := q) (V := U * 4294967296 + u1 - q * 18446744073709509356) (by rw [hV]; exact Nat.mod_lt _ (by decide)) hu0
  exact ⟨r, e, by rw [hr, hV]⟩
 clear hm0
 generalize U - U / 4294967295 * 4294967295 = Z0 at *
 generalize U / 4294967295 = X0 at *
 refine zwj (I := fun y => ∃ x z : UInt64, y = ((18446744073709509356, 2, 4294967295, 4294925036, U, u1, u0, x, z, ()), ()) ∧ x.toNat * 4294967295 + z.toNat = U.toNat ∧ z.toNat ≤ 4294967295 ∧ U.toNat * 4294967296 + u1.toNat < (x.toNat + 1) * 18446744073709509356)
  (μ := fun y => y.1.2.2.2.2.2.2.2.1.toNat) (T := fun (r : zq19_R) => r.1.2.1.toNat = ((U.toNat * 4294967296 + u1.toNat) % 18446744073709509356 * 4294967296 + u0.toNat) % 18446744073709509356 / 4) ?_ ⟨X0, Z0, rfl, by rw [hq0, hr0]; omega, by rw [hr0]; omega, by rw [hq0]; omega⟩ (by simp only [hq0]; omega)
 rintro y ⟨x, z, rfl, i1, i2, i3⟩
 show ∃ o, zq19_s4 N 18446744073709509356 2 4294967295 4294925036 U u1 u0 x z = some o ∧ _
 unfold zq19_s4 zq19_5
 have hx : x.toNat ≤ 2147483648 := by omega
 obtain ⟨m1, f1, hm1⟩ := k_s i2
 obtain ⟨m2, f2, hm2⟩ := k_a (m := m1) (u := u1) (by omega)
 obtain ⟨m3, f3, hm3⟩ := k_m (show x.toNat ≤ 4294967298 by omega)
 obtain ⟨z1, f4, hz1⟩ := k_z i2
 rw [f1, f2, f3, f4]
 have d1 : ¬ (4294967296 : UInt64) ≤ x := fun e => by have := k_le.1 e; omega
 have d2 : m2 < m3 ↔ m2.toNat < m3.toNat := UInt64.lt_iff_toNat_lt
 have d3 := @k_le z1
 rw [dneg d1]
 by_cases g2 : m2 < m3
 ·have hg := d2.1 g2
  obtain ⟨x1, f5, hx1⟩ := k_x (x := x) (by omega)
  rw [f5]
  have y1 : (x1.toNat + 1) * 4294967295 + z.toNat = U.toNat := by rw [hx1, Nat.sub_add_cancel (by omega)]; exact i1
  have y2 : x1.toNat + 1 ≤ 4294967298 := by omega
  have y3 : 4294967296 ≤ x1.toNat + 1 ∨ 4294967296 * z.toNat + u1.toNat < (x1.toNat + 1) * 4294925036 := by
   rw [hx1, Nat.sub_add_cancel (by omega)]
   rw [hm2, hm1, hm3] at hg
   exact Or.inr hg
  have y4 : U.toNat * 4294967296 + u1.toNat < (x1.toNat + 1) * 18446744073709509356 := ar3 y1 y3 hu1 (by omega)
  rw [dpos g2]
  by_cases hb : (4294967296 : UInt64) ≤ z1
  ·have hb' := d3.1 hb
   simp only [dpos hb, cond_true, cond_false]
   exact ⟨_, rfl, fin x1 (ar1 y1 i2 y2 (by omega)) y4⟩
  ·have hb' : ¬ 4294967296 ≤ z1.toNat := fun e => hb (d3.2 e)
   simp only [dneg hb, cond_true, cond_false]
   exact ⟨_, rfl, ⟨x1, z1, rfl, ar4 y1 hz1, ar5 i2 hz1 hb', y4⟩, by show x1.toNat < x.toNat; omega⟩
 ·have g2' : ¬ m2.toNat < m3.toNat := fun e => g2 (d2.2 e)
  rw [dneg g2]
  exact ⟨_, rfl, fin x (ar2 i1 (by rw [hm2, hm1, hm3] at g2'; exact g2')) i3⟩
theorem lz_ok (N : Nat) : zq1 N 4611686018427377339 = some ((2, ()), ()) := by kernel_rfl
theorem zwkh (N : Nat) (hN : 4611686018427387904 ≤ N) {hi lo : UInt64} (h : hi.toNat < 1152921504606846976) : ∃ r, zq19 N hi lo 4611686018427377339 = some r ∧ r.1.2.1.toNat = (hi.toNat * 18446744073709551616 + lo.toNat) % 4611686018427377339 := by
 have hp : (4611686018427377339 : UInt64).toNat = 4611686018427377339 := rfl
 unfold zq19 zq19_1 zq19_2
 have n0 : ¬ (4611686018427377339 : UInt64) = 0 := by decide
 have n1 : ¬ (4611686018427377339 : UInt64) ≤ hi := by rw [UInt64.le_iff_toNat_le, hp]; omega
 simp only [dneg n0, dneg n1, cond_false, Bool.not_false, cond_true]
 by_cases hz : hi = 0
 ·subst hz
  rw [dpos rfl, cond_true]
  refine ⟨_, rfl, ?_⟩
  show (lo % 4611686018427377339).toNat = _
  rw [UInt64.toNat_mod, hp]
  have : (0 : UInt64).toNat = 0 := rfl
  rw [this, Nat.zero_mul, Nat.zero_add]
 ·rw [dneg hz, lz_ok]
  simp only [cond_false, Option.bind_some]
  have e1 : (iu64 2).toNat = 2 := rfl
  have e2 : ((64 : UInt64) - iu64 2).toNat = 62 := rfl
  have e3 : iu64 2 = 2 := rfl
  have y1 : shl64 4611686018427377339 2 = 18446744073709509356 := rfl
  have y2 : shr64 18446744073709509356 32 = 4294967295 := rfl
  have y3 : (18446744073709509356 : UInt64) &&& 4294967295 = 4294925036 := rfl
  have n2 : ¬ (4294967295 : UInt64) = 0 := by decide
  rw [e1, e2, e3, y1, y2, y3]
  simp only [dneg n2, Bool.not_false, cond_true]
  have hlo := lo.toNat_lt
  have hsl : (shl64 hi 2).toNat = hi.toNat * 4 := by
   show (hi.toBitVec <<< 2).toNat = _
   rw [BitVec.toNat_shiftLeft, Nat.shiftLeft_eq]
   have : hi.toBitVec.toNat = hi.toNat := rfl
   rw [this]
   exact Nat.mod_eq_of_lt (by omega)
  have hsr : (shr64 lo 62).toNat = lo.toNat / 4611686018427387904 := u64shr lo 62
  have hU : (shl64 hi 2 ||| shr64 lo 62).toNat = hi.toNat * 4 + lo.toNat / 4611686018427387904 := by
   rw [UInt64.toNat_or, hsl, hsr, show hi.toNat * 4 = hi.toNat <<< 2 by rw [Nat.shiftLeft_eq], ← Nat.shiftLeft_add_eq_or_of_lt (show lo.toNat / 4611686018427387904 < 2 ^ 2 by omega)]
  have hL : (shl64 lo 2).toNat = lo.toNat * 4 % 18446744073709551616 := by
   show (lo.toBitVec <<< 2).toNat = _
   rw [BitVec.toNat_shiftLeft, Nat.shiftLeft_eq]; rfl
  have hu1 : (shr64 (shl64 lo 2) 32).toNat = lo.toNat * 4 % 18446744073709551616 / 4294967296 := by rw [u64shr, hL]
  have hu0 : (shl64 lo 2 &&& 4294967295).toNat = lo.toNat * 4 % 18446744073709551616 % 4294967296 := by rw [u64lo, hL]
  obtain ⟨r, e, hr⟩ := div_3 N hN (U := shl64 hi 2 ||| shr64 lo 62) (u1 := shr64 (shl64 lo 2) 32) (u0 := shl64 lo 2 &&& 4294967295) (by rw [hU]; omega) (by rw [hu1]; omega) (by rw [hu0]; omega)
  refine ⟨r, e, ?_⟩
  rw [hr, hU, hu1, hu0]
  generalize hi.toNat = H at *
  generalize lo.toNat = L at *
  omega
theorem zwb5 (N : Nat) (hN : 4611686018427387904 ≤ N) (a b : UInt64) : ∃ r, zq110 N a b = some ((r, ()), ()) ∧ r.toNat = a.toNat * b.toNat % 4611686018427377339 := by
 have hp : (4611686018427377339 : UInt64).toNat = 4611686018427377339 := rfl
 obtain ⟨h, l, e1, h1, h2⟩ := zwkg N (a % 4611686018427377339) (b % 4611686018427377339)
 rw [UInt64.toNat_mod, UInt64.toNat_mod, hp] at h1 h2
 have hb := Nat.mul_le_mul (show a.toNat % 4611686018427377339 ≤ 4611686018427377338 by omega) (show b.toNat % 4611686018427377339 ≤ 4611686018427377338 by omega)
 obtain ⟨r, e2, h3⟩ := zwkh N hN (hi := h) (lo := l) (by rw [h1]; omega)
 unfold zq110
 rw [e1, Option.bind_some]
 simp only [e2, Option.bind_some]
 refine ⟨_, rfl, ?_⟩
 rw [h3, h1, h2, Nat.div_add_mod', ← Nat.mul_mod]
theorem zwki (N : Nat) (hN : 4611686018427387904 ≤ N) (a e : UInt64) : ∃ r, zq77 N a e = some ((r, ()), ()) ∧ r.toNat = a.toNat ^ e.toNat % 4611686018427377339 := by
 unfold zq77 zq77_1
 have := zwj (N := N) (step := fun y => zq77_s2 N y.1.1 y.1.2.1 y.1.2.2.1) (J := fun (e : ((UInt64 × Unit) × (Unit))) => zq77_3 N e.1.1)
  (I := fun y => y.1.2.2.1.toNat * y.1.1.toNat ^ y.1.2.1.toNat % 4611686018427377339 = a.toNat ^ e.toNat % 4611686018427377339 ∧ y.1.2.2.1.toNat < 4611686018427377339 ∧ y.1.2.1.toNat < 2 ^ 64 ) (μ := fun y => y.1.2.1.toNat.log2 + (if y.1.2.1.toNat = 0 then 0 else 1)) (T := fun r => ∃ v, r = ((v, ()), ()) ∧ v.toNat = a.toNat ^ e.toNat % 4611686018427377339) ?_
  (x := ((a, e, 1, ()), ())) ⟨by show 1 * _ % _ = _; rw [Nat.one_mul], by show (1 : UInt64).toNat < _; decide, e.toNat_lt⟩ (by
   simp only
   have : e.toNat.log2 < 64 := by
    by_cases h : e.toNat = 0
    ·rw [h]; decide
    ·exact (Nat.log2_lt h).2 e.toNat_lt
   split <;> omega)
 ·obtain ⟨r, h1, v, rfl, h2⟩ := this
  exact ⟨v, h1, h2⟩
 ·rintro ⟨⟨x, k, r, _⟩, _⟩ ⟨h1, h2, h3⟩
  simp only at h1 h2 h3
  show ∃ o, zq77_s2 N x k r = some o ∧ _
  unfold zq77_s2
  have z : (0 : UInt64).toNat = 0 := rfl
  have o1 : (1 : UInt64).toNat = 1 := rfl
  by_cases hk : (0 : UInt64) < k
  ·have hk' : 0 < k.toNat := by rw [UInt64.lt_iff_toNat_lt, z] at hk; exact hk
   obtain ⟨x2, ex, hx2⟩ := zwb5 N hN x x
   obtain ⟨rx, er, hrx⟩ := zwb5 N hN r x
   have hs : (shr64 k 1).toNat = k.toNat / 2 := u64shr k 1
   have hbit : (k &&& 1).toNat = k.toNat % 2 := by rw [UInt64.toNat_and, o1]; exact Nat.and_two_pow_sub_one_eq_mod _ 1
   have hmeas : (shr64 k 1).toNat.log2 + (if (shr64 k 1).toNat = 0 then 0 else 1) < k.toNat.log2 + (if k.toNat = 0 then 0 else 1) := by
    rw [hs, if_neg (show ¬ k.toNat = 0 by omega)]
    by_cases h : k.toNat / 2 = 0
    ·rw [h, if_pos rfl]; simp
    ·rw [if_neg h]
     have : k.toNat.log2 = (k.toNat / 2).log2 + 1 := by
      rw [Nat.log2_def k.toNat, if_pos (by omega)]
     omega
   have hpow : ∀ q : Nat, x2.toNat ^ q % 4611686018427377339 = x.toNat ^ (2 * q) % 4611686018427377339 := by
    intro q
    rw [hx2, ← Nat.pow_mod, Nat.pow_mul, Nat.pow_two]
   by_cases hb : k &&& 1 = 1
   ·have hodd : k.toNat % 2 = 1 := by rw [← hbit, hb]; rfl
    simp only [dpos hk, dpos hb, cond_true, er, ex, Option.bind_some]
    refine ⟨_, rfl, ⟨?_, by simp only [hrx]; exact Nat.mod_lt _ (by decide), by simp only [hs]; omega⟩, by simpa only using hmeas⟩
    simp only
    rw [← h1, hs, Nat.mul_mod, hpow, hrx, Nat.mod_mod, ← Nat.mul_mod, Nat.mul_assoc, ← Nat.pow_succ', show (2 * (k.toNat / 2)).succ = k.toNat by omega]
   ·have heven : k.toNat % 2 = 0 := by
     rcases (by omega : k.toNat % 2 = 0 ∨ k.toNat % 2 = 1) with h | h
     ·exact h
     ·exact absurd (UInt64.toNat_inj.1 (by rw [hbit, h]; rfl)) hb
    simp only [dpos hk, dneg hb, cond_true, cond_false, ex, Option.bind_some]
    refine ⟨_, rfl, ⟨?_, h2, by simp only [hs]; omega⟩, by simpa only using hmeas⟩
    simp only
    rw [← h1, hs, Nat.mul_mod, hpow, ← Nat.mul_mod, show 2 * (k.toNat / 2) = k.toNat by omega]
  ·have hk' : k.toNat = 0 := by
    have : ¬ 0 < k.toNat := fun h => hk (by rw [UInt64.lt_iff_toNat_lt, z]; exact h)
    omega
   simp only [dneg hk, cond_false]
   refine ⟨_, rfl, _, rfl, r, rfl, ?_⟩
   rw [hk', Nat.pow_zero, Nat.mul_one, Nat.mod_eq_of_lt h2] at h1
   exact h1
end
end Go.Proofs.YtajpblfinenmjaaGreatDoor.Pl

namespace Go.Proofs.YtajpblfinenmjaaGreatDoor.Pl
open Go
def pm (a b : UInt64) : UInt64 := UInt64.ofNat (a.toNat * b.toNat % 4611686018427377339)
def pw (a e : UInt64) : UInt64 := UInt64.ofNat (a.toNat ^ e.toNat % 4611686018427377339)
theorem ofN {n : Nat} (h : n < 18446744073709551616) : (UInt64.ofNat n).toNat = n := by
 rw [UInt64.toNat_ofNat']; exact Nat.mod_eq_of_lt h
theorem ofN_p (n : Nat) : (UInt64.ofNat (n % 4611686018427377339)).toNat = n % 4611686018427377339 := ofN (by have := Nat.mod_lt n (show 0 < 4611686018427377339 by decide); omega)
theorem pm_nat (a b : UInt64) : (pm a b).toNat = a.toNat * b.toNat % 4611686018427377339 := ofN_p _
theorem pw_nat (a e : UInt64) : (pw a e).toNat = a.toNat ^ e.toNat % 4611686018427377339 := ofN_p _
section
variable (N : Nat) (hN : 4611686018427387904 ≤ N)
include hN
theorem gpow_p (a e : UInt64) : zq77 N a e = some ((pw a e, ()), ()) := by
 obtain ⟨r, e', h⟩ := zwki N hN a e
 rw [e', show r = pw a e from UInt64.toNat_inj.1 (by rw [h, pw_nat])]
omit hN in
theorem iu64N {k : Nat} (h : k < 18446744073709551616) : (iu64 (k : Int)).toNat = k := by
 show (BitVec.ofInt 64 (k : Int)).toNat = _
 rw [BitVec.toNat_ofInt]; omega
theorem rmul_p (a b : UInt64) : zq116 N a b = some ((pm a b, ()), ()) := by
 have hp : (4611686018427377339 : UInt64).toNat = 4611686018427377339 := rfl
 unfold zq116 zq116_1
 have hA0 : (a % 4611686018427377339).toNat = a.toNat % 4611686018427377339 := by rw [UInt64.toNat_mod, hp]
 have hB0 : (b % 4611686018427377339).toNat = b.toNat % 4611686018427377339 := by rw [UInt64.toNat_mod, hp]
 have hBl : (b % 4611686018427377339).toNat < 4611686018427387904 := by rw [hB0]; omega
 generalize hb' : b % 4611686018427377339 = B at *
 have := zwc (step := fun y => zq116_s2 N y.1.1 y.1.2.1 y.1.2.2.1 y.1.2.2.2.1) (J := fun (e : ((UInt64 × Unit) × (Unit))) => zq116_3 N e.1.1)
  (fun i : Nat => ((UInt64.ofNat (2 ^ i * (a.toNat % 4611686018427377339) % 4611686018427377339), B, UInt64.ofNat ((a.toNat % 4611686018427377339) * (B.toNat % 2 ^ i) % 4611686018427377339), (i : Int), ()), ())) (n := 62) (e := ((pm a b, ()), ())) ?_ ?_ (show 62 < N by omega)
 ·have e0 : UInt64.ofNat (2 ^ 0 * (a.toNat % 4611686018427377339) % 4611686018427377339) = a % 4611686018427377339 := UInt64.toNat_inj.1 (by rw [ofN_p, hA0]; omega)
  have e1 : UInt64.ofNat ((a.toNat % 4611686018427377339) * (B.toNat % 2 ^ 0) % 4611686018427377339) = 0 := by rw [Nat.pow_zero, Nat.mod_one, Nat.mul_zero]; rfl
  rw [e0, e1] at this
  exact this
 ·intro i hi
  show zq116_s2 N (UInt64.ofNat (2 ^ i * (a.toNat % 4611686018427377339) % 4611686018427377339)) B (UInt64.ofNat ((a.toNat % 4611686018427377339) * (B.toNat % 2 ^ i) % 4611686018427377339)) (i : Int) = _
  unfold zq116_s2
  have hA := ofN_p (2 ^ i * (a.toNat % 4611686018427377339))
  have hO := ofN_p ((a.toNat % 4611686018427377339) * (B.toNat % 2 ^ i))
  generalize hAA : UInt64.ofNat (2 ^ i * (a.toNat % 4611686018427377339) % 4611686018427377339) = A at *
  generalize hOO : UInt64.ofNat ((a.toNat % 4611686018427377339) * (B.toNat % 2 ^ i) % 4611686018427377339) = O at *
  have hAl := Nat.mod_lt (2 ^ i * (a.toNat % 4611686018427377339)) (show 0 < 4611686018427377339 by decide)
  have hOl := Nat.mod_lt ((a.toNat % 4611686018427377339) * (B.toNat % 2 ^ i)) (show 0 < 4611686018427377339 by decide)
  have h2A : (2 * A % 4611686018427377339 : UInt64) = UInt64.ofNat (2 ^ (i + 1) * (a.toNat % 4611686018427377339) % 4611686018427377339) := by
   apply UInt64.toNat_inj.1
   rw [ofN_p, UInt64.toNat_mod, hp, u64mul (by show 2 * A.toNat < _; omega)]
   show 2 * A.toNat % _ = _
   rw [hA, Nat.mul_mod_mod, Nat.pow_succ, ← Nat.mul_assoc, Nat.mul_comm 2]
  have hbit : (shr64 B (iu64 (i : Int)).toNat &&& 1).toNat = B.toNat / 2 ^ i % 2 := by
   rw [UInt64.toNat_and, u64shr, iu64N (by omega)]
   exact Nat.and_two_pow_sub_one_eq_mod _ 1
  have hs : B.toNat % 2 ^ (i + 1) = B.toNat % 2 ^ i + 2 ^ i * (B.toNat / 2 ^ i % 2) := Nat.mod_pow_succ
  rw [dpos (show ((i : Nat) : Int) < 62 by omega), h2A, w64_of (by omega) (by omega)]
  by_cases hb : shr64 B (iu64 (i : Int)).toNat &&& 1 = 1
  ·have h1 : B.toNat / 2 ^ i % 2 = 1 := by rw [← hbit, hb]; rfl
   rw [dpos hb]
   have hOA : (O + A) % 4611686018427377339 = UInt64.ofNat ((a.toNat % 4611686018427377339) * (B.toNat % 2 ^ (i + 1)) % 4611686018427377339) := by
    apply UInt64.toNat_inj.1
    rw [ofN_p, UInt64.toNat_mod, hp, u64add (by omega), hO, hA, ← Nat.add_mod, hs, h1, Nat.mul_one, Nat.mul_add, Nat.mul_comm (2 ^ i)]
   rw [hOA]
   rfl
  ·have h0 : B.toNat / 2 ^ i % 2 = 0 := by
    rcases (by omega : B.toNat / 2 ^ i % 2 = 0 ∨ B.toNat / 2 ^ i % 2 = 1) with h | h
    ·exact h
    ·exact absurd (UInt64.toNat_inj.1 (by rw [hbit, h]; rfl)) hb
   rw [dneg hb, hs, h0, Nat.mul_zero, Nat.add_zero, ← hOO]
   rfl
 ·show zq116_s2 N _ _ _ _ = _
  unfold zq116_s2
  have e : UInt64.ofNat ((a.toNat % 4611686018427377339) * (B.toNat % 2 ^ 62) % 4611686018427377339) = pm a b := by
   apply UInt64.toNat_inj.1
   rw [ofN_p, pm_nat, Nat.mod_eq_of_lt (show B.toNat < 2 ^ 62 from hBl), hB0, ← Nat.mul_mod]
  rw [e]
  rfl
theorem zwb6 (a b : UInt64) : ∃ r, zq116 N a b = some ((r, ()), ()) ∧ r.toNat = a.toNat * b.toNat % 4611686018427377339 := ⟨_, rmul_p N hN a b, pm_nat a b⟩
theorem zwkj (a e : UInt64) : ∃ r, zq79 N a e = some ((r, ()), ()) ∧ r.toNat = a.toNat ^ e.toNat % 4611686018427377339 := by
 unfold zq79 zq79_1
 have := zwj (N := N) (step := fun y => zq79_s2 N y.1.1 y.1.2.1 y.1.2.2.1) (J := fun (e : ((UInt64 × Unit) × (Unit))) => zq79_3 N e.1.1)
  (I := fun y => y.1.2.2.1.toNat * y.1.1.toNat ^ y.1.2.1.toNat % 4611686018427377339 = (a % 4611686018427377339).toNat ^ e.toNat % 4611686018427377339 ∧ y.1.2.2.1.toNat < 4611686018427377339 ∧ y.1.2.1.toNat < 2 ^ 64 ) (μ := fun y => y.1.2.1.toNat.log2 + (if y.1.2.1.toNat = 0 then 0 else 1)) (T := fun r => ∃ v, r = ((v, ()), ()) ∧ v.toNat = (a % 4611686018427377339).toNat ^ e.toNat % 4611686018427377339) ?_
  (x := ((a % 4611686018427377339, e, 1, ()), ())) ⟨by show 1 * _ % _ = _; rw [Nat.one_mul], by show (1 : UInt64).toNat < _; decide, e.toNat_lt⟩ (by
   simp only
   have : e.toNat.log2 < 64 := by
    by_cases h : e.toNat = 0
    ·rw [h]; decide
    ·exact (Nat.log2_lt h).2 e.toNat_lt
   split <;> omega)
 ·obtain ⟨r, h1, v, rfl, h2⟩ := this
  exact ⟨v, h1, by rw [h2, UInt64.toNat_mod]; exact (Nat.pow_mod _ _ _).symm⟩
 ·rintro ⟨⟨x, k, r, _⟩, _⟩ ⟨h1, h2, h3⟩
  simp only at h1 h2 h3
  show ∃ o, zq79_s2 N x k r = some o ∧ _
  unfold zq79_s2
  have z : (0 : UInt64).toNat = 0 := rfl
  have o1 : (1 : UInt64).toNat = 1 := rfl
  by_cases hk : (0 : UInt64) < k
  ·have hk' : 0 < k.toNat := by rw [UInt64.lt_iff_toNat_lt, z] at hk; exact hk
   obtain ⟨x2, ex, hx2⟩ := zwb6 N hN x x
   obtain ⟨rx, er, hrx⟩ := zwb6 N hN r x
   have hs : (shr64 k 1).toNat = k.toNat / 2 := u64shr k 1
   have hbit : (k &&& 1).toNat = k.toNat % 2 := by rw [UInt64.toNat_and, o1]; exact Nat.and_two_pow_sub_one_eq_mod _ 1
   have hmeas : (shr64 k 1).toNat.log2 + (if (shr64 k 1).toNat = 0 then 0 else 1) < k.toNat.log2 + (if k.toNat = 0 then 0 else 1) := by
    rw [hs, if_neg (show ¬ k.toNat = 0 by omega)]
    by_cases h : k.toNat / 2 = 0
    ·rw [h, if_pos rfl]; simp
    ·rw [if_neg h]
     have : k.toNat.log2 = (k.toNat / 2).log2 + 1 := by
      rw [Nat.log2_def k.toNat, if_pos (by omega)]
     omega
   have hpow : ∀ q : Nat, x2.toNat ^ q % 4611686018427377339 = x.toNat ^ (2 * q) % 4611686018427377339 := by
    intro q
    rw [hx2, ← Nat.pow_mod, Nat.pow_mul, Nat.pow_two]
   by_cases hb : k &&& 1 = 1
   ·have hodd : k.toNat % 2 = 1 := by rw [← hbit, hb]; rfl
    simp only [dpos hk, dpos hb, cond_true, er, ex, Option.bind_some]
    refine ⟨_, rfl, ⟨?_, by simp only [hrx]; exact Nat.mod_lt _ (by decide), by simp only [hs]; omega⟩, by simpa only using hmeas⟩
    simp only
    rw [← h1, hs, Nat.mul_mod, hpow, hrx, Nat.mod_mod, ← Nat.mul_mod, Nat.mul_assoc, ← Nat.pow_succ', show (2 * (k.toNat / 2)).succ = k.toNat by omega]
   ·have heven : k.toNat % 2 = 0 := by
     rcases (by omega : k.toNat % 2 = 0 ∨ k.toNat % 2 = 1) with h | h
     ·exact h
     ·exact absurd (UInt64.toNat_inj.1 (by rw [hbit, h]; rfl)) hb
    simp only [dpos hk, dneg hb, cond_true, cond_false, ex, Option.bind_some]
    refine ⟨_, rfl, ⟨?_, h2, by simp only [hs]; omega⟩, by simpa only using hmeas⟩
    simp only
    rw [← h1, hs, Nat.mul_mod, hpow, ← Nat.mul_mod, show 2 * (k.toNat / 2) = k.toNat by omega]
  ·have hk' : k.toNat = 0 := by
    have : ¬ 0 < k.toNat := fun h => hk (by rw [UInt64.lt_iff_toNat_lt, z]; exact h)
    omega
   simp only [dneg hk, cond_false]
   refine ⟨_, rfl, _, rfl, r, rfl, ?_⟩
   rw [hk', Nat.pow_zero, Nat.mul_one, Nat.mod_eq_of_lt h2] at h1
   exact h1
theorem rpow_p (a e : UInt64) : zq79 N a e = some ((pw a e, ()), ()) := by
 obtain ⟨r, e', h⟩ := zwkj N hN a e
 rw [e', show r = pw a e from UInt64.toNat_inj.1 (by rw [h, pw_nat])]
def vsec (s : UInt64) : Bool := decide (1 ≤ s) && decide (s < 2305843009213688669)
omit hN in
theorem zwkk (s : UInt64) : zq75 N s = some ((vsec s, ()), ()) := by
 unfold zq75 vsec
 cases decide ((1 : UInt64) ≤ s) <;> rfl
omit hN in
theorem zwkl (s : UInt64) : zq57 N s = some ((vsec s, ()), ()) := by
 unfold zq57 vsec
 cases decide ((1 : UInt64) ≤ s) <;> rfl
def pub (s : UInt64) : UInt64 × Int := if vsec s = true then (pw 4 s, 0) else (0, 13)
omit hN in
theorem pub_t {s : UInt64} (h : vsec s = true) : pub s = (pw 4 s, 0) := if_pos h
omit hN in
theorem pub_f {s : UInt64} (h : vsec s = false) : pub s = (0, 13) := if_neg (by rw [h]; decide)
theorem zwkm (s : UInt64) : zq40 N s = some (((pub s).1, (pub s).2, ()), ()) := by
 unfold zq40
 rw [zwkk]
 simp only [Option.bind_some]
 cases hv : vsec s
 ·rw [pub_f hv]; simp only [Bool.not_false, cond_true]
 ·rw [pub_t hv]
  simp only [Bool.not_true, cond_false]
  rw [gpow_p N hN]
  generalize pw 4 s = w
  rfl
theorem zwkn (s : UInt64) : zq44 N s = some (((pub s).1, (pub s).2, ()), ()) := by
 unfold zq44
 rw [zwkl]
 simp only [Option.bind_some]
 cases hv : vsec s
 ·rw [pub_f hv]; simp only [Bool.not_false, cond_true]
 ·rw [pub_t hv]
  simp only [Bool.not_true, cond_false]
  rw [rpow_p N hN]
  generalize pw 4 s = w
  rfl
end
end Go.Proofs.YtajpblfinenmjaaGreatDoor.Pl

namespace Go.Proofs.YtajpblfinenmjaaGreatDoor.Pl
open Go
noncomputable def sec (t : Tree) : List UInt8 := sha (eb t)
theorem zw2p (t : Tree) : (sec t).length = 32 := zw24 _
def z0 : Tree := .mk 0 0 []
def vo : Tree → Int
 | .mk o v _ => if o = 2 then v else 0
noncomputable def pb (t : Tree) : UInt64 := (pub (exP t)).1
def lsb (B : List (List UInt8)) : List UInt8 := (B.map fun b => be (iu64 (b.length : Int)) 2 ++ b).flatten
theorem zwb7 (b : List UInt8) (B : List (List UInt8)) : lsb (b :: B) = be (iu64 (b.length : Int)) 2 ++ b ++ lsb B := by simp [lsb]
theorem zwb8 (b : List UInt8) (B : List (List UInt8)) : lsb (B ++ [b]) = lsb B ++ (be (iu64 (b.length : Int)) 2 ++ b) := by simp [lsb]
theorem zwb9 (B C : List (List UInt8)) : lsb (B ++ C) = lsb B ++ lsb C := by simp [lsb]
theorem zwba (B : List (List UInt8)) (k : Nat) : (lsb (B.take k)).length ≤ (lsb B).length := by
 have h := congrArg (fun x => (lsb x).length) (List.take_append_drop k B)
 simp only [zwb9, List.length_append] at h
 omega
theorem zw69 {B : List (List UInt8)} {b : List UInt8} (h : b ∈ B) : b.length ≤ (lsb B).length := by
 obtain ⟨l1, l2, rfl⟩ := List.append_of_mem h
 simp only [zwb9, zwb7, List.length_append]
 omega
theorem zw4i (B : List (List UInt8)) : (lsb B).length = (B.map fun b => b.length + 2).sum := by
 induction B with
 | nil => rfl
 | cons b B ih => rw [zwb7, List.length_append, List.length_append, be_len, ih]; simp; omega
noncomputable def onceB (k body : List UInt8) : List UInt8 := cut (hmac k body) 0 12
theorem zw6a (k body : List UInt8) : (onceB k body).length = 12 := by
 have := zw25 k body
 simp only [onceB, cut, List.drop_zero, List.length_take]; omega
noncomputable def sealB (k body : List UInt8) : List UInt8 := cx k 1 (onceB k body) body ++ atag k (onceB k body) [] (cx k 1 (onceB k body) body)
theorem zw4j (k body : List UInt8) : (sealB k body).length = body.length + 16 := by rw [sealB, List.length_append, cx_len, zw65]
noncomputable def titB (k : List UInt8) : List UInt8 := cut (hmac k [1]) 0 8
theorem zw6b (k : List UInt8) : (titB k).length = 8 := by
 have := zw25 k [1]
 simp only [titB, cut, List.drop_zero, List.length_take]; omega
noncomputable def wo (o v : Int) (l : List Tree) (B : List (List UInt8)) : List UInt8 :=
 if o = 1 ∨ o = 10 then be (iu64 v) 8 else if o = 2 then be (iu64 v) 8 ++ (sec (.mk o v l)).take 16 else if o = 3 then be (iu64 (l.length : Int)) 2 ++ lsb B else
 if o = 4 then be (iu64 (vo (l.getD 0 z0))) 8 ++ be (pb (l.getD 0 z0)) 8 else if o = 7 then titB (sec (l.getD 0 z0)) ++ (onceB (sec (l.getD 0 z0)) (B.getD 1 []) ++ sealB (sec (l.getD 0 z0)) (B.getD 1 [])) else
 if o = 8 then be (iu64 v) 8 ++ (be (iu64 ((B.getD 0 []).length : Int)) 2 ++ (B.getD 0 [] ++ hmac (sec (.mk 9 v [])) (B.getD 0 []))) else sec (.mk o v l)
mutual
noncomputable def wb : Tree → List UInt8
 | .mk o v l => [iu8 o] ++ wo o v l (wbL l)
noncomputable def wbL : List Tree → List (List UInt8)
 | [] => []
 | t :: l => wb t :: wbL l
end
theorem zwbb (l : List Tree) : wbL l = l.map wb := by
 induction l with
 | nil => rfl
 | cons t l ih => simp only [wbL, List.map_cons, ih]
theorem zwbc (l : List Tree) : (wbL l).length = l.length := by rw [zwbb, List.length_map]
theorem zw6c {l : List Tree} {i : Nat} {a : Tree} (h : l[i]? = some a) : (wbL l)[i]? = some (wb a) := by rw [zwbb, List.getElem?_map, h]; rfl
theorem zwbd (B : List (List UInt8)) (i : Nat) : (B.getD i []).length ≤ (B.map fun b => b.length + 2).sum := by
 by_cases h : i < B.length
 ·have e : B.getD i [] = B[i] := by simp [List.getD, h]
  rw [e, ← zw4i]
  exact zw69 (List.getElem_mem h)
 ·have e : B.getD i [] = [] := by simp [List.getD, h]
  rw [e]; exact Nat.zero_le _
mutual
theorem wb_cnt : ∀ t : Tree, (wb t).length + 2 ≤ 45 * cnt t
 | .mk o v l => by
  have ih := zw4k l
  have g0 := zwbd (wbL l) 0
  have g1 := zwbd (wbL l) 1
  have gl := zw4i (wbL l)
  show ([iu8 o] ++ wo o v l (wbL l)).length + 2 ≤ 45 * (1 + cntL l)
  have h : (wo o v l (wbL l)).length ≤ 42 + ((wbL l).map fun b => b.length + 2).sum := by
   have s1 := zw2p (.mk o v l)
   have s2 := zw25 (sec (.mk 9 v [])) ((wbL l).getD 0 [])
   have s3 := zw6b (sec (l.getD 0 z0))
   have s4 := zw6a (sec (l.getD 0 z0)) ((wbL l).getD 1 [])
   have s5 := zw4j (sec (l.getD 0 z0)) ((wbL l).getD 1 [])
   unfold wo
   repeat' split
   all_goals try simp only [List.length_append, be_len, List.length_take]
   all_goals omega
  rw [List.length_append]
  simp only [List.length_cons, List.length_nil]
  omega
theorem zw4k : ∀ l : List Tree, ((wbL l).map fun b => b.length + 2).sum ≤ 45 * cntL l
 | [] => Nat.zero_le _
 | t :: l => by
  have h1 := wb_cnt t
  have h2 := zw4k l
  show ((wb t :: wbL l).map fun b => b.length + 2).sum ≤ 45 * (cnt t + cntL l)
  simp only [List.map_cons, List.sum_cons]
  omega
end
def wU (o : Int) (i : Nat) : Prop := o = 3 ∨ (o = 7 ∧ i = 1) ∨ (o = 8 ∧ i = 0)
theorem zwko {α : Type} {l : List α} {i : Nat} {a : α} (h : l[i]? = some a) (z : α) : l.getD i z = a := by simp [List.getD, h]
theorem zw4l {o v : Int} {l : List Tree} {i : Nat} {a : Tree} (h : l[i]? = some a) (hu : wU o i) : (wb a).length ≤ (wb (.mk o v l)).length := by
 show _ ≤ ([iu8 o] ++ wo o v l (wbL l)).length
 have hg := zw6c h
 have hd := zwko hg []
 rcases hu with rfl | ⟨rfl, rfl⟩ | ⟨rfl, rfl⟩
 ·have hm := zw69 (List.mem_of_getElem? hg)
  have : wo 3 v l (wbL l) = be (iu64 (l.length : Int)) 2 ++ lsb (wbL l) := rfl
  rw [this, List.length_append, List.length_append]
  omega
 ·have : wo 7 v l (wbL l) = titB (sec (l.getD 0 z0)) ++ (onceB (sec (l.getD 0 z0)) ((wbL l).getD 1 []) ++ sealB (sec (l.getD 0 z0)) ((wbL l).getD 1 [])) := rfl
  rw [this, hd]
  simp only [List.length_append, zw4j]
  omega
 ·have : wo 8 v l (wbL l) = be (iu64 v) 8 ++ (be (iu64 (((wbL l).getD 0 []).length : Int)) 2 ++ ((wbL l).getD 0 [] ++ hmac (sec (.mk 9 v [])) ((wbL l).getD 0 []))) := rfl
  rw [this, hd]
  simp only [List.length_append]
  omega
def G (t : Tree) : Prop := Tk t ∧ valB t = true
theorem G.cnt {t : Tree} (h : G t) : cnt t ≤ 600 := zw4b h.2
theorem G.dep {t : Tree} (h : G t) : dep t ≤ 60 := by
 have h := h.2
 unfold valB at h
 simp only [Bool.and_eq_true, decide_eq_true_eq] at h
 exact h.2.1
theorem G.sdA {t : Tree} (h : G t) : sdA t = true := by
 have h := h.2
 unfold valB at h
 simp only [Bool.and_eq_true, decide_eq_true_eq] at h
 exact h.2.2
theorem G.sd {o v : Int} {l : List Tree} (h : G (.mk o v l)) : sdB (.mk o v l) = true := by
 have h : (sdAL l && sdB (.mk o v l)) = true := h.sdA
 simp only [Bool.and_eq_true] at h
 exact h.2
theorem G.child {o v : Int} {l : List Tree} (h : G (.mk o v l)) : ∀ a ∈ l, G a := fun a ha => by
 have h1 : 1 + cntL l ≤ 600 := h.cnt
 have h2 := dep_in (n := 59) h.dep a ha
 have h3 : (sdAL l && sdB (.mk o v l)) = true := h.sdA
 simp only [Bool.and_eq_true] at h3
 have h4 := zw3g.1 h3.1 a ha
 have h5 := cnt_in a ha
 refine ⟨tk_in h.1 a ha, ?_⟩
 unfold valB
 rw [h4, decide_eq_true (show Pl.cnt a ≤ 600 by omega), decide_eq_true (show Go.Proofs.YtajpblfinenmjaaGreatDoor.dep a ≤ 60 by omega)]
 rfl
theorem zwbe {o v : Int} {l : List Tree} (h : sdB (.mk o v l) = true) : (o = 1 ∧ l = []) ∨ (o = 2 ∧ l = [] ∧ 0 ≤ v) ∨ (o = 9 ∧ l = [] ∧ 0 ≤ v) ∨ (o = 10 ∧ l = [] ∧ 0 ≤ v) ∨ (o = 3 ∧ v = 0) ∨ o = 6 ∨ (o = 4 ∧ v = 0 ∧ ∃ a, l = [a]) ∨
  (o = 8 ∧ 0 ≤ v ∧ ∃ a, l = [a]) ∨ o = 5 ∨ (o = 7 ∧ v = 0 ∧ ∃ a b, l = [a, b]) := by
 have one : l.length = 1 → ∃ a, l = [a] := fun h => List.length_eq_one_iff.1 h
 have two : l.length = 2 → ∃ a b, l = [a, b] := fun h => by
  match l, h with
  | [a, b], _ => exact ⟨a, b, rfl⟩
 have zero : l.length = 0 → l = [] := fun h => List.eq_nil_of_length_eq_zero h
 simp only [sdB] at h
 repeat' split at h
 all_goals first | cases h; done | skip
 all_goals simp only [Bool.and_eq_true, decide_eq_true_eq] at h
 ·next e => exact .inl ⟨e, zero h⟩
 ·next e =>
  rcases e with e | e | e
  ·exact .inr (.inl ⟨e, zero h.1, h.2⟩)
  ·exact .inr (.inr (.inl ⟨e, zero h.1, h.2⟩))
  ·exact .inr (.inr (.inr (.inl ⟨e, zero h.1, h.2⟩)))
 ·next e => exact .inr (.inr (.inr (.inr (.inl ⟨e, h⟩))))
 ·next e => exact .inr (.inr (.inr (.inr (.inr (.inl e)))))
 ·next e => exact .inr (.inr (.inr (.inr (.inr (.inr (.inl ⟨e, h.2, one h.1⟩))))))
 ·next e => exact .inr (.inr (.inr (.inr (.inr (.inr (.inr (.inl ⟨e, h.2, one h.1⟩)))))))
 ·next e => exact .inr (.inr (.inr (.inr (.inr (.inr (.inr (.inr (.inl e))))))))
 ·next e => exact .inr (.inr (.inr (.inr (.inr (.inr (.inr (.inr (.inr ⟨e, h.2, two h.1⟩))))))))
theorem zwkp (u : UInt64) : iu64 (w64 (u.toNat : Int)) = u := by
 apply UInt64.toNat_inj.1
 show (BitVec.ofInt 64 (w64 (u.toNat : Int))).toNat = _
 rw [BitVec.toNat_ofInt]
 have h := u.toNat_lt
 by_cases hc : (u.toNat : Int) ≤ 9223372036854775807
 ·rw [w64_of (by omega) hc]; omega
 ·have hw : w64 (u.toNat : Int) = (u.toNat : Int) - 18446744073709551616 := by
   have h5 : (u.toNat : Int) < 18446744073709551616 := by omega
   generalize (u.toNat : Int) = x at *
   unfold w64 IntKind.wrap IntKind.bits IntKind.signed
   simp only [Bool.true_and]
   split <;> simp only [decide_eq_true_eq] at * <;> omega
  rw [hw]; omega
theorem G.nine {v : Int} (h0 : 0 ≤ v) (h1 : v ≤ 9223372036854775807) : G (.mk 9 v []) := by
 refine ⟨⟨⟨by decide, by decide⟩, ⟨by omega, h1⟩, Nat.zero_le _, trivial⟩, ?_⟩
 unfold valB
 have : sdB (.mk 9 v []) = true := by
  show (decide (0 = 0) && decide (0 ≤ v)) = true
  rw [decide_eq_true h0]; rfl
 have h2 : Pl.sdA (.mk 9 v []) = true := by
  show (sdAL [] && sdB (.mk 9 v [])) = true
  rw [this]; rfl
 rw [h2]; rfl
section
variable (N : Nat) (hN : 9223372036854775808 ≤ N)
include hN
theorem sec_ok {t : Tree} (g : G t) : zq17 N t.un = some ((0, ()), (sec t, ())) ∧ zq54 N t.un = some ((0, ()), (sec t, ())) := by
 have h := zw5w N hN (t := t) (by have := g.dep; omega) g.1
 unfold enE seB at h
 rw [g.2] at h
 exact h
theorem zwbf {t : Tree} (g : G t) : zq37 N t.un = some ((), (sec t, ())) := by
 unfold zq37
 rw [(sec_ok N hN g).1]
 rfl
theorem zw4m {t : Tree} (g : G t) : zq59 N t.un = some ((), (sec t, ())) := by
 unfold zq59
 rw [(sec_ok N hN g).2]
 rfl
theorem pb_ok {t : Tree} (g : G t) : zq27 N t.un = some ((pb t, ()), ()) := by
 unfold zq27
 rw [(zw5x N hN (t := t) (by have := g.dep; omega) g.1).1]
 simp only [Option.bind_some]
 rw [zwkm N (by omega)]
 rfl
theorem rpb_ok {t : Tree} (g : G t) : zq42 N t.un = some ((), (be (pb t) 8, ())) := by
 unfold zq42
 rw [(zw5x N hN (t := t) (by have := g.dep; omega) g.1).2]
 simp only [Option.bind_some]
 rw [zwkn N (by omega)]
 simp only [Option.bind_some]
 rw [zw1e N (by omega) (v := w64 ((pub (exP t)).1.toNat : Int)) (zw3p _).1 (zw3p _).2 (k := 8) (w := 8) (by omega) (by omega) rfl (by simp)]
 simp only [Option.bind_some, zwkp, List.nil_append]
 rfl
theorem zwkq (k : List UInt8) (h : k.length ≤ 100000) : zq31 N k = some ((titB k, ()), ()) := by
 unfold zq31
 have hl := zw25 k [1]
 rw [zw67 N (k := k) (b := [1]) (by omega) (by simp) (by omega)]
 have c2 : decide ((8 : Int) ≤ ((hmac k [1]).length : Int)) = true := decide_eq_true (by omega)
 simp only [Option.bind_some, c2]
 rfl
theorem zwkr {t : Tree} (g : G t) : zq60 N t.un = some ((titB (sec t), ()), ()) := by
 unfold zq60
 rw [zw4m N hN g]
 have hk := zw2p t
 have hl := zw25 (sec t) [1]
 simp only [Option.bind_some]
 rw [zw68 N (k := sec t) (b := [1]) (by omega) (by simp) (by omega)]
 have c2 : decide ((8 : Int) ≤ ((hmac (sec t) [1]).length : Int)) = true := decide_eq_true (by omega)
 simp only [Option.bind_some, c2]
 rfl
theorem zwbg {v : Int} (h0 : 0 ≤ v) (h1 : v ≤ 9223372036854775807) {b : List UInt8} (hb : b.length ≤ 100000) : zq15 N v b = some ((0, ()), (hmac (sec (.mk 9 v [])) b, ())) ∧ zq111 N v b = some ((), (hmac (sec (.mk 9 v [])) b, ())) := by
 have g := G.nine h0 h1
 have hk := zw2p (.mk 9 v [])
 have s1 : zq17 N ((9 : Int), v, ([] : List Tree), ()) = _ := (sec_ok N hN g).1
 have s2 : zq59 N ((9 : Int), v, ([] : List Tree), ()) = _ := zw4m N hN g
 unfold zq15 zq111
 rw [s1, s2]
 simp only [Option.bind_some, decide_true, Bool.not_true, cond_false]
 rw [zw67 N (by omega) (by omega) (by omega), zw68 N (by omega) (by omega) (by omega)]
 exact ⟨rfl, rfl⟩
theorem f1_b (x : TT.den) {b : List UInt8} (hb : b.length ≤ 100000) : zq8 N x b = some ((), (b ++ be (iu64 x.2.1) 8, ())) := by
 unfold zq8
 rw [zw1o N (by omega) (by omega) (by omega) (by omega)]
 rfl
omit hN in
theorem f2_b {x : TT.den} {k : List UInt8} (h1 : zq37 N x = some ((), (k, ()))) (h2 : k.length = 32) {b : List UInt8} (hb : b.length ≤ 100000) : zq7 N x b = some ((), (b ++ k, ())) := by
 unfold zq7
 have er : room (b.length + k.length) 1 = true := zw1 (by omega)
 simp only [h1, Option.bind_some, er, cond_true]
theorem zwks {x : TT.den} {k : List UInt8} (h1 : zq37 N x = some ((), (k, ()))) (h2 : k.length = 32) {b : List UInt8} (hb : b.length ≤ 10000) : nameW N x b = some ((), (b ++ be (iu64 x.2.1) 8 ++ k.take 16, ())) := by
 have hl : (b ++ be (iu64 x.2.1) 8).length ≤ 100000 := by rw [List.length_append, be_len]; omega
 unfold nameW
 simp only [h1, f1_b N hN x (b := b) (by omega), Option.bind_some, Nat.ble_eq_true_of_le (show 16 ≤ k.length by omega), Nat.ble_eq_true_of_le hl, cond_true]
theorem zwkt {a : Tree} (ga : G a) {b : List UInt8} (hb : b.length ≤ 10000) : zq6 N (4, 0, [a], ()) b = some ((), (b ++ (be (iu64 (vo a)) 8 ++ be (pb a) 8), ())) := by
 have w8 : (8 : Int).toNat = 8 := rfl
 have hx := pb_ok N hN ga
 have hp : ∀ v : Int, zq6_1 N v b ((4, 0, [a], ()) : TT.den) = some ((), (b ++ (be (iu64 v) 8 ++ be (pb a) 8), ())) := fun v => by
  have p1 := zw1o N (v := iu64 v) (w := 8) (b := b) (by omega) (by omega) (by omega) (by omega)
  have p2 := zw1o N (v := pb a) (w := 8) (b := b ++ be (iu64 v) 8) (by omega) (by omega) (by rw [List.length_append, be_len]; omega) (by omega)
  rw [w8] at p1 p2
  have e1 : (List.map Tree.un [a]) = [a.un] := rfl
  have e2 : inR (0 : Int) [a.un].length = true := rfl
  have e3 : ∀ z : TT.den, [a.un].getD 0 z = a.un := fun z => rfl
  unfold zq6_1
  simp only [e1, e2, e3, cond_true, p1, p2, hx, Option.bind_some, List.append_assoc]
 have e1 : (List.map Tree.un [a]) = [a.un] := rfl
 have e2 : inR (0 : Int) [a.un].length = true := rfl
 have e3 : ∀ z : TT.den, [a.un].getD 0 z = a.un := fun z => rfl
 unfold zq6
 simp only [e1, e2, e3, cond_true, hp]
 obtain ⟨o, v, l⟩ := a
 show (bif decide (o = (2 : Int)) then some ((), (b ++ (be (iu64 v) 8 ++ be (pb (.mk o v l)) 8), ())) else _) = some ((), (b ++ (be (iu64 (if o = 2 then v else 0)) 8 ++ be (pb (.mk o v l)) 8), ()))
 by_cases h : o = 2
 ·rw [decide_eq_true h, if_pos h]; rfl
 ·rw [decide_eq_false h, if_neg h]; rfl
theorem seal_b {a c : Tree} (ga : G a) {rc : TT.den → Option WrR} {body : List UInt8} (hrc : rc c.un = some ((), (body, ()))) (hbl : body.length ≤ 100000) {b : List UInt8} (hb : b.length ≤ 10000) :
  zq13 N rc (7, 0, [a, c], ()) b = some ((), (b ++ (titB (sec a) ++ (onceB (sec a) body ++ sealB (sec a) body)), ())) := by
 have h1 := zwbf N hN ga
 have h2 := zw2p a
 have h3 := zwkq N hN (sec a) (by omega)
 have h4 := zw6b (sec a)
 generalize hk : sec a = k at *
 have hh := zw67 N (k := k) (b := body) (by omega) (by omega) (by omega)
 have hhl := zw25 k body
 have hon := zw6a k body
 have hs := zwkb N (by omega) (k := k) (n := onceB k body) (d := []) (c := body) (by simp) (by omega) h2 hon
 have hsl := zw4j k body
 have hse : cx k 1 (onceB k body) body ++ atag k (onceB k body) [] (cx k 1 (onceB k body) body) = sealB k body := rfl
 rw [hse] at hs
 have hoe : cut (hmac k body) 0 12 = onceB k body := rfl
 have e1 : (List.map Tree.un [a, c]) = [a.un, c.un] := rfl
 have e2 : inR (0 : Int) [a.un, c.un].length = true := rfl
 have e2' : inR (1 : Int) [a.un, c.un].length = true := rfl
 have e3 : ∀ z : TT.den, [a.un, c.un].getD 0 z = a.un := fun z => rfl
 have e3' : ∀ z : TT.den, [a.un, c.un].getD 1 z = c.un := fun z => rfl
 have c0 : decide (0 ≤ (0 : Int)) = true := by decide
 have c1 : decide ((0 : Int) ≤ (12 : Int)) = true := by decide
 have c2 : decide ((12 : Int) ≤ ((hmac k body).length : Int)) = true := decide_eq_true (by omega)
 unfold zq13
 simp only [e1, e2, e2', e3, e3', cond_true, h1, Option.bind_some, hrc, hh, c0, c1, c2, Bool.and_self, hoe, hs, decide_true, Bool.not_true, cond_false]
 unfold zq13_1
 generalize onceB k body = once at *
 generalize sealB k body = sealed at *
 generalize titB k = ti at *
 have r1 : room (b.length + ti.length) 1 = true := zw1 (by omega)
 have r2 : room ((b ++ ti).length + once.length) 1 = true := zw1 (by rw [List.length_append]; omega)
 have r3 : room (((b ++ ti) ++ once).length + sealed.length) 1 = true := zw1 (by rw [List.length_append, List.length_append]; omega)
 simp only [h3, Option.bind_some, r1, r2, r3, cond_true]
 simp only [List.append_assoc]
theorem sign_b {v : Int} (h0 : 0 ≤ v) (h1 : v ≤ 9223372036854775807) {a : Tree} {rc : TT.den → Option WrR} {body : List UInt8} (hrc : rc a.un = some ((), (body, ()))) (hbl : body.length ≤ 100000) {b : List UInt8} (hb : b.length ≤ 10000) :
  zq11 N rc (8, v, [a], ()) b = some ((), (b ++ (be (iu64 v) 8 ++ (be (iu64 (body.length : Int)) 2 ++ (body ++ hmac (sec (.mk 9 v [])) body))), ())) := by
 have h3 := (zwbg N hN h0 h1 hbl).1
 have h4 := zw25 (sec (.mk 9 v [])) body
 generalize hmac (sec (.mk 9 v [])) body = k at *
 have w8 : (8 : Int).toNat = 8 := rfl
 have w2 : (2 : Int).toNat = 2 := rfl
 have p1 := zw1o N (v := iu64 v) (w := 8) (b := b) (by omega) (by omega) (by omega) (by omega)
 have p2 := zw1o N (v := iu64 (body.length : Int)) (w := 2) (b := b ++ be (iu64 v) (8 : Int).toNat) (by omega) (by omega) (by rw [List.length_append, be_len]; omega) (by omega)
 have l2 : (b ++ be (iu64 v) (8 : Int).toNat ++ be (iu64 (body.length : Int)) (2 : Int).toNat).length = b.length + 10 := by simp only [List.length_append, be_len]; omega
 rw [w8] at p1 p2 l2
 rw [w2] at p2 l2
 have er : b ++ (be (iu64 v) 8 ++ (be (iu64 (body.length : Int)) 2 ++ (body ++ k))) = b ++ be (iu64 v) 8 ++ be (iu64 (body.length : Int)) 2 ++ body ++ k := by simp only [List.append_assoc]
 rw [er]
 generalize b ++ be (iu64 v) 8 ++ be (iu64 (body.length : Int)) 2 = b2 at p2 l2 ⊢
 have r1 : room (b2.length + body.length) 1 = true := zw1 (by omega)
 have r2 : room ((b2 ++ body).length + k.length) 1 = true := zw1 (by rw [List.length_append]; omega)
 have e1 : (List.map Tree.un [a]) = [a.un] := rfl
 have e2 : inR (0 : Int) [a.un].length = true := rfl
 have e3 : ∀ z : TT.den, [a.un].getD 0 z = a.un := fun z => rfl
 unfold zq11
 simp only [e1, e2, e3, cond_true, hrc, Option.bind_some, h3, decide_true, Bool.not_true, cond_false]
 unfold zq11_1
 simp only [p1, p2, r1, r2, Option.bind_some, cond_true]
theorem list_b {l : List Tree} (h4 : l.length ≤ 600) (hls : (lsb (wbL l)).length ≤ 100000) {v : Int} {rc : TT.den → Option WrR} (hrc : ∀ (i : Nat) a, l[i]? = some a → rc a.un = some ((), (wb a, ()))) :
  zq12 N rc (3, v, l, ()) [(3 : UInt8)] = some ((), ([(3 : UInt8)] ++ (be (iu64 (l.length : Int)) 2 ++ lsb (wbL l)), ())) := by
 have w2 : (2 : Int).toNat = 2 := rfl
 have hlen : (List.map Tree.un l).length = l.length := List.length_map ..
 have p1 := zw1o N (v := iu64 ((List.map Tree.un l).length : Int)) (w := 2) (b := [(3 : UInt8)]) (by omega) (by omega) (by simp) (by omega)
 rw [w2, hlen] at p1
 have l1 : ([(3 : UInt8)] ++ be (iu64 (l.length : Int)) 2).length = 3 := by simp only [List.length_append, be_len, List.length_cons, List.length_nil]
 rw [← List.append_assoc]
 generalize [(3 : UInt8)] ++ be (iu64 (l.length : Int)) 2 = b0 at p1 l1 ⊢
 unfold zq12
 simp only [hlen, p1, Option.bind_some]
 unfold zq12_1
 have hll := zwj (N := N) (step := fun y => zq12_s2 N rc y.1.1 y.1.2.1 y.1.2.2.1 y.2.1) (J := fun (e : ((Unit) × ((List UInt8) × Unit))) => zq12_3 N rc e.2.1)
  (I := fun z => ∃ i : Nat, z = ((List.map Tree.un l, (l.length : Int), (i : Int), ()), (b0 ++ lsb ((wbL l).take i), ())) ∧ i ≤ l.length) (μ := fun y => ((l.length : Int) - y.1.2.2.1).toNat)
  (T := fun r => r = ((), (b0 ++ lsb (wbL l), ()))) ?_
  (x := ((List.map Tree.un l, (l.length : Int), (0 : Int), ()), (b0, ()))) ⟨0, by simp [lsb], by omega⟩ (by simp only; omega)
 ·obtain ⟨r, q1, rfl⟩ := hll
  exact q1
 ·rintro z ⟨i, rfl, hi⟩
  simp only [zq12_s2, hlen]
  by_cases hlt : i < l.length
  ·obtain ⟨a, x1, x2, x3⟩ := zw16 l hlt ((0 : Int), (0 : Int), ([] : List Tree), ())
   have e1 : decide ((i : Int) < (l.length : Int)) = true := dpos (by omega)
   have e2 : inR (i : Int) l.length = true := inR_of (by omega) (by omega)
   have e4 : w64 ((i : Int) + 1) = (i : Int) + 1 := w64_of (by omega) (by omega)
   have r1 := hrc i a x2
   have hg := zw6c x2
   have hm := zw69 (List.mem_of_getElem? hg)
   have hs : (wbL l).take (i + 1) = (wbL l).take i ++ [wb a] := by rw [List.take_add_one, hg]; rfl
   have ht := zwba (wbL l) i
   have p2 := zw1o N (v := iu64 ((wb a).length : Int)) (w := 2) (b := b0 ++ lsb ((wbL l).take i)) (by omega) (by omega) (by rw [List.length_append]; omega) (by omega)
   rw [w2] at p2
   have er : room ((b0 ++ lsb ((wbL l).take i) ++ be (iu64 ((wb a).length : Int)) 2).length + (wb a).length) 1 = true := zw1 (by simp only [List.length_append, be_len]; omega)
   simp only [e1, e2, toN, x3, r1, cond_true, Option.bind_some, p2, er, e4]
   refine ⟨_, rfl, ⟨i + 1, ?_, by omega⟩, by simp only; omega⟩
   rw [hs, zwb8]
   simp only [List.append_assoc]
   rfl
  ·have e1 : decide ((i : Int) < (l.length : Int)) = false := dneg (by omega)
   rw [e1]
   refine ⟨_, rfl, _, rfl, ?_⟩
   have : i = (wbL l).length := by rw [zwbc]; omega
   subst this
   rw [List.take_length]
theorem op_ok {o v : Int} {l : List Tree} (g : G (.mk o v l)) {rc : TT.den → Option WrR} (hrc : ∀ (i : Nat) a, l[i]? = some a → wU o i → rc a.un = some ((), (wb a, ()))) : zw1k N rc (Tree.mk o v l).un = some ((), (wb (.mk o v l), ())) := by
 have hc := g.cnt
 have hc' : 1 + cntL l ≤ 600 := hc
 have hwl := zw4k l
 have hl := zw49 l
 have hv := g.1.2.1
 have hch := g.child
 have hm := zwbf N hN g
 have hk := zw2p (.mk o v l)
 show zw1k N rc (o, v, l, ()) = some ((), ([iu8 o] ++ wo o v l (wbL l), ()))
 have hm' : zq37 N (o, v, l, ()) = some ((), (sec (.mk o v l), ())) := hm
 rcases zwbe g.sd with ⟨rfl, rfl⟩ | ⟨rfl, rfl, h0⟩ | ⟨rfl, rfl, h0⟩ | ⟨rfl, rfl, h0⟩ | ⟨rfl, rfl⟩ | rfl | ⟨rfl, rfl, a, rfl⟩ | ⟨rfl, h0, a, rfl⟩ | rfl | ⟨rfl, rfl, a, c, rfl⟩
 ·exact f1_b N hN _ (by decide)
 ·show nameW N (2, v, [], ()) [(2 : UInt8)] = _
  rw [zwks N hN hm' hk (by decide), List.append_assoc]
  rfl
 ·exact f2_b N hm' hk (by decide)
 ·exact f1_b N hN _ (by decide)
 ·exact list_b N hN (by omega) (by rw [zw4i]; omega) fun i a h => hrc i a h (.inl rfl)
 ·exact f2_b N hm' hk (by decide)
 ·exact zwkt N hN (hch a (by simp)) (by decide)
 ·have h1 := wb_cnt a
  have h2 := cnt_in (l := [a]) a (by simp)
  exact sign_b N hN h0 hv.2 (hrc 0 a rfl (.inr (.inr ⟨rfl, rfl⟩))) (by omega) (by decide)
 ·exact f2_b N hm' hk (by decide)
 ·have h1 := wb_cnt c
  have h2 := cnt_in (l := [a, c]) c (by simp)
  exact seal_b N hN (hch a (by simp)) (hrc 1 c rfl (.inr (.inl ⟨rfl, rfl⟩))) (by omega) (by decide)
theorem zw6d : ∀ (n : Nat) (t : Tree), Go.Proofs.YtajpblfinenmjaaGreatDoor.dep t ≤ n → G t → zw2w N n t.un = some ((), (wb t, ()))
 | 0, .mk o v l, h, _ => by
  have : 1 + depL l ≤ 0 := h
  omega
 | n + 1, .mk o v l, h, g => op_ok N hN g fun i a hi _ => zw6d n a (dep_in h a (List.mem_of_getElem? hi)) (g.child a (List.mem_of_getElem? hi))
theorem zw2n : ∀ (n : Nat) (t : Tree), Go.Proofs.YtajpblfinenmjaaGreatDoor.dep t ≤ n → G t → (wb t).length ≤ 8192 → zw2m N n t.un = some ((), (wb t, ()))
 | 0, .mk o v l, h, _, _ => by
  have : 1 + depL l ≤ 0 := h
  omega
 | n + 1, .mk o v l, h, g, hb => by
  show (Option.bind (zw1k N (zw2m N n) (Tree.mk o v l).un) fun y => bif Nat.ble y.2.1.length 8192 then some y else none) = _
  rw [op_ok N hN g fun i a hi hu => zw2n n a (dep_in h a (List.mem_of_getElem? hi)) (g.child a (List.mem_of_getElem? hi)) (Nat.le_trans (zw4l (v := v) hi hu) hb)]
  simp only [Option.bind_some, Nat.ble_eq_true_of_le hb, cond_true]
end
end Go.Proofs.YtajpblfinenmjaaGreatDoor.Pl

namespace Go.Proofs.YtajpblfinenmjaaGreatDoor.Pl
open Go
theorem seq_ok (N : Nat) (hN : 4611686018427387904 ≤ N) {a b : List UInt8} (ha : a.length ≤ 1000000) : zq0 N a b = some ((decide (a = b), ()), ()) := by
 unfold zq0
 by_cases hab : a.length = b.length
 ·have e0 : (!(decide ((a.length : Int) = (b.length : Int)))) = false := by simp [hab]
  rw [e0, cond_false]
  unfold zq0_1
  have hl := zwj (N := N) (step := fun y => zq0_s2 N y.1.1 y.1.2.1 y.1.2.2.1 y.1.2.2.2.1) (J := fun (e : ((Unit) × (Unit))) => zq0_3 N)
   (I := fun y => y.1.1 = a ∧ y.1.2.1 = b ∧ y.1.2.2.1 = (a.length : Int) ∧ 0 ≤ y.1.2.2.2.1 ∧ y.1.2.2.2.1 ≤ (a.length : Int) ∧ a.take y.1.2.2.2.1.toNat = b.take y.1.2.2.2.1.toNat) (μ := fun y => ((a.length : Int) - y.1.2.2.2.1).toNat) (T := fun r => r = ((decide (a = b), ()), ())) ?_
   (x := ((a, b, (a.length : Int), 0, ()), ())) ⟨rfl, rfl, rfl, Int.le_refl _, by simp, by simp⟩ (by simp only; omega)
  ·obtain ⟨r, h1, h2⟩ := hl
   rw [h1, h2]
  ·rintro ⟨⟨a', b', m, i, ⟨⟩⟩, ⟨⟩⟩ ⟨h1, h2, h2', h3, h4, h5⟩
   simp only at h1 h2 h2' h3 h4 h5
   subst h1
   subst h2
   subst h2'
   simp only [zq0_s2]
   by_cases hlt : i < (a'.length : Int)
   ·have e1 : decide (i < (a'.length : Int)) = true := decide_eq_true hlt
    have e2 : inR i a'.length = true := inR_of h3 hlt
    have e3 : inR i b'.length = true := inR_of h3 (by omega)
    rw [e1, e2, e3]
    simp only [cond_true]
    by_cases hg : a'.getD i.toNat 0 = b'.getD i.toNat 0
    ·have e4 : w64 (i + 1) = i + 1 := w64_of (by omega) (by omega)
     rw [hg, decide_eq_true rfl, e4]
     refine ⟨_, rfl, ⟨rfl, rfl, rfl, by simp only; omega, by simp only; omega, ?_⟩, by simp only; omega⟩
     have e5 : (i + 1).toNat = i.toNat + 1 := by omega
     simp only [e5]
     rw [zw10 a' 0 (by omega), zw10 b' 0 (by omega), h5, hg]
    ·have e4 : decide (a'.getD i.toNat 0 = b'.getD i.toNat 0) = false := decide_eq_false hg
     rw [e4]
     refine ⟨_, rfl, ?_⟩
     have : a' ≠ b' := fun e => hg (by rw [e])
     simp [this]
   ·have e1 : decide (i < (a'.length : Int)) = false := decide_eq_false hlt
    rw [e1]
    refine ⟨_, rfl, _, rfl, ?_⟩
    have h6 : i.toNat = a'.length := by omega
    rw [h6, List.take_length, hab, List.take_length] at h5
    simp [h5]
 ·have e0 : (!(decide ((a.length : Int) = (b.length : Int)))) = true := by simp; omega
  rw [e0, cond_true]
  have : a ≠ b := fun e => hab (by rw [e])
  simp [this]
theorem zwku (N : Nat) (hN : 4611686018427387904 ≤ N) {a b : List UInt8} (ha : a.length ≤ 1000000) (hab : a.length = b.length) : zq24 N a b = some ((decide (a = b), ()), ()) := by
 unfold zq24 zq24_1
 have e0 : (!(decide ((a.length : Int) = (b.length : Int)))) = false := by simp [hab]
 rw [e0, cond_false]
 have hl := zwj (N := N) (step := fun y => zq24_s2 N y.1.1 y.1.2.1 y.1.2.2.1) (J := fun (e : ((Unit) × (Unit))) => zq24_3 N)
  (I := fun y => y.1.1 = a ∧ y.1.2.1 = b ∧ 0 ≤ y.1.2.2.1 ∧ y.1.2.2.1 ≤ (a.length : Int) ∧ a.take y.1.2.2.1.toNat = b.take y.1.2.2.1.toNat) (μ := fun y => ((a.length : Int) - y.1.2.2.1).toNat) (T := fun r => r = ((decide (a = b), ()), ())) ?_
  (x := ((a, b, 0, ()), ())) ⟨rfl, rfl, Int.le_refl _, by simp, by simp⟩ (by simp only; omega)
 ·obtain ⟨r, h1, h2⟩ := hl
  rw [h1, h2]
 ·rintro ⟨⟨a', b', i, ⟨⟩⟩, ⟨⟩⟩ ⟨h1, h2, h3, h4, h5⟩
  simp only at h1 h2 h3 h4 h5
  subst h1
  subst h2
  simp only [zq24_s2]
  by_cases hlt : i < (a'.length : Int)
  ·have e1 : decide (i < (a'.length : Int)) = true := decide_eq_true hlt
   have e2 : inR i a'.length = true := inR_of h3 hlt
   have e3 : inR i b'.length = true := inR_of h3 (by omega)
   rw [e1, e2, e3]
   simp only [cond_true]
   by_cases hg : a'.getD i.toNat 0 = b'.getD i.toNat 0
   ·have e4 : w64 (i + 1) = i + 1 := w64_of (by omega) (by omega)
    rw [hg, decide_eq_true rfl, e4]
    refine ⟨_, rfl, ⟨rfl, rfl, by simp only; omega, by simp only; omega, ?_⟩, by simp only; omega⟩
    have e5 : (i + 1).toNat = i.toNat + 1 := by omega
    simp only [e5]
    rw [zw10 a' 0 (by omega), zw10 b' 0 (by omega), h5, hg]
   ·have e4 : decide (a'.getD i.toNat 0 = b'.getD i.toNat 0) = false := decide_eq_false hg
    rw [e4]
    refine ⟨_, rfl, ?_⟩
    have : a' ≠ b' := fun e => hg (by rw [e])
    simp [this]
  ·have e1 : decide (i < (a'.length : Int)) = false := decide_eq_false hlt
   rw [e1]
   refine ⟨_, rfl, _, rfl, ?_⟩
   have h6 : i.toNat = a'.length := by omega
   rw [h6, List.take_length, hab, List.take_length] at h5
   simp [h5]

theorem zw4n (N : Nat) (hN : 4611686018427387904 ≤ N) {a b : List UInt8} (ha : a.length ≤ 1000000) : zq0 N a b = some ((decide (a = b), ()), ()) ∧ zq24 N a b = some ((decide (a = b), ()), ()) := by
 refine ⟨seq_ok N hN ha, ?_⟩
 by_cases h : a.length = b.length
 ·exact zwku N hN ha h
 ·unfold zq24
  have e0 : decide ((a.length : Int) = (b.length : Int)) = false := decide_eq_false (by omega)
  have e1 : decide (a = b) = false := decide_eq_false fun e => h (by rw [e])
  rw [e0, e1]
  rfl
def RW (r : Option zq72_R) (b : List UInt8) : Prop := ∃ b', r = some ((decide (b.length ≤ 8192), ()), (b', ())) ∧ (b.length ≤ 8192 → b' = b)
theorem rw7 (N : Nat) (rc : D24 → Option zq72_R) (b : List UInt8) : RW (zq72_7 N rc b) b := by
 refine ⟨b, ?_, fun _ => rfl⟩
 unfold zq72_7
 rw [show decide ((b.length : Int) ≤ 8192) = decide (b.length ≤ 8192) from decide_eq_decide.2 (by omega)]
theorem rw_no {b : List UInt8} (h : ¬ b.length ≤ 8192) : RW (some ((false, ()), (([] : List UInt8), ()))) b := ⟨[], by rw [decide_eq_false h], fun h' => absurd h' h⟩
section
variable (N : Nat) (hN : 9223372036854775808 ≤ N)
include hN
theorem zwkv {l : List Tree} {v : Int} (h4 : l.length ≤ 600) (hls : (lsb (wbL l)).length ≤ 100000) {rc : D24 → Option zq72_R} (hrc : ∀ (i : Nat) a, l[i]? = some a → RW (rc a.un) (wb a)) : RW (zq72_15 N rc (3, v, l, ()) [iu8 3]) (wb (.mk 3 v l)) := by
 have hlen : (List.map Tree.un l).length = l.length := List.length_map ..
 have hwb : wb (.mk 3 v l) = [iu8 3] ++ be (iu64 (l.length : Int)) 2 ++ lsb (wbL l) := by rw [List.append_assoc]; rfl
 have hcl : ∀ {i : Nat} {a : Tree}, l[i]? = some a → (wb a).length ≤ (wb (.mk 3 v l)).length := fun h => zw4l h (.inl rfl)
 unfold zq72_15
 simp only [hlen]
 rw [zw1e N (by omega) (v := (l.length : Int)) (by omega) (by omega) (k := 2) (w := 2) (b := [iu8 3]) (by omega) (by omega) rfl (by simp)]
 simp only [Option.bind_some]
 obtain ⟨b0, hb0⟩ : ∃ b0, b0 = [iu8 3] ++ be (iu64 (l.length : Int)) 2 := ⟨_, rfl⟩
 have l0 : b0.length = 3 := by rw [hb0]; simp only [List.length_append, be_len, List.length_cons, List.length_nil]
 rw [← hb0] at hwb ⊢
 unfold zq72_16
 have hll := zwj (N := N) (step := fun y => zq72_s17 N rc y.1.1 y.2.1 y.2.2.1) (J := fun (e : ((Unit) × ((List UInt8) × Unit))) => zq72_7 N rc e.2.1)
  (I := fun z => ∃ i : Nat, z = (((i : Int), ()), (((3 : Int), v, l, ()), b0 ++ lsb ((wbL l).take i), ())) ∧ i ≤ l.length) (μ := fun z => ((l.length : Int) - z.1.1).toNat) (T := fun r => RW (some r) (wb (.mk 3 v l))) ?_
  (x := (((0 : Int), ()), (((3 : Int), v, l, ()), b0, ()))) ⟨0, by simp [lsb], by omega⟩ (by simp only; omega)
 ·obtain ⟨r, q1, q2⟩ := hll
  rw [q1]
  exact q2
 ·rintro z ⟨i, rfl, hi⟩
  simp only [zq72_s17, hlen]
  by_cases hlt : i < l.length
  ·obtain ⟨a, x1, x2, x3⟩ := zw16 l hlt ((0 : Int), (0 : Int), ([] : List Tree), ())
   have e1 : decide ((i : Int) < (l.length : Int)) = true := dpos (by omega)
   have e2 : inR (i : Int) l.length = true := inR_of (by omega) (by omega)
   have e4 : w64 ((i : Int) + 1) = (i : Int) + 1 := w64_of (by omega) (by omega)
   obtain ⟨b', r1, r2⟩ := hrc i a x2
   by_cases hok : (wb a).length ≤ 8192
   ·obtain rfl := r2 hok
    rw [decide_eq_true hok] at r1
    have hg := zw6c x2
    have hs : (wbL l).take (i + 1) = (wbL l).take i ++ [wb a] := by rw [List.take_add_one, hg]; rfl
    have ht := zwba (wbL l) i
    have p2 := zw1e N (by omega) (v := ((wb a).length : Int)) (by omega) (by omega) (k := 2) (w := 2) (b := b0 ++ lsb ((wbL l).take i)) (by omega) (by omega) rfl (by rw [List.length_append]; omega)
    have er : room ((b0 ++ lsb ((wbL l).take i) ++ be (iu64 ((wb a).length : Int)) 2).length + (wb a).length) 1 = true := zw1 (by simp only [List.length_append, be_len]; omega)
    simp only [e1, e2, toN, x3, r1, cond_true, Option.bind_some, Bool.not_true, cond_false, p2, er, e4]
    refine ⟨_, rfl, ⟨i + 1, ?_, by omega⟩, by simp only; omega⟩
    rw [hs, zwb8]
    simp only [List.append_assoc]
    rfl
   ·rw [decide_eq_false hok] at r1
    simp only [e1, e2, toN, x3, r1, cond_true, Option.bind_some, Bool.not_false]
    have := hcl x2
    exact ⟨_, rfl, rw_no (by omega)⟩
  ·have e1 : decide ((i : Int) < (l.length : Int)) = false := dneg (by omega)
   rw [e1]
   have : i = (wbL l).length := by rw [zwbc]; omega
   subst this
   rw [List.take_length, ← hwb]
   obtain ⟨b', q1, q2⟩ := rw7 N rc (wb (.mk 3 v l))
   exact ⟨_, rfl, _, q1, b', rfl, q2⟩
theorem rop_ok {o v : Int} {l : List Tree} (g : G (.mk o v l)) {rc : D24 → Option zq72_R} (hrc : ∀ (i : Nat) a, l[i]? = some a → wU o i → RW (rc a.un) (wb a)) : RW (zq72 N rc (Tree.mk o v l).un) (wb (.mk o v l)) := by
 have hc := g.cnt
 have hc' : 1 + cntL l ≤ 600 := hc
 have hwl := zw4k l
 have hl := zw49 l
 have hv := g.1.2.1
 have hch := g.child
 have hm : zq59 N (o, v, l, ()) = some ((), (sec (.mk o v l), ())) := zw4m N hN g
 have hk := zw2p (.mk o v l)
 have hone : ∀ x : UInt8, ([x] : List UInt8).length ≤ 1000000000 := fun x => by simp
 rcases zwbe g.sd with ⟨rfl, rfl⟩ | ⟨rfl, rfl, h0⟩ | ⟨rfl, rfl, h0⟩ | ⟨rfl, rfl, h0⟩ | ⟨rfl, rfl⟩ | rfl | ⟨rfl, rfl, a, rfl⟩ | ⟨rfl, h0, a, rfl⟩ | rfl | ⟨rfl, rfl, a, c, rfl⟩
 ·show RW (Option.bind (zq51 N v 8 [iu8 1]) fun y3 => zq72_7 N rc y3.2.1) ([iu8 1] ++ be (iu64 v) 8)
  rw [zw1e N (by omega) hv.1 hv.2 (k := 8) (w := 8) (by omega) (by omega) rfl (hone _), Option.bind_some]
  exact rw7 N rc _
 ·show RW (zq72_11 N rc (2, v, [], ()) [iu8 2]) ([iu8 2] ++ (be (iu64 v) 8 ++ (sec (.mk 2 v [])).take 16))
  unfold zq72_11
  simp only [hm]
  rw [zw1e N (by omega) hv.1 hv.2 (k := 8) (w := 8) (by omega) (by omega) rfl (hone _)]
  simp only [Option.bind_some]
  have c0 : decide (0 ≤ (0 : Int)) = true := by decide
  have c1 : decide ((0 : Int) ≤ (16 : Int)) = true := by decide
  have c2 : decide ((16 : Int) ≤ ((sec (.mk 2 v [])).length : Int)) = true := decide_eq_true (by omega)
  have hcut : cut (sec (.mk 2 v [])) 0 16 = (sec (.mk 2 v [])).take 16 := by simp [cut]
  have r1 : room (([iu8 2] ++ be (iu64 v) 8).length + ((sec (.mk 2 v [])).take 16).length) 1 = true := zw1 (by simp only [List.length_append, be_len, List.length_take, List.length_cons, List.length_nil]; omega)
  simp only [c0, c1, c2, Bool.and_self, cond_true, hcut, r1]
  rw [← List.append_assoc]
  exact rw7 N rc _
 ·show RW (Option.bind (zq59 N (9, v, [], ())) fun y63 => bif room ([iu8 9].length + y63.2.1.length) 1 then zq72_7 N rc ([iu8 9] ++ y63.2.1) else none) ([iu8 9] ++ sec (.mk 9 v []))
  have r1 : room (([iu8 9] : List UInt8).length + (sec (.mk 9 v [])).length) 1 = true := zw1 (by simp only [List.length_cons, List.length_nil]; omega)
  simp only [hm, Option.bind_some, r1, cond_true]
  exact rw7 N rc _
 ·show RW (Option.bind (zq51 N v 8 [iu8 10]) fun y3 => zq72_7 N rc y3.2.1) ([iu8 10] ++ be (iu64 v) 8)
  rw [zw1e N (by omega) hv.1 hv.2 (k := 8) (w := 8) (by omega) (by omega) rfl (hone _), Option.bind_some]
  exact rw7 N rc _
 ·exact zwkv N hN (by omega) (by rw [zw4i]; omega) fun i a h => hrc i a h (.inl rfl)
 ·show RW (Option.bind (zq59 N (6, v, l, ())) fun y63 => bif room ([iu8 6].length + y63.2.1.length) 1 then zq72_7 N rc ([iu8 6] ++ y63.2.1) else none) ([iu8 6] ++ sec (.mk 6 v l))
  have r1 : room (([iu8 6] : List UInt8).length + (sec (.mk 6 v l)).length) 1 = true := zw1 (by simp only [List.length_cons, List.length_nil]; omega)
  simp only [hm, Option.bind_some, r1, cond_true]
  exact rw7 N rc _
 ·have ga := hch a (by simp)
  have hp := rpb_ok N hN ga
  have hva : zq71 N a.un = some ((vo a, ()), ()) := by
   obtain ⟨o, v, l⟩ := a
   show (bif !decide (o = 2) then _ else some ((v, ()), ())) = some ((if o = 2 then v else 0, ()), ())
   by_cases h : o = 2
   ·rw [decide_eq_true h, if_pos h]; rfl
   ·rw [decide_eq_false h, if_neg h]; rfl
  have hvr : -9223372036854775808 ≤ vo a ∧ vo a ≤ 9223372036854775807 := by
   obtain ⟨o, v, l⟩ := a
   have h : -9223372036854775808 ≤ v ∧ v ≤ 9223372036854775807 := ga.1.2.1
   show -9223372036854775808 ≤ (if o = 2 then v else 0) ∧ (if o = 2 then v else 0) ≤ 9223372036854775807
   split
   ·exact h
   ·omega
  show RW (Option.bind (zq71 N a.un) fun y29 => Option.bind (zq51 N y29.1.1 8 [iu8 4]) fun y30 => Option.bind (zq42 N a.un) fun y33 => bif room (y30.2.1.length + y33.2.1.length) 1 then zq72_7 N rc (y30.2.1 ++ y33.2.1) else none) ([iu8 4] ++ (be (iu64 (vo a)) 8 ++ be (pb a) 8))
  rw [hva, hp]
  simp only [Option.bind_some]
  rw [zw1e N (by omega) hvr.1 hvr.2 (k := 8) (w := 8) (by omega) (by omega) rfl (hone _)]
  have r1 : room (([iu8 4] ++ be (iu64 (vo a)) 8).length + (be (pb a) 8).length) 1 = true := zw1 (by simp only [List.length_append, be_len, List.length_cons, List.length_nil]; omega)
  simp only [Option.bind_some, r1, cond_true]
  rw [← List.append_assoc]
  exact rw7 N rc _
 ·obtain ⟨b', q1, q2⟩ := hrc 0 a rfl (.inr (.inr ⟨rfl, rfl⟩))
  have hle : (wb a).length ≤ (wb (.mk 8 v [a])).length := zw4l (i := 0) rfl (.inr (.inr ⟨rfl, rfl⟩))
  show RW (Option.bind (rc a.un) fun y38 => bif (!y38.1.1) then some ((false, ()), (([] : List UInt8), ())) else
   Option.bind (zq51 N v 8 [iu8 8]) fun y40 => Option.bind (zq51 N (y38.2.1.length : Int) 2 y40.2.1) fun y42 =>
    bif room (y42.2.1.length + y38.2.1.length) 1 then Option.bind (zq111 N v y38.2.1) fun y44 => bif room ((y42.2.1 ++ y38.2.1).length + y44.2.1.length) 1 then zq72_7 N rc ((y42.2.1 ++ y38.2.1) ++ y44.2.1) else none else none) (wb (.mk 8 v [a]))
  rw [q1]
  simp only [Option.bind_some]
  by_cases hok : (wb a).length ≤ 8192
  ·obtain rfl := q2 hok
   have hs := (zwbg N hN h0 hv.2 (b := wb a) (by omega)).2
   have hsl := zw25 (sec (.mk 9 v [])) (wb a)
   have hw : wb (.mk 8 v [a]) = ([iu8 8] ++ be (iu64 v) 8 ++ be (iu64 ((wb a).length : Int)) 2 ++ wb a) ++ hmac (sec (.mk 9 v [])) (wb a) := by simp only [List.append_assoc]; rfl
   rw [hw, decide_eq_true hok]
   simp only [Bool.not_true, cond_false, hs, Option.bind_some]
   rw [zw1e N (by omega) hv.1 hv.2 (k := 8) (w := 8) (by omega) (by omega) rfl (hone _)]
   simp only [Option.bind_some]
   rw [zw1e N (by omega) (v := ((wb a).length : Int)) (by omega) (by omega) (k := 2) (w := 2) (by omega) (by omega) rfl (by simp only [List.length_append, be_len, List.length_cons, List.length_nil]; omega)]
   simp only [Option.bind_some]
   have l2 : ([iu8 8] ++ be (iu64 v) 8 ++ be (iu64 ((wb a).length : Int)) 2).length = 11 := by simp only [List.length_append, be_len, List.length_cons, List.length_nil]
   generalize [iu8 8] ++ be (iu64 v) 8 ++ be (iu64 ((wb a).length : Int)) 2 = b2 at *
   have r1 : room (b2.length + (wb a).length) 1 = true := zw1 (by omega)
   have r2 : room ((b2 ++ wb a).length + (hmac (sec (.mk 9 v [])) (wb a)).length) 1 = true := zw1 (by rw [List.length_append]; omega)
   simp only [r1, r2, cond_true]
   exact rw7 N rc _
  ·rw [decide_eq_false hok]
   exact rw_no (by omega)
 ·show RW (Option.bind (zq59 N (5, v, l, ())) fun y63 => bif room ([iu8 5].length + y63.2.1.length) 1 then zq72_7 N rc ([iu8 5] ++ y63.2.1) else none) ([iu8 5] ++ sec (.mk 5 v l))
  have r1 : room (([iu8 5] : List UInt8).length + (sec (.mk 5 v l)).length) 1 = true := zw1 (by simp only [List.length_cons, List.length_nil]; omega)
  simp only [hm, Option.bind_some, r1, cond_true]
  exact rw7 N rc _
 ·obtain ⟨b', q1, q2⟩ := hrc 1 c rfl (.inr (.inl ⟨rfl, rfl⟩))
  have hle : (wb c).length ≤ (wb (.mk 7 0 [a, c])).length := zw4l (i := 1) rfl (.inr (.inl ⟨rfl, rfl⟩))
  have ga := hch a (by simp)
  show RW (Option.bind (rc c.un) fun y49 => bif (!y49.1.1) then some ((false, ()), (([] : List UInt8), ())) else
   Option.bind (zq59 N a.un) fun y53 => Option.bind (zq100 N y53.2.1 y49.2.1) fun y54 =>
    bif decide (0 ≤ (0 : Int)) && decide ((0 : Int) ≤ (12 : Int)) && decide ((12 : Int) ≤ (y54.2.1.length : Int)) && true then
    Option.bind (zq84 N y53.2.1 (cut y54.2.1 0 12) ([] : List UInt8) y49.2.1) fun y56 => Option.bind (zq60 N a.un) fun y59 =>
     bif room ([iu8 7].length + y59.1.1.length) 1 then
     bif room (([iu8 7] ++ y59.1.1).length + (cut y54.2.1 0 12).length) 1 then
     bif room ((([iu8 7] ++ y59.1.1) ++ cut y54.2.1 0 12).length + y56.2.1.length) 1 then
     zq72_7 N rc ((([iu8 7] ++ y59.1.1) ++ cut y54.2.1 0 12) ++ y56.2.1)
     else none
     else none
     else none
    else none) (wb (.mk 7 0 [a, c]))
  rw [q1]
  simp only [Option.bind_some]
  by_cases hok : (wb c).length ≤ 8192
  ·obtain rfl := q2 hok
   have h1 := zw4m N hN ga
   have h2 := zw2p a
   have h3 := zwkr N hN ga
   have hw : wb (.mk 7 0 [a, c]) = (([iu8 7] ++ titB (sec a)) ++ onceB (sec a) (wb c)) ++ sealB (sec a) (wb c) := by simp only [List.append_assoc]; rfl
   rw [hw, decide_eq_true hok]
   have hh := zw68 N (k := sec a) (b := wb c) (by omega) (by omega) (by omega)
   have hhl := zw25 (sec a) (wb c)
   have hon := zw6a (sec a) (wb c)
   have hs := zwkc N (by omega) (k := sec a) (n := onceB (sec a) (wb c)) (d := []) (c := wb c) (by simp) (by omega) h2 hon
   have hsl := zw4j (sec a) (wb c)
   have htl := zw6b (sec a)
   have hse : cx (sec a) 1 (onceB (sec a) (wb c)) (wb c) ++ atag (sec a) (onceB (sec a) (wb c)) [] (cx (sec a) 1 (onceB (sec a) (wb c)) (wb c)) = sealB (sec a) (wb c) := rfl
   rw [hse] at hs
   have hoe : cut (hmac (sec a) (wb c)) 0 12 = onceB (sec a) (wb c) := rfl
   have c0 : decide (0 ≤ (0 : Int)) = true := by decide
   have c1 : decide ((0 : Int) ≤ (12 : Int)) = true := by decide
   have c2 : decide ((12 : Int) ≤ ((hmac (sec a) (wb c)).length : Int)) = true := decide_eq_true (by omega)
   simp only [Bool.not_true, cond_false, h1, h3, Option.bind_some, hh, c0, c1, c2, Bool.and_self, cond_true, hoe, hs]
   generalize onceB (sec a) (wb c) = once at *
   generalize sealB (sec a) (wb c) = sealed at *
   generalize titB (sec a) = ti at *
   have r1 : room (([iu8 7] : List UInt8).length + ti.length) 1 = true := zw1 (by simp only [List.length_cons, List.length_nil]; omega)
   have r2 : room (([iu8 7] ++ ti).length + once.length) 1 = true := zw1 (by simp only [List.length_append, List.length_cons, List.length_nil]; omega)
   have r3 : room ((([iu8 7] ++ ti) ++ once).length + sealed.length) 1 = true := zw1 (by simp only [List.length_append, List.length_cons, List.length_nil]; omega)
   simp only [r1, r2, r3, cond_true]
   exact rw7 N rc _
  ·rw [decide_eq_false hok]
   exact rw_no (by omega)
theorem zwbh : ∀ (n : Nat) (t : Tree), Go.Proofs.YtajpblfinenmjaaGreatDoor.dep t ≤ n → G t → RW (zw2x N n t.un) (wb t)
 | 0, .mk o v l, h, _ => by
  have : 1 + depL l ≤ 0 := h
  omega
 | n + 1, .mk o v l, h, g => rop_ok N hN g fun i a hi _ => zwbh n a (dep_in h a (List.mem_of_getElem? hi)) (g.child a (List.mem_of_getElem? hi))
theorem zwkw {t : Tree} (hd : Go.Proofs.YtajpblfinenmjaaGreatDoor.dep t ≤ N) (ht : Tk t) : ∃ e b, zq33 N t.un = some ((e, ()), (b, ())) ∧ zq63 N t.un = some ((e, ()), (b, ())) ∧ b.length ≤ 8192 := by
 unfold zq33 zq63
 rw [zw5q N hN hd ht, zw9w N hN hd ht]
 cases hv : valB t with
 | false => exact ⟨26, [], rfl, rfl, Nat.zero_le _⟩
 | true =>
  have g : G t := ⟨ht, hv⟩
  obtain ⟨b', r1, r2⟩ := zwbh N hN N t hd g
  simp only [Option.bind_some, Bool.not_true, cond_false]
  rw [zw6d N hN N t hd g, r1]
  simp only [Option.bind_some]
  by_cases hok : (wb t).length ≤ 8192
  ·obtain rfl := r2 hok
   rw [zw2n N hN N t hd g hok, decide_eq_true hok, Nat.ble_eq_true_of_le hok]
   exact ⟨0, _, rfl, rfl, hok⟩
  ·have : Nat.ble (wb t).length 8192 = false := by
    cases h : Nat.ble (wb t).length 8192 with
    | false => rfl
    | true => exact absurd (Nat.le_of_ble_eq_true h) hok
   rw [decide_eq_false hok, this]
   exact ⟨11, [], rfl, rfl, Nat.zero_le _⟩
theorem zwbi (t : Tree) : (enB t).length ≤ 6600 := by
 unfold enB
 cases hv : valB t with
 | false => exact Nat.zero_le _
 | true =>
  have := zw4b hv
  simp only [cond_true, eb_len]
  omega
theorem zwbj {a b : Tree} (hd : Go.Proofs.YtajpblfinenmjaaGreatDoor.dep a ≤ N) (ha : Tk a) (hd' : Go.Proofs.YtajpblfinenmjaaGreatDoor.dep b ≤ N) (hb : Tk b) : ∃ r, zq36 N a.un b.un = some ((r, ()), ()) ∧ zq101 N a.un b.un = some ((r, ()), ()) ∧ (valB a = true → a = b → r = true) := by
 obtain ⟨h1, h2⟩ := zw4c N hN hd ha
 obtain ⟨h3, h4⟩ := zw4c N hN hd' hb
 obtain ⟨h5, h6⟩ := zw4n N (by omega) (a := enB a) (b := enB b) (by have := zwbi N hN a; omega)
 unfold zq36 zq101
 rw [h1, h2, h3, h4]
 simp only [Option.bind_some, h5, h6]
 by_cases e1 : enE a = 0
 ·rw [decide_eq_true e1]
  by_cases e2 : enE b = 0
  ·rw [decide_eq_true e2]
   exact ⟨_, rfl, rfl, fun _ e => decide_eq_true (by rw [e])⟩
  ·rw [decide_eq_false e2]
   exact ⟨_, rfl, rfl, fun _ e => absurd (by rw [← e]; exact e1) e2⟩
 ·rw [decide_eq_false e1]
  exact ⟨_, rfl, rfl, fun h _ => absurd (by unfold enE; rw [h]; rfl) e1⟩
end
end Go.Proofs.YtajpblfinenmjaaGreatDoor.Pl

namespace Go.Proofs.YtajpblfinenmjaaGreatDoor.Pl
open Go
def nmD (i : Nat) : TT.den := (2, ((i / 5 * 1048576 + i % 5 + 1 : Nat) : Int), [], ())
def shD (i j : Nat) : TT.den := (5, 0, [mkT (nmD i), mkT (nmD j)], ())
def args : Tree → List Tree
 | .mk _ _ l => l
def SOk : Tree → Prop
 | .mk o v l => 0 ≤ v ∧ v ≤ 10000000 ∧ ((o = 1 ∧ l = []) ∨ (o = 2 ∧ l = []) ∨ (o = 9 ∧ l = []) ∨ (o = 3 ∧ v = 0) ∨ o = 6 ∨ (o = 4 ∧ v = 0 ∧ ∃ i, i < 15 ∧ l = [mkT (nmD i)]) ∨ (o = 8 ∧ ∃ a, l = [a]) ∨
   (o = 5 ∧ v = 0 ∧ ∃ i j, i ≤ j ∧ j < 15 ∧ l = [mkT (nmD i), mkT (nmD j)]) ∨ (o = 7 ∧ v = 0 ∧ ∃ a b, l = [a, b]))
def bdn (e : Nat) : Nat := if e < 4 then 3 else 4
theorem bdn_le (e : Nat) : bdn e ≤ 4 := by unfold bdn; split <;> omega
theorem bdn_ge (e : Nat) : 3 ≤ bdn e := by unfold bdn; split <;> omega
theorem zwkx (e : Nat) : bdn e ≤ bdn (e + 1) := by unfold bdn; split <;> split <;> omega
theorem bdn1 (e : Nat) : 1 ≤ bdn e := Nat.le_trans (by omega) (bdn_ge e)
theorem bdn2 (e : Nat) : 2 ≤ bdn e := Nat.le_trans (by omega) (bdn_ge e)
def Gd : Nat → Tree → Prop
 | 0, _ => False
 | e + 1, t => SOk t ∧ (args t).length ≤ bdn e ∧ ∀ a ∈ args t, Gd e a
theorem Gd.mono : ∀ {e : Nat} {t : Tree}, Gd e t → Gd (e + 1) t
 | 0, _, h => h.elim
 | e + 1, t, h => ⟨h.1, Nat.le_trans h.2.1 (zwkx _), fun a ha => Gd.mono (h.2.2 a ha)⟩
theorem Gd.le {e f : Nat} {t : Tree} (h : Gd e t) (hf : e ≤ f) : Gd f t := by
 obtain ⟨k, rfl⟩ := Nat.exists_eq_add_of_le hf
 induction k with
 | zero => exact h
 | succ k ih => exact (ih (by omega)).mono
theorem nm_gd {i : Nat} (hi : i < 15) : Gd 1 (mkT (nmD i)) := ⟨⟨by show (0 : Int) ≤ ((_ : Nat) : Int); omega, by show ((_ : Nat) : Int) ≤ 10000000; omega, .inr (.inl ⟨rfl, rfl⟩)⟩, by simp [args, mkT, nmD], fun a ha => by simp [args, mkT, nmD] at ha⟩
def COk (c : List UInt8 × (Int × Unit)) : Prop := 0 ≤ c.2.1 ∧ c.2.1 ≤ (c.1.length : Int) ∧ c.1.length ≤ 1000000000000000
theorem zw2c (N : Nat) {c : List UInt8 × (Int × Unit)} {n : Int} (h : COk c) (hn : 0 < n) (hn2 : n ≤ 1000000) : ∃ v c', zq21 N n c = some ((v, ()), (c', ())) ∧ 0 ≤ v ∧ v < n ∧ COk c' := by
 obtain ⟨l, i, u⟩ := c
 obtain ⟨h1, h2, h3⟩ := h
 simp only at h1 h2 h3
 unfold zq21
 by_cases hlt : (l.length : Int) ≤ i
 ·simp only [hlt, decide_true, cond_true]
  exact ⟨0, _, rfl, by omega, hn, h1, h2, h3⟩
 ·have e1 : w64 (i + 1) = i + 1 := w64_of (by omega) (by omega)
  have e2 : w64 (i + 1 - 1) = i := by rw [w64_of (by omega) (by omega)]; omega
  simp only [hlt, decide_false, cond_false, e1, e2]
  have e3 : inR i l.length = true := by simp [inR, h1]; omega
  rw [e3, cond_true]
  obtain ⟨b, hb⟩ : ∃ b : Nat, b = (l.getD i.toNat 0).toNat := ⟨_, rfl⟩
  have hb2 : b < 256 := by rw [hb]; exact UInt8.toNat_lt _
  rw [← hb]
  have hm0 : 0 ≤ (b : Int) * n := Int.mul_nonneg (by omega) (by omega)
  have hm1 : (b : Int) * n ≤ 255 * n := Int.mul_le_mul_of_nonneg_right (by omega) (by omega)
  have e4 : w64 ((b : Int) * n) = (b : Int) * n := w64_of (by omega) (by omega)
  have e5 : ((b : Int) * n).tdiv 256 = ((b : Int) * n) / 256 := Int.tdiv_eq_ediv_of_nonneg hm0
  have e6 : w64 (((b : Int) * n) / 256) = ((b : Int) * n) / 256 := w64_of (by omega) (by omega)
  rw [e4, e5, e6]
  exact ⟨_, _, rfl, by omega, by omega, by simp only; omega, by simp only; omega, h3⟩
theorem zw4o (N : Nat) {c : List UInt8 × (Int × Unit)} (h : COk c) : ∃ i c', zq28 N c = some ((nmD i, ()), (c', ())) ∧ i < 15 ∧ COk c' := by
 obtain ⟨v, c1, e1, a1, a2, h1⟩ := zw2c N (n := 3) h (by omega) (by omega)
 obtain ⟨u, c2, e2, b1, b2, h2⟩ := zw2c N (n := 5) h1 (by omega) (by omega)
 refine ⟨v.toNat * 5 + u.toNat, c2, ?_, by omega, h2⟩
 unfold zq28 zq85
 simp only [e1, e2, Option.bind_some]
 have f1 : w64 ((1 : Int) + u) = 1 + u := w64_of (by omega) (by omega)
 have f2 : w64 (v * (1048576 : Int)) = v * 1048576 := w64_of (by omega) (by omega)
 have f3 : w64 (v * 1048576 + (1 + u)) = v * 1048576 + (1 + u) := w64_of (by omega) (by omega)
 rw [f1, f2, f3]
 have f4 : (((v.toNat * 5 + u.toNat) / 5 * 1048576 + (v.toNat * 5 + u.toNat) % 5 + 1 : Nat) : Int) = v * 1048576 + (1 + u) := by omega
 unfold nmD
 rw [f4]
theorem zwky (N : Nat) (k : Nat) (hk : k ≤ 1000) (l : List UInt8) : ∃ c, zq121 N l (k : Int) = some ((), (c, ())) ∧ COk c := by
 unfold zq121
 by_cases hlt : (k : Int) < (l.length : Int)
 ·simp only [hlt, decide_true, cond_true]
  have e1 : decide ((k : Int) ≤ (l.length : Int)) = true := decide_eq_true (by omega)
  have e2 : cut l 0 (k : Int).toNat = l.take k := by simp [cut]
  have e3 : (l.take k).length = k := by rw [List.length_take]; omega
  have e0 : decide ((0 : Int) ≤ (k : Int)) = true := decide_eq_true (by omega)
  have e5 : decide (0 ≤ (0 : Int)) = true := by decide
  have e6 : room (0 + k) 1 = true := zw1 (by omega)
  simp only [e1, e2, e3, e0, e5, e6, Bool.and_self, cond_true]
  exact ⟨_, rfl, by simp, by simp, by simp only [e3]; omega⟩
 ·have hl : l.length ≤ k := by omega
  simp only [hlt, decide_false, cond_false]
  have e1 : decide ((0 : Int) ≤ (l.length : Int)) = true := decide_eq_true (by omega)
  have e4 : decide ((l.length : Int) ≤ (l.length : Int)) = true := decide_eq_true (by omega)
  have e2 : cut l 0 (l.length : Int).toNat = l := by simp [cut]
  have e3 : room (0 + l.length) 1 = true := zw1 (by omega)
  rw [e1, e4, e2, e3]
  exact ⟨_, rfl, by simp, by simp, by simp only; omega⟩

theorem zwbk {d : Nat} {o v : Int} (h0 : 0 ≤ v) (h1 : v ≤ 10000000) (ho : o = 1 ∨ o = 2 ∨ o = 9) : Gd (d + 1) (.mk o v []) := by
 refine ⟨⟨h0, h1, ?_⟩, by simp [args], fun a ha => by simp [args] at ha⟩
 rcases ho with rfl | rfl | rfl
 ·exact .inl ⟨rfl, rfl⟩
 ·exact .inr (.inl ⟨rfl, rfl⟩)
 ·exact .inr (.inr (.inl ⟨rfl, rfl⟩))
abbrev TmR : Type := ((TT.den × Unit) × (((List UInt8) × (Int × Unit)) × Unit))
section
variable (N : Nat) (hN : 4611686018427387904 ≤ N) (hag : ∀ i j, i < 15 → j < 15 → ∃ t, zq78 N (4, 0, [mkT (nmD i)], ()) (nmD j) = some ((shD (min i j) (max i j), t, ()), ()))
include hN hag
theorem zw6e {d : Nat} (hd : d ≤ 100) {rc : Int → ((List UInt8) × (Int × Unit)) → Option TmR} (hrc : 0 < d → ∀ c, COk c → ∃ t c', rc (d : Int) c = some ((t, ()), (c', ())) ∧ Gd d (mkT t) ∧ COk c')
  {k : Int} (h0 : 0 ≤ k) (h1 : k < 12) (hk : k ≤ 3 ∨ 0 < d) {c : List UInt8 × (Int × Unit)} (hc : COk c) (t4 : TT.den) :
  ∃ t c', zq22_5 N rc ((d + 1 : Nat) : Int) k c t4 = some ((t, ()), (c', ())) ∧ Gd (d + 1) (mkT t) ∧ COk c' := by
 have w1 : w64 (((d + 1 : Nat) : Int) - 1) = (d : Int) := by rw [w64_of (by omega) (by omega)]; omega
 have hcase : k = 0 ∨ (k = 1 ∨ k = 2) ∨ k = 3 ∨ (k = 4 ∨ k = 5) ∨ k = 6 ∨ k = 7 ∨ k = 8 ∨ (k = 9 ∨ k = 10) ∨ k = 11 := by omega
 rcases hcase with rfl | hk2 | rfl | hk2 | rfl | rfl | rfl | hk2 | rfl
 ·show ∃ t c', zq22_8 N rc c t4 = _ ∧ _
  obtain ⟨v, c1, e1, a1, a2, k1⟩ := zw2c N (n := 6) hc (by omega) (by omega)
  unfold zq22_8 zq56
  simp only [e1, Option.bind_some]
  exact ⟨_, _, rfl, zwbk a1 (by show v ≤ (10000000 : Int); omega) (.inl rfl), k1⟩
 ·have : zq22_5 N rc ((d + 1 : Nat) : Int) k c t4 = zq22_12 N rc c t4 := by rcases hk2 with rfl | rfl <;> rfl
  rw [this]
  obtain ⟨i, c1, e1, hi, k1⟩ := zw4o N hc
  unfold zq22_12
  simp only [e1, Option.bind_some]
  exact ⟨_, _, rfl, (nm_gd hi).le (by omega), k1⟩
 ·show ∃ t c', zq22_16 N rc c t4 = _ ∧ _
  obtain ⟨v, c1, e1, a1, a2, k1⟩ := zw2c N (n := 3) hc (by omega) (by omega)
  unfold zq22_16
  simp only [e1, Option.bind_some]
  exact ⟨_, _, rfl, zwbk a1 (by show v ≤ (10000000 : Int); omega) (.inr (.inr rfl)), k1⟩
 ·have : zq22_5 N rc ((d + 1 : Nat) : Int) k c t4 = zq22_20 N rc ((d + 1 : Nat) : Int) c t4 := by rcases hk2 with rfl | rfl <;> rfl
  rw [this]
  have hd0 : 0 < d := by omega
  obtain ⟨v, c1, e1, a1, a2, k1⟩ := zw2c N (n := 4) hc (by omega) (by omega)
  unfold zq22_20
  simp only [e1, Option.bind_some]
  unfold zq22_21
  have hl := zwj (N := N) (step := fun y => zq22_s22 N rc y.1.1 y.1.2.1 y.2.1 y.2.2.1 y.2.2.2.1) (J := fun (e : ((Unit) × (((List UInt8) × (Int × Unit)) × TT.den × (List TT.den) × Unit))) => zq22_23 N rc e.2.1 e.2.2.1 e.2.2.2.1)
   (I := fun y => y.1.1 = ((d + 1 : Nat) : Int) ∧ 0 ≤ y.1.2.1 ∧ y.1.2.1 + (y.2.2.2.1.length : Int) ≤ 3 ∧ COk y.2.1 ∧ ∀ x ∈ y.2.2.2.1, Gd d (mkT x)) (μ := fun y => y.1.2.1.toNat)
   (T := fun r => ∃ t c', r = ((t, ()), (c', ())) ∧ Gd (d + 1) (mkT t) ∧ COk c') ?_
   (x := ((((d + 1 : Nat) : Int), v, ()), (c1, t4, ([] : List TT.den), ()))) ⟨rfl, a1, by simp only [List.length_nil]; omega, k1, fun x hx => by simp at hx⟩ (by simp only; omega)
  ·obtain ⟨r, q1, t, c', rfl, q2, q3⟩ := hl
   exact ⟨t, c', q1, q2, q3⟩
  ·rintro ⟨⟨dd, n, ⟨⟩⟩, p0, t5, l, ⟨⟩⟩ ⟨g1, g2, g3, g4, g5⟩
   simp only at g1 g2 g3 g4 g5
   subst g1
   simp only [zq22_s22]
   by_cases hlt : (0 : Int) < n
   ·have e2 : decide ((0 : Int) < n) = true := decide_eq_true hlt
    obtain ⟨t, c2, r1, r2, r3⟩ := hrc hd0 p0 g4
    have er : room (l.length + ([t] : List TT.den).length) 40 = true := zw1 (by simp only [List.length_cons, List.length_nil]; omega)
    have e4 : w64 (n - 1) = n - 1 := w64_of (by omega) (by omega)
    rw [e2, w1, r1]
    simp only [cond_true, Option.bind_some, er, e4]
    refine ⟨_, rfl, ⟨rfl, by simp only; omega, by simp only [List.length_append, List.length_cons, List.length_nil]; omega, r3, fun x hx => ?_⟩, by simp only; omega⟩
    simp only [List.mem_append, List.mem_cons, List.not_mem_nil, or_false] at hx
    rcases hx with hx | rfl
    ·exact g5 x hx
    ·exact r2
   ·have e2 : decide ((0 : Int) < n) = false := decide_eq_false hlt
    rw [e2]
    have er : room (0 + l.length) 40 = true := zw1 (by omega)
    refine ⟨_, rfl, ?_⟩
    unfold zq22_23 zq91
    simp only [er, cond_true, Option.bind_some]
    refine ⟨_, rfl, _, _, rfl, ⟨⟨Int.le_refl _, (by decide : (0 : Int) ≤ 10000000), .inr (.inr (.inr (.inl ⟨rfl, rfl⟩)))⟩, by have := bdn_ge d; simp only [args, mkT, List.length_map]; omega, fun a ha => ?_⟩, g4⟩
    simp only [args, mkT, List.mem_map] at ha
    obtain ⟨x, hx, rfl⟩ := ha
    exact g5 x hx
 ·have hd0 : 0 < d := by omega
  show ∃ t c', (Option.bind (zq28 N c) fun y21 => Option.bind (zq53 N y21.1.1) fun y22 => some ((y22.1.1, ()), (y21.2.1, ()))) = _ ∧ _
  obtain ⟨i, c1, e1, hi, k1⟩ := zw4o N hc
  unfold zq53
  simp only [e1, Option.bind_some]
  refine ⟨_, _, rfl, ⟨⟨Int.le_refl _, (by decide : (0 : Int) ≤ 10000000), .inr (.inr (.inr (.inr (.inr (.inl ⟨rfl, rfl, i, hi, rfl⟩)))))⟩, by simp [args, mkT, bdn1, bdn2], fun a ha => ?_⟩, k1⟩
  simp only [args, mkT, List.map_cons, List.map_nil, List.mem_cons, List.not_mem_nil, or_false] at ha
  subst ha
  exact (nm_gd hi).le hd0
 ·have hd0 : 0 < d := by omega
  show ∃ t c', (Option.bind (zq28 N c) fun y24 => Option.bind (zq53 N y24.1.1) fun y25 => Option.bind (zq28 N y24.2.1) fun y26 => Option.bind (zq78 N y25.1.1 y26.1.1) fun y27 => some ((y27.1.1, ()), (y26.2.1, ()))) = _ ∧ _
  obtain ⟨i, c1, e1, hi, k1⟩ := zw4o N hc
  obtain ⟨j, c2, e2, hj, k2⟩ := zw4o N k1
  obtain ⟨tt, ha⟩ := hag i j hi hj
  have ep : zq53 N (nmD i) = some (((4, 0, [mkT (nmD i)], ()), ()), ()) := rfl
  simp only [e1, Option.bind_some, ep, e2, ha]
  refine ⟨_, _, rfl, ⟨⟨Int.le_refl _, (by decide : (0 : Int) ≤ 10000000), .inr (.inr (.inr (.inr (.inr (.inr (.inr (.inl ⟨rfl, rfl, min i j, max i j, by omega, by omega, rfl⟩)))))))⟩, by simp [args, mkT, shD, bdn2], fun a ha => ?_⟩, k2⟩
  simp only [args, mkT, shD, List.mem_cons, List.not_mem_nil, or_false] at ha
  rcases ha with rfl | rfl
  ·exact (nm_gd (i := min i j) (by omega)).le hd0
  ·exact (nm_gd (i := max i j) (by omega)).le hd0
 ·have hd0 : 0 < d := by omega
  show ∃ t c', (Option.bind (zq21 N (9 : Int) c) fun y29 => Option.bind (rc (w64 (((d + 1 : Nat) : Int) - (1 : Int))) y29.2.1) fun y32 => Option.bind (zq58 N (w64 ((1 : Int) + y29.1.1)) ([y32.1.1] : List TT.den)) fun y33 => some ((y33.1.1, ()), (y32.2.1, ()))) = _ ∧ _
  obtain ⟨v, c1, e1, a1, a2, k1⟩ := zw2c N (n := 9) hc (by omega) (by omega)
  obtain ⟨t, c2, r1, r2, r3⟩ := hrc hd0 c1 k1
  have e4 : w64 (1 + v) = 1 + v := w64_of (by omega) (by omega)
  have er : room (0 + ([t] : List TT.den).length) 40 = true := zw1 (by simp only [List.length_cons, List.length_nil]; omega)
  unfold zq58
  rw [w1]
  simp only [e1, Option.bind_some, r1, e4, er, cond_true]
  refine ⟨_, _, rfl, ⟨⟨by show (0 : Int) ≤ 1 + v; omega, by show 1 + v ≤ (10000000 : Int); omega, .inr (.inr (.inr (.inr (.inl rfl))))⟩, by simp [args, mkT, bdn1, bdn2], fun a ha => ?_⟩, r3⟩
  simp only [args, mkT, List.map_cons, List.map_nil, List.mem_cons, List.not_mem_nil, or_false] at ha
  subst ha
  exact r2
 ·have hd0 : 0 < d := by omega
  have : zq22_5 N rc ((d + 1 : Nat) : Int) k c t4 = (Option.bind (rc (w64 (((d + 1 : Nat) : Int) - (1 : Int))) c) fun y36 => Option.bind (rc (w64 (((d + 1 : Nat) : Int) - (1 : Int))) y36.2.1) fun y38 => Option.bind (zq92 N y36.1.1 y38.1.1) fun y39 => some ((y39.1.1, ()), (y38.2.1, ()))) := by rcases hk2 with rfl | rfl <;> rfl
  rw [this]
  obtain ⟨t, c1, r1, r2, r3⟩ := hrc hd0 c hc
  obtain ⟨u, c2, s1, s2, s3⟩ := hrc hd0 c1 r3
  unfold zq92
  rw [w1]
  simp only [Option.bind_some, r1, s1]
  refine ⟨_, _, rfl, ⟨⟨Int.le_refl _, (by decide : (0 : Int) ≤ 10000000), .inr (.inr (.inr (.inr (.inr (.inr (.inr (.inr ⟨rfl, rfl, mkT t, mkT u, rfl⟩)))))))⟩, by simp [args, mkT, bdn1, bdn2], fun a ha => ?_⟩, s3⟩
  simp only [args, mkT, List.map_cons, List.map_nil, List.mem_cons, List.not_mem_nil, or_false] at ha
  rcases ha with rfl | rfl
  ·exact r2
  ·exact s2
 ·have hd0 : 0 < d := by omega
  show ∃ t c', zq22_25 N rc ((d + 1 : Nat) : Int) c t4 = _ ∧ _
  obtain ⟨v, c1, e1, a1, a2, k1⟩ := zw2c N (n := 3) hc (by omega) (by omega)
  obtain ⟨t, c2, r1, r2, r3⟩ := hrc hd0 c1 k1
  unfold zq22_25 zq96
  rw [w1]
  simp only [e1, Option.bind_some, r1]
  refine ⟨_, _, rfl, ⟨⟨a1, by show v ≤ (10000000 : Int); omega, .inr (.inr (.inr (.inr (.inr (.inr (.inl ⟨rfl, mkT t, rfl⟩))))))⟩, by simp [args, mkT, bdn1, bdn2], fun a ha => ?_⟩, r3⟩
  simp only [args, mkT, List.map_cons, List.map_nil, List.mem_cons, List.not_mem_nil, or_false] at ha
  subst ha
  exact r2
theorem zwbl : ∀ (d n : Nat), d ≤ 100 → d + 1 ≤ n → ∀ c, COk c → ∃ t c', zw21 N n ((d + 1 : Nat) : Int) c = some ((t, ()), (c', ())) ∧ Gd (d + 1) (mkT t) ∧ COk c'
 | d, 0, _, h, _, _ => absurd h (by omega)
 | d, n + 1, hd, hn, c, hc => by
  show ∃ t c', zq22 N (zw21 N n) ((d + 1 : Nat) : Int) c = _ ∧ _
  have hrc : 0 < d → ∀ c, COk c → ∃ t c', zw21 N n (d : Int) c = some ((t, ()), (c', ())) ∧ Gd d (mkT t) ∧ COk c' := by
   intro h0 c hc
   obtain ⟨d', rfl⟩ : ∃ d', d = d' + 1 := ⟨d - 1, by omega⟩
   exact zwbl d' n (by omega) (by omega) c hc
  obtain ⟨k, c1, e1, a1, a2, k1⟩ := zw2c N (n := 12) hc (by omega) (by omega)
  unfold zq22
  simp only [e1, Option.bind_some]
  by_cases hd1 : d = 0
  ·subst hd1
   have e2 : decide (((0 + 1 : Nat) : Int) ≤ 1) = true := rfl
   rw [e2, cond_true]
   unfold zq22_1
   by_cases h3 : 3 < k
   ·rw [decide_eq_true h3, cond_true]
    have e5 : k.tmod 4 = k % 4 := zw4 a1
    rw [e5]
    exact zw6e N hN hag (by omega) hrc (by omega) (by omega) (.inl (by omega)) k1 _
   ·rw [decide_eq_false h3, cond_false]
    exact zw6e N hN hag (by omega) hrc a1 a2 (.inl (by omega)) k1 _
  ·have e2 : decide (((d + 1 : Nat) : Int) ≤ 1) = false := decide_eq_false (by omega)
   rw [e2, cond_false]
   exact zw6e N hN hag (by omega) hrc a1 a2 (.inr (by omega)) k1 _
end
end Go.Proofs.YtajpblfinenmjaaGreatDoor.Pl

namespace Go.Proofs.YtajpblfinenmjaaGreatDoor.Pl
open Go
theorem zwbm (i j : Nat) : lessB (mkT (nmD j)) (mkT (nmD i)) = decide (((j / 5 * 1048576 + j % 5 + 1 : Nat) : Int) < ((i / 5 * 1048576 + i % 5 + 1 : Nat) : Int)) := by
 unfold lessB
 obtain ⟨x, hx⟩ : ∃ x : Int, x = ((j / 5 * 1048576 + j % 5 + 1 : Nat) : Int) := ⟨_, rfl⟩
 obtain ⟨y, hy⟩ : ∃ y : Int, y = ((i / 5 * 1048576 + i % 5 + 1 : Nat) : Int) := ⟨_, rfl⟩
 rw [← hx, ← hy]
 have h1 : mkT (nmD j) = .mk 2 x [] := by rw [hx]; rfl
 have h2 : mkT (nmD i) = .mk 2 y [] := by rw [hy]; rfl
 rw [h1, h2]
 have h3 : cT (.mk 2 x []) (.mk 2 y []) = if x < y then .lt else if y < x then .gt else .eq := rfl
 rw [h3]
 by_cases h : x < y
 ·rw [if_pos h, decide_eq_true h]; rfl
 ·rw [if_neg h, decide_eq_false h]
  split <;> rfl
theorem nm_tk {i : Nat} (hi : i < 15) : Tk (mkT (nmD i)) := ⟨⟨by show (-9223372036854775808 : Int) ≤ 2; decide, by show (2 : Int) ≤ 9223372036854775807; decide⟩, ⟨by show (-9223372036854775808 : Int) ≤ ((_ : Nat) : Int); omega, by show ((_ : Nat) : Int) ≤ 9223372036854775807; omega⟩, Nat.zero_le _, trivial⟩
theorem zwkz (N : Nat) (hN : 9223372036854775808 ≤ N) (i j : Nat) (hi : i < 15) (hj : j < 15) : ∃ t, zq78 N (4, 0, [mkT (nmD i)], ()) (nmD j) = some ((shD (min i j) (max i j), t, ()), ()) := by
 have hl : zq95 N (nmD j) (nmD i) = some ((lessB (mkT (nmD j)) (mkT (nmD i)), ()), ()) := zw9o N hN (a := mkT (nmD j)) (b := mkT (nmD i)) (by show 1 + 0 ≤ N; omega) (nm_tk hj) (nm_tk hi)
 rw [zwbm] at hl
 show ∃ t, (Option.bind (zq95 N (nmD j) (nmD i)) fun y4 => bif y4.1.1 then zq78_2 N (0, 0, [], ()) (nmD j) (nmD i) else zq78_2 N (0, 0, [], ()) (nmD i) (nmD j)) = _
 rw [hl, Option.bind_some]
 by_cases h : j < i
 ·rw [decide_eq_true (show ((j / 5 * 1048576 + j % 5 + 1 : Nat) : Int) < ((i / 5 * 1048576 + i % 5 + 1 : Nat) : Int) by omega), show min i j = j by omega, show max i j = i by omega]
  exact ⟨_, rfl⟩
 ·rw [decide_eq_false (show ¬ ((j / 5 * 1048576 + j % 5 + 1 : Nat) : Int) < ((i / 5 * 1048576 + i % 5 + 1 : Nat) : Int) by omega), show min i j = i by omega, show max i j = j by omega]
  exact ⟨_, rfl⟩
theorem sok_sd {t : Tree} (h : SOk t) : sdB t = true := by
 obtain ⟨o, v, l⟩ := t
 obtain ⟨h0, h1, h⟩ := h
 have e0 : decide ((0 : Int) ≤ v) = true := decide_eq_true h0
 rcases h with ⟨rfl, rfl⟩ | ⟨rfl, rfl⟩ | ⟨rfl, rfl⟩ | ⟨rfl, rfl⟩ | rfl | ⟨rfl, rfl, i, hi, rfl⟩ | ⟨rfl, a, rfl⟩ | ⟨rfl, rfl, i, j, hij, hj, rfl⟩ | ⟨rfl, rfl, a, b, rfl⟩
 ·rfl
 ·show (decide (0 = 0) && decide ((0 : Int) ≤ v)) = _; rw [e0]; rfl
 ·show (decide (0 = 0) && decide ((0 : Int) ≤ v)) = _; rw [e0]; rfl
 ·rfl
 ·show decide ((0 : Int) ≤ v) = _; rw [e0]
 ·rfl
 ·show (decide (1 = 1) && decide ((0 : Int) ≤ v)) = _; rw [e0]; rfl
 ·show (decide (2 = 2) && (decide ((0 : Int) = 0) && !lessB (mkT (nmD j)) (mkT (nmD i)))) = true
  rw [zwbm, decide_eq_false (show ¬ ((j / 5 * 1048576 + j % 5 + 1 : Nat) : Int) < ((i / 5 * 1048576 + i % 5 + 1 : Nat) : Int) by omega)]
  rfl
 ·rfl
def nb : Nat → Nat
 | 0 => 0
 | e + 1 => 1 + 4 * nb e
theorem zwbn {k : Nat} : ∀ {l : List Tree}, (∀ a ∈ l, cnt a ≤ k) → cntL l ≤ l.length * k
 | [], _ => Nat.zero_le _
 | t :: l, h => by
  have h1 := h t (by simp)
  have h2 := zwbn fun a ha => h a (List.mem_cons_of_mem t ha)
  show cnt t + cntL l ≤ (l.length + 1) * k
  rw [Nat.succ_mul]; omega
theorem gd_ok : ∀ (e : Nat) (t : Tree), Gd e t → Tk t ∧ dep t ≤ e ∧ cnt t ≤ nb e ∧ sdA t = true
 | 0, _, h => h.elim
 | e + 1, .mk o v l, h => by
  obtain ⟨h1, h2, h3⟩ := h
  have ih := fun a (ha : a ∈ l) => gd_ok e a (h3 a ha)
  have h2' : l.length ≤ 4 := Nat.le_trans h2 (bdn_le _)
  have hs := sok_sd h1
  obtain ⟨g0, g1, h⟩ := h1
  have ho : 0 ≤ o ∧ o ≤ 10 := by
   rcases h with ⟨rfl, _⟩ | ⟨rfl, _⟩ | ⟨rfl, _⟩ | ⟨rfl, _⟩ | rfl | ⟨rfl, _⟩ | ⟨rfl, _⟩ | ⟨rfl, _⟩ | ⟨rfl, _⟩ <;> decide
  refine ⟨⟨⟨by omega, by omega⟩, ⟨by omega, by omega⟩, by omega, zw5o.2 fun a ha => (ih a ha).1⟩, ?_, ?_, ?_⟩
  ·have := zw46 (n := e) fun a ha => (ih a ha).2.1
   show 1 + depL l ≤ e + 1
   omega
  ·have := zwbn (k := nb e) fun a ha => (ih a ha).2.2.1
   have := Nat.mul_le_mul_right (nb e) h2'
   show 1 + cntL l ≤ 1 + 4 * nb e
   omega
  ·show (sdAL l && sdB (.mk o v l)) = true
   rw [hs, zw3g.2 fun a ha => (ih a ha).2.2.2]
   rfl
theorem gd_G {t : Tree} (h : Gd 5 t) : G t ∧ dep t ≤ 5 := by
 obtain ⟨h1, h2, h3, h4⟩ := gd_ok 5 t h
 have h3' : Pl.cnt t ≤ 341 := h3
 refine ⟨⟨h1, ?_⟩, h2⟩
 unfold valB
 rw [h4, decide_eq_true (show Pl.cnt t ≤ 600 by omega), decide_eq_true (show Go.Proofs.YtajpblfinenmjaaGreatDoor.dep t ≤ 60 by omega)]
 rfl
section
variable (N : Nat) (hN : 9223372036854775808 ≤ N)
include hN
theorem zwl0 : zq64 N = some ((true, ()), ()) := by
 have g : G (.mk 1 5 []) := (gd_G (t := .mk 1 5 []) ⟨⟨by decide, by decide, .inl ⟨rfl, rfl⟩⟩, Nat.zero_le _, fun a ha => by cases ha⟩).1
 have hw : wb (.mk 1 5 []) = [1, 0, 0, 0, 0, 0, 0, 0, 5] := by
  show [iu8 1] ++ be (iu64 5) 8 = _
  decide
 have h1 := zw6d N hN N (.mk 1 5 []) (by show 1 + 0 ≤ N; omega) g
 have h2 := zw2n N hN N (.mk 1 5 []) (by show 1 + 0 ≤ N; omega) g (by rw [hw]; decide)
 have h3 := zw5q N hN (t := .mk 1 5 []) (by show 1 + 0 ≤ N; omega) g.1
 rw [g.2] at h3
 rw [hw] at h1 h2
 have hW : zq33 N ((1 : Int), (5 : Int), ([] : List Tree), ()) = some (((0 : Int), ()), ([1, 0, 0, 0, 0, 0, 0, 0, 5], ())) := by
  show zq33 N (Tree.mk 1 5 []).un = _
  unfold zq33
  rw [h3]
  simp only [Option.bind_some, Bool.not_true, cond_false]
  rw [h1]
  simp only [Option.bind_some]
  rw [h2]
  rfl
 unfold zq64
 have e1 : zq56 N (5 : Int) = some ((((1 : Int), (5 : Int), ([] : List Tree), ()), ()), ()) := rfl
 rw [e1, Option.bind_some]
 rw [hW]
 rfl
theorem zwbo {a : Tree} (hd : dep a ≤ N) (ha : Tk a) {k : Int} {l : List TT.den} {A B : TT.den} (h0 : k < 2) (h1 : inR k l.length = true) (hx : l.getD k.toNat ((0 : Int), (0 : Int), ([] : List Tree), ()) = a.un) : zq5_s3 N 2 k A B l = some (.go ((2, w64 (k + 1), ()), (A, B, l, ()))) := by
 obtain ⟨e, b, w1, w2, w3⟩ := zwkw N hN hd ha
 obtain ⟨n1, n2⟩ := zw4c N hN hd ha
 obtain ⟨s1, s2⟩ := zw5w N hN hd ha
 obtain ⟨x1, x2⟩ := zw5x N hN hd ha
 have hsl : (seB a).length ≤ 32 := by
  unfold seB
  cases valB a with
  | false => exact Nat.zero_le _
  | true => exact Nat.le_of_eq (zw24 _)
 have q1 := (zw4n N (by omega) (a := b) (b := b) (by omega)).2
 have q2 := (zw4n N (by omega) (a := enB a) (b := enB a) (by have := zwbi N hN a; omega)).2
 have q3 := (zw4n N (by omega) (a := seB a) (b := seB a) (by omega)).2
 unfold zq5_s3
 simp only [decide_eq_true h0, h1, hx, cond_true, w1, w2, n1, n2, s1, s2, x1, x2, Option.bind_some, decide_true, Bool.not_true, cond_false, q1, q2, q3]
end
theorem zwl1 (T : Tree) (hT : Tk T) (codes : List UInt8) (h : codes.length ≤ 9223372036854775807) : zq5 (dep T + 18446744073709551616) T.un codes = some ((true, ()), ()) := by
 have hdN : dep T ≤ dep T + 18446744073709551616 := Nat.le_add_right _ _
 have hN : 9223372036854775808 ≤ dep T + 18446744073709551616 := by omega
 generalize dep T + 18446744073709551616 = N at hdN hN
 have ha := zwl0 N hN
 obtain ⟨s, hs⟩ := zw9r N hN N T hdN hT
 unfold zq5
 rw [ha, hs]
 simp only [Option.bind_some, Bool.not_true, cond_false]
 by_cases h3 : (300 : Int) ≤ s
 ·rw [decide_eq_true h3]
  unfold zq5_1
  rw [hs, cond_true, Option.bind_some]
  simp only [decide_eq_true h3]
 ·rw [decide_eq_false h3]
  unfold zq5_1
  rw [cond_false]
  obtain ⟨c, hc, kc⟩ := zwky N 120 (by decide) codes
  have hc' : zq121 N codes (120 : Int) = _ := hc
  rw [hc', Option.bind_some]
  obtain ⟨t, c', ht, hg, _⟩ := zwbl N (by omega) (zwkz N hN) 4 N (by decide) (by omega) c kc
  have ht' : zw21 N N (5 : Int) c = _ := ht
  rw [ht', Option.bind_some]
  obtain ⟨gt, hdt⟩ := gd_G hg
  have hun : (mkT t).un = t := rfl
  unfold zq5_2
  have hrun := zwc (step := fun y => zq5_s3 N y.1.1 y.1.2.1 y.2.1 y.2.2.1 y.2.2.2.1) (J := fun (e : ((Unit) × (D24 × D24 × Unit))) => zq5_4 N e.2.1 e.2.2.1)
   (fun i : Nat => (((2 : Int), (i : Int), ()), (T.un, t, [T.un, t], ()))) (n := 2) (N := N) (e := ((), (T.un, t, ()))) (fun i hi => ?_) ?_ (by omega)
  ·refine hrun.trans ?_
   show zq5_4 N T.un t = _
   unfold zq5_4
   obtain ⟨r, r1, r2, _⟩ := zwbj N hN hdN hT (b := mkT t) (by omega) gt.1
   obtain ⟨r', r3, _, r4⟩ := zwbj N hN (a := mkT t) (b := mkT t) (by omega) gt.1 (by omega) gt.1
   rw [hun] at r1 r2 r3
   rw [r4 gt.2 rfl] at r3
   simp only [r1, r2, r3, Option.bind_some, decide_true, cond_true]
  ·have hw : w64 ((i : Int) + 1) = ((i + 1 : Nat) : Int) := by rw [w64_of (by omega) (by omega)]; omega
   obtain rfl | rfl : i = 0 ∨ i = 1 := by omega
   ·have := zwbo N hN hdN hT (k := ((0 : Nat) : Int)) (l := [T.un, t]) (A := T.un) (B := t) (by decide) rfl rfl
    rw [hw] at this
    exact this
   ·have := zwbo N hN (a := mkT t) (by omega) gt.1 (k := ((1 : Nat) : Int)) (l := [T.un, t]) (A := T.un) (B := t) (by decide) rfl rfl
    rw [hw] at this
    exact this
  ·rfl
end Go.Proofs.YtajpblfinenmjaaGreatDoor.Pl
