/- The ghost machine: an evaluator of the program's text over plain data, and its soundness. -/
import Derived.Test.YtofajgidjkjnpaaDoorGmLoop
import Derived.Test.YtofajgidjkjnpaaDoorGmInt
import Derived.KernelRfl
import Derived.Lib.Mul64
import Derived.Test.YtofajgidjkjnpaaDoorNum
import Derived.Test.YtofajgidjkjnpaaDoorFnsSchnorrChainsA
import Derived.Test.YtofajgidjkjnpaaDoorFnsSchnorrChainsB
set_option linter.unusedVariables false
set_option linter.unusedSimpArgs false
/- Plain: rules by which a walk over shallow functions is decided. -/
namespace Go.Proofs.YtofajgidjkjnpaaDoor.Pl
open Go
theorem dpos {p : Prop} [Decidable p] (h : p) : decide p = true := decide_eq_true h
theorem dneg {p : Prop} [Decidable p] (h : ¬ p) : decide p = false := decide_eq_false h
theorem w64_of {x : Int} (h : -9223372036854775808 ≤ x) (h' : x ≤ 9223372036854775807) : w64 x = x := w64_id h h'
theorem inR_of {i : Int} {n : Nat} (h : 0 ≤ i) (h' : i < (n : Int)) : inR i n = true := by simp [inR, h, h']
theorem room_of {n k : Nat} (h : n * k ≤ 140737488355328) : room n k = true := by simp [room, h]
theorem tmod_of {a b : Int} (h : 0 ≤ a) : a.tmod b = a % b := Int.tmod_eq_emod_of_nonneg h

theorem take_snoc {α : Type} (l : List α) (d : α) {i : Nat} (h : i < l.length) : l.take (i + 1) = l.take i ++ [l.getD i d] := by
  rw [List.take_add_one, List.getElem?_eq_getElem h]
  simp [List.getD, h]
theorem cut_at (b : List UInt8) (k w : Nat) : cut b k (k + w) = (b.drop k).take w := by
  unfold cut; rw [List.drop_take]; congr 1; omega
end Go.Proofs.YtofajgidjkjnpaaDoor.Pl

/- Plain: products and powers in the small group (group.Mul, group.Power). -/
namespace Go.Proofs.YtofajgidjkjnpaaDoor.Pl
open Go
noncomputable section
theorem u64add {x y : UInt64} (h : x.toNat + y.toNat < 18446744073709551616) : (x + y).toNat = x.toNat + y.toNat := by
  rw [UInt64.toNat_add]; exact Nat.mod_eq_of_lt h
theorem u64mul {x y : UInt64} (h : x.toNat * y.toNat < 18446744073709551616) : (x * y).toNat = x.toNat * y.toNat := by
  rw [UInt64.toNat_mul]; exact Nat.mod_eq_of_lt h
theorem u64sub {x y : UInt64} (h : y.toNat ≤ x.toNat) : (x - y).toNat = x.toNat - y.toNat := UInt64.toNat_sub_of_le _ _ (UInt64.le_iff_toNat_le.2 h)
theorem u64shr (x : UInt64) (n : Nat) : (shr64 x n).toNat = x.toNat / 2 ^ n := by
  show (x.toBitVec >>> n).toNat = _
  rw [BitVec.toNat_ushiftRight, Nat.shiftRight_eq_div_pow]; rfl
theorem u64lo (x : UInt64) : (x &&& 4294967295).toNat = x.toNat % 4294967296 := by
  rw [UInt64.toNat_and]; exact Nat.and_two_pow_sub_one_eq_mod _ 32
theorem mul64_ok (N : Nat) (x y : UInt64) : ∃ h l, math_bits_Mul64 N x y = some ((h, l, ()), ()) ∧ h.toNat = x.toNat * y.toNat / 18446744073709551616 ∧ l.toNat = x.toNat * y.toNat % 18446744073709551616 := by
  have hx := x.toNat_lt; have hy := y.toNat_lt
  obtain ⟨bd, bt, bw, hhi⟩ := Lib.mul64_hi x.toNat y.toNat hx hy
  have ba := Lib.half_mul_le (a := x.toNat / 4294967296) (b := y.toNat / 4294967296) (by omega) (by omega)
  have bb := Lib.half_mul_le (a := x.toNat / 4294967296) (b := y.toNat % 4294967296) (by omega) (by omega)
  have bc := Lib.half_mul_le (a := x.toNat % 4294967296) (b := y.toNat / 4294967296) (by omega) (by omega)
  have be := Lib.half_mul_le (a := x.toNat % 4294967296) (b := y.toNat % 4294967296) (by omega) (by omega)
  have s32 : ∀ z : UInt64, (shr64 z 32).toNat = z.toNat / 4294967296 := fun z => u64shr z 32
  have m1 : (shr64 x 32 * shr64 y 32).toNat = x.toNat / 4294967296 * (y.toNat / 4294967296) := by rw [u64mul (by rw [s32, s32]; omega), s32, s32]
  have m2 : (shr64 x 32 * (y &&& 4294967295)).toNat = x.toNat / 4294967296 * (y.toNat % 4294967296) := by rw [u64mul (by rw [s32, u64lo]; omega), s32, u64lo]
  have m3 : ((x &&& 4294967295) * (y &&& 4294967295)).toNat = x.toNat % 4294967296 * (y.toNat % 4294967296) := by rw [u64mul (by rw [u64lo, u64lo]; omega), u64lo, u64lo]
  have m4 : ((x &&& 4294967295) * shr64 y 32).toNat = x.toNat % 4294967296 * (y.toNat / 4294967296) := by rw [u64mul (by rw [u64lo, s32]; omega), u64lo, s32]
  have t1 : (shr64 x 32 * (y &&& 4294967295) + shr64 ((x &&& 4294967295) * (y &&& 4294967295)) 32).toNat = x.toNat / 4294967296 * (y.toNat % 4294967296) + x.toNat % 4294967296 * (y.toNat % 4294967296) / 4294967296 := by
    rw [u64add (by rw [s32, m2, m3]; omega), s32, m2, m3]
  have t2 : ((shr64 x 32 * (y &&& 4294967295) + shr64 ((x &&& 4294967295) * (y &&& 4294967295)) 32 &&& 4294967295) + (x &&& 4294967295) * shr64 y 32).toNat = (x.toNat / 4294967296 * (y.toNat % 4294967296) + x.toNat % 4294967296 * (y.toNat % 4294967296) / 4294967296) % 4294967296 + x.toNat % 4294967296 * (y.toNat / 4294967296) := by
    rw [u64add (by rw [u64lo, t1, m4]; omega), u64lo, t1, m4]
  refine ⟨_, _, rfl, ?_, UInt64.toNat_mul ..⟩
  rw [← hhi]
  rw [u64add (by rw [u64add (by rw [m1, s32, t1]; omega), m1, s32, t1, s32, t2]; omega), u64add (by rw [m1, s32, t1]; omega), m1, s32, t1, s32, t2]
theorem c_0 : (4294967295 : UInt64).toNat = 4294967295 := rfl
theorem c_1 : (4294967296 : UInt64).toNat = 4294967296 := rfl
theorem c_2 : (4294925036 : UInt64).toNat = 4294925036 := rfl
theorem c_3 : (1 : UInt64).toNat = 1 := rfl
theorem c_4 : (18446744073709509356 : UInt64).toNat = 18446744073709509356 := rfl
theorem k_z {z : UInt64} (h : z.toNat ≤ 4294967295) : ∃ z1, z + 4294967295 = z1 ∧ z1.toNat = z.toNat + 4294967295 := ⟨_, rfl, by rw [u64add (by rw [c_0]; omega), c_0]⟩
theorem k_x {x : UInt64} (h : 1 ≤ x.toNat) : ∃ x1, x - 1 = x1 ∧ x1.toNat = x.toNat - 1 := ⟨_, rfl, by rw [u64sub (by rw [c_3]; omega), c_3]⟩
theorem k_m {x : UInt64} (h : x.toNat ≤ 4294967298) : ∃ m, x * 4294925036 = m ∧ m.toNat = x.toNat * 4294925036 := ⟨_, rfl, by rw [u64mul (by rw [c_2]; omega), c_2]⟩
theorem k_s {z : UInt64} (h : z.toNat ≤ 4294967295) : ∃ m, 4294967296 * z = m ∧ m.toNat = 4294967296 * z.toNat := ⟨_, rfl, by rw [u64mul (by rw [c_1]; omega), c_1]⟩
theorem k_a {m u : UInt64} (h : m.toNat + u.toNat < 18446744073709551616) : ∃ a, m + u = a ∧ a.toNat = m.toNat + u.toNat := ⟨_, rfl, u64add h⟩
theorem k_le {z : UInt64} : (4294967296 : UInt64) ≤ z ↔ 4294967296 ≤ z.toNat := by rw [UInt64.le_iff_toNat_le, c_1]
theorem div_10 (N : Nat) {u0 q1 V q0 : UInt64} (h1 : q0.toNat * 18446744073709509356 ≤ V.toNat * 4294967296 + u0.toNat) (h2 : V.toNat * 4294967296 + u0.toNat < (q0.toNat + 1) * 18446744073709509356) :
    ∃ r, math_bits_Div64_10 N 18446744073709509356 2 u0 q1 V q0 = some r ∧ r.1.2.1.toNat = (V.toNat * 4294967296 + u0.toNat - q0.toNat * 18446744073709509356) / 4 := by
  refine ⟨_, rfl, ?_⟩
  show (shr64 (V * 4294967296 + u0 - q0 * 18446744073709509356) (2 : UInt64).toNat).toNat = _
  rw [u64shr]
  show _ / 4 = _
  congr 1
  rw [UInt64.toNat_sub, UInt64.toNat_add, UInt64.toNat_mul, UInt64.toNat_mul, c_1, c_4]
  have := u0.toNat_lt; have := q0.toNat_lt; have := V.toNat_lt
  omega
theorem ar1 {x1 z V u : Nat} (i1 : (x1 + 1) * 4294967295 + z = V) (i2 : z ≤ 4294967295) (hx : x1 + 1 ≤ 4294967298) (hb : 4294967296 ≤ z + 4294967295) : x1 * 18446744073709509356 ≤ V * 4294967296 + u := by
  subst i1; omega
theorem ar2 {x z V u : Nat} (i1 : x * 4294967295 + z = V) (g : ¬ 4294967296 * z + u < x * 4294925036) : x * 18446744073709509356 ≤ V * 4294967296 + u := by
  subst i1; omega
theorem ar3 {x1 z V u : Nat} (i1 : (x1 + 1) * 4294967295 + z = V) (g : 4294967296 ≤ x1 + 1 ∨ 4294967296 * z + u < (x1 + 1) * 4294925036) (hu : u ≤ 4294967295) (hV : V < 18446744073709509356): V * 4294967296 + u < (x1 + 1) * 18446744073709509356 := by
  rcases g with g | g
  · clear i1; omega
  · subst i1; clear hu hV; omega
theorem ar4 {x1 z z1 V : Nat} (i1 : (x1 + 1) * 4294967295 + z = V) (h : z1 = z + 4294967295) : x1 * 4294967295 + z1 = V := by
  subst i1 h; omega
theorem ar5 {z z1 : Nat} (i2 : z ≤ 4294967295) (h : z1 = z + 4294967295) (hb : ¬ 4294967296 ≤ z1) : z1 ≤ 4294967295 := by subst h; omega
set_option maxRecDepth 20000 in
/-- The second digit. -/
theorem div_7 (N : Nat) (hN : 4611686018427387904 ≤ N) {u0 q1 V : UInt64} (hV : V.toNat < 18446744073709509356) (hu : u0.toNat ≤ 4294967295) :
    ∃ r, math_bits_Div64_7 N 18446744073709509356 2 4294967295 4294925036 u0 q1 (V - V / 4294967295 * 4294967295) V (V / 4294967295) = some r ∧ r.1.2.1.toNat = (V.toNat * 4294967296 + u0.toNat) % 18446744073709509356 / 4 := by
  unfold math_bits_Div64_7
  have hq0 : (V / 4294967295).toNat = V.toNat / 4294967295 := by rw [UInt64.toNat_div, c_0]
  have hm0 : (V / 4294967295 * 4294967295).toNat = V.toNat / 4294967295 * 4294967295 := by rw [u64mul (by rw [hq0, c_0]; omega), hq0, c_0]
  have hr0 : (V - V / 4294967295 * 4294967295).toNat = V.toNat - V.toNat / 4294967295 * 4294967295 := by rw [u64sub (by rw [hm0]; omega), hm0]
  have fin : ∀ q0 : UInt64, q0.toNat * 18446744073709509356 ≤ V.toNat * 4294967296 + u0.toNat → V.toNat * 4294967296 + u0.toNat < (q0.toNat + 1) * 18446744073709509356 → ∃ r, math_bits_Div64_10 N 18446744073709509356 2 u0 q1 V q0 = some r ∧ r.1.2.1.toNat = (V.toNat * 4294967296 + u0.toNat) % 18446744073709509356 / 4 := by
    intro q0 a b
    obtain ⟨r, e, hr⟩ := div_10 N (q1 := q1) a b
    refine ⟨r, e, ?_⟩
    rw [hr]
    congr 1
    omega
  clear hm0
  generalize V - V / 4294967295 * 4294967295 = Z0 at *
  generalize V / 4294967295 = X0 at *
  refine loopK_of (I := fun y => ∃ x z : UInt64, y = ((18446744073709509356, 2, 4294967295, 4294925036, u0, q1, z, V, x, ()), ()) ∧ x.toNat * 4294967295 + z.toNat = V.toNat ∧ z.toNat ≤ 4294967295 ∧ V.toNat * 4294967296 + u0.toNat < (x.toNat + 1) * 18446744073709509356)
    (μ := fun y => (y.1.2.2.2.2.2.2.2.2.1 : UInt64).toNat) (T := fun (r : math_bits_Div64_R) => r.1.2.1.toNat = (V.toNat * 4294967296 + u0.toNat) % 18446744073709509356 / 4) ?_ ⟨X0, Z0, rfl, by rw [hq0, hr0]; omega, by rw [hr0]; omega, by rw [hq0]; omega⟩ (by simp only [hq0]; omega)
  rintro y ⟨x, z, rfl, i1, i2, i3⟩
  show ∃ o, math_bits_Div64_s8 N 18446744073709509356 2 4294967295 4294925036 u0 q1 z V x = some o ∧ _
  unfold math_bits_Div64_s8 math_bits_Div64_9
  have hx : x.toNat ≤ 4294967298 := by omega
  obtain ⟨m1, f1, hm1⟩ := k_s i2
  obtain ⟨m2, f2, hm2⟩ := k_a (m := m1) (u := u0) (by omega)
  obtain ⟨m3, f3, hm3⟩ := k_m (show x.toNat ≤ 4294967298 by omega)
  obtain ⟨z1, f4, hz1⟩ := k_z i2
  rw [f1, f2, f3, f4]
  have d1 := @k_le x
  have d2 : m2 < m3 ↔ m2.toNat < m3.toNat := UInt64.lt_iff_toNat_lt
  have d3 := @k_le z1
  have body : (4294967296 ≤ x.toNat ∨ m2.toNat < m3.toNat) → ∃ o, (bif decide ((4294967296 : UInt64) ≤ z1) then some (Lo.br ((18446744073709509356, 2, u0, q1, V, x - 1, ()), ())) else some (Lo.go ((18446744073709509356, 2, 4294967295, 4294925036, u0, q1, z1, V, x - 1, ()), ())) : Option (Lo ((UInt64 × UInt64 × UInt64 × UInt64 × UInt64 × UInt64 × UInt64 × UInt64 × UInt64 × Unit) × (Unit)) ((UInt64 × UInt64 × UInt64 × UInt64 × UInt64 × UInt64 × Unit) × (Unit)) math_bits_Div64_R)) = some o ∧ match o with
      | .go x' => (∃ x z : UInt64, x' = ((18446744073709509356, 2, 4294967295, 4294925036, u0, q1, z, V, x, ()), ()) ∧ x.toNat * 4294967295 + z.toNat = V.toNat ∧ z.toNat ≤ 4294967295 ∧ V.toNat * 4294967296 + u0.toNat < (x.toNat + 1) * 18446744073709509356) ∧ x'.1.2.2.2.2.2.2.2.2.1.toNat < x.toNat
      | .br e => ∃ r, math_bits_Div64_10 N e.1.1 e.1.2.1 e.1.2.2.1 e.1.2.2.2.1 e.1.2.2.2.2.1 e.1.2.2.2.2.2.1 = some r ∧ r.1.2.1.toNat = (V.toNat * 4294967296 + u0.toNat) % 18446744073709509356 / 4
      | .rt r => r.1.2.1.toNat = (V.toNat * 4294967296 + u0.toNat) % 18446744073709509356 / 4 := by
    intro hg
    obtain ⟨x1, f5, hx1⟩ := k_x (x := x) (by omega)
    rw [f5]
    have y1 : (x1.toNat + 1) * 4294967295 + z.toNat = V.toNat := by rw [hx1, Nat.sub_add_cancel (by omega)]; exact i1
    have y2 : x1.toNat + 1 ≤ 4294967298 := by omega
    have y3 : 4294967296 ≤ x1.toNat + 1 ∨ 4294967296 * z.toNat + u0.toNat < (x1.toNat + 1) * 4294925036 := by
      rw [hx1, Nat.sub_add_cancel (by omega)]
      rw [hm2, hm1, hm3] at hg
      exact hg
    have y4 : V.toNat * 4294967296 + u0.toNat < (x1.toNat + 1) * 18446744073709509356 := ar3 y1 y3 hu hV
    by_cases hb : (4294967296 : UInt64) ≤ z1
    · rw [dpos hb, cond_true]
      have hb' := d3.1 hb
      exact ⟨_, rfl, fin x1 (ar1 y1 i2 y2 (by omega)) y4⟩
    · rw [dneg hb, cond_false]
      have hb' : ¬ 4294967296 ≤ z1.toNat := fun e => hb (d3.2 e)
      exact ⟨_, rfl, ⟨x1, z1, rfl, ar4 y1 hz1, ar5 i2 hz1 hb', y4⟩, by show x1.toNat < x.toNat; omega⟩
  by_cases g1 : (4294967296 : UInt64) ≤ x
  · rw [dpos g1]
    simp only [cond_true, cond_false]
    obtain ⟨o, ho, h⟩ := body (.inl (d1.1 g1))
    exact ⟨o, ho, by cases o <;> exact h⟩
  · rw [dneg g1]
    by_cases g2 : m2 < m3
    · rw [dpos g2]
      simp only [cond_true, cond_false]
      obtain ⟨o, ho, h⟩ := body (.inr (d2.1 g2))
      exact ⟨o, ho, by cases o <;> exact h⟩
    · rw [dneg g2]
      have g1' : ¬ 4294967296 ≤ x.toNat := fun e => g1 (d1.2 e)
      have g2' : ¬ m2.toNat < m3.toNat := fun e => g2 (d2.2 e)
      exact ⟨_, rfl, fin x (ar2 i1 (by rw [hm2, hm1, hm3] at g2'; exact g2')) i3⟩
set_option maxRecDepth 20000 in
/-- The first digit, and all. -/
theorem div_3 (N : Nat) (hN : 4611686018427387904 ≤ N) {U u1 u0 : UInt64} (hU : U.toNat < 4611686018427387904) (hu1 : u1.toNat ≤ 4294967295) (hu0 : u0.toNat ≤ 4294967295) :
    ∃ r, math_bits_Div64_3 N 18446744073709509356 2 4294967295 4294925036 U u1 u0 (U / 4294967295) (U - U / 4294967295 * 4294967295) = some r ∧ r.1.2.1.toNat = ((U.toNat * 4294967296 + u1.toNat) % 18446744073709509356 * 4294967296 + u0.toNat) % 18446744073709509356 / 4 := by
  unfold math_bits_Div64_3
  have hq0 : (U / 4294967295).toNat = U.toNat / 4294967295 := by rw [UInt64.toNat_div, c_0]
  have hm0 : (U / 4294967295 * 4294967295).toNat = U.toNat / 4294967295 * 4294967295 := by rw [u64mul (by rw [hq0, c_0]; omega), hq0, c_0]
  have hr0 : (U - U / 4294967295 * 4294967295).toNat = U.toNat - U.toNat / 4294967295 * 4294967295 := by rw [u64sub (by rw [hm0]; omega), hm0]
  have fin : ∀ q : UInt64, q.toNat * 18446744073709509356 ≤ U.toNat * 4294967296 + u1.toNat → U.toNat * 4294967296 + u1.toNat < (q.toNat + 1) * 18446744073709509356 → ∃ r, math_bits_Div64_6 N 18446744073709509356 2 4294967295 4294925036 U u1 u0 q = some r ∧ r.1.2.1.toNat = ((U.toNat * 4294967296 + u1.toNat) % 18446744073709509356 * 4294967296 + u0.toNat) % 18446744073709509356 / 4 := by
    intro q a b
    unfold math_bits_Div64_6
    have hnz : ¬ (4294967295 : UInt64) = 0 := by decide
    have hV : (U * 4294967296 + u1 - q * 18446744073709509356).toNat = (U.toNat * 4294967296 + u1.toNat) % 18446744073709509356 := by
      rw [UInt64.toNat_sub, UInt64.toNat_add, UInt64.toNat_mul, UInt64.toNat_mul, c_1, c_4]
      have := u1.toNat_lt; have := q.toNat_lt
      omega
    rw [dneg hnz]
    obtain ⟨r, e, hr⟩ := div_7 N hN (u0 := u0) (q1 := q) (V := U * 4294967296 + u1 - q * 18446744073709509356) (by rw [hV]; exact Nat.mod_lt _ (by decide)) hu0
    exact ⟨r, e, by rw [hr, hV]⟩
  clear hm0
  generalize U - U / 4294967295 * 4294967295 = Z0 at *
  generalize U / 4294967295 = X0 at *
  refine loopK_of (I := fun y => ∃ x z : UInt64, y = ((18446744073709509356, 2, 4294967295, 4294925036, U, u1, u0, x, z, ()), ()) ∧ x.toNat * 4294967295 + z.toNat = U.toNat ∧ z.toNat ≤ 4294967295 ∧ U.toNat * 4294967296 + u1.toNat < (x.toNat + 1) * 18446744073709509356)
    (μ := fun y => y.1.2.2.2.2.2.2.2.1.toNat) (T := fun (r : math_bits_Div64_R) => r.1.2.1.toNat = ((U.toNat * 4294967296 + u1.toNat) % 18446744073709509356 * 4294967296 + u0.toNat) % 18446744073709509356 / 4) ?_ ⟨X0, Z0, rfl, by rw [hq0, hr0]; omega, by rw [hr0]; omega, by rw [hq0]; omega⟩ (by simp only [hq0]; omega)
  rintro y ⟨x, z, rfl, i1, i2, i3⟩
  show ∃ o, math_bits_Div64_s4 N 18446744073709509356 2 4294967295 4294925036 U u1 u0 x z = some o ∧ _
  unfold math_bits_Div64_s4 math_bits_Div64_5
  have hx : x.toNat ≤ 2147483648 := by omega
  obtain ⟨m1, f1, hm1⟩ := k_s i2
  obtain ⟨m2, f2, hm2⟩ := k_a (m := m1) (u := u1) (by omega)
  obtain ⟨m3, f3, hm3⟩ := k_m (show x.toNat ≤ 4294967298 by omega)
  obtain ⟨z1, f4, hz1⟩ := k_z i2
  rw [f1, f2, f3, f4]
  have d1 : ¬ (4294967296 : UInt64) ≤ x := fun e => by have := k_le.1 e; omega
  have d2 : m2 < m3 ↔ m2.toNat < m3.toNat := UInt64.lt_iff_toNat_lt
  have d3 := @k_le z1
  rw [dneg d1]
  by_cases g2 : m2 < m3
  · have hg := d2.1 g2
    obtain ⟨x1, f5, hx1⟩ := k_x (x := x) (by omega)
    rw [f5]
    have y1 : (x1.toNat + 1) * 4294967295 + z.toNat = U.toNat := by rw [hx1, Nat.sub_add_cancel (by omega)]; exact i1
    have y2 : x1.toNat + 1 ≤ 4294967298 := by omega
    have y3 : 4294967296 ≤ x1.toNat + 1 ∨ 4294967296 * z.toNat + u1.toNat < (x1.toNat + 1) * 4294925036 := by
      rw [hx1, Nat.sub_add_cancel (by omega)]
      rw [hm2, hm1, hm3] at hg
      exact Or.inr hg
    have y4 : U.toNat * 4294967296 + u1.toNat < (x1.toNat + 1) * 18446744073709509356 := ar3 y1 y3 hu1 (by omega)
    rw [dpos g2]
    by_cases hb : (4294967296 : UInt64) ≤ z1
    · have hb' := d3.1 hb
      simp only [dpos hb, cond_true, cond_false]
      exact ⟨_, rfl, fin x1 (ar1 y1 i2 y2 (by omega)) y4⟩
    · have hb' : ¬ 4294967296 ≤ z1.toNat := fun e => hb (d3.2 e)
      simp only [dneg hb, cond_true, cond_false]
      exact ⟨_, rfl, ⟨x1, z1, rfl, ar4 y1 hz1, ar5 i2 hz1 hb', y4⟩, by show x1.toNat < x.toNat; omega⟩
  · have g2' : ¬ m2.toNat < m3.toNat := fun e => g2 (d2.2 e)
    rw [dneg g2]
    exact ⟨_, rfl, fin x (ar2 i1 (by rw [hm2, hm1, hm3] at g2'; exact g2')) i3⟩
theorem lz_ok (N : Nat) : math_bits_LeadingZeros64 N 4611686018427377339 = some ((2, ()), ()) := by kernel_rfl
theorem div64_ok (N : Nat) (hN : 4611686018427387904 ≤ N) {hi lo : UInt64} (h : hi.toNat < 1152921504606846976) : ∃ r, math_bits_Div64 N hi lo 4611686018427377339 = some r ∧ r.1.2.1.toNat = (hi.toNat * 18446744073709551616 + lo.toNat) % 4611686018427377339 := by
  have hp : (4611686018427377339 : UInt64).toNat = 4611686018427377339 := rfl
  unfold math_bits_Div64 math_bits_Div64_1 math_bits_Div64_2
  have n0 : ¬ (4611686018427377339 : UInt64) = 0 := by decide
  have n1 : ¬ (4611686018427377339 : UInt64) ≤ hi := by rw [UInt64.le_iff_toNat_le, hp]; omega
  simp only [dneg n0, dneg n1, cond_false, Bool.not_false, cond_true]
  by_cases hz : hi = 0
  · subst hz
    rw [dpos rfl, cond_true]
    refine ⟨_, rfl, ?_⟩
    show (lo % 4611686018427377339).toNat = _
    rw [UInt64.toNat_mod, hp]
    have : (0 : UInt64).toNat = 0 := rfl
    rw [this, Nat.zero_mul, Nat.zero_add]
  · rw [dneg hz, lz_ok]
    simp only [cond_false, Option.bind_some]
    have e1 : (iu64 2).toNat = 2 := rfl
    have e2 : ((64 : UInt64) - iu64 2).toNat = 62 := rfl
    have e3 : iu64 2 = 2 := rfl
    have y1 : shl64 4611686018427377339 2 = 18446744073709509356 := rfl
    have y2 : shr64 18446744073709509356 32 = 4294967295 := rfl
    have y3 : (18446744073709509356 : UInt64) &&& 4294967295 = 4294925036 := rfl
    have n2 : ¬ (4294967295 : UInt64) = 0 := by decide
    rw [e1, e2, e3, y1, y2, y3]
    simp only [dneg n2, Bool.not_false, cond_true]
    have hlo := lo.toNat_lt
    have hsl : (shl64 hi 2).toNat = hi.toNat * 4 := by
      show (hi.toBitVec <<< 2).toNat = _
      rw [BitVec.toNat_shiftLeft, Nat.shiftLeft_eq]
      have : hi.toBitVec.toNat = hi.toNat := rfl
      rw [this]
      exact Nat.mod_eq_of_lt (by omega)
    have hsr : (shr64 lo 62).toNat = lo.toNat / 4611686018427387904 := u64shr lo 62
    have hU : (shl64 hi 2 ||| shr64 lo 62).toNat = hi.toNat * 4 + lo.toNat / 4611686018427387904 := by
      rw [UInt64.toNat_or, hsl, hsr, show hi.toNat * 4 = hi.toNat <<< 2 by rw [Nat.shiftLeft_eq], ← Nat.shiftLeft_add_eq_or_of_lt (show lo.toNat / 4611686018427387904 < 2 ^ 2 by omega)]
    have hL : (shl64 lo 2).toNat = lo.toNat * 4 % 18446744073709551616 := by
      show (lo.toBitVec <<< 2).toNat = _
      rw [BitVec.toNat_shiftLeft, Nat.shiftLeft_eq]; rfl
    have hu1 : (shr64 (shl64 lo 2) 32).toNat = lo.toNat * 4 % 18446744073709551616 / 4294967296 := by rw [u64shr, hL]
    have hu0 : (shl64 lo 2 &&& 4294967295).toNat = lo.toNat * 4 % 18446744073709551616 % 4294967296 := by rw [u64lo, hL]
    obtain ⟨r, e, hr⟩ := div_3 N hN (U := shl64 hi 2 ||| shr64 lo 62) (u1 := shr64 (shl64 lo 2) 32) (u0 := shl64 lo 2 &&& 4294967295) (by rw [hU]; omega) (by rw [hu1]; omega) (by rw [hu0]; omega)
    refine ⟨r, e, ?_⟩
    rw [hr, hU, hu1, hu0]
    generalize hi.toNat = H at *
    generalize lo.toNat = L at *
    omega
theorem gmul_ok (N : Nat) (hN : 4611686018427387904 ≤ N) (a b : UInt64) : ∃ r, group_Mul N a b = some ((r, ()), ()) ∧ r.toNat = a.toNat * b.toNat % 4611686018427377339 := by
  have hp : (4611686018427377339 : UInt64).toNat = 4611686018427377339 := rfl
  obtain ⟨h, l, e1, h1, h2⟩ := mul64_ok N (a % 4611686018427377339) (b % 4611686018427377339)
  rw [UInt64.toNat_mod, UInt64.toNat_mod, hp] at h1 h2
  have hb := Nat.mul_le_mul (show a.toNat % 4611686018427377339 ≤ 4611686018427377338 by omega) (show b.toNat % 4611686018427377339 ≤ 4611686018427377338 by omega)
  obtain ⟨r, e2, h3⟩ := div64_ok N hN (hi := h) (lo := l) (by rw [h1]; omega)
  unfold group_Mul
  rw [e1, Option.bind_some]
  simp only [e2, Option.bind_some]
  refine ⟨_, rfl, ?_⟩
  rw [h3, h1, h2, Nat.div_add_mod', ← Nat.mul_mod]
theorem gpow_ok (N : Nat) (hN : 4611686018427387904 ≤ N) (a e : UInt64) : ∃ r, group_Power N a e = some ((r, ()), ()) ∧ r.toNat = a.toNat ^ e.toNat % 4611686018427377339 := by
  unfold group_Power group_Power_1
  have := loopK_of (N := N) (step := fun y => group_Power_s2 N y.1.1 y.1.2.1 y.1.2.2.1) (J := fun (e : ((UInt64 × Unit) × (Unit))) => group_Power_3 N e.1.1)
    (I := fun y => y.1.2.2.1.toNat * y.1.1.toNat ^ y.1.2.1.toNat % 4611686018427377339 = a.toNat ^ e.toNat % 4611686018427377339 ∧ y.1.2.2.1.toNat < 4611686018427377339 ∧ y.1.2.1.toNat < 2 ^ 64 ) (μ := fun y => y.1.2.1.toNat.log2 + (if y.1.2.1.toNat = 0 then 0 else 1)) (T := fun r => ∃ v, r = ((v, ()), ()) ∧ v.toNat = a.toNat ^ e.toNat % 4611686018427377339) ?_
    (x := ((a, e, 1, ()), ())) ⟨by show 1 * _ % _ = _; rw [Nat.one_mul], by show (1 : UInt64).toNat < _; decide, e.toNat_lt⟩ (by
      simp only
      have : e.toNat.log2 < 64 := by
        by_cases h : e.toNat = 0
        · rw [h]; decide
        · exact (Nat.log2_lt h).2 e.toNat_lt
      split <;> omega)
  · obtain ⟨r, h1, v, rfl, h2⟩ := this
    exact ⟨v, h1, h2⟩
  · rintro ⟨⟨x, k, r, _⟩, _⟩ ⟨h1, h2, h3⟩
    simp only at h1 h2 h3
    show ∃ o, group_Power_s2 N x k r = some o ∧ _
    unfold group_Power_s2
    have z : (0 : UInt64).toNat = 0 := rfl
    have o1 : (1 : UInt64).toNat = 1 := rfl
    by_cases hk : (0 : UInt64) < k
    · have hk' : 0 < k.toNat := by rw [UInt64.lt_iff_toNat_lt, z] at hk; exact hk
      obtain ⟨x2, ex, hx2⟩ := gmul_ok N hN x x
      obtain ⟨rx, er, hrx⟩ := gmul_ok N hN r x
      have hs : (shr64 k 1).toNat = k.toNat / 2 := u64shr k 1
      have hbit : (k &&& 1).toNat = k.toNat % 2 := by rw [UInt64.toNat_and, o1]; exact Nat.and_two_pow_sub_one_eq_mod _ 1
      have hmeas : (shr64 k 1).toNat.log2 + (if (shr64 k 1).toNat = 0 then 0 else 1) < k.toNat.log2 + (if k.toNat = 0 then 0 else 1) := by
        rw [hs, if_neg (show ¬ k.toNat = 0 by omega)]
        by_cases h : k.toNat / 2 = 0
        · rw [h, if_pos rfl]; simp
        · rw [if_neg h]
          have : k.toNat.log2 = (k.toNat / 2).log2 + 1 := by
            rw [Nat.log2_def k.toNat, if_pos (by omega)]
          omega
      have hpow : ∀ q : Nat, x2.toNat ^ q % 4611686018427377339 = x.toNat ^ (2 * q) % 4611686018427377339 := by
        intro q
        rw [hx2, ← Nat.pow_mod, Nat.pow_mul, Nat.pow_two]
      by_cases hb : k &&& 1 = 1
      · have hodd : k.toNat % 2 = 1 := by rw [← hbit, hb]; rfl
        simp only [dpos hk, dpos hb, cond_true, er, ex, Option.bind_some]
        refine ⟨_, rfl, ⟨?_, by simp only [hrx]; exact Nat.mod_lt _ (by decide), by simp only [hs]; omega⟩, by simpa only using hmeas⟩
        simp only
        rw [← h1, hs, Nat.mul_mod, hpow, hrx, Nat.mod_mod, ← Nat.mul_mod, Nat.mul_assoc, ← Nat.pow_succ', show (2 * (k.toNat / 2)).succ = k.toNat by omega]
      · have heven : k.toNat % 2 = 0 := by
          rcases (by omega : k.toNat % 2 = 0 ∨ k.toNat % 2 = 1) with h | h
          · exact h
          · exact absurd (UInt64.toNat_inj.1 (by rw [hbit, h]; rfl)) hb
        simp only [dpos hk, dneg hb, cond_true, cond_false, ex, Option.bind_some]
        refine ⟨_, rfl, ⟨?_, h2, by simp only [hs]; omega⟩, by simpa only using hmeas⟩
        simp only
        rw [← h1, hs, Nat.mul_mod, hpow, ← Nat.mul_mod, show 2 * (k.toNat / 2) = k.toNat by omega]
    · have hk' : k.toNat = 0 := by
        have : ¬ 0 < k.toNat := fun h => hk (by rw [UInt64.lt_iff_toNat_lt, z]; exact h)
        omega
      simp only [dneg hk, cond_false]
      refine ⟨_, rfl, _, rfl, r, rfl, ?_⟩
      rw [hk', Nat.pow_zero, Nat.mul_one, Nat.mod_eq_of_lt h2] at h1
      exact h1
end
end Go.Proofs.YtofajgidjkjnpaaDoor.Pl

/- Plain: the division by the order of the group (math/bits.Div64 by q). -/
namespace Go.Proofs.YtofajgidjkjnpaaDoor.Pl
open Go
theorem c_2q : (4294925032 : UInt64).toNat = 4294925032 := rfl
theorem c_4q : (18446744073709509352 : UInt64).toNat = 18446744073709509352 := rfl
theorem k_mq {x : UInt64} (h : x.toNat ≤ 4294967298) : ∃ m, x * 4294925032 = m ∧ m.toNat = x.toNat * 4294925032 := ⟨_, rfl, by rw [u64mul (by rw [c_2q]; omega), c_2q]⟩
theorem div_10q (N : Nat) {u0 q1 V q0 : UInt64} (h1 : q0.toNat * 18446744073709509352 ≤ V.toNat * 4294967296 + u0.toNat) (h2 : V.toNat * 4294967296 + u0.toNat < (q0.toNat + 1) * 18446744073709509352) :
    ∃ r, math_bits_Div64_10 N 18446744073709509352 3 u0 q1 V q0 = some r ∧ r.1.2.1.toNat = (V.toNat * 4294967296 + u0.toNat - q0.toNat * 18446744073709509352) / 8 := by
  refine ⟨_, rfl, ?_⟩
  show (shr64 (V * 4294967296 + u0 - q0 * 18446744073709509352) (3 : UInt64).toNat).toNat = _
  rw [u64shr]
  show _ / 8 = _
  congr 1
  rw [UInt64.toNat_sub, UInt64.toNat_add, UInt64.toNat_mul, UInt64.toNat_mul, c_1, c_4q]
  have := u0.toNat_lt; have := q0.toNat_lt; have := V.toNat_lt
  omega
theorem ar1q {x1 z V u : Nat} (i1 : (x1 + 1) * 4294967295 + z = V) (i2 : z ≤ 4294967295) (hx : x1 + 1 ≤ 4294967298) (hb : 4294967296 ≤ z + 4294967295) : x1 * 18446744073709509352 ≤ V * 4294967296 + u := by
  subst i1; omega
theorem ar2q {x z V u : Nat} (i1 : x * 4294967295 + z = V) (g : ¬ 4294967296 * z + u < x * 4294925032) : x * 18446744073709509352 ≤ V * 4294967296 + u := by
  subst i1; omega
theorem ar3q {x1 z V u : Nat} (i1 : (x1 + 1) * 4294967295 + z = V) (g : 4294967296 ≤ x1 + 1 ∨ 4294967296 * z + u < (x1 + 1) * 4294925032) (hu : u ≤ 4294967295) (hV : V < 18446744073709509352): V * 4294967296 + u < (x1 + 1) * 18446744073709509352 := by
  rcases g with g | g
  · clear i1; omega
  · subst i1; clear hu hV; omega
set_option maxRecDepth 20000 in
/-- The second digit. -/
theorem div_7q (N : Nat) (hN : 4611686018427387904 ≤ N) {u0 q1 V : UInt64} (hV : V.toNat < 18446744073709509352) (hu : u0.toNat ≤ 4294967295) :
    ∃ r, math_bits_Div64_7 N 18446744073709509352 3 4294967295 4294925032 u0 q1 (V - V / 4294967295 * 4294967295) V (V / 4294967295) = some r ∧ r.1.2.1.toNat = (V.toNat * 4294967296 + u0.toNat) % 18446744073709509352 / 8 := by
  unfold math_bits_Div64_7
  have hq0 : (V / 4294967295).toNat = V.toNat / 4294967295 := by rw [UInt64.toNat_div, c_0]
  have hm0 : (V / 4294967295 * 4294967295).toNat = V.toNat / 4294967295 * 4294967295 := by rw [u64mul (by rw [hq0, c_0]; omega), hq0, c_0]
  have hr0 : (V - V / 4294967295 * 4294967295).toNat = V.toNat - V.toNat / 4294967295 * 4294967295 := by rw [u64sub (by rw [hm0]; omega), hm0]
  have fin : ∀ q0 : UInt64, q0.toNat * 18446744073709509352 ≤ V.toNat * 4294967296 + u0.toNat → V.toNat * 4294967296 + u0.toNat < (q0.toNat + 1) * 18446744073709509352 → ∃ r, math_bits_Div64_10 N 18446744073709509352 3 u0 q1 V q0 = some r ∧ r.1.2.1.toNat = (V.toNat * 4294967296 + u0.toNat) % 18446744073709509352 / 8 := by
    intro q0 a b
    obtain ⟨r, e, hr⟩ := div_10q N (q1 := q1) a b
    refine ⟨r, e, ?_⟩
    rw [hr]
    congr 1
    omega
  clear hm0
  generalize V - V / 4294967295 * 4294967295 = Z0 at *
  generalize V / 4294967295 = X0 at *
  refine loopK_of (I := fun y => ∃ x z : UInt64, y = ((18446744073709509352, 3, 4294967295, 4294925032, u0, q1, z, V, x, ()), ()) ∧ x.toNat * 4294967295 + z.toNat = V.toNat ∧ z.toNat ≤ 4294967295 ∧ V.toNat * 4294967296 + u0.toNat < (x.toNat + 1) * 18446744073709509352)
    (μ := fun y => (y.1.2.2.2.2.2.2.2.2.1 : UInt64).toNat) (T := fun (r : math_bits_Div64_R) => r.1.2.1.toNat = (V.toNat * 4294967296 + u0.toNat) % 18446744073709509352 / 8) ?_ ⟨X0, Z0, rfl, by rw [hq0, hr0]; omega, by rw [hr0]; omega, by rw [hq0]; omega⟩ (by simp only [hq0]; omega)
  rintro y ⟨x, z, rfl, i1, i2, i3⟩
  show ∃ o, math_bits_Div64_s8 N 18446744073709509352 3 4294967295 4294925032 u0 q1 z V x = some o ∧ _
  unfold math_bits_Div64_s8 math_bits_Div64_9
  have hx : x.toNat ≤ 4294967298 := by omega
  obtain ⟨m1, f1, hm1⟩ := k_s i2
  obtain ⟨m2, f2, hm2⟩ := k_a (m := m1) (u := u0) (by omega)
  obtain ⟨m3, f3, hm3⟩ := k_mq (show x.toNat ≤ 4294967298 by omega)
  obtain ⟨z1, f4, hz1⟩ := k_z i2
  rw [f1, f2, f3, f4]
  have d1 := @k_le x
  have d2 : m2 < m3 ↔ m2.toNat < m3.toNat := UInt64.lt_iff_toNat_lt
  have d3 := @k_le z1
  have body : (4294967296 ≤ x.toNat ∨ m2.toNat < m3.toNat) → ∃ o, (bif decide ((4294967296 : UInt64) ≤ z1) then some (Lo.br ((18446744073709509352, 3, u0, q1, V, x - 1, ()), ())) else some (Lo.go ((18446744073709509352, 3, 4294967295, 4294925032, u0, q1, z1, V, x - 1, ()), ())) : Option (Lo ((UInt64 × UInt64 × UInt64 × UInt64 × UInt64 × UInt64 × UInt64 × UInt64 × UInt64 × Unit) × (Unit)) ((UInt64 × UInt64 × UInt64 × UInt64 × UInt64 × UInt64 × Unit) × (Unit)) math_bits_Div64_R)) = some o ∧ match o with
      | .go x' => (∃ x z : UInt64, x' = ((18446744073709509352, 3, 4294967295, 4294925032, u0, q1, z, V, x, ()), ()) ∧ x.toNat * 4294967295 + z.toNat = V.toNat ∧ z.toNat ≤ 4294967295 ∧ V.toNat * 4294967296 + u0.toNat < (x.toNat + 1) * 18446744073709509352) ∧ x'.1.2.2.2.2.2.2.2.2.1.toNat < x.toNat
      | .br e => ∃ r, math_bits_Div64_10 N e.1.1 e.1.2.1 e.1.2.2.1 e.1.2.2.2.1 e.1.2.2.2.2.1 e.1.2.2.2.2.2.1 = some r ∧ r.1.2.1.toNat = (V.toNat * 4294967296 + u0.toNat) % 18446744073709509352 / 8
      | .rt r => r.1.2.1.toNat = (V.toNat * 4294967296 + u0.toNat) % 18446744073709509352 / 8 := by
    intro hg
    obtain ⟨x1, f5, hx1⟩ := k_x (x := x) (by omega)
    rw [f5]
    have y1 : (x1.toNat + 1) * 4294967295 + z.toNat = V.toNat := by rw [hx1, Nat.sub_add_cancel (by omega)]; exact i1
    have y2 : x1.toNat + 1 ≤ 4294967298 := by omega
    have y3 : 4294967296 ≤ x1.toNat + 1 ∨ 4294967296 * z.toNat + u0.toNat < (x1.toNat + 1) * 4294925032 := by
      rw [hx1, Nat.sub_add_cancel (by omega)]
      rw [hm2, hm1, hm3] at hg
      exact hg
    have y4 : V.toNat * 4294967296 + u0.toNat < (x1.toNat + 1) * 18446744073709509352 := ar3q y1 y3 hu hV
    by_cases hb : (4294967296 : UInt64) ≤ z1
    · rw [dpos hb, cond_true]
      have hb' := d3.1 hb
      exact ⟨_, rfl, fin x1 (ar1q y1 i2 y2 (by omega)) y4⟩
    · rw [dneg hb, cond_false]
      have hb' : ¬ 4294967296 ≤ z1.toNat := fun e => hb (d3.2 e)
      exact ⟨_, rfl, ⟨x1, z1, rfl, ar4 y1 hz1, ar5 i2 hz1 hb', y4⟩, by show x1.toNat < x.toNat; omega⟩
  by_cases g1 : (4294967296 : UInt64) ≤ x
  · rw [dpos g1]
    simp only [cond_true, cond_false]
    obtain ⟨o, ho, h⟩ := body (.inl (d1.1 g1))
    exact ⟨o, ho, by cases o <;> exact h⟩
  · rw [dneg g1]
    by_cases g2 : m2 < m3
    · rw [dpos g2]
      simp only [cond_true, cond_false]
      obtain ⟨o, ho, h⟩ := body (.inr (d2.1 g2))
      exact ⟨o, ho, by cases o <;> exact h⟩
    · rw [dneg g2]
      have g1' : ¬ 4294967296 ≤ x.toNat := fun e => g1 (d1.2 e)
      have g2' : ¬ m2.toNat < m3.toNat := fun e => g2 (d2.2 e)
      exact ⟨_, rfl, fin x (ar2q i1 (by rw [hm2, hm1, hm3] at g2'; exact g2')) i3⟩
set_option maxRecDepth 20000 in
/-- The first digit, and all. -/
theorem div_3q (N : Nat) (hN : 4611686018427387904 ≤ N) {U u1 u0 : UInt64} (hU : U.toNat < 4611686018427387904) (hu1 : u1.toNat ≤ 4294967295) (hu0 : u0.toNat ≤ 4294967295) :
    ∃ r, math_bits_Div64_3 N 18446744073709509352 3 4294967295 4294925032 U u1 u0 (U / 4294967295) (U - U / 4294967295 * 4294967295) = some r ∧ r.1.2.1.toNat = ((U.toNat * 4294967296 + u1.toNat) % 18446744073709509352 * 4294967296 + u0.toNat) % 18446744073709509352 / 8 := by
  unfold math_bits_Div64_3
  have hq0 : (U / 4294967295).toNat = U.toNat / 4294967295 := by rw [UInt64.toNat_div, c_0]
  have hm0 : (U / 4294967295 * 4294967295).toNat = U.toNat / 4294967295 * 4294967295 := by rw [u64mul (by rw [hq0, c_0]; omega), hq0, c_0]
  have hr0 : (U - U / 4294967295 * 4294967295).toNat = U.toNat - U.toNat / 4294967295 * 4294967295 := by rw [u64sub (by rw [hm0]; omega), hm0]
  have fin : ∀ q : UInt64, q.toNat * 18446744073709509352 ≤ U.toNat * 4294967296 + u1.toNat → U.toNat * 4294967296 + u1.toNat < (q.toNat + 1) * 18446744073709509352 → ∃ r, math_bits_Div64_6 N 18446744073709509352 3 4294967295 4294925032 U u1 u0 q = some r ∧ r.1.2.1.toNat = ((U.toNat * 4294967296 + u1.toNat) % 18446744073709509352 * 4294967296 + u0.toNat) % 18446744073709509352 / 8 := by
    intro q a b
    unfold math_bits_Div64_6
    have hnz : ¬ (4294967295 : UInt64) = 0 := by decide
    have hV : (U * 4294967296 + u1 - q * 18446744073709509352).toNat = (U.toNat * 4294967296 + u1.toNat) % 18446744073709509352 := by
      rw [UInt64.toNat_sub, UInt64.toNat_add, UInt64.toNat_mul, UInt64.toNat_mul, c_1, c_4q]
      have := u1.toNat_lt; have := q.toNat_lt
      omega
    rw [dneg hnz]
    obtain ⟨r, e, hr⟩ := div_7q N hN (u0 := u0) (q1 := q) (V := U * 4294967296 + u1 - q * 18446744073709509352) (by rw [hV]; exact Nat.mod_lt _ (by decide)) hu0
    exact ⟨r, e, by rw [hr, hV]⟩
  clear hm0
  generalize U - U / 4294967295 * 4294967295 = Z0 at *
  generalize U / 4294967295 = X0 at *
  refine loopK_of (I := fun y => ∃ x z : UInt64, y = ((18446744073709509352, 3, 4294967295, 4294925032, U, u1, u0, x, z, ()), ()) ∧ x.toNat * 4294967295 + z.toNat = U.toNat ∧ z.toNat ≤ 4294967295 ∧ U.toNat * 4294967296 + u1.toNat < (x.toNat + 1) * 18446744073709509352)
    (μ := fun y => y.1.2.2.2.2.2.2.2.1.toNat) (T := fun (r : math_bits_Div64_R) => r.1.2.1.toNat = ((U.toNat * 4294967296 + u1.toNat) % 18446744073709509352 * 4294967296 + u0.toNat) % 18446744073709509352 / 8) ?_ ⟨X0, Z0, rfl, by rw [hq0, hr0]; omega, by rw [hr0]; omega, by rw [hq0]; omega⟩ (by simp only [hq0]; omega)
  rintro y ⟨x, z, rfl, i1, i2, i3⟩
  show ∃ o, math_bits_Div64_s4 N 18446744073709509352 3 4294967295 4294925032 U u1 u0 x z = some o ∧ _
  unfold math_bits_Div64_s4 math_bits_Div64_5
  have hx : x.toNat ≤ 2147483648 := by omega
  obtain ⟨m1, f1, hm1⟩ := k_s i2
  obtain ⟨m2, f2, hm2⟩ := k_a (m := m1) (u := u1) (by omega)
  obtain ⟨m3, f3, hm3⟩ := k_mq (show x.toNat ≤ 4294967298 by omega)
  obtain ⟨z1, f4, hz1⟩ := k_z i2
  rw [f1, f2, f3, f4]
  have d1 : ¬ (4294967296 : UInt64) ≤ x := fun e => by have := k_le.1 e; omega
  have d2 : m2 < m3 ↔ m2.toNat < m3.toNat := UInt64.lt_iff_toNat_lt
  have d3 := @k_le z1
  rw [dneg d1]
  by_cases g2 : m2 < m3
  · have hg := d2.1 g2
    obtain ⟨x1, f5, hx1⟩ := k_x (x := x) (by omega)
    rw [f5]
    have y1 : (x1.toNat + 1) * 4294967295 + z.toNat = U.toNat := by rw [hx1, Nat.sub_add_cancel (by omega)]; exact i1
    have y2 : x1.toNat + 1 ≤ 4294967298 := by omega
    have y3 : 4294967296 ≤ x1.toNat + 1 ∨ 4294967296 * z.toNat + u1.toNat < (x1.toNat + 1) * 4294925032 := by
      rw [hx1, Nat.sub_add_cancel (by omega)]
      rw [hm2, hm1, hm3] at hg
      exact Or.inr hg
    have y4 : U.toNat * 4294967296 + u1.toNat < (x1.toNat + 1) * 18446744073709509352 := ar3q y1 y3 hu1 (by omega)
    rw [dpos g2]
    by_cases hb : (4294967296 : UInt64) ≤ z1
    · have hb' := d3.1 hb
      simp only [dpos hb, cond_true, cond_false]
      exact ⟨_, rfl, fin x1 (ar1q y1 i2 y2 (by omega)) y4⟩
    · have hb' : ¬ 4294967296 ≤ z1.toNat := fun e => hb (d3.2 e)
      simp only [dneg hb, cond_true, cond_false]
      exact ⟨_, rfl, ⟨x1, z1, rfl, ar4 y1 hz1, ar5 i2 hz1 hb', y4⟩, by show x1.toNat < x.toNat; omega⟩
  · have g2' : ¬ m2.toNat < m3.toNat := fun e => g2 (d2.2 e)
    rw [dneg g2]
    exact ⟨_, rfl, fin x (ar2q i1 (by rw [hm2, hm1, hm3] at g2'; exact g2')) i3⟩
theorem lz_okq (N : Nat) : math_bits_LeadingZeros64 N 2305843009213688669 = some ((3, ()), ()) := by kernel_rfl
theorem div64_okq (N : Nat) (hN : 4611686018427387904 ≤ N) {hi lo : UInt64} (h : hi.toNat < 288230376151711744) : ∃ r, math_bits_Div64 N hi lo 2305843009213688669 = some r ∧ r.1.2.1.toNat = (hi.toNat * 18446744073709551616 + lo.toNat) % 2305843009213688669 := by
  have hp : (2305843009213688669 : UInt64).toNat = 2305843009213688669 := rfl
  unfold math_bits_Div64 math_bits_Div64_1 math_bits_Div64_2
  have n0 : ¬ (2305843009213688669 : UInt64) = 0 := by decide
  have n1 : ¬ (2305843009213688669 : UInt64) ≤ hi := by rw [UInt64.le_iff_toNat_le, hp]; omega
  simp only [dneg n0, dneg n1, cond_false, Bool.not_false, cond_true]
  by_cases hz : hi = 0
  · subst hz
    rw [dpos rfl, cond_true]
    refine ⟨_, rfl, ?_⟩
    show (lo % 2305843009213688669).toNat = _
    rw [UInt64.toNat_mod, hp]
    have : (0 : UInt64).toNat = 0 := rfl
    rw [this, Nat.zero_mul, Nat.zero_add]
  · rw [dneg hz, lz_okq]
    simp only [cond_false, Option.bind_some]
    have e1 : (iu64 3).toNat = 3 := rfl
    have e2 : ((64 : UInt64) - iu64 3).toNat = 61 := rfl
    have e3 : iu64 3 = 3 := rfl
    have y1 : shl64 2305843009213688669 3 = 18446744073709509352 := rfl
    have y2 : shr64 18446744073709509352 32 = 4294967295 := rfl
    have y3 : (18446744073709509352 : UInt64) &&& 4294967295 = 4294925032 := rfl
    have n2 : ¬ (4294967295 : UInt64) = 0 := by decide
    rw [e1, e2, e3, y1, y2, y3]
    simp only [dneg n2, Bool.not_false, cond_true]
    have hlo := lo.toNat_lt
    have hsl : (shl64 hi 3).toNat = hi.toNat * 8 := by
      show (hi.toBitVec <<< 3).toNat = _
      rw [BitVec.toNat_shiftLeft, Nat.shiftLeft_eq]
      have : hi.toBitVec.toNat = hi.toNat := rfl
      rw [this]
      exact Nat.mod_eq_of_lt (by omega)
    have hsr : (shr64 lo 61).toNat = lo.toNat / 2305843009213693952 := u64shr lo 61
    have hU : (shl64 hi 3 ||| shr64 lo 61).toNat = hi.toNat * 8 + lo.toNat / 2305843009213693952 := by
      rw [UInt64.toNat_or, hsl, hsr, show hi.toNat * 8 = hi.toNat <<< 3 by rw [Nat.shiftLeft_eq], ← Nat.shiftLeft_add_eq_or_of_lt (show lo.toNat / 2305843009213693952 < 2 ^ 3 by omega)]
    have hL : (shl64 lo 3).toNat = lo.toNat * 8 % 18446744073709551616 := by
      show (lo.toBitVec <<< 3).toNat = _
      rw [BitVec.toNat_shiftLeft, Nat.shiftLeft_eq]; rfl
    have hu1 : (shr64 (shl64 lo 3) 32).toNat = lo.toNat * 8 % 18446744073709551616 / 4294967296 := by rw [u64shr, hL]
    have hu0 : (shl64 lo 3 &&& 4294967295).toNat = lo.toNat * 8 % 18446744073709551616 % 4294967296 := by rw [u64lo, hL]
    obtain ⟨r, e, hr⟩ := div_3q N hN (U := shl64 hi 3 ||| shr64 lo 61) (u1 := shr64 (shl64 lo 3) 32) (u0 := shl64 lo 3 &&& 4294967295) (by rw [hU]; omega) (by rw [hu1]; omega) (by rw [hu0]; omega)
    refine ⟨r, e, ?_⟩
    rw [hr, hU, hu1, hu0]
    generalize hi.toNat = H at *
    generalize lo.toNat = L at *
    omega
end Go.Proofs.YtofajgidjkjnpaaDoor.Pl

/- Plain: rules by which a walk over shallow functions is decided; numbers in bytes (wire, ref01). -/
namespace Go.Proofs.YtofajgidjkjnpaaDoor.Pl
open Go
/-- The number of bytes, the highest first. -/
def nbr (l : List UInt8) : UInt64 := l.foldl (fun v x => shl64 v 8 ||| x.toUInt64) 0
theorem nbr_snoc (l : List UInt8) (x : UInt8) : nbr (l ++ [x]) = shl64 (nbr l) 8 ||| x.toUInt64 := by simp [nbr]
theorem nbr_take (l : List UInt8) {i : Nat} (h : i < l.length) : nbr (l.take (i + 1)) = shl64 (nbr (l.take i)) 8 ||| (l.getD i 0).toUInt64 := by
  rw [List.take_add_one, List.getElem?_eq_getElem h]
  simp only [Option.toList_some, nbr_snoc]
  simp [List.getD, h]
theorem wire_number (N : Nat) {b : List UInt8} {at_ w : Int} (hw : 1 ≤ w) (hw8 : w ≤ 8) (h0 : 0 ≤ at_) (hb : at_ + w ≤ (b.length : Int)) (hl : b.length ≤ 70368744177664) (hN : 8 < N) :
    wire_Number N b at_ w = some ((nbr ((b.drop at_.toNat).take w.toNat), true, ()), ()) := by
  obtain ⟨k, rfl⟩ := Int.eq_ofNat_of_zero_le h0
  obtain ⟨m, rfl⟩ := Int.eq_ofNat_of_zero_le (show 0 ≤ w by omega)
  have hs : cut b k (k + m) = (b.drop k).take m := cut_at b k m
  have hlen : ((b.drop k).take m).length = m := by simp; omega
  have e1 : ((k : Int) + (m : Int)).toNat = k + m := by omega
  unfold wire_Number wire_Number_1 wire_Slice wire_Slice_1
  simp (disch := omega) only [dpos, dneg, w64_of, inR_of, room_of, tmod_of, cond_true, cond_false, Bool.and_self, Bool.and_true, Bool.true_and, Bool.and_false, Bool.false_and, Bool.not_true, Bool.not_false, Option.bind_some, List.length_cons, List.length_nil, Nat.zero_add, Int.toNat_natCast, e1, hs]
  generalize (b.drop k).take m = s at hlen
  subst hlen
  unfold wire_Number_2
  refine (loopK_run (fun i : Nat => ((nbr (s.take i), s, (s.length : Int), (i : Int), ()), ())) (n := s.length) ?_ (e := ((nbr s, ()), ())) ?_ (by omega)).trans rfl
  · intro i hi
    show wire_Number_s3 N _ s _ _ = _
    unfold wire_Number_s3
    simp (disch := omega) only [dpos, dneg, w64_of, inR_of, room_of, tmod_of, cond_true, cond_false, Bool.and_self, Bool.and_true, Bool.true_and, Bool.and_false, Bool.false_and, Bool.not_true, Bool.not_false, Option.bind_some, List.length_cons, List.length_nil, Nat.zero_add, Int.toNat_natCast, nbr_take s hi, Int.natCast_add, Int.natCast_one]
  · show wire_Number_s3 N _ s _ _ = _
    unfold wire_Number_s3
    simp (disch := omega) only [dpos, dneg, w64_of, inR_of, room_of, tmod_of, cond_true, cond_false, Bool.and_self, Bool.and_true, Bool.true_and, Bool.and_false, Bool.false_and, Bool.not_true, Bool.not_false, Option.bind_some, List.length_cons, List.length_nil, Nat.zero_add, List.take_length]

theorem ref_number (N : Nat) {b : List UInt8} {at_ w : Int} (hw : 1 ≤ w) (hw8 : w ≤ 8) (h0 : 0 ≤ at_) (hb : at_ + w ≤ (b.length : Int)) (hl : b.length ≤ 70368744177664) (hN : 8 < N) :
    ref01_Number N b at_ w = some ((nbr ((b.drop at_.toNat).take w.toNat), true, ()), ()) := by
  obtain ⟨k, rfl⟩ := Int.eq_ofNat_of_zero_le h0
  obtain ⟨m, rfl⟩ := Int.eq_ofNat_of_zero_le (show 0 ≤ w by omega)
  have hlen : ((b.drop k).take m).length = m := by simp; omega
  unfold ref01_Number ref01_Number_1
  simp (disch := omega) only [dpos, dneg, w64_of, inR_of, room_of, tmod_of, cond_true, cond_false, Bool.and_self, Bool.and_true, Bool.true_and, Bool.and_false, Bool.false_and, Bool.not_true, Bool.not_false, Option.bind_some, List.length_cons, List.length_nil, Nat.zero_add, Int.toNat_natCast]
  unfold ref01_Number_2
  refine (loopK_run (fun i : Nat => ((b, (k : Int), (m : Int), nbr (((b.drop k).take m).take i), ((k + i : Nat) : Int), ()), ())) (n := m) ?_ (e := ((nbr ((b.drop k).take m), ()), ())) ?_ (by omega)).trans rfl
  · intro i hi
    have hg : ((b.drop k).take m).getD i 0 = b.getD (k + i) 0 := by
      simp [List.getD, hi]
    show ref01_Number_s3 N b k m _ _ = _
    unfold ref01_Number_s3
    simp (disch := omega) only [dpos, dneg, w64_of, inR_of, room_of, tmod_of, cond_true, cond_false, Bool.and_self, Bool.and_true, Bool.true_and, Bool.and_false, Bool.false_and, Bool.not_true, Bool.not_false, Option.bind_some, List.length_cons, List.length_nil, Nat.zero_add, Int.toNat_natCast, nbr_take _ (show i < ((b.drop k).take m).length by omega), hg]
    congr 5
  · show ref01_Number_s3 N b k m _ _ = _
    unfold ref01_Number_s3
    simp (disch := omega) only [dpos, dneg, w64_of, inR_of, room_of, tmod_of, cond_true, cond_false, Bool.and_self, Bool.and_true, Bool.true_and, Bool.and_false, Bool.false_and, Bool.not_true, Bool.not_false, Option.bind_some, List.length_cons, List.length_nil, Nat.zero_add]
    rw [List.take_of_length_le (by omega)]

/-- The bytes of a number, the highest first. -/
def be (v : UInt64) : Nat → List UInt8
  | 0 => []
  | k + 1 => (shr64 v (8 * (k : Int)).toNat).toUInt8 :: be v k
theorem be_len (v : UInt64) (k : Nat) : (be v k).length = k := by induction k with | zero => rfl | succ k ih => simp [be, ih]
/-- The first i of w bytes. -/
theorem be_take (v : UInt64) {i w : Nat} (h : i < w) : (be v w).take (i + 1) = (be v w).take i ++ [(shr64 v (8 * ((w : Int) - 1 - (i : Int))).toNat).toUInt8] := by
  induction w generalizing i with
  | zero => omega
  | succ w ih =>
    cases i with
    | zero =>
      simp only [be, List.take_succ_cons, List.take_zero, List.nil_append]
      rw [show ((w + 1 : Nat) : Int) - 1 - ((0 : Nat) : Int) = (w : Int) by omega]
    | succ i =>
      rw [be, List.take_succ_cons, List.take_succ_cons, ih (by omega)]
      rw [show ((w + 1 : Nat) : Int) - 1 - ((i + 1 : Nat) : Int) = (w : Int) - 1 - (i : Int) by omega]
      rfl
theorem wire_put (N : Nat) {v : UInt64} {w : Int} {b : List UInt8} (hw : 1 ≤ w) (hw8 : w ≤ 8) (hl : b.length ≤ 70368744177664) (hN : 8 < N) :
    wire_Put N v w b = some ((), (b ++ be v w.toNat, ())) := by
  obtain ⟨m, rfl⟩ := Int.eq_ofNat_of_zero_le (show 0 ≤ w by omega)
  unfold wire_Put wire_Put_1
  simp (disch := omega) only [dpos, dneg, w64_of, inR_of, room_of, tmod_of, cond_true, cond_false, Bool.and_self, Bool.and_true, Bool.true_and, Bool.and_false, Bool.false_and, Bool.not_true, Bool.not_false, Option.bind_some, List.length_cons, List.length_nil, Nat.zero_add, Int.toNat_natCast]
  unfold wire_Put_2
  have h0 : b = b ++ (be v m).take 0 := by simp
  have := loopK_run (step := fun y => wire_Put_s3 N y.1.1 y.1.2.1 y.2.1) (J := fun (e : ((Unit) × ((List UInt8) × Unit))) => wire_Put_4 N e.2.1) (fun i : Nat => ((v, (m : Int) - 1 - (i : Int), ()), (b ++ (be v m).take i, ()))) (n := m) (e := ((), (b ++ be v m, ()))) ?_ ?_ (show m < N by omega)
  · simp only [Int.natCast_zero, Int.sub_zero, List.take_zero, List.append_nil] at this
    exact this
  · intro i hi
    have hlen := be_len v m
    have hle : ((be v m).take i).length = i := by simp; omega
    show wire_Put_s3 N v _ _ = _
    unfold wire_Put_s3
    simp (disch := omega) only [dpos, dneg, w64_of, inR_of, room_of, tmod_of, cond_true, cond_false, Bool.and_self, Bool.and_true, Bool.true_and, Bool.and_false, Bool.false_and, Bool.not_true, Bool.not_false, Option.bind_some, List.length_cons, List.length_nil, Nat.zero_add, List.length_append, hle]
    rw [be_take v hi, List.append_assoc, show (m : Int) - 1 - (i : Int) - 1 = (m : Int) - 1 - ((i + 1 : Nat) : Int) by omega]
  · show wire_Put_s3 N v _ _ = _
    unfold wire_Put_s3
    simp (disch := omega) only [dpos, dneg, w64_of, inR_of, room_of, tmod_of, cond_true, cond_false, Bool.and_self, Bool.and_true, Bool.true_and, Bool.and_false, Bool.false_and, Bool.not_true, Bool.not_false, Option.bind_some, List.length_cons, List.length_nil, Nat.zero_add]
    rw [List.take_of_length_le (by rw [be_len]; omega)]
theorem ref_put (N : Nat) {v : UInt64} {w : Int} {b : List UInt8} (hw : 1 ≤ w) (hw8 : w ≤ 8) (hl : b.length ≤ 70368744177664) (hN : 8 < N) :
    ref01_Put N b v w = some ((), (b ++ be v w.toNat, ())) := by
  obtain ⟨m, rfl⟩ := Int.eq_ofNat_of_zero_le (show 0 ≤ w by omega)
  unfold ref01_Put ref01_Put_1
  simp (disch := omega) only [dpos, dneg, w64_of, inR_of, room_of, tmod_of, cond_true, cond_false, Bool.and_self, Bool.and_true, Bool.true_and, Bool.and_false, Bool.false_and, Bool.not_true, Bool.not_false, Option.bind_some, List.length_cons, List.length_nil, Nat.zero_add, Int.toNat_natCast, Nat.zero_add]
  unfold ref01_Put_2
  have := loopK_run (step := fun y => ref01_Put_s3 N y.1.1 y.1.2.1 y.2.1) (J := fun (e : ((Unit) × ((List UInt8) × Unit))) => ref01_Put_4 N e.2.1) (fun i : Nat => ((v, (m : Int) - 1 - (i : Int), ()), (b ++ (be v m).take i, ()))) (n := m) (e := ((), (b ++ be v m, ()))) ?_ ?_ (show m < N by omega)
  · simp only [Int.natCast_zero, Int.sub_zero, List.take_zero, List.append_nil] at this
    exact this
  · intro i hi
    have hlen := be_len v m
    have hle : ((be v m).take i).length = i := by simp; omega
    have hu : ∀ x : Int, 0 ≤ x → x < 64 → (iu64 x).toNat = x.toNat := by
      intro x h0 h1
      obtain ⟨n, rfl⟩ := Int.eq_ofNat_of_zero_le h0
      have : n < 64 := by omega
      clear h0 h1 hle hlen hi
      revert n
      decide
    show ref01_Put_s3 N v _ _ = _
    unfold ref01_Put_s3
    simp (disch := omega) only [dpos, dneg, w64_of, inR_of, room_of, tmod_of, cond_true, cond_false, Bool.and_self, Bool.and_true, Bool.true_and, Bool.and_false, Bool.false_and, Bool.not_true, Bool.not_false, Option.bind_some, List.length_cons, List.length_nil, Nat.zero_add, List.length_append, hle, hu]
    rw [be_take v hi, List.append_assoc, show (m : Int) - 1 - (i : Int) - 1 = (m : Int) - 1 - ((i + 1 : Nat) : Int) by omega]
  · show ref01_Put_s3 N v _ _ = _
    unfold ref01_Put_s3
    simp (disch := omega) only [dpos, dneg, w64_of, inR_of, room_of, tmod_of, cond_true, cond_false, Bool.and_self, Bool.and_true, Bool.true_and, Bool.and_false, Bool.false_and, Bool.not_true, Bool.not_false, Option.bind_some, List.length_cons, List.length_nil, Nat.zero_add]
    rw [List.take_of_length_le (by rw [be_len]; omega)]
end Go.Proofs.YtofajgidjkjnpaaDoor.Pl

/- Plain: SHA-256, the program's and the reference's: both are one function of the bytes. -/
namespace Go.Proofs.YtofajgidjkjnpaaDoor.Pl
open Go
noncomputable section
def rotr (x : UInt32) (n : Nat) : UInt32 := shl32 x (32 - n) ||| shr32 x n
theorem right2 (N : Nat) (x : UInt32) : sha256_right N x (2 : Int) = some ((rotr x 2, ()), ()) := by kernel_rfl
theorem right6 (N : Nat) (x : UInt32) : sha256_right N x (6 : Int) = some ((rotr x 6, ()), ()) := by kernel_rfl
theorem right7 (N : Nat) (x : UInt32) : sha256_right N x (7 : Int) = some ((rotr x 7, ()), ()) := by kernel_rfl
theorem right11 (N : Nat) (x : UInt32) : sha256_right N x (11 : Int) = some ((rotr x 11, ()), ()) := by kernel_rfl
theorem right13 (N : Nat) (x : UInt32) : sha256_right N x (13 : Int) = some ((rotr x 13, ()), ()) := by kernel_rfl
theorem right17 (N : Nat) (x : UInt32) : sha256_right N x (17 : Int) = some ((rotr x 17, ()), ()) := by kernel_rfl
theorem right18 (N : Nat) (x : UInt32) : sha256_right N x (18 : Int) = some ((rotr x 18, ()), ()) := by kernel_rfl
theorem right19 (N : Nat) (x : UInt32) : sha256_right N x (19 : Int) = some ((rotr x 19, ()), ()) := by kernel_rfl
theorem right22 (N : Nat) (x : UInt32) : sha256_right N x (22 : Int) = some ((rotr x 22, ()), ()) := by kernel_rfl
theorem right25 (N : Nat) (x : UInt32) : sha256_right N x (25 : Int) = some ((rotr x 25, ()), ()) := by kernel_rfl
theorem turn_of {N : Nat} {x : UInt32} {n : UInt64} {k : Nat} (h : ref08_turn N x n = some ((shr32 x k ||| shl32 x (32 - k), ()), ())) : ref08_turn N x n = some ((rotr x k, ()), ()) := by
  rw [h, UInt32.or_comm]; rfl
theorem turn2 (N : Nat) (x : UInt32) : ref08_turn N x (2 : UInt64) = some ((rotr x 2, ()), ()) := turn_of (by kernel_rfl)
theorem turn6 (N : Nat) (x : UInt32) : ref08_turn N x (6 : UInt64) = some ((rotr x 6, ()), ()) := turn_of (by kernel_rfl)
theorem turn7 (N : Nat) (x : UInt32) : ref08_turn N x (7 : UInt64) = some ((rotr x 7, ()), ()) := turn_of (by kernel_rfl)
theorem turn11 (N : Nat) (x : UInt32) : ref08_turn N x (11 : UInt64) = some ((rotr x 11, ()), ()) := turn_of (by kernel_rfl)
theorem turn13 (N : Nat) (x : UInt32) : ref08_turn N x (13 : UInt64) = some ((rotr x 13, ()), ()) := turn_of (by kernel_rfl)
theorem turn17 (N : Nat) (x : UInt32) : ref08_turn N x (17 : UInt64) = some ((rotr x 17, ()), ()) := turn_of (by kernel_rfl)
theorem turn18 (N : Nat) (x : UInt32) : ref08_turn N x (18 : UInt64) = some ((rotr x 18, ()), ()) := turn_of (by kernel_rfl)
theorem turn19 (N : Nat) (x : UInt32) : ref08_turn N x (19 : UInt64) = some ((rotr x 19, ()), ()) := turn_of (by kernel_rfl)
theorem turn22 (N : Nat) (x : UInt32) : ref08_turn N x (22 : UInt64) = some ((rotr x 22, ()), ()) := turn_of (by kernel_rfl)
theorem turn25 (N : Nat) (x : UInt32) : ref08_turn N x (25 : UInt64) = some ((rotr x 25, ()), ()) := turn_of (by kernel_rfl)

/-- The word t of the schedule. -/
def sst (block : List UInt8) (w : List UInt32) (t : Nat) : UInt32 :=
  if t < 16 then (nbr ((block.drop (4 * (t : Int)).toNat).take (4 : Int).toNat)).toUInt32
  else ((((rotr (w.getD ((t : Int) - 2).toNat 0) 17 ^^^ rotr (w.getD ((t : Int) - 2).toNat 0) 19) ^^^ shr32 (w.getD ((t : Int) - 2).toNat 0) 10) + w.getD ((t : Int) - 7).toNat 0) +
    ((rotr (w.getD ((t : Int) - 15).toNat 0) 7 ^^^ rotr (w.getD ((t : Int) - 15).toNat 0) 18) ^^^ shr32 (w.getD ((t : Int) - 15).toNat 0) 3)) + w.getD ((t : Int) - 16).toNat 0
def sw (block : List UInt8) : Nat → List UInt32
  | 0 => List.replicate 64 0
  | t + 1 => (sw block t).set t (sst block (sw block t) t)
theorem sched (N : Nat) {block : List UInt8} (hb : block.length = 64) (hN : 4611686018427387904 ≤ N) : sha256_schedule N block = some ((sw block 64, ()), ()) := by
  unfold sha256_schedule sha256_schedule_1
  refine (loopK_run (fun t : Nat => ((block, (t : Int), ()), (List.replicate 64 0, sw block t, ()))) (n := 64) ?_ (e := ((), (List.replicate 64 0, sw block 64, ()))) ?_ (by omega)).trans ?_
  · intro t ht
    show sha256_schedule_s2 N block _ _ _ = _
    unfold sha256_schedule_s2
    by_cases h16 : t < 16
    · simp (disch := omega) only [dpos, dneg, w64_of, inR_of, room_of, tmod_of, cond_true, cond_false, Bool.and_self, Bool.and_true, Bool.true_and, Bool.and_false, Bool.false_and, Bool.not_true, Bool.not_false, Option.bind_some, List.length_cons, List.length_nil, Nat.zero_add, wire_number, Int.toNat_natCast, sw, sst, if_pos, Int.natCast_add, Int.natCast_one]
    · simp (disch := omega) only [dpos, dneg, w64_of, inR_of, room_of, tmod_of, cond_true, cond_false, Bool.and_self, Bool.and_true, Bool.true_and, Bool.and_false, Bool.false_and, Bool.not_true, Bool.not_false, Option.bind_some, List.length_cons, List.length_nil, Nat.zero_add, right17, right19, right7, right18, Int.toNat_natCast, sw, sst, if_neg, Int.natCast_add, Int.natCast_one]
  · show sha256_schedule_s2 N block _ _ _ = _
    unfold sha256_schedule_s2
    simp (disch := omega) only [dpos, dneg, w64_of, inR_of, room_of, tmod_of, cond_true, cond_false, Bool.and_self, Bool.and_true, Bool.true_and, Bool.and_false, Bool.false_and, Bool.not_true, Bool.not_false, Option.bind_some, List.length_cons, List.length_nil, Nat.zero_add]
  · simp only [sha256_schedule_3]

/-- A round. -/
def nx (k w : UInt32) : List UInt32 → List UInt32
  | [a, b, c, d, e, f, g, h] => [((((h + ((rotr e 6 ^^^ rotr e 11) ^^^ rotr e 25)) + ((e &&& f) ^^^ ((~~~ e) &&& g))) + k) + w) + (((rotr a 2 ^^^ rotr a 13) ^^^ rotr a 22) + (((a &&& b) ^^^ (a &&& c)) ^^^ (b &&& c))), a, b, c,
      d + ((((h + ((rotr e 6 ^^^ rotr e 11) ^^^ rotr e 25)) + ((e &&& f) ^^^ ((~~~ e) &&& g))) + k) + w), e, f, g]
  | l => l
def rd (w st : List UInt32) : Nat → List UInt32
  | 0 => st
  | t + 1 => nx (g_sha256_constants.getD t 0) (w.getD t 0) (rd w st t)
theorem list8 {α : Type} {l : List α} (h : l.length = 8) : ∃ a b c d e f g i, l = [a, b, c, d, e, f, g, i] := by
  match l, h with
  | [a, b, c, d, e, f, g, i], _ => exact ⟨a, b, c, d, e, f, g, i, rfl⟩
theorem nx_len (k w : UInt32) {l : List UInt32} (h : l.length = 8) : (nx k w l).length = 8 := by
  obtain ⟨a, b, c, d, e, f, g, i, rfl⟩ := list8 h; rfl
theorem rd_len (w : List UInt32) {st : List UInt32} (h : st.length = 8) (t : Nat) : (rd w st t).length = 8 := by
  induction t with
  | zero => exact h
  | succ t ih => exact nx_len _ _ ih
def add8 (l m : List UInt32) : List UInt32 := List.zipWith (· + ·) l m
def blk (st : List UInt32) (block : List UInt8) : List UInt32 := add8 st (rd (sw block 64) st 64)
theorem blk_len {st : List UInt32} (h : st.length = 8) (block : List UInt8) : (blk st block).length = 8 := by
  simp [blk, add8, h, rd_len _ h]
theorem sha_fin (M : Nat) (a b c d e f g h s0 s1 s2 s3 s4 s5 s6 s7 : UInt32) (t : List UInt32) :
    sha256_Block_4 (M + 9) [a, b, c, d, e, f, g, h] 0 [s0, s1, s2, s3, s4, s5, s6, s7] t = some (([s0 + a, s1 + b, s2 + c, s3 + d, s4 + e, s5 + f, s6 + g, s7 + h], true, ()), ()) := by kernel_rfl
theorem ref_fin (M : Nat) (a b c d e f g h s0 s1 s2 s3 s4 s5 s6 s7 : UInt32) (t : List UInt32) :
    ref08_Block_7 (M + 9) 0 [s0, s1, s2, s3, s4, s5, s6, s7] t [a, b, c, d, e, f, g, h] = some (([a + s0, b + s1, c + s2, d + s3, e + s4, f + s5, g + s6, h + s7], true, ()), ()) := by kernel_rfl
theorem sha_block (N : Nat) {st : List UInt32} {block : List UInt8} (hs : st.length = 8) (hb : block.length = 64) (hN : 4611686018427387904 ≤ N) : sha256_Block N st block = some ((blk st block, true, ()), ()) := by
  unfold sha256_Block
  simp (disch := omega) only [dpos, dneg, w64_of, inR_of, room_of, tmod_of, cond_true, cond_false, Bool.and_self, Bool.and_true, Bool.true_and, Bool.and_false, Bool.false_and, Bool.not_true, Bool.not_false, Option.bind_some, List.length_cons, List.length_nil, Nat.zero_add, sched]
  unfold sha256_Block_1
  have h8 := rd_len (sw block 64) hs
  refine (loopK_run (fun t : Nat => (((rd (sw block 64) st t).getD 0 0, (rd (sw block 64) st t).getD 1 0, (rd (sw block 64) st t).getD 2 0, (rd (sw block 64) st t).getD 3 0, (rd (sw block 64) st t).getD 4 0, (rd (sw block 64) st t).getD 5 0, (rd (sw block 64) st t).getD 6 0, (rd (sw block 64) st t).getD 7 0, sw block 64, (t : Int), ()), (st, List.replicate 8 0, ()))) (n := 64) ?_
    (e := (((rd (sw block 64) st 64).getD 0 0, (rd (sw block 64) st 64).getD 1 0, (rd (sw block 64) st 64).getD 2 0, (rd (sw block 64) st 64).getD 3 0, (rd (sw block 64) st 64).getD 4 0, (rd (sw block 64) st 64).getD 5 0, (rd (sw block 64) st 64).getD 6 0, (rd (sw block 64) st 64).getD 7 0, ()), (st, List.replicate 8 0, ()))) ?_ (by omega)).trans ?_
  · intro t ht
    show sha256_Block_s2 N _ _ _ _ _ _ _ _ _ _ _ _ = _
    simp only [rd]
    obtain ⟨a, b, c, d, e, f, g, h, e1⟩ := list8 (h8 t)
    rw [e1]
    unfold sha256_Block_s2
    simp (disch := omega) only [dpos, dneg, w64_of, inR_of, room_of, tmod_of, cond_true, cond_false, Bool.and_self, Bool.and_true, Bool.true_and, Bool.and_false, Bool.false_and, Bool.not_true, Bool.not_false, Option.bind_some, List.length_cons, List.length_nil, Nat.zero_add, right2, right6, right11, right13, right22, right25, Int.toNat_natCast, nx, List.getD_cons_zero, List.getD_cons_succ, Int.natCast_add, Int.natCast_one]
  · show sha256_Block_s2 N _ _ _ _ _ _ _ _ _ _ _ _ = _
    unfold sha256_Block_s2
    simp (disch := omega) only [dpos, dneg, w64_of, inR_of, room_of, tmod_of, cond_true, cond_false, Bool.and_self, Bool.and_true, Bool.true_and, Bool.and_false, Bool.false_and, Bool.not_true, Bool.not_false, Option.bind_some, List.length_cons, List.length_nil, Nat.zero_add]
  · obtain ⟨a, b, c, d, e, f, g, h, e1⟩ := list8 (h8 64)
    obtain ⟨s0, s1, s2, s3, s4, s5, s6, s7, rfl⟩ := list8 hs
    obtain ⟨M, rfl⟩ := Nat.exists_eq_add_of_le' (show 9 ≤ N by omega)
    show sha256_Block_3 _ _ _ _ _ _ _ _ _ _ _ = _
    unfold sha256_Block_3
    simp only [blk, e1, List.getD_cons_zero, List.getD_cons_succ]
    rw [sha_fin]
    rfl
theorem constants_ok (N : Nat) : ref08_constants N = some ((g_sha256_constants, ()), ()) := by kernel_rfl
theorem ref_block (N : Nat) {st : List UInt32} {block : List UInt8} (hs : st.length = 8) (hb : block.length = 64) (hN : 4611686018427387904 ≤ N) : ref08_Block N st block = some ((blk st block, true, ()), ()) := by
  unfold ref08_Block
  simp (disch := omega) only [dpos, dneg, w64_of, inR_of, room_of, tmod_of, cond_true, cond_false, Bool.and_self, Bool.and_true, Bool.true_and, Bool.and_false, Bool.false_and, Bool.not_true, Bool.not_false, Option.bind_some, List.length_cons, List.length_nil, Nat.zero_add]
  unfold ref08_Block_1
  refine (loopK_run (fun t : Nat => ((block, (t : Int), ()), (st, List.replicate 8 0, sw block t, ()))) (n := 64) ?_ (e := ((), (st, List.replicate 8 0, sw block 64, ()))) ?_ (by omega)).trans ?_
  · intro t ht
    show ref08_Block_s2 N block _ _ _ _ = _
    unfold ref08_Block_s2
    by_cases h16 : t < 16
    · simp (disch := omega) only [dpos, dneg, w64_of, inR_of, room_of, tmod_of, cond_true, cond_false, Bool.and_self, Bool.and_true, Bool.true_and, Bool.and_false, Bool.false_and, Bool.not_true, Bool.not_false, Option.bind_some, List.length_cons, List.length_nil, Nat.zero_add, ref_number, Int.toNat_natCast, sw, sst, if_pos, Int.natCast_add, Int.natCast_one]
    · simp (disch := omega) only [dpos, dneg, w64_of, inR_of, room_of, tmod_of, cond_true, cond_false, Bool.and_self, Bool.and_true, Bool.true_and, Bool.and_false, Bool.false_and, Bool.not_true, Bool.not_false, Option.bind_some, List.length_cons, List.length_nil, Nat.zero_add, turn17, turn19, turn7, turn18, Int.toNat_natCast, sw, sst, if_neg, Int.natCast_add, Int.natCast_one]
  · show ref08_Block_s2 N block _ _ _ _ = _
    unfold ref08_Block_s2
    simp (disch := omega) only [dpos, dneg, w64_of, inR_of, room_of, tmod_of, cond_true, cond_false, Bool.and_self, Bool.and_true, Bool.true_and, Bool.and_false, Bool.false_and, Bool.not_true, Bool.not_false, Option.bind_some, List.length_cons, List.length_nil, Nat.zero_add]
  have h8 := rd_len (sw block 64) hs
  revert h8
  generalize hblk : blk st block = out
  unfold blk at hblk
  generalize sw block 64 = ww at hblk
  intro h8
  show ref08_Block_3 N st (List.replicate 8 0) ww = _
  unfold ref08_Block_3
  rw [constants_ok, Option.bind_some]
  unfold ref08_Block_4
  refine (loopK_run (fun t : Nat => (((t : Int), ()), (st, List.replicate 8 0, ww, g_sha256_constants, rd ww st t, ()))) (n := 64) ?_ (e := ((), (st, List.replicate 8 0, rd ww st 64, ()))) ?_ (by omega)).trans ?_
  · intro t ht
    show ref08_Block_s5 N _ _ _ _ _ _ = _
    simp only [rd]
    obtain ⟨a, b, c, d, e, f, g, h, e1⟩ := list8 (h8 t)
    rw [e1]
    unfold ref08_Block_s5
    simp (disch := omega) only [dpos, dneg, w64_of, inR_of, room_of, tmod_of, cond_true, cond_false, Bool.and_self, Bool.and_true, Bool.true_and, Bool.and_false, Bool.false_and, Bool.not_true, Bool.not_false, Option.bind_some, List.length_cons, List.length_nil, Nat.zero_add, turn2, turn6, turn11, turn13, turn22, turn25, Int.toNat_natCast, nx, List.getD_cons_zero, List.getD_cons_succ, Int.natCast_add, Int.natCast_one]
  · show ref08_Block_s5 N _ _ _ _ _ _ = _
    unfold ref08_Block_s5
    simp (disch := omega) only [dpos, dneg, w64_of, inR_of, room_of, tmod_of, cond_true, cond_false, Bool.and_self, Bool.and_true, Bool.true_and, Bool.and_false, Bool.false_and, Bool.not_true, Bool.not_false, Option.bind_some, List.length_cons, List.length_nil, Nat.zero_add]
  · obtain ⟨a, b, c, d, e, f, g, h, e1⟩ := list8 (h8 64)
    obtain ⟨s0, s1, s2, s3, s4, s5, s6, s7, rfl⟩ := list8 hs
    obtain ⟨M, rfl⟩ := Nat.exists_eq_add_of_le' (show 9 ≤ N by omega)
    show ref08_Block_6 _ _ _ _ = _
    unfold ref08_Block_6
    rw [e1] at hblk ⊢
    rw [ref_fin, ← hblk]
    show some (([_, _, _, _, _, _, _, _], true, ()), ()) = some (([_, _, _, _, _, _, _, _], true, ()), ())
    rw [UInt32.add_comm a, UInt32.add_comm b, UInt32.add_comm c, UInt32.add_comm d, UInt32.add_comm e, UInt32.add_comm f, UInt32.add_comm g, UInt32.add_comm h]

/-- What follows a message of n bytes. -/
def pad (n : Nat) : List UInt8 := (128 :: List.replicate ((119 - n % 64) % 64) 0) ++ be (iu64 (n : Int) * 8) 8
theorem pad_len (n : Nat) : (pad n).length = 9 + (119 - n % 64) % 64 := by simp [pad, be_len]; omega
theorem sha_pad (N : Nat) {n : Int} (h0 : 0 ≤ n) (h1 : n ≤ 35184372088832) (hN : 4611686018427387904 ≤ N) : sha256_Pad N n = some ((), (pad n.toNat, ())) := by
  obtain ⟨k, rfl⟩ := Int.eq_ofNat_of_zero_le h0
  unfold sha256_Pad
  simp (disch := omega) only [dpos, dneg, w64_of, inR_of, room_of, tmod_of, cond_true, cond_false, Bool.and_self, Bool.and_true, Bool.true_and, Bool.and_false, Bool.false_and, Bool.not_true, Bool.not_false, Option.bind_some, List.length_cons, List.length_nil, Nat.zero_add]
  unfold sha256_Pad_1
  obtain ⟨z, hz⟩ : ∃ z, z = (119 - k % 64) % 64 := ⟨_, rfl⟩
  have hzN : z < N := by omega
  refine (loopK_run (fun i : Nat => (((k : Int), ()), (128 :: List.replicate i 0, ()))) (n := z) ?_ (e := (((k : Int), ()), (128 :: List.replicate z 0, ()))) ?_ hzN).trans ?_
  · intro i hi
    show sha256_Pad_s2 N _ _ = _
    unfold sha256_Pad_s2
    simp (disch := omega) only [dpos, dneg, w64_of, inR_of, room_of, tmod_of, cond_true, cond_false, Bool.and_self, Bool.and_true, Bool.true_and, Bool.and_false, Bool.false_and, Bool.not_true, Bool.not_false, Option.bind_some, List.length_cons, List.length_nil, Nat.zero_add, List.length_append, List.length_replicate, Int.natCast_add, Int.natCast_one]
    rw [List.cons_append, ← List.replicate_succ']
  · show sha256_Pad_s2 N _ _ = _
    unfold sha256_Pad_s2
    simp (disch := omega) only [dpos, dneg, w64_of, inR_of, room_of, tmod_of, cond_true, cond_false, Bool.and_self, Bool.and_true, Bool.true_and, Bool.and_false, Bool.false_and, Bool.not_true, Bool.not_false, Option.bind_some, List.length_cons, List.length_nil, Nat.zero_add, List.length_append, List.length_replicate, Int.natCast_add, Int.natCast_one]
  · show sha256_Pad_3 N _ _ = _
    unfold sha256_Pad_3
    have hl : ((128 : UInt8) :: List.replicate z 0).length ≤ 70368744177664 := by simp; omega
    simp (disch := omega) only [dpos, dneg, w64_of, inR_of, room_of, tmod_of, cond_true, cond_false, Bool.and_self, Bool.and_true, Bool.true_and, Bool.and_false, Bool.false_and, Bool.not_true, Bool.not_false, Option.bind_some, List.length_cons, List.length_nil, Nat.zero_add, wire_put, pad, Int.toNat_natCast, ← hz]
    rfl
theorem ref_pad (N : Nat) {n : Int} (h0 : 0 ≤ n) (h1 : n ≤ 35184372088832) (hN : 4611686018427387904 ≤ N) : ref08_Pad N n = some ((), (pad n.toNat, ())) := by
  obtain ⟨k, rfl⟩ := Int.eq_ofNat_of_zero_le h0
  unfold ref08_Pad
  simp (disch := omega) only [dpos, dneg, w64_of, inR_of, room_of, tmod_of, cond_true, cond_false, Bool.and_self, Bool.and_true, Bool.true_and, Bool.and_false, Bool.false_and, Bool.not_true, Bool.not_false, Option.bind_some, List.length_cons, List.length_nil, Nat.zero_add]
  unfold ref08_Pad_1
  obtain ⟨z, hz⟩ : ∃ z, z = (119 - k % 64) % 64 := ⟨_, rfl⟩
  have hzN : z < N := by omega
  refine (loopK_run (fun i : Nat => (((k : Int), ()), (128 :: List.replicate i 0, ()))) (n := z) ?_ (e := (((k : Int), ()), (128 :: List.replicate z 0, ()))) ?_ hzN).trans ?_
  · intro i hi
    show ref08_Pad_s2 N _ _ = _
    unfold ref08_Pad_s2
    simp (disch := omega) only [dpos, dneg, w64_of, inR_of, room_of, tmod_of, cond_true, cond_false, Bool.and_self, Bool.and_true, Bool.true_and, Bool.and_false, Bool.false_and, Bool.not_true, Bool.not_false, Option.bind_some, List.length_cons, List.length_nil, Nat.zero_add, List.length_append, List.length_replicate, Int.natCast_add, Int.natCast_one]
    rw [List.cons_append, ← List.replicate_succ']
  · show ref08_Pad_s2 N _ _ = _
    unfold ref08_Pad_s2
    simp (disch := omega) only [dpos, dneg, w64_of, inR_of, room_of, tmod_of, cond_true, cond_false, Bool.and_self, Bool.and_true, Bool.true_and, Bool.and_false, Bool.false_and, Bool.not_true, Bool.not_false, Option.bind_some, List.length_cons, List.length_nil, Nat.zero_add, List.length_append, List.length_replicate, Int.natCast_add, Int.natCast_one]
  · show ref08_Pad_3 N _ _ = _
    unfold ref08_Pad_3
    have hl : ((128 : UInt8) :: List.replicate z 0).length ≤ 70368744177664 := by simp; omega
    simp (disch := omega) only [dpos, dneg, w64_of, inR_of, room_of, tmod_of, cond_true, cond_false, Bool.and_self, Bool.and_true, Bool.true_and, Bool.and_false, Bool.false_and, Bool.not_true, Bool.not_false, Option.bind_some, List.length_cons, List.length_nil, Nat.zero_add, ref_put, pad, Int.toNat_natCast, ← hz]
    rfl

/-- The states behind the blocks of a message. -/
def chain (all : List UInt8) (st : List UInt32) : Nat → List UInt32
  | 0 => st
  | i + 1 => blk (chain all st i) ((all.drop (64 * i)).take 64)
theorem chain_len (all : List UInt8) {st : List UInt32} (h : st.length = 8) (i : Nat) : (chain all st i).length = 8 := by
  induction i with
  | zero => exact h
  | succ i ih => exact blk_len ih _
def out8 (l : List UInt32) : List UInt8 := (l.map fun x => be x.toUInt64 4).flatten
/-- The hash. -/
def sha (b : List UInt8) : List UInt8 := out8 (chain (b ++ pad b.length) g_sha256_initial ((b ++ pad b.length).length / 64))
theorem sha_out (M : Nat) (a b c d e f g h : UInt32) : sha256_Sum_4 (M + 20) [a, b, c, d, e, f, g, h] 0 [] = some ((), (out8 [a, b, c, d, e, f, g, h], ())) := by kernel_rfl
theorem ref_out (M : Nat) (a b c d e f g h : UInt32) : ref08_Sum_4 (M + 20) 0 [a, b, c, d, e, f, g, h] [] = some ((), (out8 [a, b, c, d, e, f, g, h], ())) := by kernel_rfl
theorem out8_len {l : List UInt32} (h : l.length = 8) : (out8 l).length = 32 := by
  obtain ⟨a, b, c, d, e, f, g, h, rfl⟩ := list8 h
  simp [out8, be_len]
theorem sha_len (b : List UInt8) : (sha b).length = 32 := out8_len (chain_len _ rfl _)
theorem all_len (b : List UInt8) : (b ++ pad b.length).length = 64 * ((b ++ pad b.length).length / 64) := by
  rw [List.length_append, pad_len]; omega
theorem sha_sum (N : Nat) {b : List UInt8} (hb : b.length ≤ 35184372088832) (hN : 4611686018427387904 ≤ N) : sha256_Sum N b = some ((), (sha b, ())) := by
  unfold sha256_Sum
  have hp := pad_len b.length
  simp (disch := omega) only [dpos, dneg, w64_of, inR_of, room_of, tmod_of, cond_true, cond_false, Bool.and_self, Bool.and_true, Bool.true_and, Bool.and_false, Bool.false_and, Bool.not_true, Bool.not_false, Option.bind_some, List.length_cons, List.length_nil, Nat.zero_add, sha_pad, Int.toNat_natCast]
  have ha := all_len b
  unfold sha
  have hal : (b ++ pad b.length).length ≤ 35184372088932 := by rw [List.length_append]; omega
  generalize b ++ pad b.length = all at ha hal
  generalize all.length / 64 = n at ha
  have hst : g_sha256_initial.length = 8 := rfl
  generalize g_sha256_initial = st at hst
  unfold sha256_Sum_1
  refine (loopK_run (fun i : Nat => ((all, ((64 * i : Nat) : Int), ()), (chain all st i, ()))) (n := n) ?_ (e := ((), (chain all st n, ()))) ?_ (by omega)).trans ?_
  · intro i hi
    have hc := chain_len all hst i
    have e2 : ((64 * i : Nat) : Int) + 64 = ((64 * (i + 1) : Nat) : Int) := by omega
    have e3 : cut all (64 * i) (64 * (i + 1)) = (all.drop (64 * i)).take 64 := cut_at all (64 * i) 64
    have e4 : ((all.drop (64 * i)).take 64).length = 64 := by simp; omega
    show sha256_Sum_s2 N _ _ _ = _
    unfold sha256_Sum_s2
    simp (disch := omega) only [dpos, dneg, w64_of, inR_of, room_of, tmod_of, cond_true, cond_false, Bool.and_self, Bool.and_true, Bool.true_and, Bool.and_false, Bool.false_and, Bool.not_true, Bool.not_false, Option.bind_some, List.length_cons, List.length_nil, Nat.zero_add, e2, Int.toNat_natCast, e3, sha_block, hc, e4, chain]
  · show sha256_Sum_s2 N _ _ _ = _
    unfold sha256_Sum_s2
    simp (disch := omega) only [dpos, dneg, w64_of, inR_of, room_of, tmod_of, cond_true, cond_false, Bool.and_self, Bool.and_true, Bool.true_and, Bool.and_false, Bool.false_and, Bool.not_true, Bool.not_false, Option.bind_some, List.length_cons, List.length_nil, Nat.zero_add]
  · show sha256_Sum_3 N (chain all st n) = _
    unfold sha256_Sum_3
    obtain ⟨a, b, c, d, e, f, g, h, e1⟩ := list8 (chain_len all hst n)
    obtain ⟨M, rfl⟩ := Nat.exists_eq_add_of_le' (show 20 ≤ N by omega)
    rw [e1, sha_out]
theorem ref_sum (N : Nat) {b : List UInt8} (hb : b.length ≤ 35184372088832) (hN : 4611686018427387904 ≤ N) : ref08_Sum N b = some ((), (sha b, ())) := by
  unfold ref08_Sum
  have hp := pad_len b.length
  simp (disch := omega) only [dpos, dneg, w64_of, inR_of, room_of, tmod_of, cond_true, cond_false, Bool.and_self, Bool.and_true, Bool.true_and, Bool.and_false, Bool.false_and, Bool.not_true, Bool.not_false, Option.bind_some, List.length_cons, List.length_nil, Nat.zero_add, ref_pad, Int.toNat_natCast]
  have ha := all_len b
  unfold sha
  have hal : (b ++ pad b.length).length ≤ 35184372088932 := by rw [List.length_append]; omega
  generalize b ++ pad b.length = all at ha hal
  generalize all.length / 64 = n at ha
  show ref08_Sum_1 N 0 all g_sha256_initial = _
  have hst : g_sha256_initial.length = 8 := rfl
  generalize g_sha256_initial = st at hst
  unfold ref08_Sum_1
  refine (loopK_run (fun i : Nat => ((all, ((64 * i : Nat) : Int), ()), (chain all st i, ()))) (n := n) ?_ (e := ((), (chain all st n, ()))) ?_ (by omega)).trans ?_
  · intro i hi
    have hc := chain_len all hst i
    have e2 : ((64 * i : Nat) : Int) + 64 = ((64 * (i + 1) : Nat) : Int) := by omega
    have e3 : cut all (64 * i) (64 * (i + 1)) = (all.drop (64 * i)).take 64 := cut_at all (64 * i) 64
    have e4 : ((all.drop (64 * i)).take 64).length = 64 := by simp; omega
    show ref08_Sum_s2 N _ _ _ = _
    unfold ref08_Sum_s2
    simp (disch := omega) only [dpos, dneg, w64_of, inR_of, room_of, tmod_of, cond_true, cond_false, Bool.and_self, Bool.and_true, Bool.true_and, Bool.and_false, Bool.false_and, Bool.not_true, Bool.not_false, Option.bind_some, List.length_cons, List.length_nil, Nat.zero_add, e2, Int.toNat_natCast, e3, ref_block, hc, e4, chain]
  · show ref08_Sum_s2 N _ _ _ = _
    unfold ref08_Sum_s2
    simp (disch := omega) only [dpos, dneg, w64_of, inR_of, room_of, tmod_of, cond_true, cond_false, Bool.and_self, Bool.and_true, Bool.true_and, Bool.and_false, Bool.false_and, Bool.not_true, Bool.not_false, Option.bind_some, List.length_cons, List.length_nil, Nat.zero_add]
  · show ref08_Sum_3 N (chain all st n) = _
    unfold ref08_Sum_3
    obtain ⟨a, b, c, d, e, f, g, h, e1⟩ := list8 (chain_len all hst n)
    obtain ⟨M, rfl⟩ := Nat.exists_eq_add_of_le' (show 20 ≤ N by omega)
    rw [e1, ref_out]
end
end Go.Proofs.YtofajgidjkjnpaaDoor.Pl

/- Plain: the reference's comparison of bytes. -/
namespace Go.Proofs.YtofajgidjkjnpaaDoor.Pl
open Go
theorem compare_ok {N : Nat} {a b : List UInt8} (ha : a.length < 4611686018427387904) (hb : b.length < 4611686018427387904) (hN : a.length < N) : ∃ v, ref01_Compare N a b = some ((v, ()), ()) ∧ (v = 0 ↔ a = b) := by
  unfold ref01_Compare ref01_Compare_1
  have := loopK_of (N := N) (step := fun y => ref01_Compare_s2 N y.1.1 y.1.2.1 y.1.2.2.1) (J := fun (e : (((List UInt8) × (List UInt8) × Unit) × (Unit))) => ref01_Compare_4 N e.1.1 e.1.2.1)
    (I := fun y => y.1.1 = a ∧ y.1.2.1 = b ∧ 0 ≤ y.1.2.2.1 ∧ y.1.2.2.1 ≤ (a.length : Int) ∧ y.1.2.2.1 ≤ (b.length : Int) ∧ a.take y.1.2.2.1.toNat = b.take y.1.2.2.1.toNat) (μ := fun y => ((a.length : Int) - y.1.2.2.1).toNat) (T := fun r => ∃ v, r = ((v, ()), ()) ∧ (v = 0 ↔ a = b)) ?_
    (x := ((a, b, 0, ()), ())) ⟨rfl, rfl, by simp, by simp, by simp, by simp⟩ (by simpa using hN)
  · obtain ⟨r, h1, v, rfl, h2⟩ := this
    exact ⟨v, h1, h2⟩
  · rintro ⟨⟨a', b', i, _⟩, _⟩ ⟨h1, h2, h3, h4, h5, h6⟩
    simp only at h1 h2 h3 h4 h5 h6
    subst h1; subst h2
    obtain ⟨k, rfl⟩ := Int.eq_ofNat_of_zero_le h3
    simp only [Int.toNat_natCast] at h6
    have h4' : k ≤ a'.length := by omega
    have h5' : k ≤ b'.length := by omega
    have hend : ¬ (k < a'.length ∧ k < b'.length) → ∃ v, ref01_Compare_4 N a' b' = some ((v, ()), ()) ∧ (v = 0 ↔ a' = b') := by
      intro hne
      unfold ref01_Compare_4
      by_cases e1 : a'.length < b'.length
      · refine ⟨-1, by simp [e1], ⟨fun h => by omega, fun h => by rw [h] at e1; omega⟩⟩
      · by_cases e2 : b'.length < a'.length
        · refine ⟨1, by simp [e1, e2], ⟨fun h => by omega, fun h => by rw [h] at e2; omega⟩⟩
        · refine ⟨0, by simp [e1, e2], ⟨fun _ => ?_, fun _ => rfl⟩⟩
          have hk : k = a'.length := by omega
          have hk2 : k = b'.length := by omega
          rw [List.take_of_length_le (by omega), List.take_of_length_le (by omega)] at h6
          exact h6
    by_cases hlt : k < a'.length ∧ k < b'.length
    · obtain ⟨hl1, hl2⟩ := hlt
      have e1 : w64 ((k : Int) + 1) = (k : Int) + 1 := w64_id (by omega) (by omega)
      have e2 : inR (k : Int) a'.length = true := by simp [inR]; omega
      have e3 : inR (k : Int) b'.length = true := by simp [inR]; omega
      have hlt' : (k : Int) < (a'.length : Int) := by omega
      have hlt2 : (k : Int) < (b'.length : Int) := by omega
      simp only [ref01_Compare_s2, ref01_Compare_3, hlt', hlt2, decide_true, cond_true, e2, e3, e1, Int.toNat_natCast]
      have hga : a'.getD k 0 = a'[k] := by simp [List.getD, hl1]
      have hgb : b'.getD k 0 = b'[k] := by simp [List.getD, hl2]
      by_cases c1 : a'.getD k 0 < b'.getD k 0
      · simp only [c1, decide_true, cond_true]
        refine ⟨_, rfl, -1, rfl, ⟨fun h => by omega, fun h => ?_⟩⟩
        subst h; exact absurd c1 (by simp)
      · by_cases c2 : b'.getD k 0 < a'.getD k 0
        · simp only [c1, c2, decide_true, decide_false, cond_true, cond_false]
          refine ⟨_, rfl, 1, rfl, ⟨fun h => by omega, fun h => ?_⟩⟩
          subst h; exact absurd c2 (by simp)
        · simp only [c1, c2, decide_false, cond_false]
          refine ⟨_, rfl, ⟨rfl, rfl, by simp only; omega, by simp only; omega, by simp only; omega, ?_⟩, by simp only; omega⟩
          have hk1 : ((k : Int) + 1).toNat = k + 1 := by omega
          simp only [hk1]
          rw [List.take_add_one, List.take_add_one, h6]
          congr 1
          have : a'[k] = b'[k] := by
            have := UInt8.le_antisymm (UInt8.not_lt.1 c2) (UInt8.not_lt.1 c1)
            rwa [hga, hgb] at this
          simp [hl1, hl2, this]
    · have hs : ref01_Compare_s2 N a' b' k = some (.br ((a', b', ()), ())) := by
        simp only [ref01_Compare_s2, ref01_Compare_3]
        by_cases q : (k : Int) < (a'.length : Int)
        · have q2 : ¬ (k : Int) < (b'.length : Int) := by omega
          simp only [q, q2, decide_true, decide_false, cond_true, cond_false]
        · simp only [q, decide_false, cond_false]
      refine ⟨_, hs, ?_⟩
      obtain ⟨v, h7, h8⟩ := hend hlt
      exact ⟨_, h7, v, rfl, h8⟩
theorem equal_ok {N : Nat} {a b : List UInt8} (ha : a.length < 4611686018427387904) (hb : b.length < 4611686018427387904) (hN : a.length < N) : ref01_Equal N a b = some ((decide (a = b), ()), ()) := by
  obtain ⟨v, h1, h2⟩ := compare_ok ha hb hN
  unfold ref01_Equal
  rw [h1]
  simp only [Option.bind]
  by_cases h : a = b
  · simp [h, h2.2 h]
  · have : ¬ v = 0 := fun e => h (h2.1 e)
    simp [h, this]
end Go.Proofs.YtofajgidjkjnpaaDoor.Pl

/- Plain: the keyed hash, the program's and the reference's: one function of the bytes. -/
namespace Go.Proofs.YtofajgidjkjnpaaDoor.Pl
open Go
noncomputable section
/-- The key in 64 bytes. -/
def pk64 (k : List UInt8) : List UInt8 := splice (List.replicate 64 0) k
theorem pk64_len (k : List UInt8) (h : k.length ≤ 64) : (pk64 k).length = 64 := by simp [pk64, splice]; omega
def hk (k : List UInt8) : List UInt8 := if 64 < k.length then sha k else k
theorem hk_len (k : List UInt8) : (hk k).length ≤ 64 := by
  unfold hk; split
  · rw [sha_len]; decide
  · omega
def mk (m : UInt8) (k : List UInt8) : List UInt8 := (pk64 k).map (· ^^^ m)
theorem mk_len (m : UInt8) {k : List UInt8} (h : k.length ≤ 64) : (mk m k).length = 64 := by simp [mk, pk64_len k h]
def hmac (k b : List UInt8) : List UInt8 := sha (mk 92 (hk k) ++ sha (mk 54 (hk k) ++ b))
theorem hmac_len (k b : List UInt8) : (hmac k b).length = 32 := sha_len _
theorem hmac_f1 (N : Nat) (m : UInt8) {b t : List UInt8} (ht : t.length = 64) (hb : b.length ≤ 17592186044416) (hN : 4611686018427387904 ≤ N) : prf_Hmac_f1 N m b t = some ((), (sha (t.map (· ^^^ m) ++ b), ())) := by
  unfold prf_Hmac_f1 prf_Hmac_f1_1
  have hl : (t.map (· ^^^ m)).length = 64 := by simp [ht]
  generalize hT : t.map (· ^^^ m) = T at hl
  refine (loopK_run (fun i : Nat => ((m, b, t, (i : Int), ()), (T.take i, ()))) (n := 64) ?_ (e := ((b, ()), (T, ()))) ?_ (by omega)).trans ?_
  · intro i hi
    have hti : (T.take i).length = i := by simp; omega
    have hg : T.getD i 0 = t.getD i 0 ^^^ m := by
      rw [← hT]; simp [List.getD, List.getElem?_eq_getElem (show i < t.length by omega)]
    show prf_Hmac_f1_s2 N m b t _ _ = _
    unfold prf_Hmac_f1_s2
    simp (disch := omega) only [dpos, dneg, w64_of, inR_of, room_of, tmod_of, cond_true, cond_false, Bool.and_self, Bool.and_true, Bool.true_and, Bool.and_false, Bool.false_and, Bool.not_true, Bool.not_false, Option.bind_some, List.length_cons, List.length_nil, Nat.zero_add, Int.toNat_natCast, Int.natCast_add, Int.natCast_one, hti]
    rw [take_snoc T 0 (by omega), hg]
  · show prf_Hmac_f1_s2 N m b t _ _ = _
    unfold prf_Hmac_f1_s2
    simp (disch := omega) only [dpos, dneg, w64_of, inR_of, room_of, tmod_of, cond_true, cond_false, Bool.and_self, Bool.and_true, Bool.true_and, Bool.and_false, Bool.false_and, Bool.not_true, Bool.not_false, Option.bind_some, List.length_cons, List.length_nil, Nat.zero_add, List.take_of_length_le (show T.length ≤ 64 by omega)]
  · show prf_Hmac_f1_3 N b T = _
    unfold prf_Hmac_f1_3
    have ha : (T ++ b).length ≤ 17592186044516 := by rw [List.length_append]; omega
    simp (disch := omega) only [dpos, dneg, w64_of, inR_of, room_of, tmod_of, cond_true, cond_false, Bool.and_self, Bool.and_true, Bool.true_and, Bool.and_false, Bool.false_and, Bool.not_true, Bool.not_false, Option.bind_some, List.length_cons, List.length_nil, Nat.zero_add, sha_sum]
theorem prf_hmac (N : Nat) {k b : List UInt8} (hk' : k.length ≤ 17592186044416) (hb : b.length ≤ 17592186044416) (hN : 4611686018427387904 ≤ N) : prf_Hmac N k b = some ((), (hmac k b, ())) := by
  have h1 : ∀ k : List UInt8, k.length ≤ 64 → prf_Hmac_1 N k b (List.replicate 64 0) = some ((), (sha (mk 92 k ++ sha (mk 54 k ++ b)), ())) := by
    intro k hk
    have hp := pk64_len k hk
    have hs := sha_len (mk 54 k ++ b)
    unfold prf_Hmac_1
    show (prf_Hmac_f1 N 54 b (pk64 k)).bind _ = _
    rw [hmac_f1 N 54 hp hb hN, Option.bind_some]
    show (prf_Hmac_f1 N 92 (sha (mk 54 k ++ b)) (pk64 k)).bind _ = _
    rw [hmac_f1 N 92 hp (by omega) hN, Option.bind_some]
    rfl
  unfold prf_Hmac hmac hk
  by_cases h : (64 : Int) < (k.length : Int)
  · have hs := sha_len k
    simp (disch := omega) only [dpos, dneg, w64_of, inR_of, room_of, tmod_of, cond_true, cond_false, Bool.and_self, Bool.and_true, Bool.true_and, Bool.and_false, Bool.false_and, Bool.not_true, Bool.not_false, Option.bind_some, List.length_cons, List.length_nil, Nat.zero_add, sha_sum, h1, if_pos]
  · simp (disch := omega) only [dpos, dneg, w64_of, inR_of, room_of, tmod_of, cond_true, cond_false, Bool.and_self, Bool.and_true, Bool.true_and, Bool.and_false, Bool.false_and, Bool.not_true, Bool.not_false, Option.bind_some, List.length_cons, List.length_nil, Nat.zero_add, h1, if_neg]
theorem join_ok (N : Nat) {l : List (List UInt8)} (hl : l.length ≤ 1000000) (hf : l.flatten.length ≤ 35184372088832) (hN : 4611686018427387904 ≤ N) : ref09_Join N l = some ((), (l.flatten, ())) := by
  unfold ref09_Join ref09_Join_1
  refine (loopK_run (fun i : Nat => ((l, (i : Int), ()), ((l.take i).flatten, ()))) (n := l.length) ?_ (e := ((), (l.flatten, ()))) ?_ (by omega)).trans rfl
  · intro i hi
    have e : (l.take (i + 1)).flatten = (l.take i).flatten ++ l.getD i [] := by rw [take_snoc l [] hi]; simp
    have h2 : ((l.take (i + 1)).flatten).length ≤ l.flatten.length := by
      have := congrArg (fun x => x.flatten.length) (List.take_append_drop (i + 1) l)
      simp only [List.flatten_append, List.length_append] at this
      omega
    rw [e, List.length_append] at h2
    show ref09_Join_s2 N l _ _ = _
    unfold ref09_Join_s2
    simp (disch := omega) only [dpos, dneg, w64_of, inR_of, room_of, tmod_of, cond_true, cond_false, Bool.and_self, Bool.and_true, Bool.true_and, Bool.and_false, Bool.false_and, Bool.not_true, Bool.not_false, Option.bind_some, List.length_cons, List.length_nil, Nat.zero_add, Int.toNat_natCast, Int.natCast_add, Int.natCast_one, e]
  · show ref09_Join_s2 N l _ _ = _
    unfold ref09_Join_s2
    simp (disch := omega) only [dpos, dneg, w64_of, inR_of, room_of, tmod_of, cond_true, cond_false, Bool.and_self, Bool.and_true, Bool.true_and, Bool.and_false, Bool.false_and, Bool.not_true, Bool.not_false, Option.bind_some, List.length_cons, List.length_nil, Nat.zero_add, List.take_length]
theorem join2 (N : Nat) {a b : List UInt8} (h : a.length + b.length ≤ 35184372088832) (hN : 4611686018427387904 ≤ N) : ref09_Join N [a, b] = some ((), (a ++ b, ())) := by
  rw [join_ok N (by simp) (by simpa using h) hN]; simp
theorem join3 (N : Nat) {a b c : List UInt8} (h : a.length + b.length + c.length ≤ 35184372088832) (hN : 4611686018427387904 ≤ N) : ref09_Join N [a, b, c] = some ((), (a ++ b ++ c, ())) := by
  rw [join_ok N (by simp) (by simp; omega) hN]; simp
theorem join4 (N : Nat) {a b c d : List UInt8} (h : a.length + b.length + c.length + d.length ≤ 35184372088832) (hN : 4611686018427387904 ≤ N) : ref09_Join N [a, b, c, d] = some ((), (a ++ b ++ c ++ d, ())) := by
  rw [join_ok N (by simp) (by simp; omega) hN]; simp
theorem set_mid (A : List UInt8) (x v : UInt8) (B : List UInt8) {i : Nat} (h : A.length = i) : (A ++ x :: B).set i v = A ++ v :: B := by
  subst h; simp
theorem getD_mid (A : List UInt8) (x : UInt8) (B : List UInt8) {i : Nat} (h : A.length = i) : (A ++ x :: B).getD i 0 = x := by
  subst h; simp [List.getD]
theorem pk64_get {k : List UInt8} (h : k.length ≤ 64) {i : Nat} (hi : i < 64) : (pk64 k).getD i 0 = if i < k.length then k.getD i 0 else 0 := by
  have e : pk64 k = k ++ List.replicate (64 - k.length) 0 := by
    unfold pk64 splice
    rw [List.take_of_length_le (by rw [List.length_replicate]; exact h), List.drop_replicate]
  rw [e]
  split
  · simp [List.getD, List.getElem?_append_left ‹_›]
  · simp only [List.getD, List.getElem?_append_right (by omega : k.length ≤ i)]
    rw [List.getElem?_replicate]
    split <;> rfl
theorem mask_ok1 (N : Nat) {k : List UInt8} (m : UInt8) (h : k.length ≤ 64) (hN : 4611686018427387904 ≤ N) : ref09_mask_1 N k m = some ((), (mk m k, ())) := by
  unfold ref09_mask_1 ref09_mask_2
  have hl := mk_len m h
  have hg : ∀ i, i < 64 → (mk m k).getD i 0 = if i < k.length then m ^^^ k.getD i 0 else m := by
    intro i hi
    have : (mk m k).getD i 0 = (pk64 k).getD i 0 ^^^ m := by
      unfold mk; simp [List.getD, List.getElem?_eq_getElem (show i < (pk64 k).length by rw [pk64_len k h]; exact hi)]
    rw [this, pk64_get h hi]
    split
    · exact UInt8.xor_comm ..
    · simp
  generalize mk m k = T at hl hg
  have h64N : 64 < N := by omega
  refine (loopK_run (fun i : Nat => ((k, m, (i : Int), ()), (T.take i ++ List.replicate (64 - i) 0, ()))) (n := 64) ?_ (e := ((), (T, ()))) ?_ h64N).trans rfl
  · intro i hi
    have hti : (T.take i).length = i := by simp; omega
    have hr : List.replicate (64 - i) (0 : UInt8) = 0 :: List.replicate (64 - (i + 1)) 0 := by rw [show 64 - i = (64 - (i + 1)) + 1 by omega, List.replicate_succ]
    show ref09_mask_s3 N k m _ _ = _
    unfold ref09_mask_s3
    have h64 : (T.take i ++ m :: List.replicate (64 - (i + 1)) 0).length = 64 := by simp; omega
    have h64' : (T.take i ++ (0 : UInt8) :: List.replicate (64 - (i + 1)) 0).length = 64 := by simp; omega
    rw [take_snoc T 0 (by omega), hg i hi, hr]
    simp only [Int.toNat_natCast, set_mid _ _ _ _ hti, getD_mid _ _ _ hti]
    by_cases hik : i < k.length
    · simp (disch := omega) only [dpos, dneg, w64_of, inR_of, room_of, tmod_of, cond_true, cond_false, Bool.and_self, Bool.and_true, Bool.true_and, Bool.and_false, Bool.false_and, Bool.not_true, Bool.not_false, Option.bind_some, List.length_cons, List.length_nil, Nat.zero_add, Int.natCast_add, Int.natCast_one, h64, h64', if_pos, List.append_assoc, List.cons_append, List.nil_append]
    · simp (disch := omega) only [dpos, dneg, w64_of, inR_of, room_of, tmod_of, cond_true, cond_false, Bool.and_self, Bool.and_true, Bool.true_and, Bool.and_false, Bool.false_and, Bool.not_true, Bool.not_false, Option.bind_some, List.length_cons, List.length_nil, Nat.zero_add, Int.natCast_add, Int.natCast_one, h64, h64', if_neg, List.append_assoc, List.cons_append, List.nil_append]
  · show ref09_mask_s3 N k m _ _ = _
    unfold ref09_mask_s3
    simp (disch := omega) only [dpos, dneg, w64_of, inR_of, room_of, tmod_of, cond_true, cond_false, Bool.and_self, Bool.and_true, Bool.true_and, Bool.and_false, Bool.false_and, Bool.not_true, Bool.not_false, Option.bind_some, List.length_cons, List.length_nil, Nat.zero_add, List.take_of_length_le (show T.length ≤ 64 by omega)]
    simp
theorem mask_ok (N : Nat) {k : List UInt8} (m : UInt8) (h : k.length ≤ 17592186044416) (hN : 4611686018427387904 ≤ N) : ref09_mask N k m = some ((), (mk m (hk k), ())) := by
  unfold ref09_mask hk
  by_cases h64 : (64 : Int) < (k.length : Int)
  · have hs := sha_len k
    simp (disch := omega) only [dpos, dneg, w64_of, inR_of, room_of, tmod_of, cond_true, cond_false, Bool.and_self, Bool.and_true, Bool.true_and, Bool.and_false, Bool.false_and, Bool.not_true, Bool.not_false, Option.bind_some, List.length_cons, List.length_nil, Nat.zero_add, ref_sum, mask_ok1, if_pos]
  · simp (disch := omega) only [dpos, dneg, w64_of, inR_of, room_of, tmod_of, cond_true, cond_false, Bool.and_self, Bool.and_true, Bool.true_and, Bool.and_false, Bool.false_and, Bool.not_true, Bool.not_false, Option.bind_some, List.length_cons, List.length_nil, Nat.zero_add, mask_ok1, if_neg]
theorem ref_hmac (N : Nat) {k b : List UInt8} (hk' : k.length ≤ 17592186044416) (hb : b.length ≤ 17592186044416) (hN : 4611686018427387904 ≤ N) : ref09_Hmac N k b = some ((), (hmac k b, ())) := by
  have h1 := mk_len 92 (hk_len k)
  have h2 := mk_len 54 (hk_len k)
  have h5 : (mk 54 (hk k) ++ b).length ≤ 17592186044516 := by simp; omega
  have h6 := sha_len (mk 54 (hk k) ++ b)
  have h7 : (mk 92 (hk k) ++ sha (mk 54 (hk k) ++ b)).length ≤ 17592186044516 := by rw [List.length_append]; omega
  unfold ref09_Hmac hmac
  simp (disch := omega) only [dpos, dneg, w64_of, inR_of, room_of, tmod_of, cond_true, cond_false, Bool.and_self, Bool.and_true, Bool.true_and, Bool.and_false, Bool.false_and, Bool.not_true, Bool.not_false, Option.bind_some, List.length_cons, List.length_nil, Nat.zero_add, mask_ok, join2, ref_sum]
end
end Go.Proofs.YtofajgidjkjnpaaDoor.Pl

/- Plain: numbers and their bytes. -/
namespace Go.Proofs.YtofajgidjkjnpaaDoor.Pl
open Go
def bnat (l : List UInt8) : Nat := l.foldl (fun v x => v * 256 + x.toNat) 0
theorem bnat_snoc (l : List UInt8) (x : UInt8) : bnat (l ++ [x]) = bnat l * 256 + x.toNat := by simp [bnat]
theorem snoc_cases {α : Type} {l : List α} {n : Nat} (h : l.length = n + 1) : ∃ l' x, l = l' ++ [x] ∧ l'.length = n :=
  ⟨l.dropLast, l.getLast (by intro e; subst e; simp at h), (List.dropLast_concat_getLast _).symm, by simp [h]⟩
theorem bnat_lt : ∀ {n : Nat} {l : List UInt8}, l.length = n → bnat l < 256 ^ n
  | 0, l, h => by obtain rfl := List.length_eq_zero_iff.1 h; simp [bnat]
  | n + 1, l, h => by
    obtain ⟨l', x, rfl, h'⟩ := snoc_cases h
    have := bnat_lt h'
    have hx := x.toNat_lt
    rw [bnat_snoc, Nat.pow_succ]; omega
theorem shl_or (v : UInt64) (x : UInt8) (h : v.toNat < 72057594037927936) : (shl64 v 8 ||| x.toUInt64).toNat = v.toNat * 256 + x.toNat := by
  have hx := x.toNat_lt
  rw [UInt64.toNat_or]
  have e : (shl64 v 8).toNat = v.toNat <<< 8 := by
    show (v.toBitVec <<< 8).toNat = _
    rw [BitVec.toNat_shiftLeft, UInt64.toNat_toBitVec, Nat.shiftLeft_eq]
    omega
  rw [e, UInt8.toNat_toUInt64, ← Nat.shiftLeft_add_eq_or_of_lt (b := x.toNat) (i := 8) (by omega), Nat.shiftLeft_eq]
theorem nbr_nat : ∀ {n : Nat} {l : List UInt8}, l.length = n → n ≤ 8 → (nbr l).toNat = bnat l
  | 0, l, h, _ => by obtain rfl := List.length_eq_zero_iff.1 h; rfl
  | n + 1, l, h, hn => by
    obtain ⟨l', x, rfl, h'⟩ := snoc_cases h
    have ih := nbr_nat h' (by omega)
    have hl := bnat_lt h'
    have hp : 256 ^ n ≤ 256 ^ 7 := Nat.pow_le_pow_right (by decide) (by omega)
    rw [nbr_snoc, shl_or _ _ (by rw [ih]; omega), bnat_snoc, ih]
theorem shr_nat (v : UInt64) (n : Nat) : (shr64 v n).toNat = v.toNat / 2 ^ n := by
  show (v.toBitVec >>> n).toNat = _
  rw [BitVec.toNat_ushiftRight, Nat.shiftRight_eq_div_pow]; rfl
theorem be_snoc (v : UInt64) : ∀ k : Nat, be v (k + 1) = be (shr64 v 8) k ++ [v.toUInt8]
  | 0 => by
    show [(shr64 v (8 * ((0 : Nat) : Int)).toNat).toUInt8] = [v.toUInt8]
    have : shr64 v (8 * ((0 : Nat) : Int)).toNat = v := UInt64.toNat_inj.1 (by rw [shr_nat]; simp)
    rw [this]
  | k + 1 => by
    rw [be, be_snoc v k, be, List.cons_append]
    congr 2
    apply UInt64.toNat_inj.1
    rw [shr_nat, shr_nat, shr_nat, Nat.div_div_eq_div_mul, ← Nat.pow_add, show (8 * ((k + 1 : Nat) : Int)).toNat = 8 + (8 * (k : Int)).toNat by omega]
theorem bnat_be : ∀ (k : Nat) (v : UInt64), bnat (be v k) = v.toNat % 256 ^ k
  | 0, v => by simp [be, bnat, Nat.mod_one]
  | k + 1, v => by
    have e : v.toNat % 256 ^ (k + 1) = v.toNat % 256 + 256 * (v.toNat / 256 % 256 ^ k) := by rw [Nat.pow_succ, Nat.mul_comm (256 ^ k) 256, Nat.mod_mul]
    rw [be_snoc, bnat_snoc, bnat_be k, shr_nat, UInt64.toNat_toUInt8, e]
    have e2 : (2 : Nat) ^ 8 = 256 := rfl
    rw [e2]
    omega
theorem nbr_be' {k : Nat} (hk : k ≤ 8) (v : UInt64) (hv : v.toNat < 256 ^ k) : nbr (be v k) = v := by
  apply UInt64.toNat_inj.1
  rw [nbr_nat (be_len v k) hk, bnat_be, Nat.mod_eq_of_lt hv]
theorem bnat_inj : ∀ {n : Nat} {l m : List UInt8}, l.length = n → m.length = n → bnat l = bnat m → l = m
  | 0, l, m, h, h', _ => by rw [List.length_eq_zero_iff.1 h, List.length_eq_zero_iff.1 h']
  | n + 1, l, m, h, h', e => by
    obtain ⟨l', x, rfl, hl⟩ := snoc_cases h
    obtain ⟨m', y, rfl, hm⟩ := snoc_cases h'
    rw [bnat_snoc, bnat_snoc] at e
    have hx := x.toNat_lt; have hy := y.toNat_lt
    rw [bnat_inj hl hm (by omega), UInt8.toNat_inj.1 (show x.toNat = y.toNat by omega)]
theorem be_nbr {k : Nat} (hk : k ≤ 8) {l : List UInt8} (h : l.length = k) : be (nbr l) k = l := by
  apply bnat_inj (be_len _ k) h
  have hl := bnat_lt h
  rw [bnat_be, nbr_nat h hk, Nat.mod_eq_of_lt hl]
theorem nbr_lt {k : Nat} (hk : k ≤ 8) {l : List UInt8} (h : l.length = k) : (nbr l).toNat < 256 ^ k := by
  rw [nbr_nat h hk]; exact bnat_lt h
theorem u32_64 (v : UInt64) (h : v.toNat < 4294967296) : v.toUInt32.toUInt64 = v := by
  apply UInt64.toNat_inj.1
  rw [UInt32.toNat_toUInt64, UInt64.toNat_toUInt32]; omega
end Go.Proofs.YtofajgidjkjnpaaDoor.Pl

/- Plain: loops that look for the first place where a test holds. -/
namespace Go.Proofs.YtofajgidjkjnpaaDoor.Pl
open Go
/-- The first number below n, from k on, at which a test holds. -/
def firstAt (q : Nat → Bool) (k : Nat) : Nat → Option Nat
  | 0 => none
  | n + 1 => if q k = true then some k else firstAt q (k + 1) n
theorem firstAt_none {q : Nat → Bool} : ∀ {n k : Nat}, firstAt q k n = none ↔ ∀ i, k ≤ i → i < k + n → q i = false
  | 0, k => ⟨fun _ i h h' => by omega, fun _ => rfl⟩
  | n + 1, k => by
    unfold firstAt
    by_cases h : q k = true
    · rw [if_pos h]
      constructor
      · intro h'; cases h'
      · intro h'; rw [h' k (by omega) (by omega)] at h; cases h
    · rw [if_neg h, firstAt_none]
      constructor
      · intro h' i h1 h2
        by_cases e : i = k
        · subst e; simpa using h
        · exact h' i (by omega) (by omega)
      · intro h' i h1 h2; exact h' i (by omega) (by omega)
theorem firstAt_some {q : Nat → Bool} : ∀ {n k i : Nat}, firstAt q k n = some i ↔ (k ≤ i ∧ i < k + n ∧ q i = true ∧ ∀ j, k ≤ j → j < i → q j = false)
  | 0, k, i => ⟨fun h => (by cases h), fun ⟨h1, h2, _⟩ => by omega⟩
  | n + 1, k, i => by
    unfold firstAt
    by_cases h : q k = true
    · rw [if_pos h]
      constructor
      · intro e; cases e; exact ⟨by omega, by omega, h, fun j h1 h2 => by omega⟩
      · rintro ⟨h1, h2, h3, h4⟩
        by_cases e : k = i
        · rw [e]
        · have := h4 k (by omega) (by omega); rw [this] at h; cases h
    · rw [if_neg h, firstAt_some]
      constructor
      · rintro ⟨h1, h2, h3, h4⟩
        refine ⟨by omega, by omega, h3, fun j h5 h6 => ?_⟩
        by_cases e : j = k
        · subst e; simpa using h
        · exact h4 j (by omega) h6
      · rintro ⟨h1, h2, h3, h4⟩
        have : k ≠ i := fun e => h (e ▸ h3)
        exact ⟨by omega, by omega, h3, fun j h5 h6 => h4 j (by omega) h6⟩
theorem firstAt_congr {q q' : Nat → Bool} : ∀ {n k : Nat}, (∀ i, k ≤ i → i < k + n → q i = q' i) → firstAt q k n = firstAt q' k n
  | 0, k, _ => rfl
  | n + 1, k, h => by
    unfold firstAt
    rw [h k (by omega) (by omega), firstAt_congr fun i h1 h2 => h i (by omega) (by omega)]
/-- A loop that ends where a test holds first. -/
theorem loopK_find {S E R : Type} {step : S → Option (Lo S E R)} {J : E → Option R} (xs : Nat → S) (q : Nat → Bool) (r : Nat → R) {n : Nat} {e : E}
    (h : ∀ i, i < n → q i = false → step (xs i) = some (.go (xs (i + 1)))) (h' : ∀ i, i < n → q i = true → step (xs i) = some (.rt (r i))) (hb : step (xs n) = some (.br e)) {N : Nat} (hN : n < N) :
    loopK N step J (xs 0) = match firstAt q 0 n with
      | none => J e
      | some i => some (r i) := by
  suffices H : ∀ m k, k + m = n → ∀ M, m < M → loopK M step J (xs k) = match firstAt q k m with
      | none => J e
      | some i => some (r i) from H n 0 (by omega) N hN
  intro m
  induction m with
  | zero =>
    intro k hk M hM
    obtain ⟨M, rfl⟩ : ∃ m, M = m + 1 := ⟨M - 1, by omega⟩
    have : k = n := by omega
    subst this
    rw [loopK_succ, hb]; rfl
  | succ m ih =>
    intro k hk M hM
    obtain ⟨M, rfl⟩ : ∃ m, M = m + 1 := ⟨M - 1, by omega⟩
    unfold firstAt
    cases hq : q k with
    | true => rw [loopK_succ, h' k (by omega) hq, if_pos rfl]; rfl
    | false =>
      rw [loopK_succ, h k (by omega) hq, if_neg (by decide)]
      exact ih (k + 1) (by omega) M (by omega)
/-- Tests up to n that all hold. -/
def allB (q : Nat → Bool) (n : Nat) : Bool := (firstAt (fun i => !(q i)) 0 n).isNone
theorem allB_iff {q : Nat → Bool} {n : Nat} : allB q n = true ↔ ∀ i, i < n → q i = true := by
  unfold allB
  rw [Option.isNone_iff_eq_none, firstAt_none]
  constructor
  · intro h i hi; have := h i (by omega) (by omega); simpa using this
  · intro h i h1 h2; rw [h i (by omega)]; rfl
/-- A loop that ends with one answer as soon as a test fails. -/
theorem loopK_all {S E R : Type} {step : S → Option (Lo S E R)} {J : E → Option R} (xs : Nat → S) (q : Nat → Bool) (r : R) {n : Nat} {e : E}
    (h : ∀ i, i < n → q i = true → step (xs i) = some (.go (xs (i + 1)))) (h' : ∀ i, i < n → q i = false → step (xs i) = some (.rt r)) (hb : step (xs n) = some (.br e)) {N : Nat} (hN : n < N) :
    loopK N step J (xs 0) = if allB q n = true then J e else some r := by
  rw [loopK_find (step := step) (J := J) xs (fun i => !(q i)) (fun _ => r) (fun i hi hq => h i hi (by simpa using hq)) (fun i hi hq => h' i hi (by simpa using hq)) hb hN]
  unfold allB
  cases firstAt (fun i => !(q i)) 0 n <;> simp
end Go.Proofs.YtofajgidjkjnpaaDoor.Pl

/- Plain: signatures (schnorr and the document's, ref13, ref15): what both compute. -/
namespace Go.Proofs.YtofajgidjkjnpaaDoor.Pl
open Go
def pm (a b : UInt64) : UInt64 := UInt64.ofNat (a.toNat * b.toNat % 4611686018427377339)
def pw (a e : UInt64) : UInt64 := UInt64.ofNat (a.toNat ^ e.toNat % 4611686018427377339)
theorem ofN {n : Nat} (h : n < 18446744073709551616) : (UInt64.ofNat n).toNat = n := by
  rw [UInt64.toNat_ofNat']; exact Nat.mod_eq_of_lt h
theorem ofN_p (n : Nat) : (UInt64.ofNat (n % 4611686018427377339)).toNat = n % 4611686018427377339 := ofN (by have := Nat.mod_lt n (show 0 < 4611686018427377339 by decide); omega)
theorem pm_nat (a b : UInt64) : (pm a b).toNat = a.toNat * b.toNat % 4611686018427377339 := ofN_p _
theorem pw_nat (a e : UInt64) : (pw a e).toNat = a.toNat ^ e.toNat % 4611686018427377339 := ofN_p _
section
variable (N : Nat) (hN : 4611686018427387904 ≤ N)
include hN
theorem gmul_p (a b : UInt64) : group_Mul N a b = some ((pm a b, ()), ()) := by
  obtain ⟨r, e, h⟩ := gmul_ok N hN a b
  rw [e, show r = pm a b from UInt64.toNat_inj.1 (by rw [h, pm_nat])]
theorem gpow_p (a e : UInt64) : group_Power N a e = some ((pw a e, ()), ()) := by
  obtain ⟨r, e', h⟩ := gpow_ok N hN a e
  rw [e', show r = pw a e from UInt64.toNat_inj.1 (by rw [h, pw_nat])]
omit hN in
theorem iu64N {k : Nat} (h : k < 18446744073709551616) : (iu64 (k : Int)).toNat = k := by
  show (BitVec.ofInt 64 (k : Int)).toNat = _
  rw [BitVec.toNat_ofInt]; omega
theorem rmul_p (a b : UInt64) : ref13_Mul N a b = some ((pm a b, ()), ()) := by
  have hp : (4611686018427377339 : UInt64).toNat = 4611686018427377339 := rfl
  unfold ref13_Mul ref13_Mul_1
  have hA0 : (a % 4611686018427377339).toNat = a.toNat % 4611686018427377339 := by rw [UInt64.toNat_mod, hp]
  have hB0 : (b % 4611686018427377339).toNat = b.toNat % 4611686018427377339 := by rw [UInt64.toNat_mod, hp]
  have hBl : (b % 4611686018427377339).toNat < 4611686018427387904 := by rw [hB0]; omega
  generalize hb' : b % 4611686018427377339 = B at *
  have := loopK_run (step := fun y => ref13_Mul_s2 N y.1.1 y.1.2.1 y.1.2.2.1 y.1.2.2.2.1) (J := fun (e : ((UInt64 × Unit) × (Unit))) => ref13_Mul_3 N e.1.1)
    (fun i : Nat => ((UInt64.ofNat (2 ^ i * (a.toNat % 4611686018427377339) % 4611686018427377339), B, UInt64.ofNat ((a.toNat % 4611686018427377339) * (B.toNat % 2 ^ i) % 4611686018427377339), (i : Int), ()), ())) (n := 62) (e := ((pm a b, ()), ())) ?_ ?_ (show 62 < N by omega)
  · have e0 : UInt64.ofNat (2 ^ 0 * (a.toNat % 4611686018427377339) % 4611686018427377339) = a % 4611686018427377339 := UInt64.toNat_inj.1 (by rw [ofN_p, hA0]; omega)
    have e1 : UInt64.ofNat ((a.toNat % 4611686018427377339) * (B.toNat % 2 ^ 0) % 4611686018427377339) = 0 := by rw [Nat.pow_zero, Nat.mod_one, Nat.mul_zero]; rfl
    rw [e0, e1] at this
    exact this
  · intro i hi
    show ref13_Mul_s2 N (UInt64.ofNat (2 ^ i * (a.toNat % 4611686018427377339) % 4611686018427377339)) B (UInt64.ofNat ((a.toNat % 4611686018427377339) * (B.toNat % 2 ^ i) % 4611686018427377339)) (i : Int) = _
    unfold ref13_Mul_s2
    have hA := ofN_p (2 ^ i * (a.toNat % 4611686018427377339))
    have hO := ofN_p ((a.toNat % 4611686018427377339) * (B.toNat % 2 ^ i))
    generalize hAA : UInt64.ofNat (2 ^ i * (a.toNat % 4611686018427377339) % 4611686018427377339) = A at *
    generalize hOO : UInt64.ofNat ((a.toNat % 4611686018427377339) * (B.toNat % 2 ^ i) % 4611686018427377339) = O at *
    have hAl := Nat.mod_lt (2 ^ i * (a.toNat % 4611686018427377339)) (show 0 < 4611686018427377339 by decide)
    have hOl := Nat.mod_lt ((a.toNat % 4611686018427377339) * (B.toNat % 2 ^ i)) (show 0 < 4611686018427377339 by decide)
    have h2A : (2 * A % 4611686018427377339 : UInt64) = UInt64.ofNat (2 ^ (i + 1) * (a.toNat % 4611686018427377339) % 4611686018427377339) := by
      apply UInt64.toNat_inj.1
      rw [ofN_p, UInt64.toNat_mod, hp, u64mul (by show 2 * A.toNat < _; omega)]
      show 2 * A.toNat % _ = _
      rw [hA, Nat.mul_mod_mod, Nat.pow_succ, ← Nat.mul_assoc, Nat.mul_comm 2]
    have hbit : (shr64 B (iu64 (i : Int)).toNat &&& 1).toNat = B.toNat / 2 ^ i % 2 := by
      rw [UInt64.toNat_and, u64shr, iu64N (by omega)]
      exact Nat.and_two_pow_sub_one_eq_mod _ 1
    have hs : B.toNat % 2 ^ (i + 1) = B.toNat % 2 ^ i + 2 ^ i * (B.toNat / 2 ^ i % 2) := Nat.mod_pow_succ
    rw [dpos (show ((i : Nat) : Int) < 62 by omega), h2A, w64_of (by omega) (by omega)]
    by_cases hb : shr64 B (iu64 (i : Int)).toNat &&& 1 = 1
    · have h1 : B.toNat / 2 ^ i % 2 = 1 := by rw [← hbit, hb]; rfl
      rw [dpos hb]
      have hOA : (O + A) % 4611686018427377339 = UInt64.ofNat ((a.toNat % 4611686018427377339) * (B.toNat % 2 ^ (i + 1)) % 4611686018427377339) := by
        apply UInt64.toNat_inj.1
        rw [ofN_p, UInt64.toNat_mod, hp, u64add (by omega), hO, hA, ← Nat.add_mod, hs, h1, Nat.mul_one, Nat.mul_add, Nat.mul_comm (2 ^ i)]
      rw [hOA]
      rfl
    · have h0 : B.toNat / 2 ^ i % 2 = 0 := by
        rcases (by omega : B.toNat / 2 ^ i % 2 = 0 ∨ B.toNat / 2 ^ i % 2 = 1) with h | h
        · exact h
        · exact absurd (UInt64.toNat_inj.1 (by rw [hbit, h]; rfl)) hb
      rw [dneg hb, hs, h0, Nat.mul_zero, Nat.add_zero, ← hOO]
      rfl
  · show ref13_Mul_s2 N _ _ _ _ = _
    unfold ref13_Mul_s2
    have e : UInt64.ofNat ((a.toNat % 4611686018427377339) * (B.toNat % 2 ^ 62) % 4611686018427377339) = pm a b := by
      apply UInt64.toNat_inj.1
      rw [ofN_p, pm_nat, Nat.mod_eq_of_lt (show B.toNat < 2 ^ 62 from hBl), hB0, ← Nat.mul_mod]
    rw [e]
    rfl
theorem rmul_ok (a b : UInt64) : ∃ r, ref13_Mul N a b = some ((r, ()), ()) ∧ r.toNat = a.toNat * b.toNat % 4611686018427377339 := ⟨_, rmul_p N hN a b, pm_nat a b⟩
theorem rpow_ok (a e : UInt64) : ∃ r, ref13_Power N a e = some ((r, ()), ()) ∧ r.toNat = a.toNat ^ e.toNat % 4611686018427377339 := by
  unfold ref13_Power ref13_Power_1
  have := loopK_of (N := N) (step := fun y => ref13_Power_s2 N y.1.1 y.1.2.1 y.1.2.2.1) (J := fun (e : ((UInt64 × Unit) × (Unit))) => ref13_Power_3 N e.1.1)
    (I := fun y => y.1.2.2.1.toNat * y.1.1.toNat ^ y.1.2.1.toNat % 4611686018427377339 = (a % 4611686018427377339).toNat ^ e.toNat % 4611686018427377339 ∧ y.1.2.2.1.toNat < 4611686018427377339 ∧ y.1.2.1.toNat < 2 ^ 64 ) (μ := fun y => y.1.2.1.toNat.log2 + (if y.1.2.1.toNat = 0 then 0 else 1)) (T := fun r => ∃ v, r = ((v, ()), ()) ∧ v.toNat = (a % 4611686018427377339).toNat ^ e.toNat % 4611686018427377339) ?_
    (x := ((a % 4611686018427377339, e, 1, ()), ())) ⟨by show 1 * _ % _ = _; rw [Nat.one_mul], by show (1 : UInt64).toNat < _; decide, e.toNat_lt⟩ (by
      simp only
      have : e.toNat.log2 < 64 := by
        by_cases h : e.toNat = 0
        · rw [h]; decide
        · exact (Nat.log2_lt h).2 e.toNat_lt
      split <;> omega)
  · obtain ⟨r, h1, v, rfl, h2⟩ := this
    exact ⟨v, h1, by rw [h2, UInt64.toNat_mod]; exact (Nat.pow_mod _ _ _).symm⟩
  · rintro ⟨⟨x, k, r, _⟩, _⟩ ⟨h1, h2, h3⟩
    simp only at h1 h2 h3
    show ∃ o, ref13_Power_s2 N x k r = some o ∧ _
    unfold ref13_Power_s2
    have z : (0 : UInt64).toNat = 0 := rfl
    have o1 : (1 : UInt64).toNat = 1 := rfl
    by_cases hk : (0 : UInt64) < k
    · have hk' : 0 < k.toNat := by rw [UInt64.lt_iff_toNat_lt, z] at hk; exact hk
      obtain ⟨x2, ex, hx2⟩ := rmul_ok N hN x x
      obtain ⟨rx, er, hrx⟩ := rmul_ok N hN r x
      have hs : (shr64 k 1).toNat = k.toNat / 2 := u64shr k 1
      have hbit : (k &&& 1).toNat = k.toNat % 2 := by rw [UInt64.toNat_and, o1]; exact Nat.and_two_pow_sub_one_eq_mod _ 1
      have hmeas : (shr64 k 1).toNat.log2 + (if (shr64 k 1).toNat = 0 then 0 else 1) < k.toNat.log2 + (if k.toNat = 0 then 0 else 1) := by
        rw [hs, if_neg (show ¬ k.toNat = 0 by omega)]
        by_cases h : k.toNat / 2 = 0
        · rw [h, if_pos rfl]; simp
        · rw [if_neg h]
          have : k.toNat.log2 = (k.toNat / 2).log2 + 1 := by
            rw [Nat.log2_def k.toNat, if_pos (by omega)]
          omega
      have hpow : ∀ q : Nat, x2.toNat ^ q % 4611686018427377339 = x.toNat ^ (2 * q) % 4611686018427377339 := by
        intro q
        rw [hx2, ← Nat.pow_mod, Nat.pow_mul, Nat.pow_two]
      by_cases hb : k &&& 1 = 1
      · have hodd : k.toNat % 2 = 1 := by rw [← hbit, hb]; rfl
        simp only [dpos hk, dpos hb, cond_true, er, ex, Option.bind_some]
        refine ⟨_, rfl, ⟨?_, by simp only [hrx]; exact Nat.mod_lt _ (by decide), by simp only [hs]; omega⟩, by simpa only using hmeas⟩
        simp only
        rw [← h1, hs, Nat.mul_mod, hpow, hrx, Nat.mod_mod, ← Nat.mul_mod, Nat.mul_assoc, ← Nat.pow_succ', show (2 * (k.toNat / 2)).succ = k.toNat by omega]
      · have heven : k.toNat % 2 = 0 := by
          rcases (by omega : k.toNat % 2 = 0 ∨ k.toNat % 2 = 1) with h | h
          · exact h
          · exact absurd (UInt64.toNat_inj.1 (by rw [hbit, h]; rfl)) hb
        simp only [dpos hk, dneg hb, cond_true, cond_false, ex, Option.bind_some]
        refine ⟨_, rfl, ⟨?_, h2, by simp only [hs]; omega⟩, by simpa only using hmeas⟩
        simp only
        rw [← h1, hs, Nat.mul_mod, hpow, ← Nat.mul_mod, show 2 * (k.toNat / 2) = k.toNat by omega]
    · have hk' : k.toNat = 0 := by
        have : ¬ 0 < k.toNat := fun h => hk (by rw [UInt64.lt_iff_toNat_lt, z]; exact h)
        omega
      simp only [dneg hk, cond_false]
      refine ⟨_, rfl, _, rfl, r, rfl, ?_⟩
      rw [hk', Nat.pow_zero, Nat.mul_one, Nat.mod_eq_of_lt h2] at h1
      exact h1
theorem rpow_p (a e : UInt64) : ref13_Power N a e = some ((pw a e, ()), ()) := by
  obtain ⟨r, e', h⟩ := rpow_ok N hN a e
  rw [e', show r = pw a e from UInt64.toNat_inj.1 (by rw [h, pw_nat])]
def vsec (s : UInt64) : Bool := decide (1 ≤ s) && decide (s < 2305843009213688669)
omit hN in
theorem valid_p (s : UInt64) : group_valid N s = some ((vsec s, ()), ()) := by
  unfold group_valid vsec
  cases decide ((1 : UInt64) ≤ s) <;> rfl
omit hN in
theorem rvalid_p (s : UInt64) : ref13_Secret N s = some ((vsec s, ()), ()) := by
  unfold ref13_Secret vsec
  cases decide ((1 : UInt64) ≤ s) <;> rfl
def pub (s : UInt64) : UInt64 × Int := if vsec s = true then (pw 4 s, 0) else (0, 13)
omit hN in
theorem pub_t {s : UInt64} (h : vsec s = true) : pub s = (pw 4 s, 0) := if_pos h
omit hN in
theorem pub_f {s : UInt64} (h : vsec s = false) : pub s = (0, 13) := if_neg (by rw [h]; decide)
theorem public_p (s : UInt64) : group_Public N s = some (((pub s).1, (pub s).2, ()), ()) := by
  unfold group_Public
  rw [valid_p]
  simp only [Option.bind_some]
  cases hv : vsec s
  · rw [pub_f hv]; simp only [Bool.not_false, cond_true]
  · rw [pub_t hv]
    simp only [Bool.not_true, cond_false]
    rw [gpow_p N hN]
    generalize pw 4 s = w
    rfl
theorem rpublic_p (s : UInt64) : ref13_Public N s = some (((pub s).1, (pub s).2, ()), ()) := by
  unfold ref13_Public
  rw [rvalid_p]
  simp only [Option.bind_some]
  cases hv : vsec s
  · rw [pub_f hv]; simp only [Bool.not_false, cond_true]
  · rw [pub_t hv]
    simp only [Bool.not_true, cond_false]
    rw [rpow_p N hN]
    generalize pw 4 s = w
    rfl
def elmw (w a : UInt64) : Bool := decide (2 ≤ a) && (decide (a < 4611686018427377339) && decide (w = 1))
def elm (a : UInt64) : Bool := elmw (pw a 2305843009213688669) a
omit hN in
theorem element_q (a w : UInt64) (h : group_Power N a 2305843009213688669 = some ((w, ()), ())) : group_Element N a = some ((elmw w a, ()), ()) := by
  unfold group_Element elmw
  rw [h]
  simp only [Option.bind_some]
  generalize decide (w = 1) = z
  generalize decide (a < 4611686018427377339) = y
  generalize decide (2 ≤ a) = x
  cases x
  · rfl
  · cases y <;> rfl
omit hN in
theorem relement_q (a w : UInt64) (h : ref13_Power N a 2305843009213688669 = some ((w, ()), ())) : ref13_Element N a = some ((elmw w a, ()), ()) := by
  unfold ref13_Element elmw
  rw [h]
  simp only [Option.bind_some]
  generalize decide (w = 1) = z
  generalize decide (a < 4611686018427377339) = y
  generalize decide (2 ≤ a) = x
  cases x
  · rfl
  · cases y <;> rfl
theorem element_p (a : UInt64) : group_Element N a = some ((elm a, ()), ()) := element_q N a _ (gpow_p N hN a _)
theorem relement_p (a : UInt64) : ref13_Element N a = some ((elm a, ()), ()) := relement_q N a _ (rpow_p N hN a _)
def qm (b c : UInt64) : UInt64 := UInt64.ofNat (b.toNat * c.toNat % 2305843009213688669)
omit hN in
theorem ofN_q (n : Nat) : (UInt64.ofNat (n % 2305843009213688669)).toNat = n % 2305843009213688669 := ofN (by have := Nat.mod_lt n (show 0 < 2305843009213688669 by decide); omega)
omit hN in
theorem qm_nat (a b : UInt64) : (qm a b).toNat = a.toNat * b.toNat % 2305843009213688669 := ofN_q _
theorem sum_p (a : UInt64) {b c : UInt64} (hb : b.toNat < 2305843009213688669) (hc : c.toNat < 2305843009213688669) : schnorr_sum N a b c = some (((a % 2305843009213688669 + qm b c) % 2305843009213688669, ()), ()) := by
  obtain ⟨h, l, e1, h1, h2⟩ := mul64_ok N b c
  have hbc := Nat.mul_le_mul (show b.toNat ≤ 2305843009213688668 by omega) (show c.toNat ≤ 2305843009213688668 by omega)
  obtain ⟨r, e2, h3⟩ := div64_okq N hN (hi := h) (lo := l) (by rw [h1]; omega)
  unfold schnorr_sum
  rw [e1, Option.bind_some]
  simp only [e2, Option.bind_some]
  rw [show r.1.2.1 = qm b c from UInt64.toNat_inj.1 (by rw [h3, h1, h2, qm_nat, Nat.div_add_mod'])]
theorem mulq_p {a b : UInt64} (ha : a.toNat < 2305843009213688669) (hb : b.toNat < 2305843009213688669) : ref15_mulq N a b = some ((qm a b, ()), ()) := by
  have hq : (2305843009213688669 : UInt64).toNat = 2305843009213688669 := rfl
  have z : (0 : UInt64).toNat = 0 := rfl
  have o1 : (1 : UInt64).toNat = 1 := rfl
  unfold ref15_mulq ref15_mulq_1
  have ea : a % 2305843009213688669 = a := UInt64.toNat_inj.1 (by rw [UInt64.toNat_mod, hq, Nat.mod_eq_of_lt ha])
  have eb : b % 2305843009213688669 = b := UInt64.toNat_inj.1 (by rw [UInt64.toNat_mod, hq, Nat.mod_eq_of_lt hb])
  rw [ea, eb]
  have := loopK_of (N := N) (step := fun y => ref15_mulq_s2 N y.1.1 y.1.2.1 y.1.2.2.1) (J := fun (e : ((UInt64 × Unit) × (Unit))) => ref15_mulq_3 N e.1.1)
    (I := fun y => (y.1.2.2.1.toNat + y.1.1.toNat * y.1.2.1.toNat) % 2305843009213688669 = a.toNat * b.toNat % 2305843009213688669 ∧ y.1.2.2.1.toNat < 2305843009213688669 ∧ y.1.1.toNat < 2305843009213688669) (μ := fun y => y.1.2.1.toNat.log2 + (if y.1.2.1.toNat = 0 then 0 else 1)) (T := fun r => r = ((qm a b, ()), ())) ?_
    (x := ((a, b, 0, ()), ())) ⟨by simp only; rw [z, Nat.zero_add], by simp only; rw [z]; decide, ha⟩ (by
      simp only
      have : b.toNat.log2 < 64 := by
        by_cases h : b.toNat = 0
        · rw [h]; decide
        · exact (Nat.log2_lt h).2 b.toNat_lt
      split <;> omega)
  · obtain ⟨r, h1, rfl⟩ := this; exact h1
  · rintro ⟨⟨x, k, o, _⟩, _⟩ ⟨h1, h2, h3⟩
    simp only at h1 h2 h3
    show ∃ r, ref15_mulq_s2 N x k o = some r ∧ _
    unfold ref15_mulq_s2
    by_cases hk : (0 : UInt64) < k
    · have hk' : 0 < k.toNat := by rw [UInt64.lt_iff_toNat_lt, z] at hk; exact hk
      have hs : (shr64 k 1).toNat = k.toNat / 2 := u64shr k 1
      have hbit : (k &&& 1).toNat = k.toNat % 2 := by rw [UInt64.toNat_and, o1]; exact Nat.and_two_pow_sub_one_eq_mod _ 1
      have hmeas : (shr64 k 1).toNat.log2 + (if (shr64 k 1).toNat = 0 then 0 else 1) < k.toNat.log2 + (if k.toNat = 0 then 0 else 1) := by
        rw [hs, if_neg (show ¬ k.toNat = 0 by omega)]
        by_cases h : k.toNat / 2 = 0
        · rw [h, if_pos rfl]; simp
        · rw [if_neg h]
          have : k.toNat.log2 = (k.toNat / 2).log2 + 1 := by
            rw [Nat.log2_def k.toNat, if_pos (by omega)]
          omega
      have hx2 : (2 * x % 2305843009213688669 : UInt64).toNat = 2 * x.toNat % 2305843009213688669 := by
        rw [UInt64.toNat_mod, hq, u64mul (by show 2 * x.toNat < _; omega)]; rfl
      have hlt : (2 * x % 2305843009213688669 : UInt64).toNat < 2305843009213688669 := by rw [hx2]; exact Nat.mod_lt _ (by decide)
      have hmul : ∀ u : Nat, (u + (2 * x.toNat % 2305843009213688669) * (k.toNat / 2)) % 2305843009213688669 = (u + x.toNat * (2 * (k.toNat / 2))) % 2305843009213688669 := by
        intro u
        rw [Nat.add_mod, Nat.mod_mul_mod, ← Nat.add_mod, Nat.mul_comm 2 x.toNat, Nat.mul_assoc]
      by_cases hb1 : k &&& 1 = 1
      · have hodd : k.toNat % 2 = 1 := by rw [← hbit, hb1]; rfl
        have hox : ((o + x) % 2305843009213688669 : UInt64).toNat = (o.toNat + x.toNat) % 2305843009213688669 := by rw [UInt64.toNat_mod, hq, u64add (by omega)]
        rw [dpos hk, dpos hb1]
        refine ⟨_, rfl, ⟨?_, by simp only; rw [hox]; exact Nat.mod_lt _ (by decide), hlt⟩, by simpa only using hmeas⟩
        simp only
        have hk2 : x.toNat * k.toNat = x.toNat * (2 * (k.toNat / 2)) + x.toNat := by
          conv => lhs; rw [show k.toNat = 2 * (k.toNat / 2) + 1 by omega, Nat.mul_succ]
        rw [← h1, hox, hx2, hs, hmul, Nat.mod_add_mod, hk2]
        congr 1
        omega
      · have heven : k.toNat % 2 = 0 := by
          rcases (by omega : k.toNat % 2 = 0 ∨ k.toNat % 2 = 1) with h | h
          · exact h
          · exact absurd (UInt64.toNat_inj.1 (by rw [hbit, h]; rfl)) hb1
        rw [dpos hk, dneg hb1]
        refine ⟨_, rfl, ⟨?_, h2, hlt⟩, by simpa only using hmeas⟩
        simp only
        rw [← h1, hx2, hs, hmul, show 2 * (k.toNat / 2) = k.toNat by omega]
    · have hk' : k.toNat = 0 := by
        have : ¬ 0 < k.toNat := fun h => hk (by rw [UInt64.lt_iff_toNat_lt, z]; exact h)
        omega
      rw [dneg hk]
      refine ⟨_, rfl, _, rfl, ?_⟩
      rw [hk', Nat.mul_zero, Nat.add_zero, Nat.mod_eq_of_lt h2] at h1
      rw [show o = qm a b from UInt64.toNat_inj.1 (by rw [h1, qm_nat])]
/-- The number of the first bytes, if there are eight. -/
def fst8 (b : List UInt8) : UInt64 := nbr (b.take 8)
theorem first_p {b : List UInt8} (h8 : 8 ≤ b.length) (hl : b.length ≤ 1000000) : schnorr_first N b = some ((fst8 b, ()), ()) := by
  unfold schnorr_first
  rw [wire_number N (b := b) (at_ := 0) (w := 8) (by omega) (by omega) (by omega) (by omega) (by omega) (by omega)]
  rfl
theorem rfirst_p {b : List UInt8} (h8 : 8 ≤ b.length) (hl : b.length ≤ 1000000) : ref15_first N b = some ((fst8 b, ()), ()) := by
  unfold ref15_first
  rw [ref_number N (b := b) (at_ := 0) (w := 8) (by omega) (by omega) (by omega) (by omega) (by omega) (by omega)]
  rfl
theorem rbytes_p (a : UInt64) : ref13_Bytes N a = some ((), (be a 8, ())) := by
  unfold ref13_Bytes
  rw [ref_put N (v := a) (w := 8) (b := []) (by omega) (by omega) (by simp) (by omega)]
  rfl
noncomputable def chal (r y : UInt64) (m : List UInt8) : UInt64 := fst8 (sha (be r 8 ++ be y 8 ++ m)) % 2305843009213688669
omit hN in
theorem chal_lt (r y : UInt64) (m : List UInt8) : (chal r y m).toNat < 2305843009213688669 := by
  unfold chal
  rw [UInt64.toNat_mod]
  exact Nat.mod_lt _ (by decide)
theorem chal_p (r y : UInt64) {m : List UInt8} (hm : m.length ≤ 1000000) : schnorr_challenge N r y m = some ((chal r y m, ()), ()) := by
  unfold schnorr_challenge chal
  have l1 := be_len r 8
  have l2 := be_len y 8
  have e1 : wire_Put N r 8 [] = some ((), (be r 8, ())) := wire_put N (by omega) (by omega) (by simp) (by omega)
  have e2 : wire_Put N y 8 (be r 8) = some ((), (be r 8 ++ be y 8, ())) := wire_put N (by omega) (by omega) (by omega) (by omega)
  have l3 := sha_len (be r 8 ++ be y 8 ++ m)
  have e3 : sha256_Sum N (be r 8 ++ be y 8 ++ m) = _ := sha_sum N (by simp only [List.length_append]; omega) hN
  have hr : room ((be r 8 ++ be y 8).length + m.length) 1 = true := room_of (by simp only [List.length_append]; omega)
  simp only [e1, e2, e3, hr, Option.bind_some, cond_true, first_p N hN (show 8 ≤ (sha (be r 8 ++ be y 8 ++ m)).length by omega) (by omega)]
theorem rchal_p (r y : UInt64) {m : List UInt8} (hm : m.length ≤ 1000000) : ref15_challenge N r y m = some ((chal r y m, ()), ()) := by
  unfold ref15_challenge chal
  have l1 := be_len r 8
  have l2 := be_len y 8
  have l3 := sha_len (be r 8 ++ be y 8 ++ m)
  have e0 := join3 N (a := be r 8) (b := be y 8) (c := m) (by omega) hN
  have e3 : ref08_Sum N (be r 8 ++ be y 8 ++ m) = _ := ref_sum N (by simp only [List.length_append]; omega) hN
  simp only [rbytes_p N hN, e0, e3, Option.bind_some, rfirst_p N hN (show 8 ≤ (sha (be r 8 ++ be y 8 ++ m)).length by omega) (by omega)]
/-- The number that a signature hides. -/
noncomputable def snum (s : UInt64) (m : List UInt8) : UInt64 := 1 + fst8 (hmac (be s 8) m) % 2305843009213688668
noncomputable def sche (s : UInt64) (m : List UInt8) : UInt64 := chal (pw 4 (snum s m)) (pw 4 s) m
noncomputable def sgn (s : UInt64) (m : List UInt8) : List UInt8 × Int :=
  if vsec s = true then (be (sche s m) 8 ++ be ((snum s m + qm (sche s m) s) % 2305843009213688669) 8, 0) else ([], 13)
omit hN in
theorem snum_lt (s : UInt64) (m : List UInt8) : 1 ≤ (snum s m).toNat ∧ (snum s m).toNat < 2305843009213688669 := by
  unfold snum
  have h : (fst8 (hmac (be s 8) m) % 2305843009213688668).toNat < 2305843009213688668 := by rw [UInt64.toNat_mod]; exact Nat.mod_lt _ (by decide)
  have o1 : (1 : UInt64).toNat = 1 := rfl
  rw [u64add (by rw [o1]; omega), o1]; omega
omit hN in
theorem vsec_lt {s : UInt64} (h : vsec s = true) : s.toNat < 2305843009213688669 := by
  unfold vsec at h
  rw [Bool.and_eq_true, decide_eq_true_eq, decide_eq_true_eq] at h
  exact UInt64.lt_iff_toNat_lt.1 h.2
omit hN in
theorem sgn_len (s : UInt64) (m : List UInt8) : (sgn s m).1.length ≤ 16 := by
  unfold sgn
  split
  · simp only [List.length_append, be_len]; omega
  · simp
theorem sign_p (s : UInt64) {m : List UInt8} (hm : m.length ≤ 1000000) : schnorr_Sign N s m = some (((sgn s m).2, ()), ((sgn s m).1, ())) := by
  unfold schnorr_Sign sgn
  rw [public_p N hN]
  unfold pub
  cases hv : vsec s
  · rfl
  · simp only [if_true]
    have l1 := be_len s 8
    have lh := hmac_len (be s 8) m
    have e1 : wire_Put N s 8 [] = some ((), (be s 8, ())) := wire_put N (by omega) (by omega) (by simp) (by omega)
    have e2 := prf_hmac N (k := be s 8) (b := m) (by omega) (by omega) hN
    have e3 := first_p N hN (b := hmac (be s 8) m) (by omega) (by omega)
    have e4 : wire_Put N (sche s m) 8 [] = some ((), (be (sche s m) 8, ())) := wire_put N (by omega) (by omega) (by simp) (by omega)
    have lc := be_len (sche s m) 8
    have hk := (snum_lt s m).2
    have ek : snum s m % 2305843009213688669 = snum s m := UInt64.toNat_inj.1 (by rw [UInt64.toNat_mod]; exact Nat.mod_eq_of_lt hk)
    have e5 := sum_p N hN (snum s m) (b := sche s m) (c := s) (chal_lt _ _ _) (vsec_lt hv)
    rw [ek] at e5
    have e6 : wire_Put N ((snum s m + qm (sche s m) s) % 2305843009213688669) 8 (be (sche s m) 8) = some ((), (be (sche s m) 8 ++ be ((snum s m + qm (sche s m) s) % 2305843009213688669) 8, ())) := wire_put N (by omega) (by omega) (by omega) (by omega)
    have es : (1 : UInt64) + fst8 (hmac (be s 8) m) % 2305843009213688668 = snum s m := rfl
    have ec : chal (pw 4 (snum s m)) (pw 4 s) m = sche s m := rfl
    simp only [Option.bind_some, decide_true, Bool.not_true, cond_false, e1, e2, e3, es, gpow_p N hN, chal_p N hN _ _ hm, ec, e4, e5, e6]
theorem rsign_p (s : UInt64) {m : List UInt8} (hm : m.length ≤ 1000000) : ref15_Sign N s m = some (((sgn s m).2, ()), ((sgn s m).1, ())) := by
  unfold ref15_Sign sgn
  rw [rpublic_p N hN]
  unfold pub
  cases hv : vsec s
  · rfl
  · simp only [if_true]
    have l1 := be_len s 8
    have lh := hmac_len (be s 8) m
    have e2 := ref_hmac N (k := be s 8) (b := m) (by omega) (by omega) hN
    have e3 := rfirst_p N hN (b := hmac (be s 8) m) (by omega) (by omega)
    have e5 := mulq_p N hN (a := sche s m) (b := s) (chal_lt _ _ _) (vsec_lt hv)
    have es : (1 : UInt64) + fst8 (hmac (be s 8) m) % 2305843009213688668 = snum s m := rfl
    have ec : chal (pw 4 (snum s m)) (pw 4 s) m = sche s m := rfl
    have hr : room ((be (sche s m) 8).length + (be ((snum s m + qm (sche s m) s) % 2305843009213688669) 8).length) 1 = true := room_of (by simp only [be_len]; omega)
    simp only [Option.bind_some, decide_true, Bool.not_true, cond_false, rbytes_p N hN, e2, e3, es, rpow_p N hN, rchal_p N hN _ _ hm, ec, e5, hr, cond_true]
/-- Whether a signature is accepted. -/
noncomputable def vfy (y : UInt64) (m s : List UInt8) : Int :=
  if elm y = true then (if s.length = 16 then (if (2305843009213688669 : UInt64) ≤ fst8 s ∨ (2305843009213688669 : UInt64) ≤ fst8 (s.drop 8) then 5 else if chal (pm (pw 4 (fst8 (s.drop 8))) (pw y (2305843009213688669 - fst8 s))) y m = fst8 s then 0 else 18) else 2) else 13
theorem verify_p (y : UInt64) {m : List UInt8} (hm : m.length ≤ 1000000) (s : List UInt8) : schnorr_Verify N y m s = some ((vfy y m s, ()), ()) := by
  unfold schnorr_Verify vfy
  rw [element_p N hN]
  cases elm y
  · rfl
  · simp only [Option.bind_some, Bool.not_true, cond_false, if_true]
    by_cases h16 : s.length = 16
    · have c1 : cut s 8 s.length = s.drop 8 := by simp [cut]
      have l1 : (s.drop 8).length = 8 := by simp; omega
      rw [if_pos h16]
      simp (disch := omega) only [dpos, dneg, w64_of, inR_of, room_of, tmod_of, cond_true, cond_false, Bool.and_self, Bool.and_true, Bool.true_and, Bool.and_false, Bool.false_and, Bool.not_true, Bool.not_false, Option.bind_some, List.length_cons, List.length_nil, Nat.zero_add, first_p N hN (show 8 ≤ s.length by omega) (by omega), c1, first_p N hN (show 8 ≤ (s.drop 8).length by omega) (by omega), List.getD_cons_zero, List.getD_cons_succ]
      unfold schnorr_Verify_1
      simp only [List.getD_cons_zero, List.getD_cons_succ, gpow_p N hN, gmul_p N hN, chal_p N hN _ _ hm, Option.bind_some]
      by_cases h1 : (2305843009213688669 : UInt64) ≤ fst8 s
      · rw [dpos h1, if_pos (.inl h1)]; rfl
      · by_cases h2 : (2305843009213688669 : UInt64) ≤ fst8 (s.drop 8)
        · rw [dneg h1, dpos h2, if_pos (.inr h2)]; rfl
        · rw [dneg h1, dneg h2, if_neg (by simp only [h1, h2, or_self, not_false_eq_true])]
          by_cases h3 : chal (pm (pw 4 (fst8 (s.drop 8))) (pw y (2305843009213688669 - fst8 s))) y m = fst8 s
          · rw [dpos h3, if_pos h3]; rfl
          · rw [dneg h3, if_neg h3]; rfl
    · rw [if_neg h16]
      simp (disch := omega) only [dpos, dneg, w64_of, inR_of, room_of, tmod_of, cond_true, cond_false, Bool.and_self, Bool.and_true, Bool.true_and, Bool.and_false, Bool.false_and, Bool.not_true, Bool.not_false, Option.bind_some, List.length_cons, List.length_nil, Nat.zero_add]
theorem rverify_p (y : UInt64) {m : List UInt8} (hm : m.length ≤ 1000000) (s : List UInt8) : ref15_Verify N y m s = some ((vfy y m s, ()), ()) := by
  unfold ref15_Verify vfy
  rw [relement_p N hN]
  cases elm y
  · rfl
  · simp only [Option.bind_some, Bool.not_true, cond_false, if_true]
    by_cases h16 : s.length = 16
    · have c1 : cut s 8 s.length = s.drop 8 := by simp [cut]
      have l1 : (s.drop 8).length = 8 := by simp; omega
      rw [if_pos h16]
      simp (disch := omega) only [dpos, dneg, w64_of, inR_of, room_of, tmod_of, cond_true, cond_false, Bool.and_self, Bool.and_true, Bool.true_and, Bool.and_false, Bool.false_and, Bool.not_true, Bool.not_false, Option.bind_some, List.length_cons, List.length_nil, Nat.zero_add, rfirst_p N hN (show 8 ≤ s.length by omega) (by omega), c1, rfirst_p N hN (show 8 ≤ (s.drop 8).length by omega) (by omega)]
      unfold ref15_Verify_1
      simp only [rpow_p N hN, rmul_p N hN, rchal_p N hN _ _ hm, Option.bind_some]
      by_cases h1 : (2305843009213688669 : UInt64) ≤ fst8 s
      · rw [dpos h1, if_pos (.inl h1)]; rfl
      · by_cases h2 : (2305843009213688669 : UInt64) ≤ fst8 (s.drop 8)
        · rw [dneg h1, dpos h2, if_pos (.inr h2)]; rfl
        · rw [dneg h1, dneg h2, if_neg (by simp only [h1, h2, or_self, not_false_eq_true])]
          by_cases h3 : chal (pm (pw 4 (fst8 (s.drop 8))) (pw y (2305843009213688669 - fst8 s))) y m = fst8 s
          · rw [dpos h3, if_pos h3]; rfl
          · rw [dneg h3, if_neg h3]; rfl
    · rw [if_neg h16]
      simp (disch := omega) only [dpos, dneg, w64_of, inR_of, room_of, tmod_of, cond_true, cond_false, Bool.and_self, Bool.and_true, Bool.true_and, Bool.and_false, Bool.false_and, Bool.not_true, Bool.not_false, Option.bind_some, List.length_cons, List.length_nil, Nat.zero_add]
end
end Go.Proofs.YtofajgidjkjnpaaDoor.Pl

/- Plain: a signature is accepted for the key of its secret. -/
namespace Go.Proofs.YtofajgidjkjnpaaDoor.Pl
open Go
section
variable {p q : Nat} (hp : p = 4611686018427377339) (hq : q = 2305843009213688669)
include hp hq
theorem four_q : 4 ^ q % p = 1 := by
  subst hp
  exact Num.pow_of_pm _ 64 _ _ 1 (by omega) (by subst hq; decide +kernel)
theorem four_sq (s : Nat) : (4 ^ s % p) ^ q % p = 1 := by
  rw [← Nat.pow_mod, ← Nat.pow_mul, Nat.mul_comm, Nat.pow_mul, Nat.pow_mod, four_q hp hq, Nat.one_pow, Nat.mod_eq_of_lt (by omega)]
theorem four_ne1 (s : Nat) (h1 : 1 ≤ s) (h2 : s < q) : 4 ^ s % p ≠ 1 := by
  intro h
  have hg := Num.pow_gcd p 4 (by omega) s q h (four_q hp hq)
  have hpq := Num.prime_Q
  rw [← hq] at hpq
  have hc : Nat.gcd q s = 1 := hpq.coprime fun h => by have := Nat.le_of_dvd (by omega) h; omega
  rw [Nat.gcd_comm, hc, Nat.pow_one, Nat.mod_eq_of_lt (by omega)] at hg
  exact absurd hg (by decide)
theorem four_ne0 (s : Nat) : 4 ^ s % p ≠ 0 := by
  intro h
  have := four_sq hp hq s
  rw [h, Nat.zero_pow (by omega)] at this
  rw [Nat.zero_mod] at this
  exact absurd this (by decide)
theorem four_mod (n : Nat) : 4 ^ n % p = 4 ^ (n % q) % p := by
  have e := Nat.div_add_mod n q
  calc 4 ^ n % p = 4 ^ (q * (n / q) + n % q) % p := by rw [e]
    _ = 4 ^ (n % q) % p := by
      rw [Nat.pow_add, Nat.mul_mod, Nat.pow_mul, Nat.pow_mod, four_q hp hq, Nat.one_pow, Nat.mod_eq_of_lt (show 1 < p by omega), Nat.one_mul, Nat.mod_mod]
theorem four_acc (x k c : Nat) (hc : c < q) (hk : k < q) : 4 ^ ((k + c * x % q) % q) % p * ((4 ^ x % p) ^ (q - c) % p) % p = 4 ^ k % p := by
  rw [← Nat.pow_mod, ← Nat.mul_mod, ← Nat.pow_mul, ← Nat.pow_add, four_mod hp hq ((k + c * x % q) % q + x * (q - c))]
  have h1 : (c * x % q + x * (q - c)) % q = 0 := by
    rw [Nat.mod_add_mod, Nat.mul_comm c x, ← Nat.mul_add, show c + (q - c) = q by omega, Nat.mul_mod_left]
  have h2 : ((k + c * x % q) % q + x * (q - c)) % q = k := by
    rw [Nat.mod_add_mod, Nat.add_assoc, Nat.add_mod, h1, Nat.add_zero, Nat.mod_mod, Nat.mod_eq_of_lt hk]
  rw [h2]
end
theorem pw_one_of (a e : UInt64) (h : ∀ n, n = e.toNat → a.toNat ^ n % 4611686018427377339 = 1) : pw a e = 1 := UInt64.toNat_inj.1 (by rw [pw_nat, h _ rfl]; rfl)
theorem oq : (2305843009213688669 : UInt64).toNat = 2305843009213688669 := rfl
theorem elm_of (a : UInt64) (h1 : 2 ≤ a.toNat) (h2 : a.toNat < 4611686018427377339) (h3 : ∀ n, n = 2305843009213688669 → a.toNat ^ n % 4611686018427377339 = 1) : elm a = true := by
  have e : pw a 2305843009213688669 = 1 := pw_one_of a _ fun n hn => h3 n (hn.trans oq)
  unfold elm
  rw [e]
  have d1 : (2 : UInt64) ≤ a := UInt64.le_iff_toNat_le.2 h1
  have d2 : a < (4611686018427377339 : UInt64) := UInt64.lt_iff_toNat_lt.2 h2
  unfold elmw
  rw [decide_eq_true d1, decide_eq_true d2]
  rfl
theorem pw4_nat (s : UInt64) : (pw 4 s).toNat = 4 ^ s.toNat % 4611686018427377339 := pw_nat 4 s
theorem key_el {s : UInt64} (h1 : 1 ≤ s.toNat) (h2 : s.toNat < 2305843009213688669) : elm (pw 4 s) = true := by
  have hn := pw4_nat s
  have hlt : 4 ^ s.toNat % 4611686018427377339 < 4611686018427377339 := Nat.mod_lt _ (by decide)
  have h0 := four_ne0 rfl rfl s.toNat
  have h1' := four_ne1 rfl rfl s.toNat h1 h2
  have h3 : ∀ n, n = 2305843009213688669 → (4 ^ s.toNat % 4611686018427377339) ^ n % 4611686018427377339 = 1 := fun n hn => four_sq rfl hn s.toNat
  rw [← hn] at hlt h0 h1' h3
  exact elm_of _ (by omega) hlt h3
theorem vsec_ge {s : UInt64} (h : vsec s = true) : 1 ≤ s.toNat := by
  unfold vsec at h
  rw [Bool.and_eq_true, decide_eq_true_eq, decide_eq_true_eq] at h
  exact UInt64.le_iff_toNat_le.1 h.1
theorem acc_p (s k c : UInt64) (hc : c.toNat < 2305843009213688669) (hk : k.toNat < 2305843009213688669) : pm (pw 4 ((k + qm c s) % 2305843009213688669)) (pw (pw 4 s) (2305843009213688669 - c)) = pw 4 k := by
  apply UInt64.toNat_inj.1
  have hq := qm_nat c s
  have hql : (qm c s).toNat < 2305843009213688669 := by rw [hq]; exact Nat.mod_lt _ (by decide)
  have e1 : ((k + qm c s) % 2305843009213688669).toNat = (k.toNat + c.toNat * s.toNat % 2305843009213688669) % 2305843009213688669 := by
    rw [UInt64.toNat_mod, u64add (by omega), hq, oq]
  have e2 : ((2305843009213688669 : UInt64) - c).toNat = 2305843009213688669 - c.toNat := by
    rw [UInt64.toNat_sub_of_le _ _ (UInt64.le_iff_toNat_le.2 (by rw [oq]; omega)), oq]
  rw [pm_nat, pw4_nat, pw_nat (pw 4 s), pw4_nat, pw4_nat, e1, e2]
  exact four_acc rfl rfl _ _ _ hc hk
theorem sign_accepted {s : UInt64} (hv : vsec s = true) (m : List UInt8) : vfy (pw 4 s) m (sgn s m).1 = 0 := by
  have hx := vsec_lt hv
  unfold vfy sgn
  rw [if_pos (key_el (vsec_ge hv) hx), if_pos hv]
  have hch : chal (pw 4 (snum s m)) (pw 4 s) m = sche s m := rfl
  have hc : (sche s m).toNat < 2305843009213688669 := chal_lt _ _ _
  have hk := (snum_lt s m).2
  have ha := acc_p s (snum s m) (sche s m) hc hk
  have hS : ((snum s m + qm (sche s m) s) % 2305843009213688669).toNat < 2305843009213688669 := by rw [UInt64.toNat_mod, oq]; exact Nat.mod_lt _ (by decide)
  generalize (snum s m + qm (sche s m) s) % 2305843009213688669 = S at *
  generalize sche s m = c at *
  simp only []
  have l1 := be_len c 8
  have l2 := be_len S 8
  have f1 : fst8 (be c 8 ++ be S 8) = c := by
    unfold fst8
    rw [List.take_left' l1]
    exact nbr_be' (by omega) c (by omega)
  have f2 : fst8 ((be c 8 ++ be S 8).drop 8) = S := by
    unfold fst8
    rw [List.drop_left' l1, List.take_of_length_le (by omega)]
    exact nbr_be' (by omega) S (by omega)
  rw [if_pos (by rw [List.length_append]; omega), f1, f2, if_neg, ha, if_pos hch]
  rw [UInt64.le_iff_toNat_le, UInt64.le_iff_toNat_le, oq]
  omega
end Go.Proofs.YtofajgidjkjnpaaDoor.Pl

/- Plain: a certificate's name and its bytes (schnorr and the document's, ref15): what both compute. -/
namespace Go.Proofs.YtofajgidjkjnpaaDoor.Pl
open Go
abbrev Cert := List UInt8 × (UInt64 × (Int × (Int × (Bool × (List UInt8 × Unit)))))
/-- A sign of a name. -/
def sgnB (x : UInt8) : Bool := !(decide (x < 33)) && !(decide (126 < x))
def nameB (s : List UInt8) : Bool := decide (1 ≤ s.length) && (decide (s.length ≤ 16) && allB (fun i => sgnB (s.getD i 0)) s.length)
theorem sgnB_t {x : UInt8} (h : sgnB x = true) : decide (x < 33) = false ∧ decide (126 < x) = false := by
  unfold sgnB at h
  cases h1 : decide (x < 33) <;> cases h2 : decide (126 < x) <;> rw [h1, h2] at h <;> first | exact ⟨rfl, rfl⟩ | cases h
theorem sgnB_f {x : UInt8} (h : sgnB x = false) : decide (x < 33) = true ∨ (decide (x < 33) = false ∧ decide (126 < x) = true) := by
  unfold sgnB at h
  cases h1 : decide (x < 33) <;> cases h2 : decide (126 < x) <;> rw [h1, h2] at h <;> first | exact .inl rfl | exact .inr ⟨rfl, rfl⟩ | cases h
section
variable (N : Nat) (hN : 4611686018427387904 ≤ N)
include hN
theorem named_p {s : List UInt8} (hs : s.length ≤ 1000000) : schnorr_named N s = some ((nameB s, ()), ()) := by
  unfold schnorr_named schnorr_named_1
  refine (loopK_all (fun i : Nat => ((s, s, (s.length : Int), (i : Int), ()), ())) (fun i => sgnB (s.getD i 0)) ((false, ()), ()) (n := s.length) (e := ((s, ()), ())) ?_ ?_ ?_ (by omega)).trans ?_
  · intro i hi hq
    show schnorr_named_s2 N s s (s.length : Int) (i : Int) = _
    unfold schnorr_named_s2
    rw [dpos (show (i : Int) < (s.length : Int) by omega), inR_of (show 0 ≤ (i : Int) by omega) (by omega), w64_of (by omega) (by omega)]
    simp only [cond_true, Int.toNat_natCast]
    rw [(sgnB_t hq).1, (sgnB_t hq).2]; rfl
  · intro i hi hq
    show schnorr_named_s2 N s s (s.length : Int) (i : Int) = _
    unfold schnorr_named_s2
    rw [dpos (show (i : Int) < (s.length : Int) by omega), inR_of (show 0 ≤ (i : Int) by omega) (by omega)]
    simp only [cond_true, Int.toNat_natCast]
    rcases sgnB_f hq with h | ⟨h, h'⟩
    · rw [h]; rfl
    · rw [h, h']; rfl
  · show schnorr_named_s2 N s s (s.length : Int) (s.length : Int) = _
    unfold schnorr_named_s2
    rw [dneg (by omega)]; rfl
  · show (if _ then schnorr_named_3 N s else _) = _
    unfold schnorr_named_3 nameB
    cases allB (fun i => sgnB (s.getD i 0)) s.length
    · simp
    · by_cases h1 : 1 ≤ s.length
      · rw [dpos (show (1 : Int) ≤ (s.length : Int) by omega), dpos h1]
        by_cases h2 : s.length ≤ 16
        · rw [dpos (show (s.length : Int) ≤ 16 by omega), dpos h2]; rfl
        · rw [dneg (show ¬ (s.length : Int) ≤ 16 by omega), dneg h2]; rfl
      · rw [dneg (show ¬ (1 : Int) ≤ (s.length : Int) by omega), dneg h1]; rfl
theorem rname_p {s : List UInt8} (hs : s.length ≤ 1000000) : ref15_Name N s = some ((nameB s, ()), ()) := by
  unfold ref15_Name ref15_Name_1 nameB
  by_cases h1 : 1 ≤ s.length
  · rw [dneg (show ¬ (s.length : Int) < 1 by omega), dpos h1]
    by_cases h2 : s.length ≤ 16
    · rw [dneg (show ¬ (16 : Int) < (s.length : Int) by omega), dpos h2]
      simp only [cond_false, Bool.true_and]
      unfold ref15_Name_2
      refine (loopK_all (fun i : Nat => ((s, (i : Int), ()), ())) (fun i => sgnB (s.getD i 0)) ((false, ()), ()) (n := s.length) (e := ((), ())) ?_ ?_ ?_ (by omega)).trans ?_
      · intro i hi hq
        show ref15_Name_s3 N s (i : Int) = _
        unfold ref15_Name_s3
        rw [dpos (show (i : Int) < (s.length : Int) by omega), inR_of (show 0 ≤ (i : Int) by omega) (by omega), w64_of (by omega) (by omega)]
        simp only [cond_true, Int.toNat_natCast]
        rw [(sgnB_t hq).1, (sgnB_t hq).2]; rfl
      · intro i hi hq
        show ref15_Name_s3 N s (i : Int) = _
        unfold ref15_Name_s3
        rw [dpos (show (i : Int) < (s.length : Int) by omega), inR_of (show 0 ≤ (i : Int) by omega) (by omega)]
        simp only [cond_true, Int.toNat_natCast]
        rcases sgnB_f hq with h | ⟨h, h'⟩
        · rw [h]; rfl
        · rw [h, h']; rfl
      · show ref15_Name_s3 N s (s.length : Int) = _
        unfold ref15_Name_s3
        rw [dneg (by omega)]; rfl
      · cases allB (fun i => sgnB (s.getD i 0)) s.length <;> rfl
    · rw [dpos (show (16 : Int) < (s.length : Int) by omega), dneg h2]; rfl
  · rw [dpos (show (s.length : Int) < 1 by omega), dneg h1]; rfl
end
/-- The bytes of a certificate ahead of its signature, and the error. -/
def bodB (c : Cert) : List UInt8 := iu8 (c.1.length : Int) :: c.1 ++ be c.2.1 8 ++ be (iu64 c.2.2.1) 4 ++ be (iu64 c.2.2.2.1) 4 ++ [if c.2.2.2.2.1 = true then 1 else 0]
def bod (c : Cert) : List UInt8 × Int :=
  if nameB c.1 = true then (if elm c.2.1 = true then (if c.2.2.1 < 0 then ([], 5) else if 2147483647 < c.2.2.1 then ([], 5) else if c.2.2.2.1 < 0 then ([], 5) else if 2147483647 < c.2.2.2.1 then ([], 5) else if c.2.2.2.1 < c.2.2.1 then ([], 5) else (bodB c, 0)) else ([], 13)) else ([], 14)
section
variable (N : Nat) (hN : 4611686018427387904 ≤ N)
include hN
theorem body_1 (c : Cert) (hs : c.1.length ≤ 1000000) : schnorr_Body_1 N c = some ((0, ()), (bodB c, ())) := by
  obtain ⟨s, k, f, t, a, g, u⟩ := c
  unfold schnorr_Body_1 bodB
  simp only at hs ⊢
  have l1 := be_len k 8
  have l2 := be_len (iu64 f) 4
  have l3 := be_len (iu64 t) 4
  have l4 : (be k (Int.toNat 8)).length = 8 := be_len k 8
  have l5 : (be (iu64 f) (Int.toNat 4)).length = 4 := be_len (iu64 f) 4
  rw [room_of (by simp only [List.length_cons, List.length_nil]; omega), cond_true]
  rw [wire_put N (by omega) (by omega) (by simp only [List.length_append, List.length_cons, List.length_nil]; omega) (by omega), Option.bind_some]
  simp only []
  rw [wire_put N (by omega) (by omega) (by simp only [List.length_append, List.length_cons, List.length_nil]; omega) (by omega), Option.bind_some]
  simp only []
  rw [wire_put N (by omega) (by omega) (by simp only [List.length_append, List.length_cons, List.length_nil]; omega) (by omega), Option.bind_some]
  simp only []
  have e8 : (8 : Int).toNat = 8 := rfl
  have e4 : (4 : Int).toNat = 4 := rfl
  rw [e8, e4]
  have hr : ∀ b : UInt8, room (([iu8 (s.length : Int)] ++ s ++ be k 8 ++ be (iu64 f) 4 ++ be (iu64 t) 4).length + [b].length) 1 = true := fun b => room_of (by simp only [List.length_append, List.length_cons, List.length_nil]; omega)
  rw [hr, hr]
  cases a <;> rfl
theorem rbody_1 (c : Cert) (hs : c.1.length ≤ 1000000) : ref15_Body_1 N c = some ((0, ()), (bodB c, ())) := by
  obtain ⟨s, k, f, t, a, g, u⟩ := c
  unfold ref15_Body_1 bodB
  simp only at hs ⊢
  have l1 := be_len k 8
  have l2 := be_len (iu64 f) 4
  have l3 := be_len (iu64 t) 4
  have l4 : (be k (Int.toNat 8)).length = 8 := be_len k 8
  have l5 : (be (iu64 f) (Int.toNat 4)).length = 4 := be_len (iu64 f) 4
  rw [room_of (by simp only [List.length_cons, List.length_nil]; omega), cond_true, rbytes_p N hN, Option.bind_some]
  simp only []
  rw [room_of (by simp only [List.length_append, List.length_cons, List.length_nil]; omega), cond_true]
  rw [ref_put N (by omega) (by omega) (by simp only [List.length_append, List.length_cons, List.length_nil]; omega) (by omega), Option.bind_some]
  simp only []
  rw [ref_put N (by omega) (by omega) (by simp only [List.length_append, List.length_cons, List.length_nil]; omega) (by omega), Option.bind_some]
  simp only []
  have e4 : (4 : Int).toNat = 4 := rfl
  rw [e4]
  have hr : ∀ b : UInt8, room (([iu8 (s.length : Int)] ++ s ++ be k 8 ++ be (iu64 f) 4 ++ be (iu64 t) 4).length + [b].length) 1 = true := fun b => room_of (by simp only [List.length_append, List.length_cons, List.length_nil]; omega)
  rw [hr, hr]
  cases a <;> rfl
theorem body_p (c : Cert) (hs : c.1.length ≤ 1000000) : schnorr_Body N c = some (((bod c).2, ()), ((bod c).1, ())) := by
  unfold schnorr_Body bod
  rw [named_p N hN hs, element_p N hN, body_1 N hN c hs]
  cases nameB c.1
  · rfl
  cases elm c.2.1
  · rfl
  simp only [Option.bind_some, Bool.not_true, cond_false, if_true]
  by_cases h1 : c.2.2.1 < 0
  · rw [dpos h1, if_pos h1]; rfl
  rw [dneg h1, if_neg h1]
  by_cases h2 : 2147483647 < c.2.2.1
  · rw [dpos h2, if_pos h2]; rfl
  rw [dneg h2, if_neg h2]
  by_cases h3 : c.2.2.2.1 < 0
  · rw [dpos h3, if_pos h3]; rfl
  rw [dneg h3, if_neg h3]
  by_cases h4 : 2147483647 < c.2.2.2.1
  · rw [dpos h4, if_pos h4]; rfl
  rw [dneg h4, if_neg h4]
  by_cases h5 : c.2.2.2.1 < c.2.2.1
  · rw [dpos h5, if_pos h5]; rfl
  rw [dneg h5, if_neg h5]; rfl
theorem rbody_p (c : Cert) (hs : c.1.length ≤ 1000000) : ref15_Body N c = some (((bod c).2, ()), ((bod c).1, ())) := by
  unfold ref15_Body bod
  rw [rname_p N hN hs, relement_p N hN, rbody_1 N hN c hs]
  cases nameB c.1
  · rfl
  cases elm c.2.1
  · rfl
  simp only [Option.bind_some, Bool.not_true, cond_false, if_true]
  by_cases h1 : c.2.2.1 < 0
  · rw [dpos h1, if_pos h1]; rfl
  rw [dneg h1, if_neg h1]
  by_cases h2 : 2147483647 < c.2.2.1
  · rw [dpos h2, if_pos h2]; rfl
  rw [dneg h2, if_neg h2]
  by_cases h3 : c.2.2.2.1 < 0
  · rw [dpos h3, if_pos h3]; rfl
  rw [dneg h3, if_neg h3]
  by_cases h4 : 2147483647 < c.2.2.2.1
  · rw [dpos h4, if_pos h4]; rfl
  rw [dneg h4, if_neg h4]
  by_cases h5 : c.2.2.2.1 < c.2.2.1
  · rw [dpos h5, if_pos h5]; rfl
  rw [dneg h5, if_neg h5]; rfl
end
end Go.Proofs.YtofajgidjkjnpaaDoor.Pl

/- Plain: the maker of inputs (shallow functions of make). -/
namespace Go.Proofs.YtofajgidjkjnpaaDoor.Pl
open Go

/-- A maker whose place lies in its list. -/
def COk (c : List UInt8 × (Int × Unit)) : Prop := 0 ≤ c.2.1 ∧ c.2.1 ≤ (c.1.length : Int) ∧ c.1.length ≤ 1000000000000000
theorem next_ok (N : Nat) {c : List UInt8 × (Int × Unit)} {n : Int} (h : COk c) (hn : 0 < n) : ∃ v c', make_Codes_Next N n c = some ((v, ()), (c', ())) ∧ 0 ≤ v ∧ v < n ∧ COk c' := by
  obtain ⟨l, i, u⟩ := c
  obtain ⟨h1, h2, h3⟩ := h
  simp only at h1 h2 h3
  have hb : (l.length : Int) ≤ 1000000000000000 := by omega
  unfold make_Codes_Next make_Codes_Left
  simp only [Option.bind]
  by_cases hlt : i < (l.length : Int)
  · have e1 : w64 (i + 1) = i + 1 := w64_of (by omega) (by omega)
    have e2 : w64 (i + 1 - 1) = i := by rw [w64_of (by omega) (by omega)]; omega
    simp only [hlt, decide_true, Bool.not_true, cond_false, e1, e2]
    have e3 : inR i l.length = true := by simp [inR, h1, hlt]
    have e4 : (!(decide (n = 0))) = true := by simp; omega
    simp only [e3, e4, cond_true]
    refine ⟨_, _, rfl, ?_, ?_, by simp only; omega, by simp only; omega, h3⟩
    · exact Int.tmod_nonneg _ (by omega)
    · exact Int.tmod_lt_of_pos _ hn
  · simp only [hlt, decide_false, Bool.not_false, cond_true]
    exact ⟨0, _, rfl, by omega, hn, h1, h2, h3⟩
theorem bytes_ok {N : Nat} {c : List UInt8 × (Int × Unit)} {n : Int} (h : COk c) (h0 : 0 ≤ n) (hn : n ≤ 1000000) (hN : n.toNat < N) : ∃ c' out, make_Codes_Bytes N n c = some ((), (c', out, ())) ∧ out.length = n.toNat ∧ COk c' := by
  unfold make_Codes_Bytes make_Codes_Bytes_1
  have := loopK_of (N := N) (step := fun y => make_Codes_Bytes_s2 N y.1.1 y.1.2.1 y.2.1 y.2.2.1) (J := fun (e : ((Unit) × (((List UInt8) × (Int × Unit)) × (List UInt8) × Unit))) => make_Codes_Bytes_3 N e.2.1 e.2.2.1)
    (I := fun y => y.1.1 = n ∧ 0 ≤ y.1.2.1 ∧ y.1.2.1 ≤ n ∧ COk y.2.1 ∧ y.2.2.1.length = y.1.2.1.toNat) (μ := fun y => (n - y.1.2.1).toNat) (T := fun r => ∃ c' out, r = ((), (c', out, ())) ∧ out.length = n.toNat ∧ COk c') ?_
    (x := ((n, 0, ()), (c, [], ()))) ⟨rfl, by simp, by simpa using h0, h, by simp⟩ (by simpa using hN)
  · obtain ⟨r, h1, c', out, rfl, h2, h3⟩ := this
    exact ⟨c', out, h1, h2, h3⟩
  · rintro ⟨⟨n', i, _⟩, ⟨p, out, _⟩⟩ ⟨h1, h2, h3, h4, h5⟩
    simp only at h1 h2 h3 h4 h5
    subst h1
    simp only [make_Codes_Bytes_s2]
    by_cases hlt : i < n'
    · obtain ⟨v, c', e, h6, h7, h8⟩ := next_ok N (n := 256) h4 (by omega)
      have e1 : w64 (i + 1) = i + 1 := w64_of (by omega) (by omega)
      simp only [hlt, decide_true, cond_true, e, Option.bind]
      have e2 : room (out.length + [iu8 (w64 (v + w64 (i * 7)))].length) 1 = true := by
        unfold room; simp; omega
      rw [e2, cond_true, e1]
      refine ⟨_, rfl, ⟨rfl, by simp only; omega, by simp only; omega, h8, by simp; omega⟩, by simp only; omega⟩
    · simp only [hlt, decide_false, cond_false]
      refine ⟨_, rfl, _, rfl, p, out, rfl, by rw [h5]; congr 1; omega, h4⟩
theorem new_ok (N : Nat) (l : List UInt8) {m : Int} (h0 : 0 ≤ m) (hm : m ≤ 1000000) : ∃ c, make_New N l m = some ((), (c, ())) ∧ COk c := by
  unfold make_New
  by_cases hlt : m < (l.length : Int)
  · simp only [hlt, decide_true, cond_true, h0, Int.le_refl, Bool.and_self, show m ≤ (l.length : Int) by omega]
    exact ⟨_, rfl, by simp, by simp, by simp [cut]; omega⟩
  · simp only [hlt, decide_false, cond_false]
    exact ⟨_, rfl, by simp, by simp, by simp only; omega⟩
end Go.Proofs.YtofajgidjkjnpaaDoor.Pl

/- Plain: the law SchnorrSigns. -/
namespace Go.Proofs.YtofajgidjkjnpaaDoor.Pl
open Go
theorem awake15 : law15_awake 18446744073709551616 = some ((true, ()), ()) := by kernel_rfl
theorem word_ok (N : Nat) (hN : 4611686018427387904 ≤ N) {c : List UInt8 × (Int × Unit)} (hc : COk c) : ∃ v c', make_Codes_Word N c = some ((v, ()), (c', ())) ∧ COk c' := by
  unfold make_Codes_Word
  obtain ⟨u, c1, e1, u0, u1, k1⟩ := next_ok N (n := 6) hc (by omega)
  rw [e1, Option.bind_some]
  by_cases h0 : u = 0
  · obtain ⟨w, c2, e2, _, _, k2⟩ := next_ok N (n := 4) k1 (by omega)
    rw [dpos h0, cond_true, e2]
    exact ⟨_, _, rfl, k2⟩
  by_cases h1 : u = 1
  · obtain ⟨w, c2, e2, _, _, k2⟩ := next_ok N (n := 3) k1 (by omega)
    rw [dneg h0, dpos h1, cond_false, cond_true, e2]
    exact ⟨_, _, rfl, k2⟩
  · rw [dneg h0, dneg h1, cond_false, cond_false]
    unfold make_Codes_Word_1
    have := loopK_of (N := N) (step := fun y => make_Codes_Word_s2 N y.1.1 y.1.2.1 y.2.1) (J := fun (e : ((UInt64 × Unit) × ((List UInt8 × (Int × Unit)) × Unit))) => make_Codes_Word_3 N e.1.1 e.2.1)
      (I := fun y => ∃ (i : Nat) (v : UInt64) (d : List UInt8 × (Int × Unit)), y = ((v, (i : Int), ()), (d, ())) ∧ i ≤ 8 ∧ COk d) (μ := fun y => (8 - y.1.2.1).toNat) (T := fun r => ∃ v c', r = ((v, ()), (c', ())) ∧ COk c') ?_ (x := ((0, 0, ()), (c1, ()))) ⟨0, 0, c1, rfl, by omega, k1⟩ (by simp only; omega)
    · obtain ⟨r, h1, v, c', rfl, h2⟩ := this; exact ⟨v, c', h1, h2⟩
    · rintro _ ⟨i, v, d, rfl, hi, hd⟩
      show ∃ r, make_Codes_Word_s2 N v (i : Int) d = some r ∧ _
      unfold make_Codes_Word_s2
      by_cases hlt : i < 8
      · obtain ⟨w, d', e, _, _, k⟩ := next_ok N (n := 256) hd (by omega)
        rw [dpos (by omega), cond_true, e, Option.bind_some]
        have hw : w64 ((i : Int) + 1) = ((i + 1 : Nat) : Int) := by rw [w64_of (by omega) (by omega)]; rfl
        rw [hw]
        exact ⟨_, rfl, ⟨i + 1, _, d', rfl, by omega, k⟩, by simp only; omega⟩
      · rw [dneg (by omega), cond_false]
        exact ⟨_, rfl, _, rfl, v, d, rfl, hd⟩
theorem secret_ok (N : Nat) (hN : 4611686018427387904 ≤ N) {c : List UInt8 × (Int × Unit)} (hc : COk c) : ∃ v c', make_Codes_Secret N c = some ((v, ()), (c', ())) ∧ COk c' ∧ vsec v = true := by
  unfold make_Codes_Secret
  obtain ⟨w, c1, e1, k1⟩ := word_ok N hN hc
  rw [e1]
  refine ⟨_, _, rfl, k1, ?_⟩
  have h : (w % 2305843009213688668).toNat < 2305843009213688668 := by rw [UInt64.toNat_mod]; exact Nat.mod_lt _ (by decide)
  have o1 : (1 : UInt64).toNat = 1 := rfl
  have o2 : (2305843009213688669 : UInt64).toNat = 2305843009213688669 := rfl
  show vsec (1 + w % 2305843009213688668) = true
  unfold vsec
  rw [Bool.and_eq_true, decide_eq_true_eq, decide_eq_true_eq, UInt64.le_iff_toNat_le, UInt64.lt_iff_toNat_lt, u64add (by rw [o1]; omega), o1, o2]
  omega
theorem or64_ok {a b : Int} (a0 : 0 ≤ a) (a1 : a < 65536) (b0 : 0 ≤ b) (b1 : b < 65536) : 0 ≤ or64 a b ∧ or64 a b < 65536 := by
  obtain ⟨x, rfl⟩ := Int.eq_ofNat_of_zero_le a0
  obtain ⟨y, rfl⟩ := Int.eq_ofNat_of_zero_le b0
  unfold or64
  have e : (BitVec.ofInt 64 (x : Int) ||| BitVec.ofInt 64 (y : Int)).toNat = x ||| y := by
    rw [BitVec.toNat_or, BitVec.toNat_ofInt, BitVec.toNat_ofInt]
    congr 1 <;> omega
  have h := Nat.or_lt_two_pow (n := 16) (show x < 2 ^ 16 by omega) (show y < 2 ^ 16 by omega)
  rw [e, w64_of (by omega) (by omega)]
  omega
theorem change_ok (N : Nat) {b : List UInt8} (hb : b.length ≤ 1000000) {c : List UInt8 × (Int × Unit)} (hc : COk c) : ∃ v c', make_Codes_Change N b c = some ((v, ()), (c', ())) ∧ COk c' ∧ v.length ≤ b.length + 1 := by
  unfold make_Codes_Change
  obtain ⟨u, c1, e1, u0, u1, k1⟩ := next_ok N (n := 5) hc (by omega)
  rw [room_of (by omega), cond_true, e1, Option.bind_some]
  by_cases h0 : u = 0
  · obtain ⟨w, c2, e2, _, _, k2⟩ := next_ok N (n := 256) k1 (by omega)
    rw [dpos h0, cond_true, e2]
    simp (disch := omega) only [dpos, dneg, w64_of, inR_of, room_of, tmod_of, cond_true, cond_false, Bool.and_self, Bool.and_true, Bool.true_and, Bool.and_false, Bool.false_and, Bool.not_true, Bool.not_false, Option.bind_some, List.length_cons, List.length_nil, Nat.zero_add]
    exact ⟨_, _, rfl, k2, by simp⟩
  by_cases h1 : u = 1
  · obtain ⟨w, c2, e2, w0, w1, k2⟩ := next_ok N (n := 9) k1 (by omega)
    rw [dneg h0, dpos h1, cond_false, cond_true, e2]
    simp only [Option.bind_some]
    have hm0 : 0 ≤ (b.length : Int) * w := Int.mul_nonneg (by omega) w0
    have hm : (b.length : Int) * w ≤ (b.length : Int) * 8 := Int.mul_le_mul_of_nonneg_left (by omega) (by omega)
    have e3 : w64 ((w64 ((b.length : Int) * w)).tdiv 9) = (b.length : Int) * w / 9 := by
      rw [w64_of (x := (b.length : Int) * w) (by omega) (by omega), Int.tdiv_eq_ediv_of_nonneg hm0, w64_of (by omega) (by omega)]
    rw [e3]
    have q0 : 0 ≤ (b.length : Int) * w / 9 := by omega
    have q1 : (b.length : Int) * w / 9 ≤ b.length := by omega
    generalize (b.length : Int) * w / 9 = q at *
    simp (disch := omega) only [dpos, dneg, w64_of, inR_of, room_of, tmod_of, cond_true, cond_false, Bool.and_self, Bool.and_true, Bool.true_and, Bool.and_false, Bool.false_and, Bool.not_true, Bool.not_false, Option.bind_some, List.length_cons, List.length_nil, Nat.zero_add]
    exact ⟨_, _, rfl, k2, by simp [cut]; omega⟩
  · rw [dneg h0, dneg h1, cond_false, cond_false]
    by_cases hl : (0 : Int) < (b.length : Int)
    · obtain ⟨w, c2, e2, w0, w1, k2⟩ := next_ok N (n := 256) k1 (by omega)
      obtain ⟨x, c3, e3, x0, x1, k3⟩ := next_ok N (n := 256) k2 (by omega)
      obtain ⟨y, c4, e4, y0, y1, k4⟩ := next_ok N (n := 255) k3 (by omega)
      rw [dpos hl, cond_true, e2, Option.bind_some, e3, Option.bind_some]
      have hs : shlI w 8 = w * 256 := by
        unfold shlI
        have : w * 2 ^ min 8 64 = w * 256 := rfl
        rw [this, w64_of (by omega) (by omega)]
      obtain ⟨z0, z1⟩ := or64_ok (a := shlI w 8) (b := x) (by rw [hs]; omega) (by rw [hs]; omega) x0 (by omega)
      have hn : ¬ ((b.length : Int) = 0) := by omega
      have ht0 : 0 ≤ (or64 (shlI w 8) x).tmod (b.length : Int) := Int.tmod_nonneg _ z0
      have ht1 : (or64 (shlI w 8) x).tmod (b.length : Int) < (b.length : Int) := Int.tmod_lt_of_pos _ hl
      simp only [dneg hn, Bool.not_false, cond_true, inR_of ht0 ht1, e4, Option.bind_some]
      exact ⟨_, _, rfl, k4, by rw [List.length_set]; omega⟩
    · rw [dneg hl, cond_false]
      exact ⟨_, _, rfl, k1, by omega⟩
theorem signs (codes : List UInt8) (hc : codes.length ≤ 9223372036854775807) (secret pubk : UInt64) (m : List UInt8) (hm : m.length ≤ 9223372036854775807) (sig : List UInt8) (hsig : sig.length ≤ 9223372036854775807) :
    law15_SchnorrSigns 18446744073709551616 codes secret pubk m sig = some ((true, ()), ()) := by
  unfold law15_SchnorrSigns
  rw [awake15]
  generalize hN0 : 18446744073709551616 = N
  have hN : 4611686018427387904 ≤ N := by omega
  clear hN0
  simp only [dpos, dneg, w64_of, inR_of, room_of, tmod_of, cond_true, cond_false, Bool.and_self, Bool.and_true, Bool.true_and, Bool.and_false, Bool.false_and, Bool.not_true, Bool.not_false, Option.bind_some, List.length_cons, List.length_nil, Nat.zero_add]
  by_cases hl : (300 : Int) < (m.length : Int)
  · rw [dpos hl]; rfl
  rw [dneg hl, cond_false]
  obtain ⟨c0, e0, k0⟩ := new_ok N codes (m := 80) (by omega) (by omega)
  obtain ⟨x, c1, e1, k1, hx⟩ := secret_ok N hN k0
  rw [e0, Option.bind_some, e1, Option.bind_some, rpublic_p N hN, Option.bind_some, rsign_p N hN x (m := m) (by omega), Option.bind_some]
  have hs := sgn_len x m
  generalize (sgn x m).1 = s at *
  generalize (pub x).1 = y at *
  show law15_SchnorrSigns_1 N pubk m sig y 2 0 c1 s [secret, x] = _
  have h2 : ([secret, x] : List UInt64).length = 2 := rfl
  generalize ([secret, x] : List UInt64) = L at *
  unfold law15_SchnorrSigns_1
  refine (loopK_run (fun i : Nat => ((pubk, m, sig, y, 2, (i : Int), ()), (c1, s, L, ()))) (n := 2) ?_ (e := ((pubk, m, sig, y, ()), (c1, s, ()))) ?_ (by omega)).trans ?_
  · intro i hi
    show law15_SchnorrSigns_s2 N pubk m sig y 2 (i : Int) c1 s L = _
    unfold law15_SchnorrSigns_s2
    have hr : inR (i : Int) L.length = true := inR_of (by omega) (by omega)
    have hg := sgn_len (L.getD i 0) m
    rw [dpos (show ((i : Nat) : Int) < 2 by omega), hr]
    simp only [cond_true, Int.toNat_natCast, sign_p N hN _ (show m.length ≤ 1000000 by omega), rsign_p N hN _ (show m.length ≤ 1000000 by omega), Option.bind_some, decide_true, Bool.not_true, cond_false]
    rw [equal_ok (by omega) (by omega) (by omega)]
    simp only [Option.bind_some, decide_true, Bool.not_true, cond_false]
    rw [w64_of (by omega) (by omega)]; rfl
  · rfl
  · show law15_SchnorrSigns_3 N pubk m sig y c1 s = _
    unfold law15_SchnorrSigns_3
    obtain ⟨z, c2, e2, k2, hz⟩ := change_ok N (b := s) (by omega) k1
    rw [e2, Option.bind_some]
    show law15_SchnorrSigns_4 N m 4 0 [(y, s, ()), (pubk, s, ()), (y, sig, ()), (y, z, ())] = _
    have h4 : ([(y, s, ()), (pubk, s, ()), (y, sig, ()), (y, z, ())] : List (UInt64 × (List UInt8 × Unit))).length = 4 := rfl
    generalize ([(y, s, ()), (pubk, s, ()), (y, sig, ()), (y, z, ())] : List (UInt64 × (List UInt8 × Unit))) = A at *
    unfold law15_SchnorrSigns_4
    refine (loopK_run (fun i : Nat => ((m, 4, (i : Int), ()), (A, ()))) (n := 4) ?_ (e := ((), ())) ?_ (by omega)).trans rfl
    · intro i hi
      show law15_SchnorrSigns_s5 N m 4 (i : Int) A = _
      unfold law15_SchnorrSigns_s5
      have hr : inR (i : Int) A.length = true := inR_of (by omega) (by omega)
      rw [dpos (show ((i : Nat) : Int) < 4 by omega), hr]
      simp only [cond_true, Int.toNat_natCast, verify_p N hN _ (show m.length ≤ 1000000 by omega), rverify_p N hN _ (show m.length ≤ 1000000 by omega), Option.bind_some, decide_true, Bool.not_true, cond_false]
      rw [w64_of (by omega) (by omega)]; rfl
    · rfl
end Go.Proofs.YtofajgidjkjnpaaDoor.Pl

/- Plain: certificates are made and issued. -/
namespace Go.Proofs.YtofajgidjkjnpaaDoor.Pl
open Go
theorem bod_len (c : Cert) : (bod c).1.length ≤ c.1.length + 18 := by
  unfold bod
  repeat' split
  all_goals first
    | (simp only [bodB, List.length_append, List.length_cons, List.length_nil, be_len]; omega)
    | simp
def cert0 : Cert := ([], 0, 0, 0, false, [], ())
def withSig (c : Cert) (s : List UInt8) : Cert := (c.1, c.2.1, c.2.2.1, c.2.2.2.1, c.2.2.2.2.1, s, ())
noncomputable def iss (c : Cert) (s : UInt64) : Cert × Int :=
  if (bod c).2 = 0 then (if (sgn s (bod c).1).2 = 0 then (withSig c (sgn s (bod c).1).1, 0) else (cert0, (sgn s (bod c).1).2)) else (cert0, (bod c).2)
section
variable (N : Nat) (hN : 4611686018427387904 ≤ N)
include hN
theorem issue_p (c : Cert) (s : UInt64) (hs : c.1.length ≤ 900000) : schnorr_Issue N c s = some (((iss c s).1, (iss c s).2, ()), ()) := by
  unfold schnorr_Issue iss
  have hb := bod_len c
  rw [body_p N hN c (by omega), Option.bind_some]
  by_cases h : (bod c).2 = 0
  · simp only [dpos h, cond_true, if_pos h]
    rw [sign_p N hN s (m := (bod c).1) (by omega), Option.bind_some]
    unfold schnorr_Issue_1
    by_cases h2 : (sgn s (bod c).1).2 = 0
    · simp only [dpos h2, Bool.not_true, cond_false, if_pos h2]; rfl
    · simp only [dneg h2, Bool.not_false, cond_true, if_neg h2]; rfl
  · simp only [dneg h, cond_false, if_neg h]
    unfold schnorr_Issue_1
    simp only [dneg h, Bool.not_false, cond_true]; rfl
theorem rissue_p (c : Cert) (s : UInt64) (hs : c.1.length ≤ 900000) : ref15_Issue N c s = some (((iss c s).1, (iss c s).2, ()), ()) := by
  unfold ref15_Issue iss
  have hb := bod_len c
  rw [rbody_p N hN c (by omega), Option.bind_some]
  by_cases h : (bod c).2 = 0
  · simp only [dpos h, Bool.not_true, cond_false, if_pos h]
    rw [rsign_p N hN s (m := (bod c).1) (by omega), Option.bind_some]
    by_cases h2 : (sgn s (bod c).1).2 = 0
    · simp only [dpos h2, Bool.not_true, cond_false, if_pos h2]; rfl
    · simp only [dneg h2, Bool.not_false, cond_true, if_neg h2]; rfl
  · simp only [dneg h, Bool.not_false, cond_true, if_neg h]; rfl
omit hN in
theorem cert_ok (key : UInt64) (au : Bool) {c : List UInt8 × (Int × Unit)} (hc : COk c) : ∃ (nm : List UInt8) (f t : Int) (c' : List UInt8 × (Int × Unit)),
    make_Codes_Certificate N key au c = some (((nm, key, f, t, au, [], ()), ()), (c', ())) ∧ COk c' ∧ nameB nm = true ∧ nm.length ≤ 16 ∧ 0 ≤ f ∧ f < 10 ∧ 20 ≤ t ∧ t < 80 := by
  unfold make_Codes_Certificate
  obtain ⟨u, c1, e1, u0, u1, k1⟩ := next_ok N (n := 4) hc (by omega)
  obtain ⟨f, c2, e2, f0, f1, k2⟩ := next_ok N (n := 10) k1 (by omega)
  obtain ⟨t, c3, e3, t0, t1, k3⟩ := next_ok N (n := 60) k2 (by omega)
  rw [e1, Option.bind_some]
  simp only []
  rw [inR_of u0 (by simp only [List.length_cons, List.length_nil]; omega), cond_true, e2, Option.bind_some, e3, Option.bind_some]
  simp only []
  rw [w64_of (by omega) (by omega)]
  refine ⟨_, f, 20 + t, c3, rfl, k3, ?_, ?_, f0, f1, by omega, by omega⟩
  · obtain rfl | rfl | rfl | rfl : u = 0 ∨ u = 1 ∨ u = 2 ∨ u = 3 := by omega
    all_goals rfl
  · obtain rfl | rfl | rfl | rfl : u = 0 ∨ u = 1 ∨ u = 2 ∨ u = 3 := by omega
    all_goals decide
end
end Go.Proofs.YtofajgidjkjnpaaDoor.Pl

/- Plain: a chain of certificates that was drawn is in order. -/
namespace Go.Proofs.YtofajgidjkjnpaaDoor.Pl
open Go
def isk : List Cert → UInt64 → UInt64
  | [], k => k
  | c :: _, _ => c.2.1
structure OkC (c : Cert) (k : UInt64) : Prop where
  bod : (bod c).2 = 0
  vfy : vfy k (Pl.bod c).1 c.2.2.2.2.2.1 = 0
  f0 : 0 ≤ c.2.2.1
  f1 : c.2.2.1 < 10
  t0 : 20 ≤ c.2.2.2.1
  t1 : c.2.2.2.1 < 80
  sig : c.2.2.2.2.2.1.length = 16
  nm : c.1.length ≤ 16
def OkL : List Cert → Bool → UInt64 → Prop
  | [], _, _ => True
  | c :: l, p, k => OkC c (isk l k) ∧ (p = false → c.2.2.2.2.1 = true) ∧ OkL l false k
theorem sgn_16 {s : UInt64} (h : vsec s = true) (m : List UInt8) : (sgn s m).1.length = 16 ∧ (sgn s m).2 = 0 := by
  unfold sgn
  rw [if_pos h]
  exact ⟨by simp only [List.length_append, be_len], rfl⟩
theorem iss_ok {nm : List UInt8} {x s : UInt64} {f t : Int} {au : Bool} (hx : vsec x = true) (hs : vsec s = true) (hn : nameB nm = true) (h16 : nm.length ≤ 16) (f0 : 0 ≤ f) (f1 : f < 10) (t0 : 20 ≤ t) (t1 : t < 80) :
    OkC (iss (nm, pw 4 x, f, t, au, [], ()) s).1 (pw 4 s) ∧ (iss (nm, pw 4 x, f, t, au, [], ()) s).1.2.1 = pw 4 x ∧ (iss (nm, pw 4 x, f, t, au, [], ()) s).1.2.2.2.2.1 = au := by
  have he : elm (pw 4 x) = true := key_el (vsec_ge hx) (vsec_lt hx)
  generalize pw 4 x = y at *
  have hb : ∀ g : List UInt8, bod (nm, y, f, t, au, g, ()) = (bodB (nm, y, f, t, au, [], ()), 0) := fun g => by
    unfold bod
    simp only []
    rw [if_pos hn, if_pos he, if_neg (by omega), if_neg (by omega), if_neg (by omega), if_neg (by omega), if_neg (by omega)]
    rfl
  have e : iss (nm, y, f, t, au, [], ()) s = ((nm, y, f, t, au, (sgn s (bodB (nm, y, f, t, au, [], ()))).1, ()), 0) := by
    unfold iss
    rw [hb]
    simp only []
    rw [if_pos trivial, if_pos (sgn_16 hs _).2]
    rfl
  rw [e]
  refine ⟨⟨?_, ?_, f0, f1, t0, t1, (sgn_16 hs _).1, h16⟩, rfl, rfl⟩
  · simp only [hb]
  · simp only [hb]
    exact sign_accepted hs _
theorem drop_set_one {α : Type} {l : List α} {m : Nat} (h : m < l.length) (c : α) : (l.set m c).drop m = c :: l.drop (m + 1) := by
  rw [List.set_eq_take_append_cons_drop, if_pos h, List.drop_left' (by rw [List.length_take]; omega)]
section
variable (N : Nat) (hN : 4611686018427387904 ≤ N)
include hN
theorem draw_ok {c : List UInt8 × (Int × Unit)} (hc : COk c) : ∃ (s : UInt64) (l : List Cert) (c' : List UInt8 × (Int × Unit)), law15_draw N c = some ((s, ()), (c', l, ())) ∧ COk c' ∧ vsec s = true ∧ 1 ≤ l.length ∧ l.length ≤ 3 ∧ OkL l true (pw 4 s) := by
  unfold law15_draw
  obtain ⟨a, c1, e1, k1, ha⟩ := secret_ok N hN hc
  obtain ⟨u, c2, e2, u0, u1, k2⟩ := next_ok N (n := 3) k1 (by omega)
  rw [e1, Option.bind_some, e2, Option.bind_some]
  simp only []
  obtain ⟨n, hn⟩ := Int.eq_ofNat_of_zero_le (show 0 ≤ 1 + u by omega)
  rw [w64_of (x := 1 + u) (by omega) (by omega), hn, w64_of (by omega) (by omega)]
  simp only [Int.toNat_natCast]
  rw [show (decide (0 ≤ (n : Int)) && decide ((n : Int) ≤ (n : Int)) && room n 72) = true by
    rw [decide_eq_true (show 0 ≤ (n : Int) by omega), decide_eq_true (show (n : Int) ≤ (n : Int) by omega), room_of (by omega)]; rfl, cond_true]
  unfold law15_draw_1
  have := loopK_of (N := N) (step := fun y => law15_draw_s2 N y.1.1 y.1.2.1 y.1.2.2.1 y.2.1 y.2.2.1) (J := fun (e : ((UInt64 × Unit) × ((List UInt8 × (Int × Unit)) × List Cert × Unit))) => law15_draw_3 N e.1.1 e.2.1 e.2.2.1)
    (I := fun y => ∃ (m : Nat) (s : UInt64) (d : List UInt8 × (Int × Unit)) (l : List Cert), y = ((a, s, (m : Int) - 1, ()), (d, l, ())) ∧ COk d ∧ vsec s = true ∧ m ≤ n ∧ l.length = n ∧ OkL (l.drop m) (decide (m = 0)) (pw 4 a) ∧ isk (l.drop m) (pw 4 a) = pw 4 s)
    (μ := fun y => (y.1.2.2.1 + 1).toNat) (T := fun r => ∃ (l : List Cert) (c' : List UInt8 × (Int × Unit)), r = ((a, ()), (c', l, ())) ∧ COk c' ∧ l.length = n ∧ OkL l true (pw 4 a)) ?_
    (x := ((a, a, (n : Int) - 1, ()), (c2, List.replicate n (([] : List UInt8), (0 : UInt64), (0 : Int), (0 : Int), false, ([] : List UInt8), ()), ())))
    ⟨n, a, c2, _, rfl, k2, ha, by omega, List.length_replicate .., by rw [List.drop_eq_nil_of_le (by rw [List.length_replicate]; omega)]; trivial, by rw [List.drop_eq_nil_of_le (by rw [List.length_replicate]; omega)]; rfl⟩ (by simp only; omega)
  · obtain ⟨r, h1, l, c', rfl, h2, h3, h4⟩ := this
    exact ⟨a, l, c', h1, h2, ha, by omega, by omega, h4⟩
  · rintro _ ⟨m, s, d, l, rfl, hd, hs, hm, hl, ho, hk⟩
    show ∃ r, law15_draw_s2 N a s ((m : Int) - 1) d l = some r ∧ _
    unfold law15_draw_s2
    cases m with
    | zero =>
      rw [dneg (by omega), cond_false]
      exact ⟨_, rfl, _, rfl, l, d, rfl, hd, hl, by simpa using ho⟩
    | succ m =>
      rw [dpos (by omega), cond_true]
      obtain ⟨x, d1, e3, k3, hx⟩ := secret_ok N hN hd
      rw [e3, Option.bind_some, rpublic_p N hN, Option.bind_some, pub_t hx]
      simp only []
      have ei : ((m + 1 : Nat) : Int) - 1 = (m : Int) := by omega
      rw [ei]
      have ew : w64 ((m : Int) - 1) = (m : Int) - 1 := w64_of (by omega) (by omega)
      have hir : inR (m : Int) l.length = true := inR_of (by omega) (by omega)
      have fin : ∀ (nm : List UInt8) (f t : Int) (au : Bool) (d' : List UInt8 × (Int × Unit)), nameB nm = true → nm.length ≤ 16 → 0 ≤ f → f < 10 → 20 ≤ t → t < 80 → (m ≠ 0 → au = true) → COk d' →
          ∃ (m' : Nat) (s' : UInt64) (d'' : List UInt8 × (Int × Unit)) (l' : List Cert), ((a, x, (m : Int) - 1, ()), (d', l.set m (iss (nm, pw 4 x, f, t, au, [], ()) s).1, ())) = (((a, s', (m' : Int) - 1, ()), (d'', l', ())) : (UInt64 × UInt64 × Int × Unit) × ((List UInt8 × (Int × Unit)) × List Cert × Unit)) ∧ COk d'' ∧ vsec s' = true ∧ m' ≤ n ∧ l'.length = n ∧ OkL (l'.drop m') (decide (m' = 0)) (pw 4 a) ∧ isk (l'.drop m') (pw 4 a) = pw 4 s' := by
        intro nm f t au d' hn1 hn2 f0 f1 t0 t1 hau hd'
        obtain ⟨o1, o2, o3⟩ := iss_ok (au := au) hx hs hn1 hn2 f0 f1 t0 t1
        refine ⟨m, x, d', _, rfl, hd', hx, by omega, by rw [List.length_set]; exact hl, ?_, ?_⟩
        · rw [drop_set_one (by omega)]
          refine ⟨by rw [hk]; exact o1, fun h => by rw [o3]; exact hau (by simpa using h), by simpa using ho⟩
        · rw [drop_set_one (by omega)]
          exact o2
      by_cases h0 : m = 0
      · rw [dneg (show ¬ (0 : Int) < (m : Int) by omega), cond_false]
        obtain ⟨v, d2, e4, v0, v1, k4⟩ := next_ok N (n := 4) k3 (by omega)
        obtain ⟨nm, f, t, d3, e5, k5, n1, n2, f0, f1, t0, t1⟩ := cert_ok N (pw 4 x) (decide (v = 3)) k4
        rw [e4, Option.bind_some, e5, Option.bind_some, rissue_p N hN _ _ (by show nm.length ≤ 900000; omega), Option.bind_some]
        simp only [hir, cond_true, ew, Int.toNat_natCast]
        exact ⟨_, rfl, fin nm f t _ d3 n1 n2 f0 f1 t0 t1 (fun h => absurd h0 h) k5, by simp only; omega⟩
      · rw [dpos (show (0 : Int) < (m : Int) by omega), cond_true]
        obtain ⟨nm, f, t, d3, e5, k5, n1, n2, f0, f1, t0, t1⟩ := cert_ok N (pw 4 x) true k3
        rw [e5, Option.bind_some, rissue_p N hN _ _ (by show nm.length ≤ 900000; omega), Option.bind_some]
        simp only [hir, cond_true, ew, Int.toNat_natCast]
        exact ⟨_, rfl, fin nm f t _ d3 n1 n2 f0 f1 t0 t1 (fun _ => rfl) k5, by simp only; omega⟩
end
end Go.Proofs.YtofajgidjkjnpaaDoor.Pl

/- Plain: certificates are spoilt. -/
namespace Go.Proofs.YtofajgidjkjnpaaDoor.Pl
open Go
/-- Certificates of a size that all readers bear. -/
structure LOk (m : Nat) (l : List Cert) : Prop where
  pos : 1 ≤ l.length
  le : l.length ≤ 7
  sz : ∀ c ∈ l, c.1.length ≤ 17 ∧ c.2.2.2.2.2.1.length ≤ m
theorem LOk.mono {m m' : Nat} {l : List Cert} (h : LOk m l) (hm : m ≤ m') : LOk m' l := ⟨h.pos, h.le, fun c hc => ⟨(h.sz c hc).1, Nat.le_trans (h.sz c hc).2 hm⟩⟩
theorem LOk.set {m : Nat} {l : List Cert} (h : LOk m l) (i : Nat) {c : Cert} (hc : c.1.length ≤ 17 ∧ c.2.2.2.2.2.1.length ≤ m) : LOk m (l.set i c) :=
  ⟨by rw [List.length_set]; exact h.pos, by rw [List.length_set]; exact h.le, fun d hd => by
    rcases List.mem_or_eq_of_mem_set hd with hd | rfl
    · exact h.sz d hd
    · exact hc⟩
theorem LOk.get {m : Nat} {l : List Cert} (h : LOk m l) {i : Nat} (hi : i < l.length) (d : Cert) : (l.getD i d).1.length ≤ 17 ∧ (l.getD i d).2.2.2.2.2.1.length ≤ m := by
  rw [List.getD, List.getElem?_eq_getElem hi]
  exact h.sz _ (List.getElem_mem hi)
theorem getD_le {L : List (List UInt8)} {n : Nat} (h : ∀ x ∈ L, x.length ≤ n) (k : Nat) : (L.getD k []).length ≤ n := by
  rcases Nat.lt_or_ge k L.length with hk | hk
  · rw [List.getD, List.getElem?_eq_getElem hk]
    exact h _ (List.getElem_mem hk)
  · rw [List.getD, List.getElem?_eq_none hk]; simp
theorem okL_mem : ∀ {l : List Cert} {p : Bool} {k : UInt64}, OkL l p k → ∀ c ∈ l, c.1.length ≤ 17 ∧ c.2.2.2.2.2.1.length ≤ 16
  | [], _, _, _, c, hc => by simp at hc
  | d :: l, p, k, h, c, hc => by
    rcases List.mem_cons.1 hc with rfl | hc
    · have h1 := h.1.nm
      have h2 := h.1.sig
      exact ⟨by omega, by omega⟩
    · exact okL_mem h.2.2 c hc
theorem mod_ok (N : Nat) (x : Int) : ∃ t, make_Mod N x 90 = some ((t, ()), ()) := by
  unfold make_Mod
  rw [show (!(decide ((90 : Int) = 0))) = true from rfl, cond_true]
  by_cases h : x.tmod 90 < 0
  · rw [dpos h]; exact ⟨_, rfl⟩
  · rw [dneg h]; exact ⟨_, rfl⟩
theorem int_ok (N : Nat) {c : List UInt8 × (Int × Unit)} (hc : COk c) : ∃ v c', make_Codes_Int N c = some ((v, ()), (c', ())) ∧ COk c' := by
  unfold make_Codes_Int
  obtain ⟨u, c1, e1, u0, u1, k1⟩ := next_ok N (n := 4) hc (by omega)
  rw [e1, Option.bind_some]
  by_cases h : u = 3
  · rw [dpos h, cond_true]
    obtain ⟨w, c2, e2, w0, w1, k2⟩ := next_ok N (n := 12) k1 (by omega)
    show ∃ v c', Option.bind (make_Codes_Next N 12 c1) _ = _ ∧ _
    rw [e2, Option.bind_some, inR_of w0 (by simpa using w1)]
    exact ⟨_, _, rfl, k2⟩
  · rw [dneg h, cond_false]
    obtain ⟨w, c2, e2, w0, w1, k2⟩ := next_ok N (n := 60) k1 (by omega)
    rw [e2]
    exact ⟨_, _, rfl, k2⟩
section
variable (N : Nat) (hN : 4611686018427387904 ≤ N)
include hN
theorem spoil_loop {m n : Nat} {l : List Cert} (hl : LOk m l) (hi : n < l.length) {c : List UInt8 × (Int × Unit)} (hc : COk c) :
    ∃ l' c', law15_spoil_32 N (n : Int) c l = some ((), (c', l', ())) ∧ COk c' ∧ LOk m l' := by
  unfold law15_spoil_32
  have h7 := hl.le
  have := loopK_of (N := N) (step := fun y => law15_spoil_s33 N y.1.1 y.2.1 y.2.2.1) (J := fun (e : ((Unit) × ((List UInt8 × (Int × Unit)) × (List Cert) × Unit))) => law15_spoil_7 N e.2.1 e.2.2.1)
    (I := fun y => ∃ l', y = (((n : Int), ()), (c, l', ())) ∧ LOk m l' ∧ n < l'.length) (μ := fun y => 7 - y.2.2.1.length) (T := fun r => ∃ l', r = ((), (c, l', ())) ∧ LOk m l') ?_ (x := (((n : Int), ()), (c, l, ()))) ⟨l, rfl, hl, hi⟩ (by simp only; omega)
  · obtain ⟨r, h1, l', rfl, h2⟩ := this
    exact ⟨l', c, h1, hc, h2⟩
  · rintro _ ⟨l', rfl, hl', hi'⟩
    show ∃ r, law15_spoil_s33 N (n : Int) c l' = some r ∧ _
    unfold law15_spoil_s33
    by_cases h6 : (l'.length : Int) ≤ 6
    · rw [dpos h6, inR_of (show 0 ≤ (n : Int) by omega) (by omega)]
      simp only [cond_true, Int.toNat_natCast]
      rw [room_of (by simp only [List.length_cons, List.length_nil]; omega)]
      refine ⟨_, rfl, ⟨_, rfl, ⟨?_, ?_, ?_⟩, ?_⟩, ?_⟩
      · rw [List.length_append]; have := hl'.pos; omega
      · rw [List.length_append]; simp only [List.length_cons, List.length_nil]; omega
      · intro d hd
        rcases List.mem_append.1 hd with hd | hd
        · exact hl'.sz d hd
        · obtain rfl := List.mem_singleton.1 hd
          exact hl'.get hi' _
      · rw [List.length_append]; omega
      · simp only [List.length_append, List.length_cons, List.length_nil]; omega
    · rw [dneg h6, cond_false]
      exact ⟨_, rfl, _, rfl, l', rfl, hl'⟩
theorem spoil_ok {m : Nat} (hm : m ≤ 100000) {l : List Cert} (hl : LOk m l) {c : List UInt8 × (Int × Unit)} (hc : COk c) :
    ∃ l' c', law15_spoil N l c = some ((), (c', l', ())) ∧ COk c' ∧ LOk (m + 1) l' := by
  unfold law15_spoil
  have hp := hl.pos
  have h7 := hl.le
  rw [room_of (by omega), cond_true, dneg (show ¬ (l.length : Int) = 0 by omega), cond_false]
  obtain ⟨i, c1, e1, i0, i1, k1⟩ := next_ok N (n := (l.length : Int)) hc (by omega)
  obtain ⟨u, c2, e2, u0, u1, k2⟩ := next_ok N (n := 8) k1 (by omega)
  rw [e1, Option.bind_some, e2, Option.bind_some]
  simp only []
  obtain ⟨n, rfl⟩ := Int.eq_ofNat_of_zero_le i0
  have hi : n < l.length := by omega
  have hin : inR (n : Int) l.length = true := inR_of (by omega) (by omega)
  have hin0 : inR (0 : Int) l.length = true := inR_of (by omega) (by omega)
  have hg := hl.get hi (([] : List UInt8), (0 : UInt64), (0 : Int), (0 : Int), false, ([] : List UInt8), ())
  have hg0 := hl.get (show 0 < l.length by omega) (([] : List UInt8), (0 : UInt64), (0 : Int), (0 : Int), false, ([] : List UInt8), ())
  have hl1 := hl.mono (Nat.le_succ m)
  have hg2 : (l.getD n (([] : List UInt8), (0 : UInt64), (0 : Int), (0 : Int), false, ([] : List UInt8), ())).2.2.2.2.2.1.length ≤ m + 1 := by omega
  unfold law15_spoil_1 law15_spoil_3 law15_spoil_4
  by_cases h0 : u = 0
  · rw [dpos h0, cond_true]
    unfold law15_spoil_6
    obtain ⟨w, c3, e3, w0, w1, k3⟩ := next_ok N (n := 4) k2 (by omega)
    rw [e3, Option.bind_some, inR_of w0 (by simpa using w1), hin]
    simp only [cond_true, Int.toNat_natCast]
    exact ⟨_, _, rfl, k3, hl1.set n ⟨getD_le (by decide) _, hg2⟩⟩
  rw [dneg h0, cond_false]
  unfold law15_spoil_8 law15_spoil_9
  by_cases h1 : u = 1
  · rw [dpos h1, cond_true]
    unfold law15_spoil_11
    obtain ⟨w, c3, e3, k3⟩ := word_ok N hN k2
    rw [e3, Option.bind_some, hin]
    simp only [cond_true, Int.toNat_natCast]
    exact ⟨_, _, rfl, k3, hl1.set n ⟨hg.1, hg2⟩⟩
  rw [dneg h1, cond_false]
  unfold law15_spoil_12 law15_spoil_13
  by_cases h2 : u = 2
  · rw [dpos h2, cond_true]
    unfold law15_spoil_15
    obtain ⟨w, c3, e3, k3⟩ := int_ok N k2
    rw [e3, Option.bind_some, hin]
    simp only [cond_true, Int.toNat_natCast]
    exact ⟨_, _, rfl, k3, hl1.set n ⟨hg.1, hg2⟩⟩
  rw [dneg h2, cond_false]
  unfold law15_spoil_16 law15_spoil_17
  by_cases h3 : u = 3
  · rw [dpos h3, cond_true]
    unfold law15_spoil_19
    obtain ⟨w, c3, e3, k3⟩ := int_ok N k2
    rw [e3, Option.bind_some, hin]
    simp only [cond_true, Int.toNat_natCast]
    exact ⟨_, _, rfl, k3, hl1.set n ⟨hg.1, hg2⟩⟩
  rw [dneg h3, cond_false]
  unfold law15_spoil_20 law15_spoil_21
  by_cases h4 : u = 4
  · rw [dpos h4, cond_true]
    unfold law15_spoil_23
    rw [hin]
    simp only [cond_true, Int.toNat_natCast]
    exact ⟨_, _, rfl, k2, hl1.set n ⟨hg.1, hg2⟩⟩
  rw [dneg h4, cond_false]
  unfold law15_spoil_24 law15_spoil_25
  by_cases h5 : u = 5
  · rw [dpos h5, cond_true]
    unfold law15_spoil_27
    rw [hin]
    simp only [cond_true, Int.toNat_natCast]
    obtain ⟨w, c3, e3, k3, hw⟩ := change_ok N (b := (l.getD n (([] : List UInt8), (0 : UInt64), (0 : Int), (0 : Int), false, ([] : List UInt8), ())).2.2.2.2.2.1) (by omega) k2
    rw [e3, Option.bind_some]
    exact ⟨_, _, rfl, k3, hl1.set n ⟨hg.1, by show w.length ≤ m + 1; omega⟩⟩
  rw [dneg h5, cond_false]
  unfold law15_spoil_28 law15_spoil_29
  by_cases h6 : u = 6
  · rw [dpos h6, cond_true]
    unfold law15_spoil_31
    rw [hin, hin0]
    simp only [cond_true, Int.toNat_natCast, List.length_set, hin]
    exact ⟨_, _, rfl, k2, (hl1.set 0 ⟨hg.1, by omega⟩).set n ⟨hg0.1, by omega⟩⟩
  rw [dneg h6, cond_false]
  obtain ⟨l', c', q1, q2, q3⟩ := spoil_loop N hN hl hi k2
  exact ⟨l', c', q1, q2, q3.mono (Nat.le_succ m)⟩
end
end Go.Proofs.YtofajgidjkjnpaaDoor.Pl

/- Plain: what a chain in order says. -/
namespace Go.Proofs.YtofajgidjkjnpaaDoor.Pl
open Go
section
variable (N : Nat) (hN : 4611686018427387904 ≤ N)
include hN
theorem walk_ok : ∀ (l : List Cert) (M : Nat) (p : Bool) (k : UInt64), l.length ≤ 100 → l.length < M → OkL l p k → schnorr_walkR N M l p k 15 = some ((0, ()), ())
  | [], M, p, k, _, hM, _ => by
    obtain ⟨M, rfl⟩ : ∃ m, M = m + 1 := ⟨M - 1, by omega⟩
    show schnorr_walk N (schnorr_walkR N M) [] p k 15 = _
    unfold schnorr_walk
    rfl
  | c :: l, M, p, k, hl, hM, ⟨ok, au, rest⟩ => by
    obtain ⟨M, rfl⟩ : ∃ m, M = m + 1 := ⟨M - 1, by omega⟩
    simp only [List.length_cons] at hl hM
    show schnorr_walk N (schnorr_walkR N M) (c :: l) p k 15 = _
    have ih := walk_ok l M false k (by omega) (by omega) rest
    have h1 : schnorr_walk_1 N (schnorr_walkR N M) (c :: l) p k 15 (isk l k) c = some ((0, ()), ()) := by
      have h2 : schnorr_walk_2 N (schnorr_walkR N M) (c :: l) k 15 (isk l k) c (bod c).1 = some ((0, ()), ()) := by
        unfold schnorr_walk_2
        have hb := bod_len c
        have := ok.nm
        rw [verify_p N hN _ (by omega), Option.bind_some, ok.vfy]
        have e : cut (c :: l) 1 (c :: l).length = l := by simp [cut]
        have hr : (decide (0 ≤ (1 : Int)) && decide ((1 : Int) ≤ ((c :: l).length : Int)) && decide (((c :: l).length : Int) ≤ ((c :: l).length : Int)) && true) = true := by
          rw [decide_eq_true (show (1 : Int) ≤ ((c :: l).length : Int) by simp only [List.length_cons]; omega), decide_eq_true (show ((c :: l).length : Int) ≤ ((c :: l).length : Int) by omega)]; rfl
        rw [hr, e, ih]; rfl
      unfold schnorr_walk_1
      have := ok.nm; have := ok.f1; have := ok.t0
      rw [body_p N hN c (by omega), Option.bind_some, ok.bod, h2, dneg (show ¬ (15 : Int) < c.2.2.1 by omega), dneg (show ¬ c.2.2.2.1 < (15 : Int) by omega)]
      cases p
      · rw [au rfl]; rfl
      · rfl
    unfold schnorr_walk
    rw [dneg (show ¬ (((c :: l).length : Nat) : Int) = 0 by simp only [List.length_cons]; omega), inR_of (show (0 : Int) ≤ 0 by omega) (by simp only [List.length_cons]; omega)]
    simp only [cond_false, cond_true, List.getD_cons_zero]
    cases l with
    | nil => exact h1
    | cons d l =>
      rw [dpos (show (1 : Int) < (((c :: d :: l).length : Nat) : Int) by simp only [List.length_cons]; omega), inR_of (show (0 : Int) ≤ 1 by omega) (by simp only [List.length_cons]; omega)]
      exact h1
theorem walk_late (c : Cert) (l : List Cert) (M : Nat) (k : UInt64) (hl : l.length ≤ 100) (hM : 0 < M) (h : OkL (c :: l) true k) : schnorr_walkR N M (c :: l) true k 100 = some ((19, ()), ()) := by
  obtain ⟨M, rfl⟩ : ∃ m, M = m + 1 := ⟨M - 1, by omega⟩
  show schnorr_walk N (schnorr_walkR N M) (c :: l) true k 100 = _
  have ok := h.1
  have h1 : ∀ i, schnorr_walk_1 N (schnorr_walkR N M) (c :: l) true k 100 i c = some ((19, ()), ()) := by
    intro i
    unfold schnorr_walk_1
    have := ok.nm; have := ok.f1; have := ok.t1
    rw [body_p N hN c (by omega), Option.bind_some, ok.bod, dneg (show ¬ (100 : Int) < c.2.2.1 by omega), dpos (show c.2.2.2.1 < (100 : Int) by omega)]
    rfl
  unfold schnorr_walk
  rw [dneg (show ¬ (((c :: l).length : Nat) : Int) = 0 by simp only [List.length_cons]; omega), inR_of (show (0 : Int) ≤ 0 by omega) (by simp only [List.length_cons]; omega)]
  simp only [cond_false, cond_true, List.getD_cons_zero, h1]
  cases l with
  | nil => rfl
  | cons d l =>
    rw [dpos (show (1 : Int) < (((c :: d :: l).length : Nat) : Int) by simp only [List.length_cons]; omega), inR_of (show (0 : Int) ≤ 1 by omega) (by simp only [List.length_cons]; omega)]
    rfl
theorem chain_ok (c : Cert) (l : List Cert) (k : UInt64) (hl : l.length ≤ 2) (h : OkL (c :: l) true k) : schnorr_Chain N (c :: l) k 15 = some ((c.1, c.2.1, 0, ()), ()) := by
  unfold schnorr_Chain
  rw [dneg (show ¬ (((c :: l).length : Nat) : Int) = 0 by simp only [List.length_cons]; omega), dneg (show ¬ (6 : Int) < (((c :: l).length : Nat) : Int) by simp only [List.length_cons]; omega), walk_ok N hN (c :: l) N true k (by simp only [List.length_cons]; omega) (by simp only [List.length_cons]; omega) h,
    inR_of (show (0 : Int) ≤ 0 by omega) (by simp only [List.length_cons]; omega)]
  rfl
theorem chain_late (c : Cert) (l : List Cert) (k : UInt64) (hl : l.length ≤ 2) (h : OkL (c :: l) true k) : schnorr_Chain N (c :: l) k 100 = some (([], 0, 19, ()), ()) := by
  unfold schnorr_Chain
  rw [dneg (show ¬ (((c :: l).length : Nat) : Int) = 0 by simp only [List.length_cons]; omega), dneg (show ¬ (6 : Int) < (((c :: l).length : Nat) : Int) by simp only [List.length_cons]; omega), walk_late N hN c l N k (by omega) (by omega) h]
  rfl
end
end Go.Proofs.YtofajgidjkjnpaaDoor.Pl

/- Plain: what any chain of certificates says (schnorr). -/
namespace Go.Proofs.YtofajgidjkjnpaaDoor.Pl
open Go
noncomputable def cchk (c : Cert) (p : Bool) (i : UInt64) (t : Int) : Int :=
  if (bod c).2 = 0 then (if (!p && !c.2.2.2.2.1) = true then 24 else if t < c.2.2.1 then 19 else if c.2.2.2.1 < t then 19 else vfy i (bod c).1 c.2.2.2.2.2.1) else (bod c).2
noncomputable def walkV : List Cert → Bool → UInt64 → Int → Int
  | [], _, _, _ => 0
  | c :: l, p, k, t => if cchk c p (isk l k) t = 0 then walkV l false k t else cchk c p (isk l k) t
section
variable (N : Nat) (hN : 4611686018427387904 ≤ N)
include hN
theorem walk_p : ∀ (l : List Cert) (M : Nat) (p : Bool) (k : UInt64) (t : Int), l.length ≤ 100 → l.length < M → (∀ c ∈ l, c.1.length ≤ 900000) → schnorr_walkR N M l p k t = some ((walkV l p k t, ()), ())
  | [], M, p, k, t, _, hM, _ => by
    obtain ⟨M, rfl⟩ : ∃ m, M = m + 1 := ⟨M - 1, by omega⟩
    show schnorr_walk N (schnorr_walkR N M) [] p k t = _
    unfold schnorr_walk
    rfl
  | c :: l, M, p, k, t, hl, hM, hn => by
    obtain ⟨M, rfl⟩ : ∃ m, M = m + 1 := ⟨M - 1, by omega⟩
    simp only [List.length_cons] at hl hM
    show schnorr_walk N (schnorr_walkR N M) (c :: l) p k t = _
    have ih := walk_p l M false k t (by omega) (by omega) (fun d hd => hn d (by simp [hd]))
    have hnc := hn c (by simp)
    have h2 : ∀ i, schnorr_walk_2 N (schnorr_walkR N M) (c :: l) k t i c (bod c).1 = some ((if vfy i (bod c).1 c.2.2.2.2.2.1 = 0 then walkV l false k t else vfy i (bod c).1 c.2.2.2.2.2.1, ()), ()) := by
      intro i
      unfold schnorr_walk_2
      have hb := bod_len c
      rw [verify_p N hN _ (by omega), Option.bind_some]
      have e : cut (c :: l) 1 (c :: l).length = l := by simp [cut]
      have hr : (decide (0 ≤ (1 : Int)) && decide ((1 : Int) ≤ ((c :: l).length : Int)) && decide (((c :: l).length : Int) ≤ ((c :: l).length : Int)) && true) = true := by
        rw [decide_eq_true (show (1 : Int) ≤ ((c :: l).length : Int) by simp only [List.length_cons]; omega), decide_eq_true (show ((c :: l).length : Int) ≤ ((c :: l).length : Int) by omega)]; rfl
      rw [hr, e, ih]
      by_cases hv : vfy i (bod c).1 c.2.2.2.2.2.1 = 0
      · simp only [dpos hv, if_pos hv]; rfl
      · simp only [dneg hv, if_neg hv]; rfl
    have h1 : ∀ i, schnorr_walk_1 N (schnorr_walkR N M) (c :: l) p k t i c = some ((if cchk c p i t = 0 then walkV l false k t else cchk c p i t, ()), ()) := by
      intro i
      unfold schnorr_walk_1 cchk
      rw [body_p N hN c (by omega), Option.bind_some, h2]
      by_cases hb : (bod c).2 = 0
      · simp only [dpos hb, if_pos hb, Bool.not_true, cond_false]
        by_cases q1 : t < c.2.2.1
        · simp only [dpos q1, if_pos q1, cond_true]
          cases p <;> cases c.2.2.2.2.1 <;> rfl
        · by_cases q2 : c.2.2.2.1 < t
          · simp only [dneg q1, if_neg q1, dpos q2, if_pos q2, cond_true, cond_false]
            cases p <;> cases c.2.2.2.2.1 <;> rfl
          · simp only [dneg q1, if_neg q1, dneg q2, if_neg q2, cond_false]
            cases p <;> cases c.2.2.2.2.1 <;> first | rfl | (simp only [Bool.not_false, Bool.not_true, cond_true, cond_false, Bool.and_true, Bool.and_false, Bool.true_and, Bool.false_and, if_true]; first | rfl | simp)
      · simp only [dneg hb, if_neg hb, Bool.not_false, cond_true]
    unfold schnorr_walk walkV
    rw [dneg (show ¬ (((c :: l).length : Nat) : Int) = 0 by simp only [List.length_cons]; omega), inR_of (show (0 : Int) ≤ 0 by omega) (by simp only [List.length_cons]; omega)]
    simp only [cond_false, cond_true, List.getD_cons_zero]
    cases l with
    | nil => exact h1 _
    | cons d l =>
      rw [dpos (show (1 : Int) < (((c :: d :: l).length : Nat) : Int) by simp only [List.length_cons]; omega), inR_of (show (0 : Int) ≤ 1 by omega) (by simp only [List.length_cons]; omega)]
      exact h1 _
end
end Go.Proofs.YtofajgidjkjnpaaDoor.Pl

/- Plain: what any chain of certificates says (both). -/
namespace Go.Proofs.YtofajgidjkjnpaaDoor.Pl
open Go
theorem isk_drop (l : List Cert) (k : UInt64) (i : Nat) (h : i < l.length) : isk (l.drop i) k = (l.getD i (([] : List UInt8), (0 : UInt64), (0 : Int), (0 : Int), false, ([] : List UInt8), ())).2.1 := by
  rw [List.drop_eq_getElem_cons h, List.getD, List.getElem?_eq_getElem h]; rfl
section
variable (N : Nat) (hN : 4611686018427387904 ≤ N)
include hN
theorem rstep_p (l : List Cert) (k : UInt64) (t : Int) (i : Nat) (hl : l.length ≤ 100) (hi : i < l.length) (c : Cert) (hc : l.getD i (([] : List UInt8), (0 : UInt64), (0 : Int), (0 : Int), false, ([] : List UInt8), ()) = c) (hn : c.1.length ≤ 900000) :
    ref15_Chain_s2 N l k t (i : Int) = if cchk c (decide (i = 0)) (isk (l.drop (i + 1)) k) t = 0 then some (.go ((l, k, t, ((i + 1 : Nat) : Int), ()), ())) else some (.rt (([], 0, cchk c (decide (i = 0)) (isk (l.drop (i + 1)) k) t, ()), ())) := by
  unfold ref15_Chain_s2
  have hb := bod_len c
  have hw : w64 ((i : Int) + 1) = ((i + 1 : Nat) : Int) := by rw [w64_of (by omega) (by omega)]; rfl
  rw [dpos (show (i : Int) < (l.length : Int) by omega), inR_of (show 0 ≤ (i : Int) by omega) (by omega), hw]
  simp only [cond_true, Int.toNat_natCast, hc]
  rw [rbody_p N hN c (by omega)]
  simp only [Option.bind_some, rverify_p N hN _ (show (bod c).1.length ≤ 1000000 by omega)]
  have hv : ∀ i', (bif decide (((i + 1 : Nat) : Int) < (l.length : Int)) then
      bif inR ((i + 1 : Nat) : Int) l.length then
        bif !decide (vfy (l.getD (i + 1) (([] : List UInt8), (0 : UInt64), (0 : Int), (0 : Int), false, ([] : List UInt8), ())).2.1 (bod c).1 c.2.2.2.2.2.1 = 0) then (some (.rt (([], 0, vfy (l.getD (i + 1) (([] : List UInt8), (0 : UInt64), (0 : Int), (0 : Int), false, ([] : List UInt8), ())).2.1 (bod c).1 c.2.2.2.2.2.1, ()), ())) : Option (Lo ((List Cert × UInt64 × Int × Int × Unit) × Unit) ((List Cert × Unit) × Unit) ref15_Chain_R))
        else some (.go ((l, k, t, i', ()), ()))
      else none
    else bif !decide (vfy k (bod c).1 c.2.2.2.2.2.1 = 0) then some (.rt (([], 0, vfy k (bod c).1 c.2.2.2.2.2.1, ()), ())) else some (.go ((l, k, t, i', ()), ()))) =
      if vfy (isk (l.drop (i + 1)) k) (bod c).1 c.2.2.2.2.2.1 = 0 then some (.go ((l, k, t, i', ()), ())) else some (.rt (([], 0, vfy (isk (l.drop (i + 1)) k) (bod c).1 c.2.2.2.2.2.1, ()), ())) := by
    intro i'
    by_cases h1 : i + 1 < l.length
    · rw [isk_drop l k (i + 1) h1, dpos (show ((i + 1 : Nat) : Int) < (l.length : Int) by omega), inR_of (by omega) (by omega), cond_true, cond_true]
      by_cases h2 : vfy (l.getD (i + 1) (([] : List UInt8), (0 : UInt64), (0 : Int), (0 : Int), false, ([] : List UInt8), ())).2.1 (bod c).1 c.2.2.2.2.2.1 = 0
      · rw [if_pos h2, dpos h2]; rfl
      · rw [if_neg h2, dneg h2]; rfl
    · rw [List.drop_eq_nil_of_le (by omega), dneg (show ¬ ((i + 1 : Nat) : Int) < (l.length : Int) by omega), cond_false]
      show _ = if vfy k (bod c).1 c.2.2.2.2.2.1 = 0 then _ else _
      by_cases h2 : vfy k (bod c).1 c.2.2.2.2.2.1 = 0
      · rw [if_pos h2, dpos h2]; rfl
      · rw [if_neg h2, dneg h2]; rfl
  simp only [hv]
  unfold cchk
  by_cases hb : (bod c).2 = 0
  · simp only [dpos hb, if_pos hb, Bool.not_true, cond_false]
    by_cases h0 : i = 0
    · rw [dneg (show ¬ (0 : Int) < (i : Int) by omega), decide_eq_true h0]
      by_cases q1 : t < c.2.2.1
      · simp only [dpos q1, if_pos q1, cond_true, cond_false]; rfl
      · by_cases q2 : c.2.2.2.1 < t
        · simp only [dneg q1, if_neg q1, dpos q2, if_pos q2, cond_true, cond_false]; rfl
        · simp only [dneg q1, if_neg q1, dneg q2, if_neg q2, cond_false]; rfl
    · rw [dpos (show (0 : Int) < (i : Int) by omega), decide_eq_false h0]
      by_cases q1 : t < c.2.2.1
      · simp only [dpos q1, if_pos q1, cond_true, cond_false]
        cases c.2.2.2.2.1 <;> rfl
      · by_cases q2 : c.2.2.2.1 < t
        · simp only [dneg q1, if_neg q1, dpos q2, if_pos q2, cond_true, cond_false]
          cases c.2.2.2.2.1 <;> rfl
        · simp only [dneg q1, if_neg q1, dneg q2, if_neg q2, cond_true, cond_false]
          cases c.2.2.2.2.1 <;> rfl
  · simp only [dneg hb, if_neg hb, Bool.not_false, cond_true]
end
end Go.Proofs.YtofajgidjkjnpaaDoor.Pl

/- Plain: both chains' answers are one. -/
namespace Go.Proofs.YtofajgidjkjnpaaDoor.Pl
open Go
noncomputable def chV (l : List Cert) (k : UInt64) (t : Int) : List UInt8 × (UInt64 × Int) :=
  match l with
  | [] => ([], 0, 8)
  | c :: l => if 6 < l.length + 1 then ([], 0, 10) else if walkV (c :: l) true k t = 0 then (c.1, c.2.1, 0) else ([], 0, walkV (c :: l) true k t)
section
variable (N : Nat) (hN : 4611686018427387904 ≤ N)
include hN
theorem chain_p (l : List Cert) (k : UInt64) (t : Int) (hl : l.length ≤ 100) (hn : ∀ c ∈ l, c.1.length ≤ 900000) : schnorr_Chain N l k t = some (((chV l k t).1, (chV l k t).2.1, (chV l k t).2.2, ()), ()) := by
  unfold schnorr_Chain chV
  cases l with
  | nil => rfl
  | cons c l =>
    have hl' : l.length + 1 ≤ 100 := by simpa using hl
    rw [dneg (show ¬ (((c :: l).length : Nat) : Int) = 0 by simp only [List.length_cons]; omega), cond_false]
    simp only []
    by_cases h6 : 6 < l.length + 1
    · rw [dpos (show (6 : Int) < (((c :: l).length : Nat) : Int) by simp only [List.length_cons]; omega), if_pos h6]; rfl
    · rw [dneg (show ¬ (6 : Int) < (((c :: l).length : Nat) : Int) by simp only [List.length_cons]; omega), if_neg h6, cond_false, walk_p N hN _ N true k t hl (by simp only [List.length_cons]; omega) hn, Option.bind_some, inR_of (show (0 : Int) ≤ 0 by omega) (by simp only [List.length_cons]; omega)]
      by_cases hw : walkV (c :: l) true k t = 0
      · simp only [dpos hw, if_pos hw]; rfl
      · simp only [dneg hw, if_neg hw]; rfl
theorem rloop_p (l : List Cert) (k : UInt64) (t : Int) (hl : l.length ≤ 100) (hn : ∀ c ∈ l, c.1.length ≤ 900000) (J : ((List Cert × Unit) × Unit) → Option ref15_Chain_R) : ∀ (n i M : Nat), i + n = l.length → n < M →
    loopK M (fun y : (List Cert × UInt64 × Int × Int × Unit) × Unit => ref15_Chain_s2 N y.1.1 y.1.2.1 y.1.2.2.1 y.1.2.2.2.1) J ((l, k, t, (i : Int), ()), ()) =
      if walkV (l.drop i) (decide (i = 0)) k t = 0 then J ((l, ()), ()) else some (([], 0, walkV (l.drop i) (decide (i = 0)) k t, ()), ())
  | 0, i, M, h, hM => by
    obtain ⟨M, rfl⟩ : ∃ m, M = m + 1 := ⟨M - 1, by omega⟩
    rw [loopK_succ]
    have e : ref15_Chain_s2 N l k t (i : Int) = some (.br ((l, ()), ())) := by
      unfold ref15_Chain_s2
      rw [dneg (by omega)]; rfl
    show (ref15_Chain_s2 N l k t (i : Int)).bind _ = _
    rw [e, List.drop_eq_nil_of_le (by omega)]
    rfl
  | n + 1, i, M, h, hM => by
    obtain ⟨M, rfl⟩ : ∃ m, M = m + 1 := ⟨M - 1, by omega⟩
    rw [loopK_succ]
    have hi : i < l.length := by omega
    have hg : l.getD i (([] : List UInt8), (0 : UInt64), (0 : Int), (0 : Int), false, ([] : List UInt8), ()) = l[i] := by rw [List.getD, List.getElem?_eq_getElem hi]; rfl
    have ih := rloop_p l k t hl hn J n (i + 1) M (by omega) (by omega)
    show (ref15_Chain_s2 N l k t (i : Int)).bind _ = _
    rw [rstep_p N hN l k t i hl hi l[i] hg (hn _ (List.getElem_mem hi)), List.drop_eq_getElem_cons hi]
    rw [decide_eq_false (show ¬ i + 1 = 0 by omega)] at ih
    unfold walkV
    by_cases hc : cchk l[i] (decide (i = 0)) (isk (l.drop (i + 1)) k) t = 0
    · rw [if_pos hc, if_pos hc]
      exact ih
    · rw [if_neg hc, if_neg hc, if_neg hc]; rfl
theorem rchain_p (l : List Cert) (k : UInt64) (t : Int) (hl : l.length ≤ 100) (hn : ∀ c ∈ l, c.1.length ≤ 900000) : ref15_Chain N l k t = some (((chV l k t).1, (chV l k t).2.1, (chV l k t).2.2, ()), ()) := by
  unfold ref15_Chain chV
  cases l with
  | nil => rfl
  | cons c l =>
    have hl' : l.length + 1 ≤ 100 := by simpa using hl
    rw [dneg (show ¬ (((c :: l).length : Nat) : Int) = 0 by simp only [List.length_cons]; omega), cond_false]
    simp only []
    by_cases h6 : 6 < l.length + 1
    · rw [dpos (show (6 : Int) < (((c :: l).length : Nat) : Int) by simp only [List.length_cons]; omega), if_pos h6]; rfl
    · rw [dneg (show ¬ (6 : Int) < (((c :: l).length : Nat) : Int) by simp only [List.length_cons]; omega), if_neg h6, cond_false]
      unfold ref15_Chain_1
      refine (rloop_p N hN (c :: l) k t hl hn _ (c :: l).length 0 N (by omega) (by simp only [List.length_cons]; omega)).trans ?_
      show (if walkV (c :: l) true k t = 0 then ref15_Chain_3 N (c :: l) else some (([], 0, walkV (c :: l) true k t, ()), ())) = _
      by_cases hw : walkV (c :: l) true k t = 0
      · rw [if_pos hw, if_pos hw]
        unfold ref15_Chain_3
        rw [inR_of (show (0 : Int) ≤ 0 by omega) (by simp only [List.length_cons]; omega)]; rfl
      · rw [if_neg hw, if_neg hw]
end
end Go.Proofs.YtofajgidjkjnpaaDoor.Pl

/- Plain: both encodings of any certificates are one. -/
namespace Go.Proofs.YtofajgidjkjnpaaDoor.Pl
open Go
def encV : List Cert → List UInt8 → List UInt8 × Int
  | [], acc => (acc, 0)
  | c :: l, acc => if (bod c).2 = 0 then (if c.2.2.2.2.2.1.length = 16 then encV l (acc ++ (bod c).1 ++ c.2.2.2.2.2.1) else ([], 2)) else ([], (bod c).2)
def encA (l : List Cert) : List UInt8 × Int := if 6 < l.length then ([], 10) else encV l []
section
variable (N : Nat) (hN : 4611686018427387904 ≤ N)
include hN
theorem eloop_p (l : List Cert) (hl : l.length ≤ 100) (hn : ∀ c ∈ l, c.1.length ≤ 100000) (J : (Unit × (List UInt8 × Unit)) → Option schnorr_Encode_R) (hJ : ∀ out, J ((), (out, ())) = some ((0, ()), (out, ()))) : ∀ (n i M : Nat) (out : List UInt8), i + n = l.length → n < M → out.length ≤ 1000000 * i →
    loopK M (fun y : (List Cert × Int × Int × Unit) × (List UInt8 × Unit) => schnorr_Encode_s2 N y.1.1 y.1.2.1 y.1.2.2.1 y.2.1) J ((l, (l.length : Int), (i : Int), ()), (out, ())) = some (((encV (l.drop i) out).2, ()), ((encV (l.drop i) out).1, ()))
  | 0, i, M, out, h, hM, ho => by
    obtain ⟨M, rfl⟩ : ∃ m, M = m + 1 := ⟨M - 1, by omega⟩
    rw [loopK_succ]
    have e : schnorr_Encode_s2 N l (l.length : Int) (i : Int) out = some (.br ((), (out, ()))) := by
      unfold schnorr_Encode_s2
      rw [dneg (by omega)]; rfl
    show (schnorr_Encode_s2 N l (l.length : Int) (i : Int) out).bind _ = _
    rw [e, List.drop_eq_nil_of_le (by omega)]
    exact hJ out
  | n + 1, i, M, out, h, hM, ho => by
    obtain ⟨M, rfl⟩ : ∃ m, M = m + 1 := ⟨M - 1, by omega⟩
    rw [loopK_succ]
    have hi : i < l.length := by omega
    have hg : l.getD i (([] : List UInt8), (0 : UInt64), (0 : Int), (0 : Int), false, ([] : List UInt8), ()) = l[i] := by rw [List.getD, List.getElem?_eq_getElem hi]; rfl
    have hc := hn _ (List.getElem_mem hi)
    have hb := bod_len l[i]
    show (schnorr_Encode_s2 N l (l.length : Int) (i : Int) out).bind _ = _
    rw [List.drop_eq_getElem_cons hi]
    unfold schnorr_Encode_s2 encV
    have hw : w64 ((i : Int) + 1) = ((i + 1 : Nat) : Int) := by rw [w64_of (by omega) (by omega)]; rfl
    rw [dpos (show (i : Int) < (l.length : Int) by omega), inR_of (show 0 ≤ (i : Int) by omega) (by omega), hw]
    simp only [cond_true, Int.toNat_natCast, hg]
    rw [body_p N hN _ (by omega), Option.bind_some]
    by_cases h1 : (bod l[i]).2 = 0
    · simp only [dpos h1, if_pos h1, Bool.not_true, cond_false]
      by_cases h2 : l[i].2.2.2.2.2.1.length = 16
      · rw [dpos (show ((l[i].2.2.2.2.2.1.length : Nat) : Int) = 16 by omega), if_pos h2, room_of (by omega), room_of (by rw [List.length_append]; omega)]
        exact eloop_p l hl hn J hJ n (i + 1) M _ (by omega) (by omega) (by rw [List.length_append, List.length_append]; omega)
      · rw [dneg (show ¬ ((l[i].2.2.2.2.2.1.length : Nat) : Int) = 16 by omega), if_neg h2]; rfl
    · simp only [dneg h1, if_neg h1, Bool.not_false, cond_true]; rfl
theorem encode_p (l : List Cert) (hl : l.length ≤ 100) (hn : ∀ c ∈ l, c.1.length ≤ 100000) : schnorr_Encode N l = some (((encA l).2, ()), ((encA l).1, ())) := by
  unfold schnorr_Encode encA
  by_cases h6 : 6 < l.length
  · rw [dpos (show (6 : Int) < (l.length : Int) by omega), if_pos h6]; rfl
  · rw [dneg (show ¬ (6 : Int) < (l.length : Int) by omega), if_neg h6, cond_false]
    unfold schnorr_Encode_1
    exact eloop_p N hN l hl hn _ (fun _ => rfl) l.length 0 N [] (by omega) (by omega) (by simp)
theorem reloop_p (l : List Cert) (hl : l.length ≤ 100) (hn : ∀ c ∈ l, c.1.length ≤ 100000) (J : (Unit × (List UInt8 × Unit)) → Option ref15_Encode_R) (hJ : ∀ out, J ((), (out, ())) = some ((0, ()), (out, ()))) : ∀ (n i M : Nat) (out : List UInt8), i + n = l.length → n < M → out.length ≤ 1000000 * i →
    loopK M (fun y : (List Cert × Int × Unit) × (List UInt8 × Unit) => ref15_Encode_s2 N y.1.1 y.1.2.1 y.2.1) J ((l, (i : Int), ()), (out, ())) = some (((encV (l.drop i) out).2, ()), ((encV (l.drop i) out).1, ()))
  | 0, i, M, out, h, hM, ho => by
    obtain ⟨M, rfl⟩ : ∃ m, M = m + 1 := ⟨M - 1, by omega⟩
    rw [loopK_succ]
    have e : ref15_Encode_s2 N l (i : Int) out = some (.br ((), (out, ()))) := by
      unfold ref15_Encode_s2
      rw [dneg (by omega)]; rfl
    show (ref15_Encode_s2 N l (i : Int) out).bind _ = _
    rw [e, List.drop_eq_nil_of_le (by omega)]
    exact hJ out
  | n + 1, i, M, out, h, hM, ho => by
    obtain ⟨M, rfl⟩ : ∃ m, M = m + 1 := ⟨M - 1, by omega⟩
    rw [loopK_succ]
    have hi : i < l.length := by omega
    have hg : l.getD i (([] : List UInt8), (0 : UInt64), (0 : Int), (0 : Int), false, ([] : List UInt8), ()) = l[i] := by rw [List.getD, List.getElem?_eq_getElem hi]; rfl
    have hc := hn _ (List.getElem_mem hi)
    have hb := bod_len l[i]
    show (ref15_Encode_s2 N l (i : Int) out).bind _ = _
    rw [List.drop_eq_getElem_cons hi]
    unfold ref15_Encode_s2 encV
    have hw : w64 ((i : Int) + 1) = ((i + 1 : Nat) : Int) := by rw [w64_of (by omega) (by omega)]; rfl
    rw [dpos (show (i : Int) < (l.length : Int) by omega), inR_of (show 0 ≤ (i : Int) by omega) (by omega), hw]
    simp only [cond_true, Int.toNat_natCast, hg]
    rw [rbody_p N hN _ (by omega), Option.bind_some]
    by_cases h1 : (bod l[i]).2 = 0
    · simp only [dpos h1, if_pos h1, Bool.not_true, cond_false]
      by_cases h2 : l[i].2.2.2.2.2.1.length = 16
      · rw [dpos (show ((l[i].2.2.2.2.2.1.length : Nat) : Int) = 16 by omega), if_pos h2, room_of (by omega), room_of (by rw [List.length_append]; omega)]
        exact reloop_p l hl hn J hJ n (i + 1) M _ (by omega) (by omega) (by rw [List.length_append, List.length_append]; omega)
      · rw [dneg (show ¬ ((l[i].2.2.2.2.2.1.length : Nat) : Int) = 16 by omega), if_neg h2]; rfl
    · simp only [dneg h1, if_neg h1, Bool.not_false, cond_true]; rfl
theorem rencode_p (l : List Cert) (hl : l.length ≤ 100) (hn : ∀ c ∈ l, c.1.length ≤ 100000) : ref15_Encode N l = some (((encA l).2, ()), ((encA l).1, ())) := by
  unfold ref15_Encode encA
  by_cases h6 : 6 < l.length
  · rw [dpos (show (6 : Int) < (l.length : Int) by omega), if_pos h6]; rfl
  · rw [dneg (show ¬ (6 : Int) < (l.length : Int) by omega), if_neg h6, cond_false]
    unfold ref15_Encode_1
    exact reloop_p N hN l hl hn _ (fun _ => rfl) l.length 0 N [] (by omega) (by omega) (by simp)
end
end Go.Proofs.YtofajgidjkjnpaaDoor.Pl

/- Plain: what the reader of one certificate computes, for any bytes. -/
namespace Go.Proofs.YtofajgidjkjnpaaDoor.Pl
open Go
def nm0 (b : List UInt8) : Nat := (b.getD 0 0).toNat
def crt (b : List UInt8) : Cert :=
  (cut b 1 (1 + nm0 b), nbr ((b.drop (1 + nm0 b)).take 8), ((nbr ((b.drop (9 + nm0 b)).take 4)).toNat : Int), ((nbr ((b.drop (13 + nm0 b)).take 4)).toNat : Int), decide (b.getD (17 + nm0 b) 0 = 1), cut b (18 + nm0 b) (34 + nm0 b), ())
def crtK (b : List UInt8) : Bool := decide ((bod (crt b)).2 = 0) && decide (b.getD (17 + nm0 b) 0 ≤ 1)
theorem nm0_lt (b : List UInt8) : nm0 b < 256 := UInt8.toNat_lt _
theorem cut_drop (b : List UInt8) (i : Nat) : cut b i b.length = b.drop i := by unfold cut; rw [List.take_length]
theorem cut_len (b : List UInt8) {i j : Nat} (h : j ≤ b.length) (hij : i ≤ j) : (cut b i j).length = j - i := by
  unfold cut; rw [List.length_drop, List.length_take]; omega
theorem crt_name (b : List UInt8) : (crt b).1.length ≤ 256 := by
  have := nm0_lt b
  unfold crt cut
  simp only [List.length_drop, List.length_take]
  omega
theorem crt_sig (b : List UInt8) : (crt b).2.2.2.2.2.1.length ≤ 16 := by
  unfold crt cut
  simp only [List.length_drop, List.length_take]
  omega
section
variable (N : Nat) (hN : 4611686018427387904 ≤ N)
include hN
theorem first_big {b : List UInt8} (h8 : 8 ≤ b.length) (hl : b.length ≤ 1048576) : schnorr_first N b = some ((nbr (b.take 8), ()), ()) := by
  unfold schnorr_first
  rw [wire_number N (by omega) (by omega) (by omega) (by omega) (by omega) (by omega), Option.bind_some]
  rfl
theorem decode1_p {b : List UInt8} (h0 : 0 < b.length) (hb : b.length ≤ 1048576) :
    schnorr_decode N b = some ((if b.length < 34 + nm0 b then (cert0, [], false, ()) else (crt b, b.drop (34 + nm0 b), crtK b, ())), ()) := by
  have hn := nm0_lt b
  have hnm := crt_name b
  unfold schnorr_decode
  rw [inR_of (show (0 : Int) ≤ 0 by omega) (by omega), cond_true]
  by_cases hs : b.length < 34 + nm0 b
  · rw [if_pos hs]
    unfold nm0 at hs hn
    simp (disch := omega) only [w64_of]
    rw [dpos (by omega)]
    rfl
  · rw [if_neg hs]
    have hc : crt b = (cut b 1 (1 + nm0 b), nbr ((b.drop (1 + nm0 b)).take 8), ((nbr ((b.drop (9 + nm0 b)).take 4)).toNat : Int), ((nbr ((b.drop (13 + nm0 b)).take 4)).toNat : Int), decide (b.getD (17 + nm0 b) 0 = 1), cut b (18 + nm0 b) (34 + nm0 b), ()) := rfl
    have hk : crtK b = (decide ((bod (crt b)).2 = 0) && decide (b.getD (17 + nm0 b) 0 ≤ 1)) := rfl
    have hg : (b.getD 0 0).toNat = nm0 b := rfl
    rw [hg]
    generalize nm0 b = n at *
    have w1 := wire_number N (b := b) (at_ := 9 + (n : Int)) (w := 4) (by omega) (by omega) (by omega) (by omega) (by omega) (by omega)
    have w2 := wire_number N (b := b) (at_ := 13 + (n : Int)) (w := 4) (by omega) (by omega) (by omega) (by omega) (by omega) (by omega)
    have t1 : (1 + (n : Int)).toNat = 1 + n := by omega
    have t9 : (9 + (n : Int)).toNat = 9 + n := by omega
    have t13 : (13 + (n : Int)).toNat = 13 + n := by omega
    have t17 : (17 + (n : Int)).toNat = 17 + n := by omega
    have t18 : (18 + (n : Int)).toNat = 18 + n := by omega
    have t34 : (18 + (n : Int) + 16).toNat = 34 + n := by omega
    have e4 : (4 : Int).toNat = 4 := rfl
    rw [t9, e4] at w1
    rw [t13, e4] at w2
    have f1 := first_big N hN (b := b.drop (1 + n)) (by rw [List.length_drop]; omega) (by rw [List.length_drop]; omega)
    have l1 : ((b.drop (9 + n)).take 4).length = 4 := by rw [List.length_take, List.length_drop]; omega
    have l2 : ((b.drop (13 + n)).take 4).length = 4 := by rw [List.length_take, List.length_drop]; omega
    have b1 := nbr_lt (k := 4) (by omega) l1
    have b2 := nbr_lt (k := 4) (by omega) l2
    have lc : (cut b (18 + n) (34 + n)).length = 16 := by rw [cut_len b (by omega) (by omega)]; omega
    simp (disch := omega) only [w64_of]
    rw [dneg (show ¬ (b.length : Int) < 1 + (n : Int) + 17 + 16 by omega), cond_false]
    simp only [t1, t17, t18, t34, cut_drop, f1, w1, w2, Option.bind_some]
    rw [w64_of (x := ((nbr ((b.drop (9 + n)).take 4)).toNat : Int)) (by omega) (by omega), w64_of (x := ((nbr ((b.drop (13 + n)).take 4)).toNat : Int)) (by omega) (by omega)]
    rw [inR_of (show 0 ≤ 17 + (n : Int) by omega) (show 17 + (n : Int) < (b.length : Int) by omega)]
    have d1 : decide (0 ≤ 1 + (n : Int)) = true := decide_eq_true (by omega)
    have d2 : decide (1 + (n : Int) ≤ (b.length : Int)) = true := decide_eq_true (by omega)
    have d3 : decide (1 ≤ 1 + (n : Int)) = true := decide_eq_true (by omega)
    have d4 : decide ((b.length : Int) ≤ (b.length : Int)) = true := decide_eq_true (by omega)
    have d5 : decide (0 ≤ 18 + (n : Int)) = true := decide_eq_true (by omega)
    have d6 : decide (18 + (n : Int) ≤ 18 + (n : Int) + 16) = true := decide_eq_true (by omega)
    have d7 : decide (18 + (n : Int) + 16 ≤ (b.length : Int)) = true := decide_eq_true (by omega)
    have d8 : decide (0 ≤ 18 + (n : Int) + 16) = true := decide_eq_true (by omega)
    have d9 : decide ((0 : Int) ≤ 1) = true := rfl
    have hroom : room (0 + (cut b (18 + n) (34 + n)).length) 1 = true := room_of (by omega)
    simp only [d1, d2, d3, d4, d5, d6, d7, d8, d9, hroom, Bool.and_self, Bool.and_true, Bool.true_and, cond_true]
    rw [← hc, body_p N hN (crt b) (by omega), Option.bind_some, hk]
    by_cases h : (bod (crt b)).2 = 0
    · simp only [dpos h, cond_true, Bool.true_and]
    · simp only [dneg h, cond_false, Bool.false_and]
end
end Go.Proofs.YtofajgidjkjnpaaDoor.Pl

/- Plain: the program's reader of bytes of certificates, for any bytes; lists of certificates are compared. -/
namespace Go.Proofs.YtofajgidjkjnpaaDoor.Pl
open Go
/-- The certificates of bytes, behind those that were read. -/
def decV : Nat → List UInt8 → List Cert → List Cert × Int
  | 0, _, _ => ([], 4)
  | f + 1, b, acc =>
    if b.length = 0 then (if 6 < acc.length then ([], 10) else (acc, 0))
    else if b.length < 34 + nm0 b then ([], 4)
    else if crtK b = true then decV f (b.drop (34 + nm0 b)) (acc ++ [crt b]) else ([], 4)
def decA (b : List UInt8) : List Cert × Int := decV (b.length + 1) b []
theorem decV_out : ∀ (f : Nat) (b : List UInt8) (acc : List Cert), (∀ c ∈ acc, c.2.2.2.2.2.1.length ≤ 16) → (decV f b acc).1.length ≤ 6 ∧ ∀ c ∈ (decV f b acc).1, c.2.2.2.2.2.1.length ≤ 16
  | 0, b, acc, _ => ⟨by simp [decV], by simp [decV]⟩
  | f + 1, b, acc, h => by
    unfold decV
    split
    · split
      · exact ⟨by simp, by simp⟩
      · exact ⟨by show acc.length ≤ 6; omega, h⟩
    · split
      · exact ⟨by simp, by simp⟩
      · split
        · refine decV_out f _ _ fun c hc => ?_
          rcases List.mem_append.1 hc with hc | hc
          · exact h c hc
          · obtain rfl := List.mem_singleton.1 hc
            exact crt_sig b
        · exact ⟨by simp, by simp⟩
section
variable (N : Nat) (hN : 4611686018427387904 ≤ N)
include hN
theorem dloop_p : ∀ (f M : Nat) (b : List UInt8) (acc : List Cert), b.length < f → b.length < M → b.length + acc.length ≤ 1048576 →
    loopK M (fun y : ((List UInt8) × Unit) × ((List Cert) × Unit) => schnorr_Decode_s2 N y.1.1 y.2.1) (fun (e : ((Unit) × ((List Cert) × Unit))) => schnorr_Decode_3 N e.2.1) ((b, ()), (acc, ())) = some (((decV f b acc).2, ()), ((decV f b acc).1, ()))
  | 0, _, b, _, h, _, _ => absurd h (by omega)
  | f + 1, M, b, acc, hf, hM, hl => by
    obtain ⟨M, rfl⟩ : ∃ m, M = m + 1 := ⟨M - 1, by omega⟩
    rw [loopK_succ]
    show (schnorr_Decode_s2 N b acc).bind _ = _
    unfold schnorr_Decode_s2 decV
    by_cases h0 : b.length = 0
    · rw [dneg (show ¬ (0 : Int) < (b.length : Int) by omega), if_pos h0]
      show schnorr_Decode_3 N acc = _
      unfold schnorr_Decode_3
      by_cases h6 : 6 < acc.length
      · rw [dpos (show (6 : Int) < (acc.length : Int) by omega), if_pos h6]; rfl
      · rw [dneg (show ¬ (6 : Int) < (acc.length : Int) by omega), if_neg h6]; rfl
    · rw [dpos (show (0 : Int) < (b.length : Int) by omega), if_neg h0, decode1_p N hN (by omega) (by omega)]
      by_cases hs : b.length < 34 + nm0 b
      · rw [if_pos hs, if_pos hs]; rfl
      · rw [if_neg hs, if_neg hs]
        simp only [cond_true, Option.bind_some]
        cases hk : crtK b
        · rfl
        · rw [room_of (by simp only [List.length_cons, List.length_nil]; omega)]
          have hd : (b.drop (34 + nm0 b)).length ≤ b.length - 34 := by rw [List.length_drop]; omega
          exact dloop_p f M _ _ (by omega) (by omega) (by rw [List.length_append]; simp only [List.length_cons, List.length_nil]; omega)
theorem decode_p {b : List UInt8} (hb : b.length ≤ 1048576) : schnorr_Decode N b = some (((decA b).2, ()), ((decA b).1, ())) := by
  unfold schnorr_Decode schnorr_Decode_1 decA
  exact dloop_p N hN (b.length + 1) N b [] (by omega) (by omega) (by simpa using hb)
theorem same_p (c : Cert) (h : c.2.2.2.2.2.1.length ≤ 1000000) : ref15_Same N c c = some ((true, ()), ()) := by
  unfold ref15_Same
  simp only [decide_true, cond_true]
  rw [equal_ok (by omega) (by omega) (by omega)]
  simp only [Option.bind_some, decide_true]
theorem sameall_p {l : List Cert} (hl : l.length ≤ 1000000) (h : ∀ c ∈ l, c.2.2.2.2.2.1.length ≤ 1000000) : ref15_SameAll N l l = some ((true, ()), ()) := by
  unfold ref15_SameAll
  simp only [decide_true, Bool.not_true, cond_false]
  unfold ref15_SameAll_1
  refine (loopK_run (fun i : Nat => ((l, l, (i : Int), ()), ())) (n := l.length) ?_ (e := ((), ())) ?_ (by omega)).trans rfl
  · intro i hi
    show ref15_SameAll_s2 N l l (i : Int) = _
    unfold ref15_SameAll_s2
    have hg : l.getD i (([] : List UInt8), (0 : UInt64), (0 : Int), (0 : Int), false, ([] : List UInt8), ()) = l[i] := by rw [List.getD, List.getElem?_eq_getElem hi]; rfl
    have hs := h _ (List.getElem_mem hi)
    rw [dpos (show (i : Int) < (l.length : Int) by omega), inR_of (show 0 ≤ (i : Int) by omega) (by omega), w64_of (by omega) (by omega)]
    simp only [cond_true, Int.toNat_natCast, hg]
    rw [same_p N hN _ hs, Option.bind_some]
    rfl
  · show ref15_SameAll_s2 N l l (l.length : Int) = _
    unfold ref15_SameAll_s2
    rw [dneg (by omega)]; rfl
end
end Go.Proofs.YtofajgidjkjnpaaDoor.Pl

/- Plain: the document's reader of bytes of certificates is the program's, for any bytes. -/
namespace Go.Proofs.YtofajgidjkjnpaaDoor.Pl
open Go
theorem getD_drop (b : List UInt8) (a i : Nat) : (b.drop a).getD i 0 = b.getD (a + i) 0 := by simp [List.getD]
theorem cut_of_drop (b : List UInt8) (a i j : Nat) : cut (b.drop a) i j = cut b (a + i) (a + j) := by
  unfold cut
  rw [List.drop_take, List.drop_take, List.drop_drop, show a + j - (a + i) = j - i by omega]
theorem dfacts (a n L : Nat) (h : a + (34 + n) ≤ L) (hl : L ≤ 1048576) : (decide (0 ≤ (a : Int) + 1) = true ∧ decide ((a : Int) + 1 ≤ (a : Int) + 1 + (n : Int)) = true ∧ decide ((a : Int) + 1 + (n : Int) ≤ (L : Int)) = true) ∧
    decide (0 ≤ (a : Int) + 18 + (n : Int)) = true ∧ decide ((a : Int) + 18 + (n : Int) ≤ (a : Int) + 34 + (n : Int)) = true ∧ decide ((a : Int) + 34 + (n : Int) ≤ (L : Int)) = true :=
  ⟨⟨decide_eq_true (by omega), decide_eq_true (by omega), decide_eq_true (by omega)⟩, decide_eq_true (by omega), decide_eq_true (by omega), decide_eq_true (by omega)⟩
theorem tfacts (a n : Nat) : (((a : Int) + 1).toNat = a + 1 ∧ ((a : Int) + 1 + (n : Int)).toNat = a + (1 + n) ∧ ((a : Int) + 9 + (n : Int)).toNat = a + (9 + n) ∧ ((a : Int) + 13 + (n : Int)).toNat = a + (13 + n)) ∧
    ((a : Int) + 17 + (n : Int)).toNat = a + (17 + n) ∧ ((a : Int) + 18 + (n : Int)).toNat = a + (18 + n) ∧ ((a : Int) + 34 + (n : Int)).toNat = a + (34 + n) ∧ (a : Int) + (34 + (n : Int)) = ((a + (34 + n) : Nat) : Int) := by
  refine ⟨⟨?_, ?_, ?_, ?_⟩, ?_, ?_, ?_, ?_⟩ <;> omega
theorem nfacts (N : Nat) (hN : 8 < N) (b : List UInt8) (a n : Nat) (h : a + (34 + n) ≤ b.length) (hl : b.length ≤ 1048576) : ref01_Number N b ((a : Int) + 1 + (n : Int)) 8 = some ((nbr ((b.drop (a + (1 + n))).take 8), true, ()), ()) ∧
    ref01_Number N b ((a : Int) + 9 + (n : Int)) 4 = some ((nbr ((b.drop (a + (9 + n))).take 4), true, ()), ()) ∧ ref01_Number N b ((a : Int) + 13 + (n : Int)) 4 = some ((nbr ((b.drop (a + (13 + n))).take 4), true, ()), ()) := by
  have w0 := ref_number N (b := b) (at_ := (a : Int) + 1 + (n : Int)) (w := 8) (by omega) (by omega) (by omega) (by omega) (by omega) hN
  have w1 := ref_number N (b := b) (at_ := (a : Int) + 9 + (n : Int)) (w := 4) (by omega) (by omega) (by omega) (by omega) (by omega) hN
  have w2 := ref_number N (b := b) (at_ := (a : Int) + 13 + (n : Int)) (w := 4) (by omega) (by omega) (by omega) (by omega) (by omega) hN
  obtain ⟨⟨t0, t1, t9, t13⟩, _⟩ := tfacts a n
  rw [t1] at w0
  rw [t9] at w1
  rw [t13] at w2
  exact ⟨w0, w1, w2⟩
section
variable (N : Nat) (hN : 4611686018427387904 ≤ N)
include hN
theorem rdstep_p (b : List UInt8) (hb : b.length ≤ 1048576) (a : Nat) (ha : a < b.length) (acc : List Cert) (hacc : acc.length ≤ 1048576) :
    ref15_Decode_s2 N b (a : Int) acc = some (if (b.drop a).length < 34 + nm0 (b.drop a) then .rt ((4, ()), ([], ())) else if crtK (b.drop a) = true then .go ((b, ((a + (34 + nm0 (b.drop a)) : Nat) : Int), ()), (acc ++ [crt (b.drop a)], ())) else .rt ((4, ()), ([], ()))) := by
  have hn := nm0_lt (b.drop a)
  have hnm := crt_name (b.drop a)
  have hdl : (b.drop a).length = b.length - a := List.length_drop
  have hc : crt (b.drop a) = (cut (b.drop a) 1 (1 + nm0 (b.drop a)), nbr (((b.drop a).drop (1 + nm0 (b.drop a))).take 8), ((nbr (((b.drop a).drop (9 + nm0 (b.drop a))).take 4)).toNat : Int), ((nbr (((b.drop a).drop (13 + nm0 (b.drop a))).take 4)).toNat : Int), decide ((b.drop a).getD (17 + nm0 (b.drop a)) 0 = 1), cut (b.drop a) (18 + nm0 (b.drop a)) (34 + nm0 (b.drop a)), ()) := rfl
  have hk : crtK (b.drop a) = (decide ((bod (crt (b.drop a))).2 = 0) && decide ((b.drop a).getD (17 + nm0 (b.drop a)) 0 ≤ 1)) := rfl
  have hg : (b.getD a 0).toNat = nm0 (b.drop a) := by unfold nm0; rw [getD_drop]; rfl
  unfold ref15_Decode_s2
  rw [dpos (show (a : Int) < (b.length : Int) by omega), inR_of (show 0 ≤ (a : Int) by omega) (by omega)]
  simp only [cond_true, Int.toNat_natCast, hg]
  simp only [getD_drop, cut_of_drop, List.drop_drop] at hc hk
  generalize nm0 (b.drop a) = n at *
  generalize crt (b.drop a) = c at *
  generalize crtK (b.drop a) = q at *
  simp (disch := omega) only [w64_of]
  by_cases hs : (b.drop a).length < 34 + n
  · rw [if_pos hs, dpos (show (b.length : Int) - (a : Int) < 1 + (n : Int) + 17 + 16 by omega)]; rfl
  · rw [if_neg hs, dneg (show ¬ (b.length : Int) - (a : Int) < 1 + (n : Int) + 17 + 16 by omega), cond_false]
    obtain ⟨⟨t0, t1, t9, t13⟩, t17, t18, t34, hgo⟩ := tfacts a n
    obtain ⟨w0, w1, w2⟩ := nfacts N (by omega) b a n (by omega) hb
    have l1 : ((b.drop (a + (9 + n))).take 4).length = 4 := by rw [List.length_take, List.length_drop]; omega
    have l2 : ((b.drop (a + (13 + n))).take 4).length = 4 := by rw [List.length_take, List.length_drop]; omega
    have b1 := nbr_lt (k := 4) (by omega) l1
    have b2 := nbr_lt (k := 4) (by omega) l2
    have lc : (cut b (a + (18 + n)) (a + (34 + n))).length = 16 := by rw [cut_len b (by omega) (by omega)]; omega
    simp only [t0, t1, t17, t18, t34, w0, w1, w2, Option.bind_some]
    rw [w64_of (x := ((nbr ((b.drop (a + (9 + n))).take 4)).toNat : Int)) (by omega) (by omega), w64_of (x := ((nbr ((b.drop (a + (13 + n))).take 4)).toNat : Int)) (by omega) (by omega)]
    rw [inR_of (show 0 ≤ (a : Int) + 17 + (n : Int) by omega) (show (a : Int) + 17 + (n : Int) < (b.length : Int) by omega)]
    obtain ⟨⟨d1, d2, d3⟩, d5, d6, d7⟩ := dfacts a n b.length (by omega) hb
    have hroom : room (0 + (cut b (a + (18 + n)) (a + (34 + n))).length) 1 = true := room_of (by omega)
    have hroom2 : ∀ x : Cert, room (acc.length + [x].length) 72 = true := fun x => room_of (by simp only [List.length_cons, List.length_nil]; omega)
    simp only [d1, d2, d3, d5, d6, d7, hroom, hroom2, hgo, Bool.and_self, Bool.and_true, Bool.true_and, cond_true]
    rw [← hc, rbody_p N hN c (by omega), Option.bind_some, hk]
    by_cases h : (bod c).2 = 0
    · simp only [dpos h, Bool.not_true, cond_false, Bool.true_and]
      by_cases hm : b.getD (a + (17 + n)) 0 ≤ 1
      · have hm' : ¬ (1 : UInt8) < b.getD (a + (17 + n)) 0 := UInt8.not_lt.2 hm
        simp only [dneg hm', dpos hm, cond_false, if_true]
      · have hm' : (1 : UInt8) < b.getD (a + (17 + n)) 0 := UInt8.not_le.1 hm
        simp only [dpos hm', dneg hm, cond_true]
        rfl
    · simp only [dneg h, Bool.not_false, cond_true, Bool.false_and]
      rfl
theorem rdloop_p (b : List UInt8) (hb : b.length ≤ 1048576) : ∀ (f M a : Nat) (acc : List Cert), a ≤ b.length → b.length - a < f → b.length - a < M → b.length - a + acc.length ≤ 1048576 →
    loopK M (fun y : ((List UInt8) × Int × Unit) × ((List Cert) × Unit) => ref15_Decode_s2 N y.1.1 y.1.2.1 y.2.1) (fun (e : ((Unit) × ((List Cert) × Unit))) => ref15_Decode_3 N e.2.1) ((b, (a : Int), ()), (acc, ())) = some (((decV f (b.drop a) acc).2, ()), ((decV f (b.drop a) acc).1, ()))
  | 0, _, a, _, _, h, _, _ => absurd h (by omega)
  | f + 1, M, a, acc, hle, hf, hM, hl => by
    obtain ⟨M, rfl⟩ : ∃ m, M = m + 1 := ⟨M - 1, by omega⟩
    have hdl : (b.drop a).length = b.length - a := List.length_drop
    rw [loopK_succ]
    show (ref15_Decode_s2 N b (a : Int) acc).bind _ = _
    unfold decV
    by_cases h0 : (b.drop a).length = 0
    · rw [if_pos h0]
      unfold ref15_Decode_s2
      rw [dneg (show ¬ (a : Int) < (b.length : Int) by omega)]
      show ref15_Decode_3 N acc = _
      unfold ref15_Decode_3
      by_cases h6 : 6 < acc.length
      · rw [dpos (show (6 : Int) < (acc.length : Int) by omega), if_pos h6]; rfl
      · rw [dneg (show ¬ (6 : Int) < (acc.length : Int) by omega), if_neg h6]; rfl
    · rw [if_neg h0, rdstep_p N hN b hb a (by omega) acc (by omega)]
      by_cases hs : (b.drop a).length < 34 + nm0 (b.drop a)
      · rw [if_pos hs, if_pos hs]; rfl
      · rw [if_neg hs, if_neg hs]
        cases hk : crtK (b.drop a)
        · rfl
        · have := rdloop_p b hb f M (a + (34 + nm0 (b.drop a))) (acc ++ [crt (b.drop a)]) (by omega) (by omega) (by omega) (by rw [List.length_append]; simp only [List.length_cons, List.length_nil]; omega)
          rw [← List.drop_drop] at this
          exact this
theorem rdecode_p {b : List UInt8} (hb : b.length ≤ 1048576) : ref15_Decode N b = some (((decA b).2, ()), ((decA b).1, ())) := by
  unfold ref15_Decode ref15_Decode_1 decA
  exact rdloop_p N hN b hb (b.length + 1) N 0 [] (by omega) (by omega) (by omega) (by simpa using hb)
end
end Go.Proofs.YtofajgidjkjnpaaDoor.Pl

/- Plain: the law SchnorrChains. -/
namespace Go.Proofs.YtofajgidjkjnpaaDoor.Pl
open Go
theorem encV_len : ∀ (l : List Cert) (acc : List UInt8), (∀ c ∈ l, c.1.length ≤ 17) → (encV l acc).1.length ≤ acc.length + 60 * l.length
  | [], acc, _ => by simp [encV]
  | c :: l, acc, h => by
    have hb := bod_len c
    have hc := h c (by simp)
    unfold encV
    split
    · split
      · rename_i h16
        have := encV_len l (acc ++ (bod c).1 ++ c.2.2.2.2.2.1) (fun d hd => h d (by simp [hd]))
        simp only [List.length_append, List.length_cons] at this ⊢
        omega
      · simp
    · simp
theorem encA_len {m : Nat} {l : List Cert} (h : LOk m l) : (encA l).1.length ≤ 1000 := by
  have h1 := h.le
  unfold encA
  split
  · simp
  · have := encV_len l [] (fun c hc => (h.sz c hc).1)
    simp only [List.length_nil] at this
    omega
theorem iss_sig (c : Cert) (s : UInt64) : (iss c s).1.2.2.2.2.2.1.length ≤ 16 := by
  unfold iss
  split
  · split
    · exact sgn_len s _
    · show ([] : List UInt8).length ≤ 16; simp
  · show ([] : List UInt8).length ≤ 16; simp
section
variable (N : Nat) (hN : 4611686018427387904 ≤ N)
include hN
theorem schains_6 {m : Nat} {x : List Cert} (hx : LOk m x) (raw : List UInt8) (s y : UInt64) (t p q : Int) (c : List UInt8 × (Int × Unit)) (L : List (List Cert)) (k : List UInt64) (hk : k.length ≤ 3) :
    law15_SchnorrChains_6 N raw s y t x p q (k.length : Int) 0 c L k = law15_SchnorrChains_8 N raw s y t x p q c L := by
  have h7 := hx.le
  unfold law15_SchnorrChains_6
  refine (loopK_run (fun j : Nat => ((raw, s, y, t, x, p, q, (k.length : Int), (j : Int), ()), (c, L, k, ()))) (n := k.length) ?_ (e := ((raw, s, y, t, x, p, q, ()), (c, L, ()))) ?_ (by omega)).trans rfl
  · intro j hj
    show law15_SchnorrChains_s7 N raw s y t x p q (k.length : Int) (j : Int) c L k = _
    unfold law15_SchnorrChains_s7
    rw [dpos (show (j : Int) < (k.length : Int) by omega), inR_of (show 0 ≤ (j : Int) by omega) (by omega), w64_of (by omega) (by omega)]
    simp only [cond_true, Int.toNat_natCast]
    rw [chain_p N hN x _ t (by omega) (fun d hd => by have := (hx.sz d hd).1; omega), Option.bind_some, rchain_p N hN x _ t (by omega) (fun d hd => by have := (hx.sz d hd).1; omega), Option.bind_some]
    simp only [decide_true, Bool.not_true, cond_false]
    rfl
  · show law15_SchnorrChains_s7 N raw s y t x p q (k.length : Int) (k.length : Int) c L k = _
    unfold law15_SchnorrChains_s7
    rw [dneg (by omega)]; rfl
theorem schains_10 (x : List Cert) (raw : List UInt8) (s y : UInt64) (t p q : Int) (c : List UInt8 × (Int × Unit)) (L : List (List Cert)) (z : List (List UInt8)) (hz : z.length ≤ 3) (hb : ∀ b ∈ z, b.length ≤ 1048576) :
    law15_SchnorrChains_10 N raw s y t x p q (z.length : Int) 0 c L z = law15_SchnorrChains_12 N raw s y t x p q c L := by
  unfold law15_SchnorrChains_10
  refine (loopK_run (fun j : Nat => ((raw, s, y, t, x, p, q, (z.length : Int), (j : Int), ()), (c, L, z, ()))) (n := z.length) ?_ (e := ((raw, s, y, t, x, p, q, ()), (c, L, ()))) ?_ (by omega)).trans rfl
  · intro j hj
    show law15_SchnorrChains_s11 N raw s y t x p q (z.length : Int) (j : Int) c L z = _
    unfold law15_SchnorrChains_s11
    have hg : z.getD j [] = z[j] := by rw [List.getD, List.getElem?_eq_getElem hj]; rfl
    have hl := hb _ (List.getElem_mem hj)
    rw [dpos (show (j : Int) < (z.length : Int) by omega), inR_of (show 0 ≤ (j : Int) by omega) (by omega), w64_of (by omega) (by omega)]
    simp only [cond_true, Int.toNat_natCast, hg]
    have ho := decV_out (z[j].length + 1) z[j] [] (by simp)
    rw [decode_p N hN hl, Option.bind_some, rdecode_p N hN hl, Option.bind_some]
    simp only [decide_true, Bool.not_true, cond_false]
    rw [sameall_p N hN (l := (decA z[j]).1) (by have := ho.1; unfold decA; omega) (fun d hd => by have := ho.2 d hd; omega), Option.bind_some]
    rfl
  · show law15_SchnorrChains_s11 N raw s y t x p q (z.length : Int) (z.length : Int) c L z = _
    unfold law15_SchnorrChains_s11
    rw [dneg (by omega)]; rfl
theorem schains_12 {m : Nat} {x : List Cert} (hx : LOk m x) (raw : List UInt8) (s y : UInt64) (t p q : Int) (c : List UInt8 × (Int × Unit)) (L : List (List Cert)) :
    law15_SchnorrChains_12 N raw s y t x p q c L = law15_SchnorrChains_13 N raw s y t p q c L := by
  have hp := hx.pos
  have hn := (hx.get (show 0 < x.length by omega) (([] : List UInt8), (0 : UInt64), (0 : Int), (0 : Int), false, ([] : List UInt8), ())).1
  unfold law15_SchnorrChains_12
  rw [inR_of (show (0 : Int) ≤ 0 by omega) (show (0 : Int) < (x.length : Int) by omega)]
  generalize x.getD 0 (([] : List UInt8), (0 : UInt64), (0 : Int), (0 : Int), false, ([] : List UInt8), ()) = d at hn ⊢
  have hs := iss_sig d s
  have hb := bod_len d
  simp only [cond_true]
  rw [issue_p N hN d s (by omega), Option.bind_some, rissue_p N hN d s (by omega), Option.bind_some, body_p N hN d (by omega), Option.bind_some, rbody_p N hN d (by omega), Option.bind_some]
  simp only [decide_true, Bool.not_true, cond_false]
  rw [same_p N hN _ (by omega), Option.bind_some]
  simp only [Bool.not_true, cond_false]
  rw [equal_ok (by omega) (by omega) (by omega), Option.bind_some]
  simp only [decide_true, Bool.not_true, cond_false]
theorem schains_8 {m : Nat} {x : List Cert} (hx : LOk m x) {raw : List UInt8} (hr : raw.length ≤ 1048576) (s y : UInt64) (t p q : Int) {c : List UInt8 × (Int × Unit)} (hc : COk c) (L : List (List Cert)) :
    ∃ c', law15_SchnorrChains_8 N raw s y t x p q c L = law15_SchnorrChains_13 N raw s y t p q c' L ∧ COk c' := by
  have h7 := hx.le
  have he := encA_len hx
  unfold law15_SchnorrChains_8
  rw [encode_p N hN x (by omega) (fun d hd => by have := (hx.sz d hd).1; omega), Option.bind_some, rencode_p N hN x (by omega) (fun d hd => by have := (hx.sz d hd).1; omega), Option.bind_some]
  simp only [decide_true, Bool.not_true, cond_false]
  rw [equal_ok (by omega) (by omega) (by omega), Option.bind_some]
  simp only [decide_true, Bool.not_true]
  unfold law15_SchnorrChains_9
  obtain ⟨w, c', e1, k1, hw⟩ := change_ok N (b := (encA x).1) (by omega) hc
  rw [cond_false, e1, Option.bind_some]
  refine ⟨c', ?_, k1⟩
  refine (schains_10 N hN x raw s y t p q c' L [raw, (encA x).1, w] (by simp) ?_).trans (schains_12 N hN hx raw s y t p q c' L)
  intro b hb
  simp only [List.mem_cons, List.not_mem_nil, or_false] at hb
  rcases hb with rfl | rfl | rfl
  · exact hr
  · omega
  · omega
theorem schains_1 {m : Nat} {L : List (List Cert)} (hL : L.length ≤ 3) (hx : ∀ x ∈ L, LOk m x) {raw : List UInt8} (hr : raw.length ≤ 1048576) (s y : UInt64) (t : Int) {c : List UInt8 × (Int × Unit)} (hc : COk c) :
    law15_SchnorrChains_1 N raw s y t (L.length : Int) 0 c L = some ((true, ()), ()) := by
  unfold law15_SchnorrChains_1
  have := loopK_of (N := N) (step := fun y => law15_SchnorrChains_s2 N y.1.1 y.1.2.1 y.1.2.2.1 y.1.2.2.2.1 y.1.2.2.2.2.1 y.1.2.2.2.2.2.1 y.2.1 y.2.2.1) (J := fun (e : ((Unit) × (Unit))) => law15_SchnorrChains_14 N)
    (I := fun z => ∃ (i : Nat) (d : List UInt8 × (Int × Unit)), z = ((raw, s, y, t, (L.length : Int), (i : Int), ()), (d, L, ())) ∧ COk d ∧ i ≤ L.length)
    (μ := fun z => ((L.length : Int) - z.1.2.2.2.2.2.1).toNat) (T := fun r => r = ((true, ()), ())) ?_
    (x := ((raw, s, y, t, (L.length : Int), 0, ()), (c, L, ()))) ⟨0, c, rfl, hc, by omega⟩ (by simp only; omega)
  · obtain ⟨r, h1, rfl⟩ := this
    exact h1
  · rintro _ ⟨i, d, rfl, hd, hi⟩
    show ∃ r, law15_SchnorrChains_s2 N raw s y t (L.length : Int) (i : Int) d L = some r ∧ _
    unfold law15_SchnorrChains_s2
    by_cases hlt : i < L.length
    · rw [dpos (show (i : Int) < (L.length : Int) by omega), cond_true]
      unfold law15_SchnorrChains_3 law15_SchnorrChains_5
      have hg : L.getD i [] = L[i] := by rw [List.getD, List.getElem?_eq_getElem hlt]; rfl
      have hxi := hx _ (List.getElem_mem hlt)
      have hp := hxi.pos
      rw [inR_of (show 0 ≤ (i : Int) by omega) (by omega)]
      simp only [cond_true, Int.toNat_natCast, hg]
      rw [inR_of (show (0 : Int) ≤ 0 by omega) (show (0 : Int) < (L[i].length : Int) by omega), cond_true]
      obtain ⟨w, d1, e1, k1⟩ := word_ok N hN hd
      rw [e1, Option.bind_some]
      have h6 := schains_6 N hN hxi raw s y t (L.length : Int) (i : Int) d1 L [y, (L[i].getD 0 (([] : List UInt8), (0 : UInt64), (0 : Int), (0 : Int), false, ([] : List UInt8), ())).2.1, w] (by simp)
      obtain ⟨d2, e2, k2⟩ := schains_8 N hN hxi hr s y t (L.length : Int) (i : Int) k1 L
      refine ⟨.go ((raw, s, y, t, (L.length : Int), ((i + 1 : Nat) : Int), ()), (d2, L, ())), ?_, ⟨i + 1, d2, rfl, k2, by omega⟩, by simp only; omega⟩
      refine (h6.trans e2).trans ?_
      unfold law15_SchnorrChains_13
      rw [w64_of (x := (i : Int) + 1) (by omega) (by omega)]; rfl
    · rw [dneg (show ¬ (i : Int) < (L.length : Int) by omega), cond_false]
      exact ⟨_, rfl, _, rfl, rfl⟩
end
theorem schains (codes : List UInt8) (hc : codes.length ≤ 9223372036854775807) (now : Int) (h0 : -9223372036854775808 ≤ now) (h1 : now ≤ 9223372036854775807) (raw : List UInt8) (hr : raw.length ≤ 1048576) :
    law15_SchnorrChains 18446744073709551616 codes now raw = some ((true, ()), ()) := by
  unfold law15_SchnorrChains
  rw [awake15]
  generalize hN0 : 18446744073709551616 = N
  have hN : 4611686018427387904 ≤ N := by omega
  clear hN0
  simp only [Option.bind_some, Bool.not_true, cond_false]
  obtain ⟨c0, e0, k0⟩ := new_ok N codes (m := 160) (by omega) (by omega)
  obtain ⟨s, l, c1, e1, k1, hs, l1, l3, ok⟩ := draw_ok N hN k0
  obtain ⟨t, e2⟩ := mod_ok N now
  have hl : LOk 16 l := ⟨l1, by omega, okL_mem ok⟩
  obtain ⟨la, c2, e3, k2, ha⟩ := spoil_ok N hN (by omega) hl k1
  obtain ⟨lb, c3, e4, k3, hb⟩ := spoil_ok N hN (by omega) hl k2
  obtain ⟨lc, c4, e5, k4, hd⟩ := spoil_ok N hN (by omega) hb k3
  rw [e0, Option.bind_some, e1, Option.bind_some, rpublic_p N hN, Option.bind_some, e2, Option.bind_some, e3, Option.bind_some, e4, Option.bind_some, e5, Option.bind_some]
  refine schains_1 N hN (m := 18) (L := [l, la, lc]) (by simp) ?_ hr s (pub s).1 t k4
  intro x hx
  simp only [List.mem_cons, List.not_mem_nil, or_false] at hx
  rcases hx with rfl | rfl | rfl
  · exact hl.mono (by omega)
  · exact ha.mono (by omega)
  · exact hd.mono (by omega)
end Go.Proofs.YtofajgidjkjnpaaDoor.Pl
