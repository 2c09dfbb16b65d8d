/- Plain: the limbs of Poly1305: carry, sum, product, the number below the modulus. -/
import Derived.Test.YtlamdneheilahaaDoorAeQPolyNumber
import Derived.Test.YtlamdneheilahaaDoorFnsAeadReturnsA
set_option linter.unusedVariables false
set_option linter.unusedSimpArgs false
namespace Go.Proofs.YtlamdneheilahaaDoor.Pl
open Go Poly
/-- A round of carry. -/
def cr : List UInt64 → List UInt64
  | [a, b, c, d, e] =>
    [((a + 0) &&& 67108863) + 5 * shr64 (e + shr64 (d + shr64 (c + shr64 (b + shr64 (a + 0) 26) 26) 26) 26) 26, (b + shr64 (a + 0) 26) &&& 67108863, (c + shr64 (b + shr64 (a + 0) 26) 26) &&& 67108863,
      (d + shr64 (c + shr64 (b + shr64 (a + 0) 26) 26) 26) &&& 67108863, (e + shr64 (d + shr64 (c + shr64 (b + shr64 (a + 0) 26) 26) 26) 26) &&& 67108863]
  | l => l
theorem carry_un (M : Nat) (a b c d e : UInt64) : poly1305_limbs_carry (M + 20) [a, b, c, d, e] = some ((cr (cr [a, b, c, d, e]), ()), ()) := by kernel_rfl
theorem add_un (M : Nat) (a b c d e a' b' c' d' e' : UInt64) : poly1305_limbs_add (M + 20) [a, b, c, d, e] [a', b', c', d', e'] = some ((cr (cr [a + a', b + b', c + c', d + d', e + e']), ()), ()) := by kernel_rfl
theorem mul_un (M : Nat) (a0 a1 a2 a3 a4 b0 b1 b2 b3 b4 : UInt64) : poly1305_limbs_mul (M + 20) [a0, a1, a2, a3, a4] [b0, b1, b2, b3, b4] =
    some ((cr (cr [0 + a0 * b0 + a1 * b4 * 5 + a2 * b3 * 5 + a3 * b2 * 5 + a4 * b1 * 5, 0 + a0 * b1 + a1 * b0 + a2 * b4 * 5 + a3 * b3 * 5 + a4 * b2 * 5, 0 + a0 * b2 + a1 * b1 + a2 * b0 + a3 * b4 * 5 + a4 * b3 * 5,
      0 + a0 * b3 + a1 * b2 + a2 * b1 + a3 * b0 + a4 * b4 * 5, 0 + a0 * b4 + a1 * b3 + a2 * b2 + a3 * b1 + a4 * b0]), ()), ()) := by kernel_rfl
/-- A carry that stops at the last limb. -/
def cq : List UInt64 → List UInt64
  | [a, b, c, d, e] => [a &&& 67108863, (b + shr64 a 26) &&& 67108863, (c + shr64 (b + shr64 a 26) 26) &&& 67108863, (d + shr64 (c + shr64 (b + shr64 a 26) 26) 26) &&& 67108863, e + shr64 (d + shr64 (c + shr64 (b + shr64 a 26) 26) 26) 26]
  | l => l
theorem red_un (M : Nat) (a b c d e : UInt64) (l t : List UInt64) : poly1305_limbs_reduced_1 (M + 20) 0 l t [a, b, c, d, e] = bif decide (shr64 ((cq [a, b, c, d, e]).getD 4 0) 26 = 0) then some ((l, ()), ()) else some (((cq [a, b, c, d, e]).set 4 ((cq [a, b, c, d, e]).getD 4 0 &&& 67108863), ()), ()) := by kernel_rfl

theorem shr26 (x : UInt64) : (shr64 x 26).toNat = x.toNat / 67108864 := by
  show (x.toBitVec >>> 26).toNat = _
  rw [BitVec.toNat_ushiftRight, Nat.shiftRight_eq_div_pow]; rfl
theorem and26 (x : UInt64) : (x &&& 67108863).toNat = x.toNat % 67108864 := by
  rw [UInt64.toNat_and]; exact Nat.and_two_pow_sub_one_eq_mod _ 26
theorem addN {x y : UInt64} (h : x.toNat + y.toNat < 18446744073709551616) : (x + y).toNat = x.toNat + y.toNat := by
  rw [UInt64.toNat_add]; exact Nat.mod_eq_of_lt h
theorem mulN {x y : UInt64} (h : x.toNat * y.toNat < 18446744073709551616) : (x * y).toNat = x.toNat * y.toNat := by
  rw [UInt64.toNat_mul]; exact Nat.mod_eq_of_lt h
theorem cr_us {l : List UInt64} (h : Le 4611686018427387904 (us l)) : us (cr l) = rnd (us l) := by
  have h0 := h.2 0 (by omega); have h1 := h.2 1 (by omega); have h2 := h.2 2 (by omega); have h3 := h.2 3 (by omega); have h4 := h.2 4 (by omega)
  obtain ⟨a, b, c, d, e, rfl⟩ := list5u (by simpa [us] using h.1)
  simp only [us, List.map_cons, List.map_nil, List.getD_cons_zero, List.getD_cons_succ] at h0 h1 h2 h3 h4
  have e0 : (a + 0).toNat = a.toNat + 0 := addN (by show a.toNat + 0 < _; omega)
  have e1 : (b + shr64 (a + 0) 26).toNat = b.toNat + (a.toNat + 0) / 67108864 := by rw [addN (by rw [shr26, e0]; omega), shr26, e0]
  have e2 : (c + shr64 (b + shr64 (a + 0) 26) 26).toNat = c.toNat + (b.toNat + (a.toNat + 0) / 67108864) / 67108864 := by rw [addN (by rw [shr26, e1]; omega), shr26, e1]
  have e3 : (d + shr64 (c + shr64 (b + shr64 (a + 0) 26) 26) 26).toNat = d.toNat + (c.toNat + (b.toNat + (a.toNat + 0) / 67108864) / 67108864) / 67108864 := by rw [addN (by rw [shr26, e2]; omega), shr26, e2]
  have e4 : (e + shr64 (d + shr64 (c + shr64 (b + shr64 (a + 0) 26) 26) 26) 26).toNat = e.toNat + (d.toNat + (c.toNat + (b.toNat + (a.toNat + 0) / 67108864) / 67108864) / 67108864) / 67108864 := by rw [addN (by rw [shr26, e3]; omega), shr26, e3]
  refine Eq.trans ?_ (rnd_five _ _ _ _ _).symm
  refine congr5 ?_ ?_ ?_ ?_ ?_
  · have e5 : (5 * shr64 (e + shr64 (d + shr64 (c + shr64 (b + shr64 (a + 0) 26) 26) 26) 26) 26).toNat = 5 * ((e.toNat + (d.toNat + (c.toNat + (b.toNat + (a.toNat + 0) / 67108864) / 67108864) / 67108864) / 67108864) / 67108864) := by
      have q : (5 : UInt64).toNat = 5 := rfl
      rw [mulN (by rw [q, shr26, e4]; omega), q, shr26, e4]
    rw [addN (by rw [and26, e5, e0]; omega), and26, e5, e0]
  · rw [and26, e1]
  · rw [and26, e2]
  · rw [and26, e3]
  · rw [and26, e4]
theorem rp_inv {r : Nat} {l : List Nat} (hb : Poly.Bd r l) : ∀ j, j ≤ 5 → CInv r l (rp j l).1 j (rp j l).2 := by
  intro j
  induction j with
  | zero => intro _; exact CInv.start hb
  | succ j ih => intro hj; exact (CInv.step hb (ih (by omega)) (by omega)).1
theorem rnd_bd {r : Nat} {l : List Nat} (hb : Poly.Bd r l) (hr : r < 2) : Poly.Bd (r + 1) (rnd l) ∧ v5 (rnd l) % pp = v5 l % pp := by
  have h := (rp_inv hb 5 (Nat.le_refl 5)).done hr
  exact ⟨h.1, h.2.1⟩
theorem bd_le {r : Nat} {l : List Nat} (h : Poly.Bd r l) : Le 4611686018427387904 l := ⟨h.len, h.all⟩
/-- Two rounds. -/
theorem cr2 {l : List UInt64} (h : Le 4611686018427387904 (us l)) : Poly.Bd 2 (us (cr (cr l))) ∧ v5 (us (cr (cr l))) % pp = v5 (us l) % pp := by
  have h1 := rnd_bd h.bd (by omega)
  rw [← cr_us h] at h1
  have h2 := rnd_bd h1.1 (by omega)
  rw [← cr_us (bd_le h1.1)] at h2
  exact ⟨h2.1, h2.2.trans h1.2⟩
def mst (a b l : List Nat) (i k : Nat) : List Nat := l.set ((i + k) % 5) (l.getD ((i + k) % 5) 0 + mterm a b i k)
/-- What one limb of the first factor adds. -/
def mrow (a b l : List Nat) (i : Nat) : List Nat := mst a b (mst a b (mst a b (mst a b (mst a b l i 0) i 1) i 2) i 3) i 4
theorem prod_bd {x y : UInt64} (hx : x.toNat ≤ 67108868) (hy : y.toNat ≤ 67108868) : (x * y).toNat = x.toNat * y.toNat ∧ x.toNat * y.toNat ≤ 4503600164241424 := by
  have := Nat.mul_le_mul hx hy
  exact ⟨mulN (by omega), by omega⟩
theorem prod5 {x y : UInt64} (hx : x.toNat ≤ 67108868) (hy : y.toNat ≤ 67108868) : (x * y * 5).toNat = x.toNat * y.toNat * 5 := by
  have h := prod_bd hx hy
  have q : (5 : UInt64).toNat = 5 := rfl
  rw [mulN (by rw [h.1, q]; omega), h.1, q]
theorem mrow_ok {a b l : List Nat} {i : Nat} (ha : Le 67108868 a) (hb : Le 67108868 b) (h : MInv a b l i 0) (hi : i < 5) : MInv a b (mrow a b l i) (i + 1) 0 :=
  ((h.step ha hb hi (by omega)).1.step ha hb hi (by omega)).1 |>.step ha hb hi (by omega) |>.1.step ha hb hi (by omega) |>.1.step ha hb hi (by omega) |>.1.next
section
variable (N : Nat) (hN : 4611686018427387904 ≤ N)
include hN
theorem carry_ok {l : List UInt64} (h : Le 4611686018427387904 (us l)) : ∃ l', poly1305_limbs_carry N l = some ((l', ()), ()) ∧ Poly.Bd 2 (us l') ∧ v5 (us l') % pp = v5 (us l) % pp ∧ us l' = rnd (rnd (us l)) := by
  obtain ⟨M, rfl⟩ := Nat.exists_eq_add_of_le' (show 20 ≤ N by omega)
  obtain ⟨a, b, c, d, e, rfl⟩ := list5u (by simpa [us] using h.1)
  have h1 := rnd_bd h.bd (by omega)
  refine ⟨_, carry_un M a b c d e, (cr2 h).1, (cr2 h).2, ?_⟩
  rw [cr_us (l := cr [a, b, c, d, e]) (by rw [cr_us h]; exact bd_le h1.1), cr_us h]
theorem add_ok {l m : List UInt64} (hl : Le 67108868 (us l)) (hm : Le 67108863 (us m)) : ∃ l', poly1305_limbs_add N l m = some ((l', ()), ()) ∧ Le 67108868 (us l') ∧ v5 (us l') % pp = (v5 (us l) + v5 (us m)) % pp := by
  obtain ⟨M, rfl⟩ := Nat.exists_eq_add_of_le' (show 20 ≤ N by omega)
  have h0 := hl.2 0 (by omega); have h1 := hl.2 1 (by omega); have h2 := hl.2 2 (by omega); have h3 := hl.2 3 (by omega); have h4 := hl.2 4 (by omega)
  have k0 := hm.2 0 (by omega); have k1 := hm.2 1 (by omega); have k2 := hm.2 2 (by omega); have k3 := hm.2 3 (by omega); have k4 := hm.2 4 (by omega)
  obtain ⟨a, b, c, d, f, rfl⟩ := list5u (by simpa [us] using hl.1)
  obtain ⟨a', b', c', d', e', rfl⟩ := list5u (by simpa [us] using hm.1)
  simp only [us, List.map_cons, List.map_nil, List.getD_cons_zero, List.getD_cons_succ] at h0 h1 h2 h3 h4 k0 k1 k2 k3 k4
  have e : us [a + a', b + b', c + c', d + d', f + e'] = [a.toNat + a'.toNat, b.toNat + b'.toNat, c.toNat + c'.toNat, d.toNat + d'.toNat, f.toNat + e'.toNat] :=
    congr5 (addN (by omega)) (addN (by omega)) (addN (by omega)) (addN (by omega)) (addN (by omega))
  have hle : Le 4611686018427387904 (us [a + a', b + b', c + c', d + d', f + e']) := by rw [e]; apply le5 <;> omega
  have h := cr2 hle
  refine ⟨_, add_un M a b c d f a' b' c' d' e', h.1.le, h.2.trans ?_⟩
  rw [e]
  simp only [us, List.map_cons, List.map_nil, v5, List.getD_cons_zero, List.getD_cons_succ]
  congr 1
  omega
theorem mul_ok {l m : List UInt64} (hl : Le 67108868 (us l)) (hm : Le 67108868 (us m)) : ∃ l', poly1305_limbs_mul N l m = some ((l', ()), ()) ∧ Le 67108868 (us l') ∧ v5 (us l') % pp = v5 (us l) * v5 (us m) % pp := by
  obtain ⟨M, rfl⟩ := Nat.exists_eq_add_of_le' (show 20 ≤ N by omega)
  have h0 := hl.2 0 (by omega); have h1 := hl.2 1 (by omega); have h2 := hl.2 2 (by omega); have h3 := hl.2 3 (by omega); have h4 := hl.2 4 (by omega)
  have k0 := hm.2 0 (by omega); have k1 := hm.2 1 (by omega); have k2 := hm.2 2 (by omega); have k3 := hm.2 3 (by omega); have k4 := hm.2 4 (by omega)
  obtain ⟨a0, a1, a2, a3, a4, rfl⟩ := list5u (by simpa [us] using hl.1)
  obtain ⟨b0, b1, b2, b3, b4, rfl⟩ := list5u (by simpa [us] using hm.1)
  simp only [us, List.map_cons, List.map_nil, List.getD_cons_zero, List.getD_cons_succ] at h0 h1 h2 h3 h4 k0 k1 k2 k3 k4
  have z0 : (0 : UInt64).toNat = 0 := rfl
  have p00 := prod_bd h0 k0
  have p01 := prod_bd h0 k1
  have p02 := prod_bd h0 k2
  have p03 := prod_bd h0 k3
  have p04 := prod_bd h0 k4
  have p10 := prod_bd h1 k0
  have p11 := prod_bd h1 k1
  have p12 := prod_bd h1 k2
  have p13 := prod_bd h1 k3
  have p14 := prod_bd h1 k4
  have q14 := prod5 h1 k4
  have p20 := prod_bd h2 k0
  have p21 := prod_bd h2 k1
  have p22 := prod_bd h2 k2
  have p23 := prod_bd h2 k3
  have q23 := prod5 h2 k3
  have p24 := prod_bd h2 k4
  have q24 := prod5 h2 k4
  have p30 := prod_bd h3 k0
  have p31 := prod_bd h3 k1
  have p32 := prod_bd h3 k2
  have q32 := prod5 h3 k2
  have p33 := prod_bd h3 k3
  have q33 := prod5 h3 k3
  have p34 := prod_bd h3 k4
  have q34 := prod5 h3 k4
  have p40 := prod_bd h4 k0
  have p41 := prod_bd h4 k1
  have q41 := prod5 h4 k1
  have p42 := prod_bd h4 k2
  have q42 := prod5 h4 k2
  have p43 := prod_bd h4 k3
  have q43 := prod5 h4 k3
  have p44 := prod_bd h4 k4
  have q44 := prod5 h4 k4
  have s00 : (0 + a0 * b0 : UInt64).toNat = 0 + a0.toNat * b0.toNat := by rw [addN (by rw [z0, p00.1]; omega), z0, p00.1]
  have s01 : (0 + a0 * b0 + a1 * b4 * 5 : UInt64).toNat = 0 + a0.toNat * b0.toNat + a1.toNat * b4.toNat * 5 := by rw [addN (by rw [s00, q14]; omega), s00, q14]
  have s02 : (0 + a0 * b0 + a1 * b4 * 5 + a2 * b3 * 5 : UInt64).toNat = 0 + a0.toNat * b0.toNat + a1.toNat * b4.toNat * 5 + a2.toNat * b3.toNat * 5 := by rw [addN (by rw [s01, q23]; omega), s01, q23]
  have s03 : (0 + a0 * b0 + a1 * b4 * 5 + a2 * b3 * 5 + a3 * b2 * 5 : UInt64).toNat = 0 + a0.toNat * b0.toNat + a1.toNat * b4.toNat * 5 + a2.toNat * b3.toNat * 5 + a3.toNat * b2.toNat * 5 := by rw [addN (by rw [s02, q32]; omega), s02, q32]
  have s04 : (0 + a0 * b0 + a1 * b4 * 5 + a2 * b3 * 5 + a3 * b2 * 5 + a4 * b1 * 5 : UInt64).toNat = 0 + a0.toNat * b0.toNat + a1.toNat * b4.toNat * 5 + a2.toNat * b3.toNat * 5 + a3.toNat * b2.toNat * 5 + a4.toNat * b1.toNat * 5 := by rw [addN (by rw [s03, q41]; omega), s03, q41]
  have s10 : (0 + a0 * b1 : UInt64).toNat = 0 + a0.toNat * b1.toNat := by rw [addN (by rw [z0, p01.1]; omega), z0, p01.1]
  have s11 : (0 + a0 * b1 + a1 * b0 : UInt64).toNat = 0 + a0.toNat * b1.toNat + a1.toNat * b0.toNat := by rw [addN (by rw [s10, p10.1]; omega), s10, p10.1]
  have s12 : (0 + a0 * b1 + a1 * b0 + a2 * b4 * 5 : UInt64).toNat = 0 + a0.toNat * b1.toNat + a1.toNat * b0.toNat + a2.toNat * b4.toNat * 5 := by rw [addN (by rw [s11, q24]; omega), s11, q24]
  have s13 : (0 + a0 * b1 + a1 * b0 + a2 * b4 * 5 + a3 * b3 * 5 : UInt64).toNat = 0 + a0.toNat * b1.toNat + a1.toNat * b0.toNat + a2.toNat * b4.toNat * 5 + a3.toNat * b3.toNat * 5 := by rw [addN (by rw [s12, q33]; omega), s12, q33]
  have s14 : (0 + a0 * b1 + a1 * b0 + a2 * b4 * 5 + a3 * b3 * 5 + a4 * b2 * 5 : UInt64).toNat = 0 + a0.toNat * b1.toNat + a1.toNat * b0.toNat + a2.toNat * b4.toNat * 5 + a3.toNat * b3.toNat * 5 + a4.toNat * b2.toNat * 5 := by rw [addN (by rw [s13, q42]; omega), s13, q42]
  have s20 : (0 + a0 * b2 : UInt64).toNat = 0 + a0.toNat * b2.toNat := by rw [addN (by rw [z0, p02.1]; omega), z0, p02.1]
  have s21 : (0 + a0 * b2 + a1 * b1 : UInt64).toNat = 0 + a0.toNat * b2.toNat + a1.toNat * b1.toNat := by rw [addN (by rw [s20, p11.1]; omega), s20, p11.1]
  have s22 : (0 + a0 * b2 + a1 * b1 + a2 * b0 : UInt64).toNat = 0 + a0.toNat * b2.toNat + a1.toNat * b1.toNat + a2.toNat * b0.toNat := by rw [addN (by rw [s21, p20.1]; omega), s21, p20.1]
  have s23 : (0 + a0 * b2 + a1 * b1 + a2 * b0 + a3 * b4 * 5 : UInt64).toNat = 0 + a0.toNat * b2.toNat + a1.toNat * b1.toNat + a2.toNat * b0.toNat + a3.toNat * b4.toNat * 5 := by rw [addN (by rw [s22, q34]; omega), s22, q34]
  have s24 : (0 + a0 * b2 + a1 * b1 + a2 * b0 + a3 * b4 * 5 + a4 * b3 * 5 : UInt64).toNat = 0 + a0.toNat * b2.toNat + a1.toNat * b1.toNat + a2.toNat * b0.toNat + a3.toNat * b4.toNat * 5 + a4.toNat * b3.toNat * 5 := by rw [addN (by rw [s23, q43]; omega), s23, q43]
  have s30 : (0 + a0 * b3 : UInt64).toNat = 0 + a0.toNat * b3.toNat := by rw [addN (by rw [z0, p03.1]; omega), z0, p03.1]
  have s31 : (0 + a0 * b3 + a1 * b2 : UInt64).toNat = 0 + a0.toNat * b3.toNat + a1.toNat * b2.toNat := by rw [addN (by rw [s30, p12.1]; omega), s30, p12.1]
  have s32 : (0 + a0 * b3 + a1 * b2 + a2 * b1 : UInt64).toNat = 0 + a0.toNat * b3.toNat + a1.toNat * b2.toNat + a2.toNat * b1.toNat := by rw [addN (by rw [s31, p21.1]; omega), s31, p21.1]
  have s33 : (0 + a0 * b3 + a1 * b2 + a2 * b1 + a3 * b0 : UInt64).toNat = 0 + a0.toNat * b3.toNat + a1.toNat * b2.toNat + a2.toNat * b1.toNat + a3.toNat * b0.toNat := by rw [addN (by rw [s32, p30.1]; omega), s32, p30.1]
  have s34 : (0 + a0 * b3 + a1 * b2 + a2 * b1 + a3 * b0 + a4 * b4 * 5 : UInt64).toNat = 0 + a0.toNat * b3.toNat + a1.toNat * b2.toNat + a2.toNat * b1.toNat + a3.toNat * b0.toNat + a4.toNat * b4.toNat * 5 := by rw [addN (by rw [s33, q44]; omega), s33, q44]
  have s40 : (0 + a0 * b4 : UInt64).toNat = 0 + a0.toNat * b4.toNat := by rw [addN (by rw [z0, p04.1]; omega), z0, p04.1]
  have s41 : (0 + a0 * b4 + a1 * b3 : UInt64).toNat = 0 + a0.toNat * b4.toNat + a1.toNat * b3.toNat := by rw [addN (by rw [s40, p13.1]; omega), s40, p13.1]
  have s42 : (0 + a0 * b4 + a1 * b3 + a2 * b2 : UInt64).toNat = 0 + a0.toNat * b4.toNat + a1.toNat * b3.toNat + a2.toNat * b2.toNat := by rw [addN (by rw [s41, p22.1]; omega), s41, p22.1]
  have s43 : (0 + a0 * b4 + a1 * b3 + a2 * b2 + a3 * b1 : UInt64).toNat = 0 + a0.toNat * b4.toNat + a1.toNat * b3.toNat + a2.toNat * b2.toNat + a3.toNat * b1.toNat := by rw [addN (by rw [s42, p31.1]; omega), s42, p31.1]
  have s44 : (0 + a0 * b4 + a1 * b3 + a2 * b2 + a3 * b1 + a4 * b0 : UInt64).toNat = 0 + a0.toNat * b4.toNat + a1.toNat * b3.toNat + a2.toNat * b2.toNat + a3.toNat * b1.toNat + a4.toNat * b0.toNat := by rw [addN (by rw [s43, p40.1]; omega), s43, p40.1]
  have eo : us [0 + a0 * b0 + a1 * b4 * 5 + a2 * b3 * 5 + a3 * b2 * 5 + a4 * b1 * 5, 0 + a0 * b1 + a1 * b0 + a2 * b4 * 5 + a3 * b3 * 5 + a4 * b2 * 5, 0 + a0 * b2 + a1 * b1 + a2 * b0 + a3 * b4 * 5 + a4 * b3 * 5, 0 + a0 * b3 + a1 * b2 + a2 * b1 + a3 * b0 + a4 * b4 * 5, 0 + a0 * b4 + a1 * b3 + a2 * b2 + a3 * b1 + a4 * b0] = [0 + a0.toNat * b0.toNat + a1.toNat * b4.toNat * 5 + a2.toNat * b3.toNat * 5 + a3.toNat * b2.toNat * 5 + a4.toNat * b1.toNat * 5, 0 + a0.toNat * b1.toNat + a1.toNat * b0.toNat + a2.toNat * b4.toNat * 5 + a3.toNat * b3.toNat * 5 + a4.toNat * b2.toNat * 5, 0 + a0.toNat * b2.toNat + a1.toNat * b1.toNat + a2.toNat * b0.toNat + a3.toNat * b4.toNat * 5 + a4.toNat * b3.toNat * 5, 0 + a0.toNat * b3.toNat + a1.toNat * b2.toNat + a2.toNat * b1.toNat + a3.toNat * b0.toNat + a4.toNat * b4.toNat * 5, 0 + a0.toNat * b4.toNat + a1.toNat * b3.toNat + a2.toNat * b2.toNat + a3.toNat * b1.toNat + a4.toNat * b0.toNat] := congr5 s04 s14 s24 s34 s44
  have hm5 := mrow_ok hl hm (mrow_ok hl hm (mrow_ok hl hm (mrow_ok hl hm (mrow_ok hl hm (MInv.start _ _) (by omega)) (by omega)) (by omega)) (by omega)) (by omega)
  have hd := hm5.done
  have em : us [0 + a0 * b0 + a1 * b4 * 5 + a2 * b3 * 5 + a3 * b2 * 5 + a4 * b1 * 5, 0 + a0 * b1 + a1 * b0 + a2 * b4 * 5 + a3 * b3 * 5 + a4 * b2 * 5, 0 + a0 * b2 + a1 * b1 + a2 * b0 + a3 * b4 * 5 + a4 * b3 * 5, 0 + a0 * b3 + a1 * b2 + a2 * b1 + a3 * b0 + a4 * b4 * 5, 0 + a0 * b4 + a1 * b3 + a2 * b2 + a3 * b1 + a4 * b0] = mrow (us [a0, a1, a2, a3, a4]) (us [b0, b1, b2, b3, b4]) (mrow (us [a0, a1, a2, a3, a4]) (us [b0, b1, b2, b3, b4]) (mrow (us [a0, a1, a2, a3, a4]) (us [b0, b1, b2, b3, b4]) (mrow (us [a0, a1, a2, a3, a4]) (us [b0, b1, b2, b3, b4]) (mrow (us [a0, a1, a2, a3, a4]) (us [b0, b1, b2, b3, b4]) [0, 0, 0, 0, 0] 0) 1) 2) 3) 4 := by
    rw [eo]
    simp [mrow, mst, mterm, us]
  rw [← em] at hd
  have h := cr2 hd.1
  exact ⟨_, mul_un M a0 a1 a2 a3 a4 b0 b1 b2 b3 b4, h.1.le, h.2.trans hd.2⟩
end
end Go.Proofs.YtlamdneheilahaaDoor.Pl
