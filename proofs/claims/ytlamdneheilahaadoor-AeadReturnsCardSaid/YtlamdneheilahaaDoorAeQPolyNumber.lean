/- Plain: the number of bytes in five limbs (poly1305.number). -/
import Derived.Test.YtlamdneheilahaaDoorAeQBase
import Derived.Test.YtlamdneheilahaaDoorPolyTag
import Derived.Test.YtlamdneheilahaaDoorFnsAeadReturnsA
set_option linter.unusedVariables false
set_option linter.unusedSimpArgs false
namespace Go.Proofs.YtlamdneheilahaaDoor.Pl
open Go Poly
def us (l : List UInt64) : List Nat := l.map UInt64.toNat
def ns (l : List UInt8) : List Nat := l.map UInt8.toNat
theorem lo_add (a : UInt64) (x : UInt8) {k c : Nat} (hk : k ≤ 25) (hc : 2 ^ k = c) (h : a.toNat < 67108864) : (a + (shl64 x.toUInt64 k &&& 67108863)).toNat = a.toNat + x.toNat * c % 67108864 := by
  have hx : x.toNat < 256 := x.toNat_lt
  have h1 : (shl64 x.toUInt64 k).toNat = x.toNat * c := by
    show (x.toUInt64.toBitVec <<< k).toNat = _
    rw [BitVec.toNat_shiftLeft, Nat.shiftLeft_eq, hc]
    have e : x.toUInt64.toBitVec.toNat = x.toNat := UInt8.toNat_toUInt64 x
    rw [e]
    apply Nat.mod_eq_of_lt
    have : c ≤ 2 ^ 25 := by rw [← hc]; exact Nat.pow_le_pow_right (by decide) hk
    have := Nat.mul_le_mul (Nat.le_of_lt hx) this
    omega
  have h2 : (shl64 x.toUInt64 k &&& 67108863).toNat = x.toNat * c % 67108864 := by
    rw [UInt64.toNat_and, h1]
    exact Nat.and_two_pow_sub_one_eq_mod _ 26
  rw [UInt64.toNat_add, h2]
  apply Nat.mod_eq_of_lt
  omega
theorem hi_add (a : UInt64) (x : UInt8) {k c : Nat} (hc : 2 ^ k = c) (h : a.toNat < 67108864) : (a + shr64 x.toUInt64 k).toNat = a.toNat + x.toNat / c := by
  have hx : x.toNat < 256 := x.toNat_lt
  have h1 : (shr64 x.toUInt64 k).toNat = x.toNat / c := by
    show (x.toUInt64.toBitVec >>> k).toNat = _
    rw [BitVec.toNat_ushiftRight, Nat.shiftRight_eq_div_pow, hc]
    have e : x.toUInt64.toBitVec.toNat = x.toNat := UInt8.toNat_toUInt64 x
    rw [e]
  rw [UInt64.toNat_add, h1]
  have : x.toNat / c ≤ x.toNat := Nat.div_le_self ..
  apply Nat.mod_eq_of_lt
  omega
theorem low_of {bs l : List Nat} {i : Nat} (h : NInv bs l i) {j : Nat} (hj : j < 5) : l.getD j 0 < 67108864 := by
  refine Nat.lt_of_lt_of_le (h.low j hj) ?_
  unfold Poly.room
  exact Nat.pow_le_pow_right (by decide : 0 < 2) (Nat.min_le_left 26 _)
theorem list5u {l : List UInt64} (h : l.length = 5) : ∃ a b c d e, l = [a, b, c, d, e] := by
  match l, h with
  | [a, b, c, d, e], _ => exact ⟨a, b, c, d, e, rfl⟩
theorem congr5 {a b c d e a' b' c' d' e' : Nat} (h0 : a = a') (h1 : b = b') (h2 : c = c') (h3 : d = d') (h4 : e = e') : [a, b, c, d, e] = [a', b', c', d', e'] := by
  subst h0; subst h1; subst h2; subst h3; subst h4; rfl
theorem num_0 (N : Nat) (b : List UInt8) (n : Int) (t : List UInt64) (a0 a1 a2 a3 a4 : UInt64) : poly1305_number_s2 N b n 0 t [a0, a1, a2, a3, a4] = bif decide ((0 : Int) < n) then (bif inR (0 : Int) b.length then some (.go ((b, n, (1 : Int), ()), (t, [a0 + (shl64 (b.getD 0 0).toUInt64 0 &&& 67108863), a1, a2, a3, a4], ()))) else none) else some (.br ((), (t, [a0, a1, a2, a3, a4], ()))) := by kernel_rfl
theorem nus_0 {a0 a1 a2 a3 a4 : UInt64} (x : UInt8) (h0 : a0.toNat < 67108864) (h1 : a1.toNat < 67108864) (h2 : a2.toNat < 67108864) (h3 : a3.toNat < 67108864) (h4 : a4.toNat < 67108864) : us [a0 + (shl64 x.toUInt64 0 &&& 67108863), a1, a2, a3, a4] = nstep (us [a0, a1, a2, a3, a4]) 0 x.toNat :=
  (congr5 (lo_add _ _ (by decide) rfl h0) rfl rfl rfl rfl).trans (nstep_0 _ _ _ _ _ _).symm
theorem num_1 (N : Nat) (b : List UInt8) (n : Int) (t : List UInt64) (a0 a1 a2 a3 a4 : UInt64) : poly1305_number_s2 N b n 1 t [a0, a1, a2, a3, a4] = bif decide ((1 : Int) < n) then (bif inR (1 : Int) b.length then some (.go ((b, n, (2 : Int), ()), (t, [a0 + (shl64 (b.getD 1 0).toUInt64 8 &&& 67108863), a1, a2, a3, a4], ()))) else none) else some (.br ((), (t, [a0, a1, a2, a3, a4], ()))) := by kernel_rfl
theorem nus_1 {a0 a1 a2 a3 a4 : UInt64} (x : UInt8) (h0 : a0.toNat < 67108864) (h1 : a1.toNat < 67108864) (h2 : a2.toNat < 67108864) (h3 : a3.toNat < 67108864) (h4 : a4.toNat < 67108864) : us [a0 + (shl64 x.toUInt64 8 &&& 67108863), a1, a2, a3, a4] = nstep (us [a0, a1, a2, a3, a4]) 1 x.toNat :=
  (congr5 (lo_add _ _ (by decide) rfl h0) rfl rfl rfl rfl).trans (nstep_1 _ _ _ _ _ _).symm
theorem num_2 (N : Nat) (b : List UInt8) (n : Int) (t : List UInt64) (a0 a1 a2 a3 a4 : UInt64) : poly1305_number_s2 N b n 2 t [a0, a1, a2, a3, a4] = bif decide ((2 : Int) < n) then (bif inR (2 : Int) b.length then some (.go ((b, n, (3 : Int), ()), (t, [a0 + (shl64 (b.getD 2 0).toUInt64 16 &&& 67108863), a1, a2, a3, a4], ()))) else none) else some (.br ((), (t, [a0, a1, a2, a3, a4], ()))) := by kernel_rfl
theorem nus_2 {a0 a1 a2 a3 a4 : UInt64} (x : UInt8) (h0 : a0.toNat < 67108864) (h1 : a1.toNat < 67108864) (h2 : a2.toNat < 67108864) (h3 : a3.toNat < 67108864) (h4 : a4.toNat < 67108864) : us [a0 + (shl64 x.toUInt64 16 &&& 67108863), a1, a2, a3, a4] = nstep (us [a0, a1, a2, a3, a4]) 2 x.toNat :=
  (congr5 (lo_add _ _ (by decide) rfl h0) rfl rfl rfl rfl).trans (nstep_2 _ _ _ _ _ _).symm
theorem num_3 (N : Nat) (b : List UInt8) (n : Int) (t : List UInt64) (a0 a1 a2 a3 a4 : UInt64) : poly1305_number_s2 N b n 3 t [a0, a1, a2, a3, a4] = bif decide ((3 : Int) < n) then (bif inR (3 : Int) b.length then some (.go ((b, n, (4 : Int), ()), (t, [a0 + (shl64 (b.getD 3 0).toUInt64 24 &&& 67108863), a1 + shr64 (b.getD 3 0).toUInt64 2, a2, a3, a4], ()))) else none) else some (.br ((), (t, [a0, a1, a2, a3, a4], ()))) := by kernel_rfl
theorem nus_3 {a0 a1 a2 a3 a4 : UInt64} (x : UInt8) (h0 : a0.toNat < 67108864) (h1 : a1.toNat < 67108864) (h2 : a2.toNat < 67108864) (h3 : a3.toNat < 67108864) (h4 : a4.toNat < 67108864) : us [a0 + (shl64 x.toUInt64 24 &&& 67108863), a1 + shr64 x.toUInt64 2, a2, a3, a4] = nstep (us [a0, a1, a2, a3, a4]) 3 x.toNat :=
  (congr5 (lo_add _ _ (by decide) rfl h0) (hi_add _ _ rfl h1) rfl rfl rfl).trans (nstep_3 _ _ _ _ _ _).symm
theorem num_4 (N : Nat) (b : List UInt8) (n : Int) (t : List UInt64) (a0 a1 a2 a3 a4 : UInt64) : poly1305_number_s2 N b n 4 t [a0, a1, a2, a3, a4] = bif decide ((4 : Int) < n) then (bif inR (4 : Int) b.length then some (.go ((b, n, (5 : Int), ()), (t, [a0, a1 + (shl64 (b.getD 4 0).toUInt64 6 &&& 67108863), a2, a3, a4], ()))) else none) else some (.br ((), (t, [a0, a1, a2, a3, a4], ()))) := by kernel_rfl
theorem nus_4 {a0 a1 a2 a3 a4 : UInt64} (x : UInt8) (h0 : a0.toNat < 67108864) (h1 : a1.toNat < 67108864) (h2 : a2.toNat < 67108864) (h3 : a3.toNat < 67108864) (h4 : a4.toNat < 67108864) : us [a0, a1 + (shl64 x.toUInt64 6 &&& 67108863), a2, a3, a4] = nstep (us [a0, a1, a2, a3, a4]) 4 x.toNat :=
  (congr5 rfl (lo_add _ _ (by decide) rfl h1) rfl rfl rfl).trans (nstep_4 _ _ _ _ _ _).symm
theorem num_5 (N : Nat) (b : List UInt8) (n : Int) (t : List UInt64) (a0 a1 a2 a3 a4 : UInt64) : poly1305_number_s2 N b n 5 t [a0, a1, a2, a3, a4] = bif decide ((5 : Int) < n) then (bif inR (5 : Int) b.length then some (.go ((b, n, (6 : Int), ()), (t, [a0, a1 + (shl64 (b.getD 5 0).toUInt64 14 &&& 67108863), a2, a3, a4], ()))) else none) else some (.br ((), (t, [a0, a1, a2, a3, a4], ()))) := by kernel_rfl
theorem nus_5 {a0 a1 a2 a3 a4 : UInt64} (x : UInt8) (h0 : a0.toNat < 67108864) (h1 : a1.toNat < 67108864) (h2 : a2.toNat < 67108864) (h3 : a3.toNat < 67108864) (h4 : a4.toNat < 67108864) : us [a0, a1 + (shl64 x.toUInt64 14 &&& 67108863), a2, a3, a4] = nstep (us [a0, a1, a2, a3, a4]) 5 x.toNat :=
  (congr5 rfl (lo_add _ _ (by decide) rfl h1) rfl rfl rfl).trans (nstep_5 _ _ _ _ _ _).symm
theorem num_6 (N : Nat) (b : List UInt8) (n : Int) (t : List UInt64) (a0 a1 a2 a3 a4 : UInt64) : poly1305_number_s2 N b n 6 t [a0, a1, a2, a3, a4] = bif decide ((6 : Int) < n) then (bif inR (6 : Int) b.length then some (.go ((b, n, (7 : Int), ()), (t, [a0, a1 + (shl64 (b.getD 6 0).toUInt64 22 &&& 67108863), a2 + shr64 (b.getD 6 0).toUInt64 4, a3, a4], ()))) else none) else some (.br ((), (t, [a0, a1, a2, a3, a4], ()))) := by kernel_rfl
theorem nus_6 {a0 a1 a2 a3 a4 : UInt64} (x : UInt8) (h0 : a0.toNat < 67108864) (h1 : a1.toNat < 67108864) (h2 : a2.toNat < 67108864) (h3 : a3.toNat < 67108864) (h4 : a4.toNat < 67108864) : us [a0, a1 + (shl64 x.toUInt64 22 &&& 67108863), a2 + shr64 x.toUInt64 4, a3, a4] = nstep (us [a0, a1, a2, a3, a4]) 6 x.toNat :=
  (congr5 rfl (lo_add _ _ (by decide) rfl h1) (hi_add _ _ rfl h2) rfl rfl).trans (nstep_6 _ _ _ _ _ _).symm
theorem num_7 (N : Nat) (b : List UInt8) (n : Int) (t : List UInt64) (a0 a1 a2 a3 a4 : UInt64) : poly1305_number_s2 N b n 7 t [a0, a1, a2, a3, a4] = bif decide ((7 : Int) < n) then (bif inR (7 : Int) b.length then some (.go ((b, n, (8 : Int), ()), (t, [a0, a1, a2 + (shl64 (b.getD 7 0).toUInt64 4 &&& 67108863), a3, a4], ()))) else none) else some (.br ((), (t, [a0, a1, a2, a3, a4], ()))) := by kernel_rfl
theorem nus_7 {a0 a1 a2 a3 a4 : UInt64} (x : UInt8) (h0 : a0.toNat < 67108864) (h1 : a1.toNat < 67108864) (h2 : a2.toNat < 67108864) (h3 : a3.toNat < 67108864) (h4 : a4.toNat < 67108864) : us [a0, a1, a2 + (shl64 x.toUInt64 4 &&& 67108863), a3, a4] = nstep (us [a0, a1, a2, a3, a4]) 7 x.toNat :=
  (congr5 rfl rfl (lo_add _ _ (by decide) rfl h2) rfl rfl).trans (nstep_7 _ _ _ _ _ _).symm
theorem num_8 (N : Nat) (b : List UInt8) (n : Int) (t : List UInt64) (a0 a1 a2 a3 a4 : UInt64) : poly1305_number_s2 N b n 8 t [a0, a1, a2, a3, a4] = bif decide ((8 : Int) < n) then (bif inR (8 : Int) b.length then some (.go ((b, n, (9 : Int), ()), (t, [a0, a1, a2 + (shl64 (b.getD 8 0).toUInt64 12 &&& 67108863), a3, a4], ()))) else none) else some (.br ((), (t, [a0, a1, a2, a3, a4], ()))) := by kernel_rfl
theorem nus_8 {a0 a1 a2 a3 a4 : UInt64} (x : UInt8) (h0 : a0.toNat < 67108864) (h1 : a1.toNat < 67108864) (h2 : a2.toNat < 67108864) (h3 : a3.toNat < 67108864) (h4 : a4.toNat < 67108864) : us [a0, a1, a2 + (shl64 x.toUInt64 12 &&& 67108863), a3, a4] = nstep (us [a0, a1, a2, a3, a4]) 8 x.toNat :=
  (congr5 rfl rfl (lo_add _ _ (by decide) rfl h2) rfl rfl).trans (nstep_8 _ _ _ _ _ _).symm
theorem num_9 (N : Nat) (b : List UInt8) (n : Int) (t : List UInt64) (a0 a1 a2 a3 a4 : UInt64) : poly1305_number_s2 N b n 9 t [a0, a1, a2, a3, a4] = bif decide ((9 : Int) < n) then (bif inR (9 : Int) b.length then some (.go ((b, n, (10 : Int), ()), (t, [a0, a1, a2 + (shl64 (b.getD 9 0).toUInt64 20 &&& 67108863), a3 + shr64 (b.getD 9 0).toUInt64 6, a4], ()))) else none) else some (.br ((), (t, [a0, a1, a2, a3, a4], ()))) := by kernel_rfl
theorem nus_9 {a0 a1 a2 a3 a4 : UInt64} (x : UInt8) (h0 : a0.toNat < 67108864) (h1 : a1.toNat < 67108864) (h2 : a2.toNat < 67108864) (h3 : a3.toNat < 67108864) (h4 : a4.toNat < 67108864) : us [a0, a1, a2 + (shl64 x.toUInt64 20 &&& 67108863), a3 + shr64 x.toUInt64 6, a4] = nstep (us [a0, a1, a2, a3, a4]) 9 x.toNat :=
  (congr5 rfl rfl (lo_add _ _ (by decide) rfl h2) (hi_add _ _ rfl h3) rfl).trans (nstep_9 _ _ _ _ _ _).symm
theorem num_10 (N : Nat) (b : List UInt8) (n : Int) (t : List UInt64) (a0 a1 a2 a3 a4 : UInt64) : poly1305_number_s2 N b n 10 t [a0, a1, a2, a3, a4] = bif decide ((10 : Int) < n) then (bif inR (10 : Int) b.length then some (.go ((b, n, (11 : Int), ()), (t, [a0, a1, a2, a3 + (shl64 (b.getD 10 0).toUInt64 2 &&& 67108863), a4], ()))) else none) else some (.br ((), (t, [a0, a1, a2, a3, a4], ()))) := by kernel_rfl
theorem nus_10 {a0 a1 a2 a3 a4 : UInt64} (x : UInt8) (h0 : a0.toNat < 67108864) (h1 : a1.toNat < 67108864) (h2 : a2.toNat < 67108864) (h3 : a3.toNat < 67108864) (h4 : a4.toNat < 67108864) : us [a0, a1, a2, a3 + (shl64 x.toUInt64 2 &&& 67108863), a4] = nstep (us [a0, a1, a2, a3, a4]) 10 x.toNat :=
  (congr5 rfl rfl rfl (lo_add _ _ (by decide) rfl h3) rfl).trans (nstep_10 _ _ _ _ _ _).symm
theorem num_11 (N : Nat) (b : List UInt8) (n : Int) (t : List UInt64) (a0 a1 a2 a3 a4 : UInt64) : poly1305_number_s2 N b n 11 t [a0, a1, a2, a3, a4] = bif decide ((11 : Int) < n) then (bif inR (11 : Int) b.length then some (.go ((b, n, (12 : Int), ()), (t, [a0, a1, a2, a3 + (shl64 (b.getD 11 0).toUInt64 10 &&& 67108863), a4], ()))) else none) else some (.br ((), (t, [a0, a1, a2, a3, a4], ()))) := by kernel_rfl
theorem nus_11 {a0 a1 a2 a3 a4 : UInt64} (x : UInt8) (h0 : a0.toNat < 67108864) (h1 : a1.toNat < 67108864) (h2 : a2.toNat < 67108864) (h3 : a3.toNat < 67108864) (h4 : a4.toNat < 67108864) : us [a0, a1, a2, a3 + (shl64 x.toUInt64 10 &&& 67108863), a4] = nstep (us [a0, a1, a2, a3, a4]) 11 x.toNat :=
  (congr5 rfl rfl rfl (lo_add _ _ (by decide) rfl h3) rfl).trans (nstep_11 _ _ _ _ _ _).symm
theorem num_12 (N : Nat) (b : List UInt8) (n : Int) (t : List UInt64) (a0 a1 a2 a3 a4 : UInt64) : poly1305_number_s2 N b n 12 t [a0, a1, a2, a3, a4] = bif decide ((12 : Int) < n) then (bif inR (12 : Int) b.length then some (.go ((b, n, (13 : Int), ()), (t, [a0, a1, a2, a3 + (shl64 (b.getD 12 0).toUInt64 18 &&& 67108863), a4], ()))) else none) else some (.br ((), (t, [a0, a1, a2, a3, a4], ()))) := by kernel_rfl
theorem nus_12 {a0 a1 a2 a3 a4 : UInt64} (x : UInt8) (h0 : a0.toNat < 67108864) (h1 : a1.toNat < 67108864) (h2 : a2.toNat < 67108864) (h3 : a3.toNat < 67108864) (h4 : a4.toNat < 67108864) : us [a0, a1, a2, a3 + (shl64 x.toUInt64 18 &&& 67108863), a4] = nstep (us [a0, a1, a2, a3, a4]) 12 x.toNat :=
  (congr5 rfl rfl rfl (lo_add _ _ (by decide) rfl h3) rfl).trans (nstep_12 _ _ _ _ _ _).symm
theorem num_13 (N : Nat) (b : List UInt8) (n : Int) (t : List UInt64) (a0 a1 a2 a3 a4 : UInt64) : poly1305_number_s2 N b n 13 t [a0, a1, a2, a3, a4] = bif decide ((13 : Int) < n) then (bif inR (13 : Int) b.length then some (.go ((b, n, (14 : Int), ()), (t, [a0, a1, a2, a3, a4 + (shl64 (b.getD 13 0).toUInt64 0 &&& 67108863)], ()))) else none) else some (.br ((), (t, [a0, a1, a2, a3, a4], ()))) := by kernel_rfl
theorem nus_13 {a0 a1 a2 a3 a4 : UInt64} (x : UInt8) (h0 : a0.toNat < 67108864) (h1 : a1.toNat < 67108864) (h2 : a2.toNat < 67108864) (h3 : a3.toNat < 67108864) (h4 : a4.toNat < 67108864) : us [a0, a1, a2, a3, a4 + (shl64 x.toUInt64 0 &&& 67108863)] = nstep (us [a0, a1, a2, a3, a4]) 13 x.toNat :=
  (congr5 rfl rfl rfl rfl (lo_add _ _ (by decide) rfl h4)).trans (nstep_13 _ _ _ _ _ _).symm
theorem num_14 (N : Nat) (b : List UInt8) (n : Int) (t : List UInt64) (a0 a1 a2 a3 a4 : UInt64) : poly1305_number_s2 N b n 14 t [a0, a1, a2, a3, a4] = bif decide ((14 : Int) < n) then (bif inR (14 : Int) b.length then some (.go ((b, n, (15 : Int), ()), (t, [a0, a1, a2, a3, a4 + (shl64 (b.getD 14 0).toUInt64 8 &&& 67108863)], ()))) else none) else some (.br ((), (t, [a0, a1, a2, a3, a4], ()))) := by kernel_rfl
theorem nus_14 {a0 a1 a2 a3 a4 : UInt64} (x : UInt8) (h0 : a0.toNat < 67108864) (h1 : a1.toNat < 67108864) (h2 : a2.toNat < 67108864) (h3 : a3.toNat < 67108864) (h4 : a4.toNat < 67108864) : us [a0, a1, a2, a3, a4 + (shl64 x.toUInt64 8 &&& 67108863)] = nstep (us [a0, a1, a2, a3, a4]) 14 x.toNat :=
  (congr5 rfl rfl rfl rfl (lo_add _ _ (by decide) rfl h4)).trans (nstep_14 _ _ _ _ _ _).symm
theorem num_15 (N : Nat) (b : List UInt8) (n : Int) (t : List UInt64) (a0 a1 a2 a3 a4 : UInt64) : poly1305_number_s2 N b n 15 t [a0, a1, a2, a3, a4] = bif decide ((15 : Int) < n) then (bif inR (15 : Int) b.length then some (.go ((b, n, (16 : Int), ()), (t, [a0, a1, a2, a3, a4 + (shl64 (b.getD 15 0).toUInt64 16 &&& 67108863)], ()))) else none) else some (.br ((), (t, [a0, a1, a2, a3, a4], ()))) := by kernel_rfl
theorem nus_15 {a0 a1 a2 a3 a4 : UInt64} (x : UInt8) (h0 : a0.toNat < 67108864) (h1 : a1.toNat < 67108864) (h2 : a2.toNat < 67108864) (h3 : a3.toNat < 67108864) (h4 : a4.toNat < 67108864) : us [a0, a1, a2, a3, a4 + (shl64 x.toUInt64 16 &&& 67108863)] = nstep (us [a0, a1, a2, a3, a4]) 15 x.toNat :=
  (congr5 rfl rfl rfl rfl (lo_add _ _ (by decide) rfl h4)).trans (nstep_15 _ _ _ _ _ _).symm
theorem num_16 (N : Nat) (b : List UInt8) (n : Int) (t : List UInt64) (a0 a1 a2 a3 a4 : UInt64) : poly1305_number_s2 N b n 16 t [a0, a1, a2, a3, a4] = bif decide ((16 : Int) < n) then (bif inR (16 : Int) b.length then some (.go ((b, n, (17 : Int), ()), (t, [a0, a1, a2, a3, a4 + (shl64 (b.getD 16 0).toUInt64 24 &&& 67108863)], ()))) else none) else some (.br ((), (t, [a0, a1, a2, a3, a4], ()))) := by kernel_rfl
theorem nus_16 {a0 a1 a2 a3 a4 : UInt64} (x : UInt8) (h0 : a0.toNat < 67108864) (h1 : a1.toNat < 67108864) (h2 : a2.toNat < 67108864) (h3 : a3.toNat < 67108864) (h4 : a4.toNat < 67108864) : us [a0, a1, a2, a3, a4 + (shl64 x.toUInt64 24 &&& 67108863)] = nstep (us [a0, a1, a2, a3, a4]) 16 x.toNat :=
  (congr5 rfl rfl rfl rfl (lo_add _ _ (by decide) rfl h4)).trans (nstep_16 _ _ _ _ _ _).symm
theorem num_step (N : Nat) {b : List UInt8} {l : List UInt64} (t : List UInt64) {i : Nat} (h : NInv (ns b) (us l) i) (hi : i < 17) (hb : i < b.length) (h16 : i = 16 → (b.getD i 0).toNat ≤ 3) :
    ∃ l', poly1305_number_s2 N b (b.length : Int) (i : Int) t l = some (.go ((b, (b.length : Int), ((i + 1 : Nat) : Int), ()), (t, l', ()))) ∧ NInv (ns b) (us l') (i + 1) := by
  have hlen : l.length = 5 := by have := h.len; simpa [us] using this
  have hx : (ns b).getD i 0 = (b.getD i 0).toNat := by simp [ns, List.getD, hb]
  have hs := h.step hi (by simpa [ns] using hb) (by rw [hx]; exact (b.getD i 0).toNat_lt) (by rw [hx]; exact h16)
  rw [hx] at hs
  have l0 := low_of h (j := 0) (by omega); have l1 := low_of h (j := 1) (by omega); have l2 := low_of h (j := 2) (by omega); have l3 := low_of h (j := 3) (by omega); have l4 := low_of h (j := 4) (by omega)
  obtain ⟨a0, a1, a2, a3, a4, rfl⟩ := list5u hlen
  have hd : decide ((i : Int) < (b.length : Int)) = true := dpos (by omega)
  have hr : inR (i : Int) b.length = true := inR_of (by omega) (by omega)
  rcases (by omega : i = 0 ∨ i = 1 ∨ i = 2 ∨ i = 3 ∨ i = 4 ∨ i = 5 ∨ i = 6 ∨ i = 7 ∨ i = 8 ∨ i = 9 ∨ i = 10 ∨ i = 11 ∨ i = 12 ∨ i = 13 ∨ i = 14 ∨ i = 15 ∨ i = 16) with rfl | rfl | rfl | rfl | rfl | rfl | rfl | rfl | rfl | rfl | rfl | rfl | rfl | rfl | rfl | rfl | rfl
  · exact ⟨_, (num_0 N b _ t a0 a1 a2 a3 a4).trans (by rw [show decide ((0 : Int) < (b.length : Int)) = true from hd, show inR (0 : Int) b.length = true from hr]; rfl), by rw [nus_0 _ l0 l1 l2 l3 l4]; exact hs⟩
  · exact ⟨_, (num_1 N b _ t a0 a1 a2 a3 a4).trans (by rw [show decide ((1 : Int) < (b.length : Int)) = true from hd, show inR (1 : Int) b.length = true from hr]; rfl), by rw [nus_1 _ l0 l1 l2 l3 l4]; exact hs⟩
  · exact ⟨_, (num_2 N b _ t a0 a1 a2 a3 a4).trans (by rw [show decide ((2 : Int) < (b.length : Int)) = true from hd, show inR (2 : Int) b.length = true from hr]; rfl), by rw [nus_2 _ l0 l1 l2 l3 l4]; exact hs⟩
  · exact ⟨_, (num_3 N b _ t a0 a1 a2 a3 a4).trans (by rw [show decide ((3 : Int) < (b.length : Int)) = true from hd, show inR (3 : Int) b.length = true from hr]; rfl), by rw [nus_3 _ l0 l1 l2 l3 l4]; exact hs⟩
  · exact ⟨_, (num_4 N b _ t a0 a1 a2 a3 a4).trans (by rw [show decide ((4 : Int) < (b.length : Int)) = true from hd, show inR (4 : Int) b.length = true from hr]; rfl), by rw [nus_4 _ l0 l1 l2 l3 l4]; exact hs⟩
  · exact ⟨_, (num_5 N b _ t a0 a1 a2 a3 a4).trans (by rw [show decide ((5 : Int) < (b.length : Int)) = true from hd, show inR (5 : Int) b.length = true from hr]; rfl), by rw [nus_5 _ l0 l1 l2 l3 l4]; exact hs⟩
  · exact ⟨_, (num_6 N b _ t a0 a1 a2 a3 a4).trans (by rw [show decide ((6 : Int) < (b.length : Int)) = true from hd, show inR (6 : Int) b.length = true from hr]; rfl), by rw [nus_6 _ l0 l1 l2 l3 l4]; exact hs⟩
  · exact ⟨_, (num_7 N b _ t a0 a1 a2 a3 a4).trans (by rw [show decide ((7 : Int) < (b.length : Int)) = true from hd, show inR (7 : Int) b.length = true from hr]; rfl), by rw [nus_7 _ l0 l1 l2 l3 l4]; exact hs⟩
  · exact ⟨_, (num_8 N b _ t a0 a1 a2 a3 a4).trans (by rw [show decide ((8 : Int) < (b.length : Int)) = true from hd, show inR (8 : Int) b.length = true from hr]; rfl), by rw [nus_8 _ l0 l1 l2 l3 l4]; exact hs⟩
  · exact ⟨_, (num_9 N b _ t a0 a1 a2 a3 a4).trans (by rw [show decide ((9 : Int) < (b.length : Int)) = true from hd, show inR (9 : Int) b.length = true from hr]; rfl), by rw [nus_9 _ l0 l1 l2 l3 l4]; exact hs⟩
  · exact ⟨_, (num_10 N b _ t a0 a1 a2 a3 a4).trans (by rw [show decide ((10 : Int) < (b.length : Int)) = true from hd, show inR (10 : Int) b.length = true from hr]; rfl), by rw [nus_10 _ l0 l1 l2 l3 l4]; exact hs⟩
  · exact ⟨_, (num_11 N b _ t a0 a1 a2 a3 a4).trans (by rw [show decide ((11 : Int) < (b.length : Int)) = true from hd, show inR (11 : Int) b.length = true from hr]; rfl), by rw [nus_11 _ l0 l1 l2 l3 l4]; exact hs⟩
  · exact ⟨_, (num_12 N b _ t a0 a1 a2 a3 a4).trans (by rw [show decide ((12 : Int) < (b.length : Int)) = true from hd, show inR (12 : Int) b.length = true from hr]; rfl), by rw [nus_12 _ l0 l1 l2 l3 l4]; exact hs⟩
  · exact ⟨_, (num_13 N b _ t a0 a1 a2 a3 a4).trans (by rw [show decide ((13 : Int) < (b.length : Int)) = true from hd, show inR (13 : Int) b.length = true from hr]; rfl), by rw [nus_13 _ l0 l1 l2 l3 l4]; exact hs⟩
  · exact ⟨_, (num_14 N b _ t a0 a1 a2 a3 a4).trans (by rw [show decide ((14 : Int) < (b.length : Int)) = true from hd, show inR (14 : Int) b.length = true from hr]; rfl), by rw [nus_14 _ l0 l1 l2 l3 l4]; exact hs⟩
  · exact ⟨_, (num_15 N b _ t a0 a1 a2 a3 a4).trans (by rw [show decide ((15 : Int) < (b.length : Int)) = true from hd, show inR (15 : Int) b.length = true from hr]; rfl), by rw [nus_15 _ l0 l1 l2 l3 l4]; exact hs⟩
  · exact ⟨_, (num_16 N b _ t a0 a1 a2 a3 a4).trans (by rw [show decide ((16 : Int) < (b.length : Int)) = true from hd, show inR (16 : Int) b.length = true from hr]; rfl), by rw [nus_16 _ l0 l1 l2 l3 l4]; exact hs⟩
/-- The number of at most 17 bytes. -/
theorem number_ok (N : Nat) {b : List UInt8} (hb : b.length ≤ 17) (h16 : 16 < b.length → (b.getD 16 0).toNat ≤ 3) (hN : 4611686018427387904 ≤ N) :
    ∃ l, poly1305_number N b = some ((l, ()), ()) ∧ Le 67108863 (us l) ∧ v5 (us l) = le (ns b) := by
  unfold poly1305_number poly1305_number_1
  have := loopK_of (N := N) (step := fun y => poly1305_number_s2 N y.1.1 y.1.2.1 y.1.2.2.1 y.2.1 y.2.2.1) (J := fun (e : ((Unit) × ((List UInt64) × (List UInt64) × Unit))) => poly1305_number_3 N e.2.1 e.2.2.1)
    (I := fun y => ∃ i : Nat, y = ((b, (b.length : Int), (i : Int), ()), (List.replicate 5 0, y.2.2.1, ())) ∧ i ≤ b.length ∧ NInv (ns b) (us y.2.2.1) i) (μ := fun y => ((b.length : Int) - y.1.2.2.1).toNat)
    (T := fun r => ∃ l, r = ((l, ()), ()) ∧ Le 67108863 (us l) ∧ v5 (us l) = le (ns b)) ?_
    (x := ((b, (b.length : Int), 0, ()), (List.replicate 5 0, List.replicate 5 0, ()))) ⟨0, rfl, by omega, NInv.start _⟩ (by simp; omega)
  · obtain ⟨r, h1, l, rfl, h2, h3⟩ := this
    exact ⟨l, h1, h2, h3⟩
  · rintro ⟨⟨b', n, j, _⟩, ⟨t, l, _⟩⟩ ⟨i, h1, h2, h3⟩
    simp only [Prod.mk.injEq] at h1
    obtain ⟨⟨rfl, rfl, rfl, _⟩, rfl, _⟩ := h1
    simp only at h3 ⊢
    by_cases hi : i < b'.length
    · obtain ⟨l', e, h4⟩ := num_step N (List.replicate 5 0) h3 (by omega) hi (fun e => by subst e; exact h16 hi)
      exact ⟨_, e, ⟨i + 1, rfl, by omega, h4⟩, by simp only; omega⟩
    · have e : i = b'.length := by omega
      subst e
      refine ⟨.br ((), (List.replicate 5 0, l, ())), ?_, _, rfl, l, rfl, ⟨h3.len, fun j hj => by have := low_of h3 hj; omega⟩, ?_⟩
      · unfold poly1305_number_s2
        simp (disch := omega) only [dneg, cond_false]
      · rw [h3.val, List.take_of_length_le (by simp [ns])]
end Go.Proofs.YtlamdneheilahaaDoor.Pl
