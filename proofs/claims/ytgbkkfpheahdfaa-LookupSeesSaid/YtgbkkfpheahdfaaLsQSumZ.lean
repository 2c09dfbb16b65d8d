/- Plain: a checksum put in its place makes the sum vanish. -/
import Derived.Test.YtgbkkfpheahdfaaLsQSum01
set_option linter.unusedVariables false
set_option linter.unusedSimpArgs false
namespace Go.Proofs.Ytgbkkfpheahdfaa.Pl
open Go
theorem iu8_nat (x : Int) : ((iu8 x).toNat : Int) = x % 256 := by
  unfold iu8
  show (((BitVec.ofInt 8 x).toNat : Nat) : Int) = _
  rw [BitVec.toNat_ofInt]
  have : (0 : Int) ≤ x % 256 := Int.emod_nonneg _ (by decide)
  show (((x % ((2 ^ 8 : Nat) : Int)).toNat : Nat) : Int) = _
  have e : ((2 ^ 8 : Nat) : Int) = 256 := rfl
  rw [e]; omega
theorem shr8i (x : Int) : shrI x 8 = x / 256 := by
  unfold shrI
  have : (2 : Int) ^ min 8 64 = 256 := rfl
  rw [this, Int.fdiv_eq_ediv_of_nonneg _ (by decide)]
theorem fold_val (N : Nat) (hN : 4611686018427387904 ≤ N) {x : Int} (h0 : 0 ≤ x) (h1 : x ≤ 1000000000000) : ∃ u, wire_Checksum_3 N x = some ((65535 - u, ()), ()) ∧ 0 ≤ u ∧ u ≤ 65535 ∧ (x - u) % 65535 = 0 ∧ (0 < x → 0 < u) := by
  unfold wire_Checksum_3
  have := loopK_of (N := N) (step := fun y => wire_Checksum_s4 N y.1.1) (J := fun (e : ((Int × Unit) × (Unit))) => wire_Checksum_5 N e.1.1) (I := fun y => 0 ≤ y.1.1 ∧ y.1.1 ≤ 1000000000000 ∧ (x - y.1.1) % 65535 = 0 ∧ (0 < x → 0 < y.1.1)) (μ := fun y => y.1.1.toNat) (T := fun r => ∃ u, r = ((65535 - u, ()), ()) ∧ 0 ≤ u ∧ u ≤ 65535 ∧ (x - u) % 65535 = 0 ∧ (0 < x → 0 < u)) ?_ (x := ((x, ()), ())) ⟨h0, h1, by simp only; omega, fun h => h⟩ (by simp only; omega)
  · obtain ⟨r, h1, v, rfl, h2⟩ := this; exact ⟨v, h1, h2⟩
  · rintro ⟨⟨s, _⟩, _⟩ ⟨s0, s1, s2, s3⟩
    simp only at s0 s1 s2 s3
    show ∃ r, wire_Checksum_s4 N s = some r ∧ _
    unfold wire_Checksum_s4
    by_cases h : 65535 < s
    · rw [dpos h, cond_true, and16 s0 s1, shr16, w64_of (by omega) (by omega)]
      exact ⟨_, rfl, ⟨by simp only; omega, by simp only; omega, by simp only; omega, fun _ => by simp only; omega⟩, by simp only; omega⟩
    · rw [dneg h, cond_false]
      refine ⟨_, rfl, _, ?_, s, rfl, s0, by omega, s2, s3⟩
      show wire_Checksum_5 N s = _
      unfold wire_Checksum_5
      rw [w64_of (by omega) (by omega)]
theorem checksum_val (N : Nat) (hN : 4611686018427387904 ≤ N) {b : List UInt8} (hb : b.length ≤ 1000000) : ∃ u, wire_Checksum N b = some ((65535 - u, ()), ()) ∧ 0 ≤ u ∧ u ≤ 65535 ∧ (csum b b.length - u) % 65535 = 0 ∧ (0 < csum b b.length → 0 < u) := by
  obtain ⟨q0, q1⟩ := csum_bd b b.length
  obtain ⟨u, hu, u0, u1, u2, u3⟩ := fold_val N hN q0 (by omega)
  refine ⟨u, ?_, u0, u1, u2, u3⟩
  unfold wire_Checksum wire_Checksum_1
  refine (loopK_run (fun i : Nat => ((csum b i, b, (b.length : Int), (i : Int), ()), ())) (n := b.length) ?_ (e := ((csum b b.length, ()), ())) ?_ (by omega)).trans hu
  · intro i hi
    obtain ⟨r0, r1⟩ := csum_bd b i
    have hx := (b.getD i 0).toNat_lt
    show wire_Checksum_s2 N (csum b i) b (b.length : Int) (i : Int) = _
    unfold wire_Checksum_s2
    have ht : ((i : Int)).tmod 2 = ((i % 2 : Nat) : Int) := by rw [Int.tmod_eq_emod_of_nonneg (by omega)]; omega
    rw [dpos (by omega), inR_of (by omega) (by omega), ht]
    simp only [cond_true, Int.toNat_natCast]
    rw [shlI8 hx]
    show _ = some (Lo.go ((csum b i + (if i % 2 = 0 then ((b.getD i 0).toNat : Int) * 256 else ((b.getD i 0).toNat : Int)), b, (b.length : Int), ((i + 1 : Nat) : Int), ()), ()))
    by_cases h2 : i % 2 = 0
    · rw [if_pos h2, dpos (by omega), cond_true, w64_of (by omega) (by omega), w64_of (by omega) (by omega)]; rfl
    · rw [if_neg h2, dneg (by omega), cond_false, w64_of (by omega) (by omega), w64_of (by omega) (by omega)]; rfl
  · show wire_Checksum_s2 N (csum b b.length) b (b.length : Int) (b.length : Int) = _
    unfold wire_Checksum_s2
    rw [dneg (by omega)]; rfl
/-- The head of a packet of the family 4. -/
def hd4 (l1 l0 q h l a3 a2 a1 a0 b3 b2 b1 b0 : UInt8) : List UInt8 := [69, 0, l1, l0, 0, 0, 0, 0, 64, q, h, l, a3, a2, a1, a0, b3, b2, b1, b0]
theorem csum4 (l1 l0 q h l a3 a2 a1 a0 b3 b2 b1 b0 : UInt8) : csum (hd4 l1 l0 q h l a3 a2 a1 a0 b3 b2 b1 b0) 20 =
    0 + ((69 : UInt8).toNat : Int) * 256 + ((0 : UInt8).toNat : Int) + (l1.toNat : Int) * 256 + (l0.toNat : Int) + ((0 : UInt8).toNat : Int) * 256 + ((0 : UInt8).toNat : Int) + ((0 : UInt8).toNat : Int) * 256 + ((0 : UInt8).toNat : Int) + ((64 : UInt8).toNat : Int) * 256 + (q.toNat : Int) + (h.toNat : Int) * 256 + (l.toNat : Int) + (a3.toNat : Int) * 256 + (a2.toNat : Int) + (a1.toNat : Int) * 256 + (a0.toNat : Int) + (b3.toNat : Int) * 256 + (b2.toNat : Int) + (b1.toNat : Int) * 256 + (b0.toNat : Int) := by kernel_rfl
theorem sum4 (N : Nat) (hN : 4611686018427387904 ≤ N) (l1 l0 q a3 a2 a1 a0 b3 b2 b1 b0 : UInt8) : ∃ v, wire_Checksum N (hd4 l1 l0 q 0 0 a3 a2 a1 a0 b3 b2 b1 b0) = some ((v, ()), ()) ∧ wire_Checksum N (hd4 l1 l0 q (iu8 (shrI v 8)) (iu8 v) a3 a2 a1 a0 b3 b2 b1 b0) = some ((0, ()), ()) := by
  have hl : ∀ h l : UInt8, (hd4 l1 l0 q h l a3 a2 a1 a0 b3 b2 b1 b0).length = 20 := fun _ _ => rfl
  obtain ⟨u, e1, u0, u1, u2, u3⟩ := checksum_val N hN (b := hd4 l1 l0 q 0 0 a3 a2 a1 a0 b3 b2 b1 b0) (by rw [hl]; omega)
  refine ⟨_, e1, ?_⟩
  obtain ⟨w, e2, w0, w1, w2, w3⟩ := checksum_val N hN (b := hd4 l1 l0 q (iu8 (shrI (65535 - u) 8)) (iu8 (65535 - u)) a3 a2 a1 a0 b3 b2 b1 b0) (by rw [hl]; omega)
  rw [hl, csum4] at u2 u3 w2 w3
  have z0 : ((0 : UInt8).toNat : Int) = 0 := rfl
  have z1 : ((69 : UInt8).toNat : Int) = 69 := rfl
  have z2 : ((64 : UInt8).toNat : Int) = 64 := rfl
  rw [iu8_nat, iu8_nat, shr8i] at w2 w3
  rw [z0, z1, z2] at u2 u3 w2 w3
  have g1 := l1.toNat_lt; have g2 := l0.toNat_lt; have g3 := q.toNat_lt
  rw [e2]
  have : 65535 - w = 0 := by
    generalize (l1.toNat : Int) * 256 + (l0.toNat : Int) = s1 at *
    omega
  rw [this]
end Go.Proofs.Ytgbkkfpheahdfaa.Pl
