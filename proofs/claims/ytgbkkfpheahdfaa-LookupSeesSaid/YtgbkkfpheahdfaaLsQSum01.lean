/- Plain: the checksum of bytes (wire, ref01). -/
import Derived.Test.YtgbkkfpheahdfaaLsQBase
import Derived.Test.YtgbkkfpheahdfaaFnsLookupSeesA
set_option linter.unusedVariables false
set_option linter.unusedSimpArgs false
namespace Go.Proofs.Ytgbkkfpheahdfaa.Pl
open Go
/-- The sum of the first bytes, those at even places eight bits higher. -/
def csum (b : List UInt8) : Nat → Int
  | 0 => 0
  | i + 1 => csum b i + (if i % 2 = 0 then ((b.getD i 0).toNat : Int) * 256 else ((b.getD i 0).toNat : Int))
theorem csum_bd (b : List UInt8) : ∀ i, 0 ≤ csum b i ∧ csum b i ≤ 65280 * (i : Int)
  | 0 => by simp [csum]
  | i + 1 => by
    have ih := csum_bd b i
    have hb := (b.getD i 0).toNat_lt
    unfold csum
    split <;> omega
theorem shlI8 {x : Nat} (h : x < 256) : shlI (x : Int) 8 = (x : Int) * 256 := by
  unfold shlI
  have : (x : Int) * 2 ^ min 8 64 = (x : Int) * 256 := rfl
  rw [this, w64_of (by omega) (by omega)]
theorem and16 {x : Int} (h0 : 0 ≤ x) (h1 : x ≤ 1000000000000) : and64 x 65535 = x % 65536 := by
  obtain ⟨n, rfl⟩ := Int.eq_ofNat_of_zero_le h0
  unfold and64
  have e : (BitVec.ofInt 64 (n : Int) &&& BitVec.ofInt 64 65535).toNat = n % 65536 := by
    rw [BitVec.toNat_and, BitVec.toNat_ofInt]
    have e1 : ((n : Int) % ((2 ^ 64 : Nat) : Int)).toNat = n := by omega
    have e2 : (BitVec.ofInt 64 65535).toNat = 2 ^ 16 - 1 := rfl
    rw [e1, e2, Nat.and_two_pow_sub_one_eq_mod]
  rw [e, w64_of (by omega) (by omega)]
  omega
theorem shr16 (x : Int) : shrI x 16 = x / 65536 := by
  unfold shrI
  have : (2 : Int) ^ min 16 64 = 65536 := rfl
  rw [this, Int.fdiv_eq_ediv_of_nonneg _ (by decide)]
theorem fold_ok (N : Nat) (hN : 4611686018427387904 ≤ N) {x : Int} (h0 : 0 ≤ x) (h1 : x ≤ 1000000000000) : ∃ v, wire_Checksum_3 N x = some ((v, ()), ()) ∧ 0 ≤ v ∧ v ≤ 65535 := by
  unfold wire_Checksum_3
  have := loopK_of (N := N) (step := fun y => wire_Checksum_s4 N y.1.1) (J := fun (e : ((Int × Unit) × (Unit))) => wire_Checksum_5 N e.1.1) (I := fun y => 0 ≤ y.1.1 ∧ y.1.1 ≤ 1000000000000) (μ := fun y => y.1.1.toNat) (T := fun r => ∃ v, r = ((v, ()), ()) ∧ 0 ≤ v ∧ v ≤ 65535) ?_ (x := ((x, ()), ())) ⟨h0, h1⟩ (by simp only; omega)
  · obtain ⟨r, h1, v, rfl, h2⟩ := this; exact ⟨v, h1, h2⟩
  · rintro ⟨⟨s, _⟩, _⟩ ⟨s0, s1⟩
    simp only at s0 s1
    show ∃ r, wire_Checksum_s4 N s = some r ∧ _
    unfold wire_Checksum_s4
    by_cases h : 65535 < s
    · rw [dpos h, cond_true, and16 s0 s1, shr16, w64_of (by omega) (by omega)]
      exact ⟨_, rfl, ⟨by simp only; omega, by simp only; omega⟩, by simp only; omega⟩
    · rw [dneg h, cond_false]
      refine ⟨_, rfl, _, rfl, _, rfl, ?_, ?_⟩ <;> simp only <;> rw [w64_of (by omega) (by omega)] <;> omega
theorem checksum_ok (N : Nat) (hN : 4611686018427387904 ≤ N) {b : List UInt8} (hb : b.length ≤ 1000000) : ∃ v, wire_Checksum N b = some ((v, ()), ()) ∧ ref01_Checksum N b = some ((v, ()), ()) ∧ 0 ≤ v ∧ v ≤ 65535 := by
  obtain ⟨q0, q1⟩ := csum_bd b b.length
  obtain ⟨v, hv, v0, v1⟩ := fold_ok N hN q0 (by omega)
  refine ⟨v, ?_, ?_, v0, v1⟩
  · unfold wire_Checksum wire_Checksum_1
    refine (loopK_run (fun i : Nat => ((csum b i, b, (b.length : Int), (i : Int), ()), ())) (n := b.length) ?_ (e := ((csum b b.length, ()), ())) ?_ (by omega)).trans hv
    · intro i hi
      obtain ⟨r0, r1⟩ := csum_bd b i
      have hx := (b.getD i 0).toNat_lt
      show wire_Checksum_s2 N (csum b i) b (b.length : Int) (i : Int) = _
      unfold wire_Checksum_s2
      have ht : ((i : Int)).tmod 2 = ((i % 2 : Nat) : Int) := by rw [Int.tmod_eq_emod_of_nonneg (by omega)]; omega
      rw [dpos (by omega), inR_of (by omega) (by omega), ht]
      simp only [cond_true, Int.toNat_natCast]
      rw [shlI8 hx]
      show _ = some (Lo.go ((csum b i + (if i % 2 = 0 then ((b.getD i 0).toNat : Int) * 256 else ((b.getD i 0).toNat : Int)), b, (b.length : Int), ((i + 1 : Nat) : Int), ()), ()))
      by_cases h2 : i % 2 = 0
      · rw [if_pos h2, dpos (by omega), cond_true, w64_of (by omega) (by omega), w64_of (by omega) (by omega)]; rfl
      · rw [if_neg h2, dneg (by omega), cond_false, w64_of (by omega) (by omega), w64_of (by omega) (by omega)]; rfl
    · show wire_Checksum_s2 N (csum b b.length) b (b.length : Int) (b.length : Int) = _
      unfold wire_Checksum_s2
      rw [dneg (by omega)]; rfl
  · unfold ref01_Checksum ref01_Checksum_1
    refine (loopK_run (fun i : Nat => ((b, csum b i, (i : Int), ()), ())) (n := b.length) ?_ (e := ((csum b b.length, ()), ())) ?_ (by omega)).trans hv
    · intro i hi
      obtain ⟨r0, r1⟩ := csum_bd b i
      have hx := (b.getD i 0).toNat_lt
      show ref01_Checksum_s2 N b (csum b i) (i : Int) = _
      unfold ref01_Checksum_s2
      have ht : ((i : Int)).tmod 2 = ((i % 2 : Nat) : Int) := by rw [Int.tmod_eq_emod_of_nonneg (by omega)]; omega
      rw [dpos (by omega), inR_of (by omega) (by omega), ht]
      simp only [cond_true, Int.toNat_natCast]
      rw [shlI8 hx]
      show _ = some (Lo.go ((b, csum b i + (if i % 2 = 0 then ((b.getD i 0).toNat : Int) * 256 else ((b.getD i 0).toNat : Int)), ((i + 1 : Nat) : Int), ()), ()))
      by_cases h2 : i % 2 = 0
      · rw [if_pos h2, dpos (by omega), cond_true, w64_of (by omega) (by omega), w64_of (by omega) (by omega)]; rfl
      · rw [if_neg h2, dneg (by omega), cond_false, w64_of (by omega) (by omega), w64_of (by omega) (by omega)]; rfl
    · show ref01_Checksum_s2 N b (csum b b.length) (b.length : Int) = _
      unfold ref01_Checksum_s2
      rw [dneg (by omega)]; rfl
end Go.Proofs.Ytgbkkfpheahdfaa.Pl
