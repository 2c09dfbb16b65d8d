/- Plain: the reference's comparison of bytes. -/
import Derived.Test.YtgbkkfpheahdfaaGmLoop
import Derived.Test.YtgbkkfpheahdfaaGmInt
import Derived.Test.YtgbkkfpheahdfaaFnsLookupBuildsA
set_option linter.unusedVariables false
set_option linter.unusedSimpArgs false
namespace Go.Proofs.Ytgbkkfpheahdfaa.Pl
open Go
theorem compare_ok {N : Nat} {a b : List UInt8} (ha : a.length < 4611686018427387904) (hb : b.length < 4611686018427387904) (hN : a.length < N) : ∃ v, ref01_Compare N a b = some ((v, ()), ()) ∧ (v = 0 ↔ a = b) := by
  unfold ref01_Compare ref01_Compare_1
  have := loopK_of (N := N) (step := fun y => ref01_Compare_s2 N y.1.1 y.1.2.1 y.1.2.2.1) (J := fun (e : (((List UInt8) × (List UInt8) × Unit) × (Unit))) => ref01_Compare_4 N e.1.1 e.1.2.1)
    (I := fun y => y.1.1 = a ∧ y.1.2.1 = b ∧ 0 ≤ y.1.2.2.1 ∧ y.1.2.2.1 ≤ (a.length : Int) ∧ y.1.2.2.1 ≤ (b.length : Int) ∧ a.take y.1.2.2.1.toNat = b.take y.1.2.2.1.toNat) (μ := fun y => ((a.length : Int) - y.1.2.2.1).toNat) (T := fun r => ∃ v, r = ((v, ()), ()) ∧ (v = 0 ↔ a = b)) ?_
    (x := ((a, b, 0, ()), ())) ⟨rfl, rfl, by simp, by simp, by simp, by simp⟩ (by simpa using hN)
  · obtain ⟨r, h1, v, rfl, h2⟩ := this
    exact ⟨v, h1, h2⟩
  · rintro ⟨⟨a', b', i, _⟩, _⟩ ⟨h1, h2, h3, h4, h5, h6⟩
    simp only at h1 h2 h3 h4 h5 h6
    subst h1; subst h2
    obtain ⟨k, rfl⟩ := Int.eq_ofNat_of_zero_le h3
    simp only [Int.toNat_natCast] at h6
    have h4' : k ≤ a'.length := by omega
    have h5' : k ≤ b'.length := by omega
    have hend : ¬ (k < a'.length ∧ k < b'.length) → ∃ v, ref01_Compare_4 N a' b' = some ((v, ()), ()) ∧ (v = 0 ↔ a' = b') := by
      intro hne
      unfold ref01_Compare_4
      by_cases e1 : a'.length < b'.length
      · refine ⟨-1, by simp [e1], ⟨fun h => by omega, fun h => by rw [h] at e1; omega⟩⟩
      · by_cases e2 : b'.length < a'.length
        · refine ⟨1, by simp [e1, e2], ⟨fun h => by omega, fun h => by rw [h] at e2; omega⟩⟩
        · refine ⟨0, by simp [e1, e2], ⟨fun _ => ?_, fun _ => rfl⟩⟩
          have hk : k = a'.length := by omega
          have hk2 : k = b'.length := by omega
          rw [List.take_of_length_le (by omega), List.take_of_length_le (by omega)] at h6
          exact h6
    by_cases hlt : k < a'.length ∧ k < b'.length
    · obtain ⟨hl1, hl2⟩ := hlt
      have e1 : w64 ((k : Int) + 1) = (k : Int) + 1 := w64_id (by omega) (by omega)
      have e2 : inR (k : Int) a'.length = true := by simp [inR]; omega
      have e3 : inR (k : Int) b'.length = true := by simp [inR]; omega
      have hlt' : (k : Int) < (a'.length : Int) := by omega
      have hlt2 : (k : Int) < (b'.length : Int) := by omega
      simp only [ref01_Compare_s2, ref01_Compare_3, hlt', hlt2, decide_true, cond_true, e2, e3, e1, Int.toNat_natCast]
      have hga : a'.getD k 0 = a'[k] := by simp [List.getD, hl1]
      have hgb : b'.getD k 0 = b'[k] := by simp [List.getD, hl2]
      by_cases c1 : a'.getD k 0 < b'.getD k 0
      · simp only [c1, decide_true, cond_true]
        refine ⟨_, rfl, -1, rfl, ⟨fun h => by omega, fun h => ?_⟩⟩
        subst h; exact absurd c1 (by simp)
      · by_cases c2 : b'.getD k 0 < a'.getD k 0
        · simp only [c1, c2, decide_true, decide_false, cond_true, cond_false]
          refine ⟨_, rfl, 1, rfl, ⟨fun h => by omega, fun h => ?_⟩⟩
          subst h; exact absurd c2 (by simp)
        · simp only [c1, c2, decide_false, cond_false]
          refine ⟨_, rfl, ⟨rfl, rfl, by simp only; omega, by simp only; omega, by simp only; omega, ?_⟩, by simp only; omega⟩
          have hk1 : ((k : Int) + 1).toNat = k + 1 := by omega
          simp only [hk1]
          rw [List.take_add_one, List.take_add_one, h6]
          congr 1
          have : a'[k] = b'[k] := by
            have := UInt8.le_antisymm (UInt8.not_lt.1 c2) (UInt8.not_lt.1 c1)
            rwa [hga, hgb] at this
          simp [hl1, hl2, this]
    · have hs : ref01_Compare_s2 N a' b' k = some (.br ((a', b', ()), ())) := by
        simp only [ref01_Compare_s2, ref01_Compare_3]
        by_cases q : (k : Int) < (a'.length : Int)
        · have q2 : ¬ (k : Int) < (b'.length : Int) := by omega
          simp only [q, q2, decide_true, decide_false, cond_true, cond_false]
        · simp only [q, decide_false, cond_false]
      refine ⟨_, hs, ?_⟩
      obtain ⟨v, h7, h8⟩ := hend hlt
      exact ⟨_, h7, v, rfl, h8⟩
theorem equal_ok {N : Nat} {a b : List UInt8} (ha : a.length < 4611686018427387904) (hb : b.length < 4611686018427387904) (hN : a.length < N) : ref01_Equal N a b = some ((decide (a = b), ()), ()) := by
  obtain ⟨v, h1, h2⟩ := compare_ok ha hb hN
  unfold ref01_Equal
  rw [h1]
  simp only [Option.bind]
  by_cases h : a = b
  · simp [h, h2.2 h]
  · have : ¬ v = 0 := fun e => h (h2.1 e)
    simp [h, this]
end Go.Proofs.Ytgbkkfpheahdfaa.Pl
