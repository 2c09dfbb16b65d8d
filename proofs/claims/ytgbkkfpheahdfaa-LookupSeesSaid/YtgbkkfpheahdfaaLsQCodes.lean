/- Plain: the maker of inputs (shallow functions of make). -/
import Derived.Test.YtgbkkfpheahdfaaGmLoop
import Derived.Test.YtgbkkfpheahdfaaLsQBase
import Derived.Test.YtgbkkfpheahdfaaFnsLookupSeesA
set_option linter.unusedVariables false
set_option linter.unusedSimpArgs false
namespace Go.Proofs.Ytgbkkfpheahdfaa.Pl
open Go

/-- A maker whose place lies in its list. -/
def COk (c : List UInt8 × (Int × Unit)) : Prop := 0 ≤ c.2.1 ∧ c.2.1 ≤ (c.1.length : Int) ∧ c.1.length ≤ 1000000000000000
theorem next_ok (N : Nat) {c : List UInt8 × (Int × Unit)} {n : Int} (h : COk c) (hn : 0 < n) : ∃ v c', make_Codes_Next N n c = some ((v, ()), (c', ())) ∧ 0 ≤ v ∧ v < n ∧ COk c' := by
  obtain ⟨l, i, u⟩ := c
  obtain ⟨h1, h2, h3⟩ := h
  simp only at h1 h2 h3
  have hb : (l.length : Int) ≤ 1000000000000000 := by omega
  unfold make_Codes_Next make_Codes_Left
  simp only [Option.bind]
  by_cases hlt : i < (l.length : Int)
  · have e1 : w64 (i + 1) = i + 1 := w64_of (by omega) (by omega)
    have e2 : w64 (i + 1 - 1) = i := by rw [w64_of (by omega) (by omega)]; omega
    simp only [hlt, decide_true, Bool.not_true, cond_false, e1, e2]
    have e3 : inR i l.length = true := by simp [inR, h1, hlt]
    have e4 : (!(decide (n = 0))) = true := by simp; omega
    simp only [e3, e4, cond_true]
    refine ⟨_, _, rfl, ?_, ?_, by simp only; omega, by simp only; omega, h3⟩
    · exact Int.tmod_nonneg _ (by omega)
    · exact Int.tmod_lt_of_pos _ hn
  · simp only [hlt, decide_false, Bool.not_false, cond_true]
    exact ⟨0, _, rfl, by omega, hn, h1, h2, h3⟩
theorem bytes_ok {N : Nat} {c : List UInt8 × (Int × Unit)} {n : Int} (h : COk c) (h0 : 0 ≤ n) (hn : n ≤ 1000000) (hN : n.toNat < N) : ∃ c' out, make_Codes_Bytes N n c = some ((), (c', out, ())) ∧ out.length = n.toNat ∧ COk c' := by
  unfold make_Codes_Bytes make_Codes_Bytes_1
  have := loopK_of (N := N) (step := fun y => make_Codes_Bytes_s2 N y.1.1 y.1.2.1 y.2.1 y.2.2.1) (J := fun (e : ((Unit) × (((List UInt8) × (Int × Unit)) × (List UInt8) × Unit))) => make_Codes_Bytes_3 N e.2.1 e.2.2.1)
    (I := fun y => y.1.1 = n ∧ 0 ≤ y.1.2.1 ∧ y.1.2.1 ≤ n ∧ COk y.2.1 ∧ y.2.2.1.length = y.1.2.1.toNat) (μ := fun y => (n - y.1.2.1).toNat) (T := fun r => ∃ c' out, r = ((), (c', out, ())) ∧ out.length = n.toNat ∧ COk c') ?_
    (x := ((n, 0, ()), (c, [], ()))) ⟨rfl, by simp, by simpa using h0, h, by simp⟩ (by simpa using hN)
  · obtain ⟨r, h1, c', out, rfl, h2, h3⟩ := this
    exact ⟨c', out, h1, h2, h3⟩
  · rintro ⟨⟨n', i, _⟩, ⟨p, out, _⟩⟩ ⟨h1, h2, h3, h4, h5⟩
    simp only at h1 h2 h3 h4 h5
    subst h1
    simp only [make_Codes_Bytes_s2]
    by_cases hlt : i < n'
    · obtain ⟨v, c', e, h6, h7, h8⟩ := next_ok N (n := 256) h4 (by omega)
      have e1 : w64 (i + 1) = i + 1 := w64_of (by omega) (by omega)
      simp only [hlt, decide_true, cond_true, e, Option.bind]
      have e2 : room (out.length + [iu8 (w64 (v + w64 (i * 7)))].length) 1 = true := by
        unfold room; simp; omega
      rw [e2, cond_true, e1]
      refine ⟨_, rfl, ⟨rfl, by simp only; omega, by simp only; omega, h8, by simp; omega⟩, by simp only; omega⟩
    · simp only [hlt, decide_false, cond_false]
      refine ⟨_, rfl, _, rfl, p, out, rfl, by rw [h5]; congr 1; omega, h4⟩
theorem new_ok (N : Nat) (l : List UInt8) {m : Int} (h0 : 0 ≤ m) (hm : m ≤ 1000000) : ∃ c, make_New N l m = some ((), (c, ())) ∧ COk c := by
  unfold make_New
  by_cases hlt : m < (l.length : Int)
  · simp only [hlt, decide_true, cond_true, h0, Int.le_refl, Bool.and_self, show m ≤ (l.length : Int) by omega]
    exact ⟨_, rfl, by simp, by simp, by simp [cut]; omega⟩
  · simp only [hlt, decide_false, cond_false]
    exact ⟨_, rfl, by simp, by simp, by simp only; omega⟩
end Go.Proofs.Ytgbkkfpheahdfaa.Pl
