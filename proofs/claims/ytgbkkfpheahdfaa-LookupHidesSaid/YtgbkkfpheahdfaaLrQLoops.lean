/- Plain: loops that look for the first place where a test holds. -/
import Derived.Test.YtgbkkfpheahdfaaLrQBase
set_option linter.unusedVariables false
set_option linter.unusedSimpArgs false
namespace Go.Proofs.Ytgbkkfpheahdfaa.Pl
open Go
/-- The first number below n, from k on, at which a test holds. -/
def firstAt (q : Nat → Bool) (k : Nat) : Nat → Option Nat
  | 0 => none
  | n + 1 => if q k = true then some k else firstAt q (k + 1) n
theorem firstAt_none {q : Nat → Bool} : ∀ {n k : Nat}, firstAt q k n = none ↔ ∀ i, k ≤ i → i < k + n → q i = false
  | 0, k => ⟨fun _ i h h' => by omega, fun _ => rfl⟩
  | n + 1, k => by
    unfold firstAt
    by_cases h : q k = true
    · rw [if_pos h]
      constructor
      · intro h'; cases h'
      · intro h'; rw [h' k (by omega) (by omega)] at h; cases h
    · rw [if_neg h, firstAt_none]
      constructor
      · intro h' i h1 h2
        by_cases e : i = k
        · subst e; simpa using h
        · exact h' i (by omega) (by omega)
      · intro h' i h1 h2; exact h' i (by omega) (by omega)
theorem firstAt_some {q : Nat → Bool} : ∀ {n k i : Nat}, firstAt q k n = some i ↔ (k ≤ i ∧ i < k + n ∧ q i = true ∧ ∀ j, k ≤ j → j < i → q j = false)
  | 0, k, i => ⟨fun h => (by cases h), fun ⟨h1, h2, _⟩ => by omega⟩
  | n + 1, k, i => by
    unfold firstAt
    by_cases h : q k = true
    · rw [if_pos h]
      constructor
      · intro e; cases e; exact ⟨by omega, by omega, h, fun j h1 h2 => by omega⟩
      · rintro ⟨h1, h2, h3, h4⟩
        by_cases e : k = i
        · rw [e]
        · have := h4 k (by omega) (by omega); rw [this] at h; cases h
    · rw [if_neg h, firstAt_some]
      constructor
      · rintro ⟨h1, h2, h3, h4⟩
        refine ⟨by omega, by omega, h3, fun j h5 h6 => ?_⟩
        by_cases e : j = k
        · subst e; simpa using h
        · exact h4 j (by omega) h6
      · rintro ⟨h1, h2, h3, h4⟩
        have : k ≠ i := fun e => h (e ▸ h3)
        exact ⟨by omega, by omega, h3, fun j h5 h6 => h4 j (by omega) h6⟩
theorem firstAt_congr {q q' : Nat → Bool} : ∀ {n k : Nat}, (∀ i, k ≤ i → i < k + n → q i = q' i) → firstAt q k n = firstAt q' k n
  | 0, k, _ => rfl
  | n + 1, k, h => by
    unfold firstAt
    rw [h k (by omega) (by omega), firstAt_congr fun i h1 h2 => h i (by omega) (by omega)]
/-- A loop that ends where a test holds first. -/
theorem loopK_find {S E R : Type} {step : S → Option (Lo S E R)} {J : E → Option R} (xs : Nat → S) (q : Nat → Bool) (r : Nat → R) {n : Nat} {e : E}
    (h : ∀ i, i < n → q i = false → step (xs i) = some (.go (xs (i + 1)))) (h' : ∀ i, i < n → q i = true → step (xs i) = some (.rt (r i))) (hb : step (xs n) = some (.br e)) {N : Nat} (hN : n < N) :
    loopK N step J (xs 0) = match firstAt q 0 n with
      | none => J e
      | some i => some (r i) := by
  suffices H : ∀ m k, k + m = n → ∀ M, m < M → loopK M step J (xs k) = match firstAt q k m with
      | none => J e
      | some i => some (r i) from H n 0 (by omega) N hN
  intro m
  induction m with
  | zero =>
    intro k hk M hM
    obtain ⟨M, rfl⟩ : ∃ m, M = m + 1 := ⟨M - 1, by omega⟩
    have : k = n := by omega
    subst this
    rw [loopK_succ, hb]; rfl
  | succ m ih =>
    intro k hk M hM
    obtain ⟨M, rfl⟩ : ∃ m, M = m + 1 := ⟨M - 1, by omega⟩
    unfold firstAt
    cases hq : q k with
    | true => rw [loopK_succ, h' k (by omega) hq, if_pos rfl]; rfl
    | false =>
      rw [loopK_succ, h k (by omega) hq, if_neg (by decide)]
      exact ih (k + 1) (by omega) M (by omega)
/-- Tests up to n that all hold. -/
def allB (q : Nat → Bool) (n : Nat) : Bool := (firstAt (fun i => !(q i)) 0 n).isNone
theorem allB_iff {q : Nat → Bool} {n : Nat} : allB q n = true ↔ ∀ i, i < n → q i = true := by
  unfold allB
  rw [Option.isNone_iff_eq_none, firstAt_none]
  constructor
  · intro h i hi; have := h i (by omega) (by omega); simpa using this
  · intro h i h1 h2; rw [h i (by omega)]; rfl
/-- A loop that ends with one answer as soon as a test fails. -/
theorem loopK_all {S E R : Type} {step : S → Option (Lo S E R)} {J : E → Option R} (xs : Nat → S) (q : Nat → Bool) (r : R) {n : Nat} {e : E}
    (h : ∀ i, i < n → q i = true → step (xs i) = some (.go (xs (i + 1)))) (h' : ∀ i, i < n → q i = false → step (xs i) = some (.rt r)) (hb : step (xs n) = some (.br e)) {N : Nat} (hN : n < N) :
    loopK N step J (xs 0) = if allB q n = true then J e else some r := by
  rw [loopK_find (step := step) (J := J) xs (fun i => !(q i)) (fun _ => r) (fun i hi hq => h i hi (by simpa using hq)) (fun i hi hq => h' i hi (by simpa using hq)) hb hN]
  unfold allB
  cases firstAt (fun i => !(q i)) 0 n <;> simp
end Go.Proofs.Ytgbkkfpheahdfaa.Pl
