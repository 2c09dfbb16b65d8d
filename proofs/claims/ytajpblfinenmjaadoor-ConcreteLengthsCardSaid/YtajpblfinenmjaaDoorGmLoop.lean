/- Plain: loops of the shallow functions. -/
import Derived.Test.YtajpblfinenmjaaDoorGm
set_option linter.unusedVariables false
set_option linter.unusedSimpArgs false
namespace Go.Proofs.YtajpblfinenmjaaDoor
open Go
/-- A loop with an invariant and a measure. -/
theorem loopK_of {S E R : Type} {step : S → Option (Lo S E R)} {J : E → Option R} (I : S → Prop) (μ : S → Nat) (T : R → Prop)
    (h : ∀ x, I x → ∃ o, step x = some o ∧ match o with
      | .go x' => I x' ∧ μ x' < μ x
      | .br e => ∃ r, J e = some r ∧ T r
      | .rt r => T r) : ∀ {N : Nat} {x : S}, I x → μ x < N → ∃ r, loopK N step J x = some r ∧ T r := by
  intro N
  induction N with
  | zero => intro x _ h; omega
  | succ N ih =>
    intro x hx hm
    obtain ⟨o, ho, hq⟩ := h x hx
    have e : loopK (N + 1) step J x = (step x).bind fun o => match o with
      | .go x' => loopK N step J x'
      | .br e => J e
      | .rt r => some r := by
      unfold loopK iterK
      show Option.bind _ _ = Option.bind _ _
      congr 1
    rw [e, ho]
    cases o with
    | go x' => exact ih hq.1 (by have := hq.2; omega)
    | br e => exact hq
    | rt r => exact ⟨r, rfl, hq⟩
theorem loopK_succ {S E R : Type} {step : S → Option (Lo S E R)} {J : E → Option R} (N : Nat) (x : S) : loopK (N + 1) step J x = (step x).bind fun o => match o with
    | .go x' => loopK N step J x'
    | .br e => J e
    | .rt r => some r := by
  unfold loopK iterK
  show Option.bind _ _ = Option.bind _ _
  congr 1
/-- A loop whose states are known. -/
theorem loopK_run {S E R : Type} {step : S → Option (Lo S E R)} {J : E → Option R} (xs : Nat → S) {n : Nat} (h : ∀ i, i < n → step (xs i) = some (.go (xs (i + 1)))) {e : E} (hb : step (xs n) = some (.br e)) {N : Nat} (hN : n < N) : loopK N step J (xs 0) = J e := by
  suffices H : ∀ k, k ≤ n → ∀ M, k < M → loopK M step J (xs (n - k)) = J e by
    have := H n (Nat.le_refl _) N hN
    rwa [Nat.sub_self] at this
  intro k
  induction k with
  | zero =>
    intro _ M hM
    obtain ⟨M, rfl⟩ : ∃ m, M = m + 1 := ⟨M - 1, by omega⟩
    rw [loopK_succ, Nat.sub_zero, hb]; rfl
  | succ k ih =>
    intro hk M hM
    obtain ⟨M, rfl⟩ : ∃ m, M = m + 1 := ⟨M - 1, by omega⟩
    rw [loopK_succ, h _ (by omega), show n - (k + 1) + 1 = n - k by omega]
    exact ih (by omega) M (by omega)
/-- What two loops have in common at the end of a round. -/
def TwoOk {S S' E E' R R' : Type} (J : E → Option R) (J' : E' → Option R') (I : S → S' → Prop) (P : S → Prop) (T : R → R' → Prop) : Lo S E R → Lo S' E' R' → Prop
  | .go x, .go y => I x y ∧ P x
  | .br e, .br e' => ∃ r r', J e = some r ∧ J' e' = some r' ∧ T r r'
  | .rt r, .rt r' => T r r'
  | .br e, .rt r' => ∃ r, J e = some r ∧ T r r'
  | .rt r, .br e' => ∃ r', J' e' = some r' ∧ T r r'
  | _, _ => False
/-- Two loops side by side. -/
theorem loopK_two {S S' E E' R R' : Type} {step : S → Option (Lo S E R)} {J : E → Option R} {step' : S' → Option (Lo S' E' R')} {J' : E' → Option R'} (I : S → S' → Prop) (μ : S → Nat) (T : R → R' → Prop)
    (h : ∀ x y, I x y → ∃ o o', step x = some o ∧ step' y = some o' ∧ TwoOk J J' I (fun x' => μ x' < μ x) T o o') : ∀ {N N' : Nat} {x : S} {y : S'}, I x y → μ x < N → μ x < N' → ∃ r r', loopK N step J x = some r ∧ loopK N' step' J' y = some r' ∧ T r r' := by
  intro N
  induction N with
  | zero => intro _ x _ _ h; omega
  | succ N ih =>
    intro N' x y hx hm hm'
    obtain ⟨N', rfl⟩ : ∃ m, N' = m + 1 := ⟨N' - 1, by omega⟩
    obtain ⟨o, o', ho, ho', hq⟩ := h x y hx
    rw [loopK_succ, loopK_succ, ho, ho']
    cases o <;> cases o'
    case go.go x' y' => exact ih hq.1 (by have := hq.2; omega) (by have := hq.2; omega)
    case br.br e e' => exact hq
    case rt.rt r r' => exact ⟨r, r', rfl, rfl, hq⟩
    case br.rt e r' => obtain ⟨r, h1, h2⟩ := hq; exact ⟨r, r', h1, rfl, h2⟩
    case rt.br r e' => obtain ⟨r', h1, h2⟩ := hq; exact ⟨r, r', rfl, h1, h2⟩
    all_goals exact hq.elim
end Go.Proofs.YtajpblfinenmjaaDoor
