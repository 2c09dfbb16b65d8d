/- Plain: loops of the shallow functions. -/
import Derived.Test.YtajpblfinenmjaaGreatDoorGm
set_option linter.unusedVariables false
set_option linter.unusedSimpArgs false
namespace Go.Proofs.YtajpblfinenmjaaGreatDoor
open Go
theorem zwj {S E R : Type} {step : S → Option (Lo S E R)} {J : E → Option R} (I : S → Prop) (μ : S → Nat) (T : R → Prop)
  (h : ∀ x, I x → ∃ o, step x = some o ∧ match o with
   | .go x' => I x' ∧ μ x' < μ x
   | .br e => ∃ r, J e = some r ∧ T r
   | .rt r => T r) : ∀ {N : Nat} {x : S}, I x → μ x < N → ∃ r, loopK N step J x = some r ∧ T r := by
 intro N
 induction N with
 | zero => intro x _ h; omega
 | succ N ih =>
  intro x hx hm
  obtain ⟨o, ho, hq⟩ := h x hx
  have e : loopK (N + 1) step J x = (step x).bind fun o => match o with
   | .go x' => loopK N step J x'
   | .br e => J e
   | .rt r => some r := by
   unfold loopK iterK
   show Option.bind _ _ = Option.bind _ _
   congr 1
  rw [e, ho]
  cases o with
  | go x' => exact ih hq.1 (by have := hq.2; omega)
  | br e => exact hq
  | rt r => exact ⟨r, rfl, hq⟩
theorem zw2b {S E R : Type} {step : S → Option (Lo S E R)} {J : E → Option R} (N : Nat) (x : S) : loopK (N + 1) step J x = (step x).bind fun o => match o with
  | .go x' => loopK N step J x'
  | .br e => J e
  | .rt r => some r := by
 unfold loopK iterK
 show Option.bind _ _ = Option.bind _ _
 congr 1
theorem zwc {S E R : Type} {step : S → Option (Lo S E R)} {J : E → Option R} (xs : Nat → S) {n : Nat} (h : ∀ i, i < n → step (xs i) = some (.go (xs (i + 1)))) {e : E} (hb : step (xs n) = some (.br e)) {N : Nat} (hN : n < N) : loopK N step J (xs 0) = J e := by
 suffices H : ∀ k, k ≤ n → ∀ M, k < M → loopK M step J (xs (n - k)) = J e by
  have := H n (Nat.le_refl _) N hN
  rwa [Nat.sub_self] at this
 intro k
 induction k with
 | zero =>
  intro _ M hM
  obtain ⟨M, rfl⟩ : ∃ m, M = m + 1 := ⟨M - 1, by omega⟩
  rw [zw2b, Nat.sub_zero, hb]; rfl
 | succ k ih =>
  intro hk M hM
  obtain ⟨M, rfl⟩ : ∃ m, M = m + 1 := ⟨M - 1, by omega⟩
  rw [zw2b, h _ (by omega), show n - (k + 1) + 1 = n - k by omega]
  exact ih (by omega) M (by omega)
end Go.Proofs.YtajpblfinenmjaaGreatDoor
