/- Plain: loops of the shallow functions. -/
import Derived.Test.YtehbbcdhahnkgaaGreatGm
set_option linter.unusedVariables false
set_option linter.unusedSimpArgs false
namespace Go.Proofs.YtehbbcdhahnkgaaGreat
open Go
theorem loopK_of {S E R : Type} {step : S → Option (Lo S E R)} {J : E → Option R} (I : S → Prop) (μ : S → Nat) (T : R → Prop)
  (h : ∀ x, I x → ∃ o, step x = some o ∧ match o with
   | .go x' => I x' ∧ μ x' < μ x
   | .br e => ∃ r, J e = some r ∧ T r
   | .rt r => T r) : ∀ {N : Nat} {x : S}, I x → μ x < N → ∃ r, loopK N step J x = some r ∧ T r := by
 intro N
 induction N with
 | zero => intro x _ h; omega
 | succ N ih =>
  intro x hx hm
  obtain ⟨o, ho, hq⟩ := h x hx
  have e : loopK (N + 1) step J x = (step x).bind fun o => match o with
   | .go x' => loopK N step J x'
   | .br e => J e
   | .rt r => some r := by
   unfold loopK iterK
   show Option.bind _ _ = Option.bind _ _
   congr 1
  rw [e, ho]
  cases o with
  | go x' => exact ih hq.1 (by have := hq.2; omega)
  | br e => exact hq
  | rt r => exact ⟨r, rfl, hq⟩
theorem loopK_succ {S E R : Type} {step : S → Option (Lo S E R)} {J : E → Option R} (N : Nat) (x : S) : loopK (N + 1) step J x = (step x).bind fun o => match o with
  | .go x' => loopK N step J x'
  | .br e => J e
  | .rt r => some r := by
 unfold loopK iterK
 show Option.bind _ _ = Option.bind _ _
 congr 1
end Go.Proofs.YtehbbcdhahnkgaaGreat
