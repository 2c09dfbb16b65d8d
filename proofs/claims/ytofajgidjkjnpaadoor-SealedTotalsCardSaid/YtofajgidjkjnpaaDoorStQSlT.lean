/- Plain: the law SealedTotals. -/
import Derived.Test.YtofajgidjkjnpaaDoorStQBase
import Derived.Test.YtofajgidjkjnpaaDoorFnuSealedTotalsA
import Derived.KernelRfl
set_option linter.unusedVariables false
set_option linter.unusedSimpArgs false
namespace Go.Proofs.YtofajgidjkjnpaaDoor.Pl
open Go
theorem awake17 : law17_awake 18446744073709551616 = some ((true, ()), ()) := by kernel_rfl
noncomputable def tchk (x y : Nat) : Bool := match law17_SealedTotals_1 18446744073709551616 ((1 + x : Nat) : Int) ((1 + y : Nat) : Int) 1 [] with
  | some r => r.1.1
  | none => false
theorem tall : ((List.range 8).all fun x => (List.range 8).all fun y => tchk x y) = true := by kernel_rfl
theorem totals (a b : UInt8) : law17_SealedTotals 18446744073709551616 a b = some ((true, ()), ()) := by
  unfold law17_SealedTotals
  rw [awake17]
  have hx : ∀ n : Nat, w64 ((1 : Int) + ((n : Int).tmod (8 : Int))) = ((1 + n % 8 : Nat) : Int) := fun n => by
    have : (n : Int).tmod 8 = ((n % 8 : Nat) : Int) := by rw [tmod_of (by omega)]; omega
    rw [this, w64_of (by omega) (by omega)]; omega
  simp only [Option.bind_some, Bool.not_true, cond_false, hx]
  have h := List.all_eq_true.1 (List.all_eq_true.1 tall (a.toNat % 8) (by simp; omega)) (b.toNat % 8) (by simp; omega)
  unfold tchk at h
  cases e : law17_SealedTotals_1 18446744073709551616 ((1 + a.toNat % 8 : Nat) : Int) ((1 + b.toNat % 8 : Nat) : Int) 1 [] with
  | none => rw [e] at h; cases h
  | some r =>
    rw [e] at h
    obtain ⟨⟨r1, u⟩, v⟩ := r
    have : r1 = true := h
    rw [this]
end Go.Proofs.YtofajgidjkjnpaaDoor.Pl
