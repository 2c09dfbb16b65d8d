/- The ghost machine: the rules in their short forms. -/
import Derived.Test.YtajpblfinenmjaaGreatDoorGmRule
set_option linter.unusedVariables false
set_option linter.unusedSimpArgs false
namespace Go.Proofs.YtajpblfinenmjaaGreatDoor
open Go
def BkP (P : Program) {R : Type} (np : Nat) (Γ : Ctx) (ns : List Nat) (c : Spec) (l : List Code) (F : c.den → Option R) (K : XE → GS → Option R) : Prop := ∀ {E : Env}, Base P Γ E np → Blk P Γ E ns c l F K
section
variable {P : Program} {Γ : Ctx} {R : Type} {np : Nat} {ns ms : List Nat} {c d : Spec} {l : List Code} {i j : Nat} {F : c.den → Option R} {G : d.den → Option R} {K : XE → GS → Option R}
theorem cE (n : Nat) (h : Nat.ble l.length (i + n) = true := by kernel_rfl) (hF : ∀ x, F x = listK Γ ((l.drop i).take n) (c.st ns x) (nextK (K .normal) K) := by intro; kernel_rfl) : BkP P np Γ ns c (l.drop i) F K :=
 fun hb => Blk.chunkAt hb n (NxOk.end h) rfl hF
theorem cG (n : Nat) (h : BkP P np Γ ms d (l.drop j) G K) (hj : i + n = j := by rfl) (hF : ∀ x, F x = listK Γ ((l.drop i).take n) (c.st ns x) (nextK (goK np ms d G) K) := by intro; kernel_rfl) : BkP P np Γ ns c (l.drop i) F K :=
 fun hb => Blk.chunkAt hb n (NxOk.go hb (h hb)) hj hF
variable {hns : List Nat} {bid : Nat}
theorem lG (N : Nat) (hc : Spec) (ans : List Nat) (ac : Spec) {step : hc.den → Option (Lo hc.den ac.den R)} (h : BkP P np Γ ms d (l.drop (i + 1)) G K) (hS : BkP P np Γ hns hc ((loopOf (l[i]?)).drop 0) step (roundK (some bid) (fit np hns hc) (fit np ans ac) K))
  (hi : isLoop bid (l[i]?) = true := by kernel_rfl) (hF : ∀ x, F x = goK np hns hc (loopK N step (fun e => goK np ms d G (ac.st ans e))) (c.st ns x) := by intro; kernel_rfl) : BkP P np Γ ns c (l.drop i) F K :=
 fun hb => Blk.loopAt hb hi (Blk.into (NxOk.go hb (h hb)) fun _ => rfl) (hS hb) hF
theorem lE (N : Nat) (hc : Spec) (ans : List Nat) (ac : Spec) {step : hc.den → Option (Lo hc.den ac.den R)} (hS : BkP P np Γ hns hc ((loopOf (l[i]?)).drop 0) step (roundK (some bid) (fit np hns hc) (fit np ans ac) K))
  (hi : isLoop bid (l[i]?) = true := by kernel_rfl) (h : Nat.ble l.length (i + 1) = true := by kernel_rfl) (hF : ∀ x, F x = goK np hns hc (loopK N step (fun e => K .normal (ac.st ans e))) (c.st ns x) := by intro; kernel_rfl) : BkP P np Γ ns c (l.drop i) F K :=
 fun hb => Blk.loopAt hb hi (Blk.into (NxOk.end h) fun _ => rfl) (hS hb) hF
def CsP (P : Program) (gl : List (Nat × Dt)) (l : List (Nat × Ctr)) : Prop := ∀ p ∈ l, p.2.ok P gl p.1
theorem csn {gl : List (Nat × Dt)} : CsP P gl [] := fun _ h => by cases h
theorem csc {gl : List (Nat × Dt)} {f : Nat} {c : Ctr} {l : List (Nat × Ctr)} (h : c.ok P gl f) (t : CsP P gl l) : CsP P gl ((f, c) :: l) := fun p hp => by
 cases hp with
 | head => exact h
 | tail _ hp => exact t p hp
def CsX (x : Option Value) (P : Program) (gl : List (Nat × Dt)) (l : List (Nat × Ctr)) : Prop := ∀ p ∈ l, p.2.okx x P gl p.1
theorem cxn {x : Option Value} {gl : List (Nat × Dt)} : CsX x P gl [] := fun _ h => by cases h
theorem cxc {x : Option Value} {gl : List (Nat × Dt)} {f : Nat} {c : Ctr} {l : List (Nat × Ctr)} (h : c.okx x P gl f) (t : CsX x P gl l) : CsX x P gl ((f, c) :: l) := fun p hp => by
 cases hp with
 | head => exact h
 | tail _ hp => exact t p hp
end
end Go.Proofs.YtajpblfinenmjaaGreatDoor
