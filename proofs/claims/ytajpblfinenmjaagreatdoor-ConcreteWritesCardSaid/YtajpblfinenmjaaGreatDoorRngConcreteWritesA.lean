import Derived.Test.YtajpblfinenmjaaGreatDoorFnsConcreteWritesA
import Derived.Test.YtajpblfinenmjaaGreatDoorHndConcreteWritesA
import Derived.KernelRfl
set_option linter.unusedVariables false
set_option linter.unusedSimpArgs false
namespace Go.Proofs.YtajpblfinenmjaaGreatDoor
open Go
set_option maxRecDepth 100000
set_option linter.unusedVariables false
noncomputable def zq97_ctr (N : Nat) : Ctr := ⟨⟨[.val TT], []⟩, (⟨[.val .bool], []⟩ : Spec).un [false], 0, (fun y => zq97 N y.1.1)⟩
theorem zq97_ok (N : Nat) : Ctr.ok Tryz.prog zw8 34 (zq97_ctr N) where
  body := ⟨_, Tryz.func34, by kernel_rfl, by kernel_rfl⟩
  call := by
    intro E ob Z args x y hg hpins hlen hrep hF
    match args, hlen with
    | [a], _ =>
    obtain ⟨⟨x, ⟨⟩⟩, ⟨⟩⟩ := x
    obtain ⟨⟨b, ⟨⟩⟩, ⟨⟩⟩ := y
    obtain ⟨cs, hd, ha⟩ : ∃ cs, DR E.w0 Z TT x cs ∧ a = .agg cs.toArray := (hrep.slots 0 (.sv (.data TT x)) rfl).2.1
    subst ha
    have hgl : GlCt E.w0 Z := fun g d hl => (hrep.globs g d (by rw [hg]; exact hl)).mono (U := fun _ => False) (Same.refl _ _) (fun _ h => h) (fun _ h => h.elim) (by simp [SV.ids])
    have hx : (mkT x).un = x := rfl
    have ht : TR E.w0 Z (mkT x) cs := TR_DR.2 (by rw [hx]; exact hd)
    refine (callsIn_wide.1 (zw5n 5 (by omega) hgl hrep.zlt ht (b := b) (by rw [hx]; exact hF))).mono ?_
    rintro e w' ⟨rfl, hk⟩
    have hpe : E.pins = [] := hpins
    refine ⟨[.bool b], ob, Z, rfl, rfl, ?_⟩
    exact {
      defers := rfl
      size := rfl
      kept := hk.weak fun _ h => h.elim
      zlt := fun b h => Nat.lt_of_lt_of_le (hrep.zlt b h) hk.size
      z0 := hrep.z0
      slots := by
        intro n g hl
        have hl' : look n [(0, GV.sv (.data .bool b))] = some g := hl
        match n, hl' with
        | 0, hl' =>
          cases hl'
          exact ⟨Nat.zero_lt_one, ⟨[.bool b], rfl, rfl⟩, trivial⟩
        | n + 1, hl' => cases (show (none : Option GV) = some g from hl')
      objs := fun i o hl => by cases (show (none : Option Ob) = some o from hl)
      own := fun i o hl => by cases (show (none : Option Ob) = some o from hl)
      apart := fun i j o o' _ hl => by cases (show (none : Option Ob) = some o from hl)
      globs := fun g d hl => (hrep.globs g d hl).mono (U := fun _ => False) (hk.same fun _ _ h => h) (fun _ h => h) (fun _ h => h.elim) (by simp [SV.ids])
      pins := fun p hp => by rw [hpe] at hp; cases hp }

end Go.Proofs.YtajpblfinenmjaaGreatDoor