import Derived.Test.YtajpblfinenmjaaGreatDoorFnsConcreteWritesA
import Derived.Test.YtajpblfinenmjaaGreatDoorHnfConcreteWritesA
import Derived.KernelRfl
import Derived.Test.YtajpblfinenmjaaGreatDoorRngConcreteWritesA
import Derived.Test.YtajpblfinenmjaaGreatDoorRngConcreteWritesB
set_option linter.unusedVariables false
set_option linter.unusedSimpArgs false
namespace Go.Proofs.YtajpblfinenmjaaGreatDoor
open Go
set_option maxRecDepth 100000
set_option linter.unusedVariables false
noncomputable def zq33_ctr (N : Nat) : Ctr := ⟨⟨[.val TT], []⟩, (⟨[.row 0, .val .i64], [(.row 5 .u8, .pos 0)]⟩ : Spec).un [false, false], 0, (fun y => zq33 N y.1.1)⟩
theorem zq33_ok (N : Nat) : Ctr.ok Tryz.prog zw8 10 (zq33_ctr N) where
  body := ⟨_, Tryz.func10, by kernel_rfl, by kernel_rfl⟩
  call := by
    intro E ob Z args x y hg hpins hlen hrep hF
    match args, hlen with
    | [a], _ =>
    obtain ⟨⟨x, ⟨⟩⟩, ⟨⟩⟩ := x
    obtain ⟨⟨er, ⟨⟩⟩, out, ⟨⟩⟩ := y
    obtain ⟨cs, hd, ha⟩ : ∃ cs, DR E.w0 Z TT x cs ∧ a = .agg cs.toArray := (hrep.slots 0 (.sv (.data TT x)) rfl).2.1
    subst ha
    have hgl : GlCt E.w0 Z := fun g d hl => (hrep.globs g d (by rw [hg]; exact hl)).mono (U := fun _ => False) (Same.refl _ _) (fun _ h => h) (fun _ h => h.elim) (by simp [SV.ids])
    refine (zwg0 hgl hrep.zlt hd hF).mono ?_
    rintro e w' ⟨u, rfl, hi, hk, hou, hfr⟩
    have hpe : E.pins = [] := hpins
    obtain ⟨uss, h1, h2⟩ := hou
    have hblt : ∀ b, blk u = some b → b < w'.heap.size ∧ E.w0.heap.size ≤ b := fun b hb => ⟨by
      rcases h2.2 with ⟨rfl, _⟩ | ⟨g, _, _, rfl, _, hh, _⟩
      · cases hb
      · cases hb; exact (Array.getElem?_eq_some_iff.1 hh).1, hfr b hb⟩
    refine ⟨[u, .int .i64 er], fun _ => u, Z, rfl, rfl, ?_⟩
    exact {
      defers := rfl
      size := rfl
      kept := hk.weak fun _ h => h.elim
      zlt := fun b h => Nat.lt_of_lt_of_le (hrep.zlt b h) hk.size
      z0 := hrep.z0
      slots := by
        intro n g hl
        have hl' : look n [(0, GV.sv (.row 0)), (1, GV.sv (.data .i64 er))] = some g := hl
        match n, hl' with
        | 0, hl' =>
          cases hl'
          exact ⟨Nat.zero_lt_succ 1, rfl, Nat.zero_lt_one⟩
        | 1, hl' =>
          cases hl'
          exact ⟨Nat.one_lt_succ_succ 0, ⟨[.int .i64 er], ⟨rfl, hi⟩, rfl⟩, trivial⟩
        | n + 2, hl' => cases (show (none : Option GV) = some g from hl')
      objs := by
        intro i o hl
        have hl' : look i [(0, Ob.row 5 .u8 out true)] = some o := hl
        match i, hl' with
        | 0, hl' =>
          cases hl'
          exact ⟨Nat.zero_lt_one, ⟨uss, h1.mono fun _ _ h => h, h2, fun h => by cases h⟩, trivial⟩
        | i + 1, hl' => cases (show (none : Option Ob) = some o from hl')
      own := by
        intro i o hl _ b hb
        have := hblt b hb
        exact ⟨fun hz => by have := hrep.zlt b hz; omega, .inr this.2⟩
      apart := by
        intro i j o o' hij hl hl'
        have h1 : look i [(0, Ob.row 5 .u8 out true)] = some o := hl
        have h2 : look j [(0, Ob.row 5 .u8 out true)] = some o' := hl'
        match i, j, h1, h2 with
        | 0, 0, _, _ => exact absurd rfl hij
        | i + 1, _, h1, _ => cases (show (none : Option Ob) = some o from h1)
        | 0, j + 1, _, h2 => cases (show (none : Option Ob) = some o' from h2)
      globs := fun g d hl => (hrep.globs g d hl).mono (U := fun _ => False) (hk.same fun _ _ h => h) (fun _ h => h) (fun _ h => h.elim) (by simp [SV.ids])
      pins := fun p hp => by rw [hpe] at hp; cases hp }

end Go.Proofs.YtajpblfinenmjaaGreatDoor