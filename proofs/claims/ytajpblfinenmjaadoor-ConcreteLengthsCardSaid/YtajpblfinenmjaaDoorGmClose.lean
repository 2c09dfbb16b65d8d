/- The ghost machine: a law's function, from its contract to what it hands out. -/
import Derived.Test.YtajpblfinenmjaaDoorGmRule
set_option linter.unusedVariables false
set_option linter.unusedSimpArgs false
namespace Go.Proofs.YtajpblfinenmjaaDoor
open Go
/-- A function of data alone that says true: it returns true, and nothing that was there has changed. -/
theorem law_walk {P : Program} {f : FuncId} {ks : List SK} {globs : List (Nat × Dt)} {F : (Spec.mk ks []).den → Option (Spec.mk [.val .bool] []).den} (h : Ctr.ok P globs f ⟨⟨ks, []⟩, ⟨[.val .bool], []⟩, 0, F⟩) {w : World} {args : List Value} {x : KsD ks} (hks : args.length = ks.length)
    (hargs : All2 (VR w (fun b => b < w.heap.size) (fun _ => undef)) (stKs id ks x) args) (hids : ∀ g ∈ stKs id ks x, g.ids (fun _ => False))
    (hgl : ∀ g d, look g globs = some d → SR w (fun b => b < w.heap.size) (fun _ => undef) (.fp d.1 d.2) (.pointer (some ⟨g, 0, none⟩))) (hF : F (x, ()) = some ((true, ()), ())) :
    Calls P f args.toArray w fun e w' => e = .returned (.bool true) ∧ Kept (fun _ => False) w w' := by
  let E : Env := { w0 := w, M := fun _ => False, Z0 := fun _ => True, pins := [], globs := globs }
  refine (h.call E (fun _ => undef) (fun b => b < w.heap.size) args (x, ()) ((true, ()), ()) rfl rfl hks ?_ hF).mono ?_
  · refine { defers := rfl, size := by simp, kept := Kept.refl _ _, zlt := fun b hb => hb, z0 := fun b _ _ => .inl trivial, slots := ?_, objs := ?_, own := ?_, apart := ?_, globs := ?_, pins := ?_ }
    · intro n g hl
      obtain ⟨i, e1, e2⟩ := look_zip hl
      have hin : i = n := by
        obtain ⟨hi, e⟩ := List.getElem?_eq_some_iff.1 e1
        simpa using e
      subst hin
      obtain ⟨u, e3, e4⟩ := hargs.at_ e2
      exact ⟨(List.getElem?_eq_some_iff.1 e3).1, by simpa [e3] using e4, (hids g (List.mem_of_getElem? e2)).mono fun _ h => h.elim⟩
    · intro i o hl; simp [Spec.st, stOs, number, look] at hl
    · intro i o hl; simp [Spec.st, stOs, number, look] at hl
    · intro i j o o' _ hl; simp [Spec.st, stOs, number, look] at hl
    · intro g d hl; exact hgl g d hl
    · intro p hp; simp [E] at hp
  · rintro e w' ⟨vs, ob', Z', he, hvl, hr⟩
    refine ⟨?_, hr.kept⟩
    have hvl' : vs.length = 1 := hvl
    obtain ⟨v, rfl⟩ := List.length_eq_one_iff.1 hvl'
    obtain ⟨_, q, _⟩ := hr.slots 0 (.sv (.data .bool true)) rfl
    have := SR.bool (ob := ob') q
    rw [he]
    simpa [tupV] using this
end Go.Proofs.YtajpblfinenmjaaDoor
