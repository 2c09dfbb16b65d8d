/- The law TopResumes: the program's text returns true for every number of ticks (a byte). Conditions: those that the given statement TopResumesSaid itself names, no other. -/
import Derived.Test.YtehbbcdhahnkgaaGreatRows
import Derived.Test.YtehbbcdhahnkgaaGreatGmRule
import Derived.Test.YtehbbcdhahnkgaaGreatWords
import Derived.Lib.LaidTab
import Derived.ProofKit
import Derived.OpenShut
import Derived.Test.YtehbbcdhahnkgaaGreatHmTrZ
import Derived.WalkKit
import Derived.ShutString
import Derived.ChangeOld
import Derived.Below
namespace Go.Proofs.YtehbbcdhahnkgaaGreat.lawTopResumes
open Go.ChangeShapes Go.WideShapes Go.ChangeAt Go.RowKit
open Go.ChangeMaps (open_string shut_string)
set_option linter.unusedVariables false

theorem own : ownKnob Tryz.prog.godebug = none := by kernel_rfl
theorem laidOut : laidOutB Tryz.prog = true := by kernel_rfl
set_option maxRecDepth 100000 in
theorem lifted (os : Os) (started : os.Started) (H : Type) (enc : TypeId × Value → H) :
    ReturnsInHanded {} Tryz.checked os 6 .any (Rows.topResumesSpec.pre6 enc Tryz.prog Tryz.f6 Rows.topResumesRow.domain false) (Rows.topResumesSpec.post enc Tryz.prog Tryz.f6 false true false false) := by
  refine returnsInHanded_of_change (C := Tryz.checked) own started (by kernel_rfl) Tryz.func6
    (ChangeSpec.witness6 (enc := enc) (C := Tryz.checked) false ⟨#[], #[.int .u8 0], []⟩ 8 (by kernel_rfl) (by kernel_rfl) (by kernel_rfl) (by kernel_rfl)) ?_
  intro W base args ds gs before hval0 hW hcnd hsz
  have hval : ∀ (j : Nat) t v, Tryz.f6.params[j]? = some t → args[j]? = some v → Value.okWide Tryz.prog W .any base t v := hval0
  have hW' := hW
  obtain ⟨p, q, hA0, hV, rfl, hfz, hnd⟩ := hW
  have hA : DataW.TrodAll enc Tryz.prog W 0 (fun _ => true) true Tryz.f6.params.toList args.toList ds p := hA0
  rw [Tryz.params6] at hA hval
  obtain ⟨v0, vs0, d0, ds0, p0, q0, hargs, rfl, rfl, h0, r0⟩ := trodAll_cons hA
  obtain ⟨rfl, rfl, rfl⟩ := trodAll_nil r0
  obtain rfl : args = #[v0] := by cases args; simp_all
  obtain ⟨rfl, rfl⟩ := trodVars_none hV
  obtain ⟨a0, rfl, rfl, rfl, w0⟩ := open_int Tryz.underlying5 (hval 0 5 v0 rfl rfl) h0
  clear hA0 hval0
  have walk : Calls Tryz.prog 6 #[.int .u8 a0] W fun e w' => e = .returned (.bool true) ∧ Ext W w' :=
    Hm.resumes (bounds_u8 w0).1 (bounds_u8 w0).2 W
  refine walk.mono fun e W' ⟨he, bel⟩ => ?_
  subst he
  have bel : Below W.heap.size W W' := bel
  exact ⟨_, rfl, _, _, _, [], _, [], hW', trodAll_mk1 (shut_bool Tryz.underlying4 _), (trodAll_cons_mk (shut_int Tryz.underlying5 w0) trodAll_mk0), rfl, bel.frame _, fun h => by cases h⟩

theorem both {a b : Bool} (h : a = true) (h' : b = true) : (a && b) = true := by rw [h, h']; rfl
theorem fact0 : (Rows.topResumesRow.wf (OpenSpec.ofChange Rows.topResumesSpec)) = true := by kernel_rfl
theorem fact1 : (laidOutB Tryz.pinned.checked.prog) = true := by kernel_rfl
theorem fact2 : (mapsRowed Tryz.pinned.checked.prog) = true := by kernel_rfl
theorem fact3 : (Tryz.f6.params.all (Tryz.pinned.checked.prog.readableRec ·)) = true := by kernel_rfl
theorem fact4 : (namedTie Tryz.pinned.checked.prog Rows.topResumesRow.named Rows.topResumesSpec.vars) = true := by kernel_rfl
theorem fact5 : (Rows.topResumesRow.stops == []) = true := by kernel_rfl
theorem fact6 : (Tryz.pinned.checked.prog.stops == []) = true := by kernel_rfl
theorem fact7 : (Rows.topResumesRow.knobs == []) = true := by kernel_rfl
theorem fact8 : (Tryz.pinned.checked.prog.stopKnobs == []) = true := by kernel_rfl
theorem fact9 : (Rows.topResumesRow.inPlace == Tryz.pinned.checked.prog.inPlace 6) = true := by kernel_rfl
theorem fact10 : (Rows.topResumesRow.unfollowed == Tryz.pinned.checked.prog.unfollowed 6) = true := by kernel_rfl
theorem fact11 : (Rows.topResumesRow.recurses == Tryz.pinned.checked.prog.recurses 6) = true := by kernel_rfl
theorem fact12 : (Rows.topResumesRow.named == Tryz.pinned.checked.prog.varsNamed 6) = true := by kernel_rfl
theorem fact13 : (Rows.topResumesRow.maps == (Tryz.f6.params.toList ++ Rows.topResumesSpec.plain.varTypes Tryz.pinned.checked.prog).any (Tryz.pinned.checked.prog.mapsRec ·)) = true := by kernel_rfl
theorem fact14 : (Rows.topResumesRow.ifaces == (Tryz.f6.params.toList ++ Rows.topResumesSpec.plain.varTypes Tryz.pinned.checked.prog).any (Tryz.pinned.checked.prog.ifacesRec ·)) = true := by kernel_rfl
theorem fact15 : (Rows.topResumesRow.mapsOut == Tryz.pinned.checked.prog.mapsAmong Tryz.f6.resultTypes.toList) = true := by kernel_rfl
theorem fact16 : (Rows.topResumesRow.loops == (Tryz.f6.params.toList ++ Rows.topResumesSpec.plain.varTypes Tryz.pinned.checked.prog).any (Tryz.pinned.checked.prog.loopsFrom ·)) = true := by kernel_rfl
theorem fact17 : (Rows.topResumesRow.wideKeys == (Tryz.f6.params.toList ++ Rows.topResumesSpec.plain.varTypes Tryz.pinned.checked.prog ++ Tryz.f6.resultTypes.toList).any (Tryz.pinned.checked.prog.wideKeysFrom ·)) = true := by kernel_rfl
theorem fact18 : (Rows.topResumesSpec.vars.all (Tryz.pinned.checked.prog.varReadable ·)) = true := by kernel_rfl
theorem fact19 : (Tryz.f6.resultTypes.all (fun t => Tryz.pinned.checked.prog.readableRec t && decide (t < Tryz.pinned.checked.prog.types.size))) = true := by kernel_rfl
theorem fact20 : (Rows.topResumesRow.ifacesOut == Tryz.f6.resultTypes.toList.any (Tryz.pinned.checked.prog.ifacesRec ·)) = true := by kernel_rfl
theorem fact21 : (Rows.topResumesRow.loopsOut == Tryz.f6.resultTypes.toList.any (Tryz.pinned.checked.prog.loopsFrom ·)) = true := by kernel_rfl
theorem fact22 : (Rows.topResumesRow.plainKeys == Tryz.pinned.checked.prog.plainKeys) = true := by kernel_rfl
theorem fact23 : (Rows.topResumesRow.shortTexts.isNone) = true := by kernel_rfl
theorem fact24 : (Tryz.pinned.checked.prog.stopsHeard) = true := by kernel_rfl
theorem fact25 : (Tryz.pinned.checked.prog.mayEnter) = true := by kernel_rfl
theorem fact26 : (Rows.topResumesRow.lifted == Tryz.pinned.checked.prog.liftsFinal) = true := by kernel_rfl
theorem fact27 : (Tryz.pinned.checked.prog.make == some Rows.topResumesRow.make) = true := by kernel_rfl
theorem fact28 : (Rows.topResumesRow.kinds == (if Rows.topResumesRow.domain.isEmpty then [] else Tryz.f6.params.toList.map fun t => match Tryz.pinned.checked.prog.underlying t with | some (.int k) => some k | _ => none)) = true := by kernel_rfl
theorem fact29 : (Rows.topResumesRow.pinned == Rows.topResumesRow.pinnedBy) = true := by kernel_rfl
theorem fact30 : (Rows.topResumesRow.veiled == (Tryz.f6.params.toList ++ Rows.topResumesSpec.plain.varTypes Tryz.pinned.checked.prog ++ Tryz.f6.resultTypes.toList).any (Tryz.pinned.checked.prog.veiledRec ·)) = true := by kernel_rfl
theorem fact31 : (Rows.topResumesRow.veiledFits Tryz.pinned.checked.prog Tryz.f6.params.toList (Tryz.f6.params.toList ++ Rows.topResumesSpec.plain.varTypes Tryz.pinned.checked.prog ++ Tryz.f6.resultTypes.toList)) = true := by kernel_rfl
set_option maxRecDepth 100000 in
theorem joined : joinedFacts Tryz.pinned.checked.prog 6 Tryz.f6 Rows.topResumesSpec Rows.topResumesRow = true := by
  unfold joinedFacts
  exact (both (both (both (both (both (both (both (both (both (both (both (both (both (both (both (both (both (both (both (both (both (both (both (both (both (both (both (both (both (both (both fact0 fact1) fact2) fact3) fact4) fact5) fact6) fact7) fact8) fact9) fact10) fact11) fact12) fact13) fact14) fact15) fact16) fact17) fact18) fact19) fact20) fact21) fact22) fact23) fact24) fact25) fact26) fact27) fact28) fact29) fact30) fact31)

theorem over : Rows.topResumesRow.holds Tryz.pinned (OpenSpec.ofChange Rows.topResumesSpec) :=
  OpenClaim.holds_of_wide 6 Tryz.f6 rfl rfl rfl rfl rfl rfl rfl ⟨rfl, rfl, rfl, rfl, rfl⟩ rfl rfl rfl rfl rfl (by kernel_rfl) Tryz.func6 joined
    (of_decide_eq_true (by kernel_rfl)) (by unfold Func.isWrapper; first | (rw [if_pos (by decide +kernel)]; kernel_rfl) | (rw [if_neg (by decide +kernel)]; exact ⟨rfl, rfl⟩))
    (fun os started H enc _ => lifted os started H enc)

theorem proved : Rows.TopResumesSaid := over
end Go.Proofs.YtehbbcdhahnkgaaGreat.lawTopResumes
