/- The law LookupSees: the program's text returns true for every input. -/
import Derived.Test.YtgbkkfpheahdfaaRows
import Derived.Test.YtgbkkfpheahdfaaGmWalk
import Derived.Test.YtgbkkfpheahdfaaFrame
import Derived.Test.YtgbkkfpheahdfaaFnsLookupSeesA
import Derived.Test.YtgbkkfpheahdfaaLsQSeesL
import Derived.WalkKit
import Derived.ProofKit
import Derived.OpenShut
import Derived.ShutString
import Derived.ChangeOld
import Derived.Below
namespace Go.Proofs.Ytgbkkfpheahdfaa.lawLookupSees
open Go.ChangeShapes Go.WideShapes Go.ChangeAt Go.RowKit
open Go.ChangeMaps (open_string shut_string)
set_option linter.unusedVariables false

theorem own : ownKnob Try.prog.godebug = none := by kernel_rfl
theorem laidOut : laidOutB Try.prog = true := by kernel_rfl
set_option maxRecDepth 100000 in
theorem lifted (os : Os) (started : os.Started) (H : Type) (enc : TypeId × Value → H) :
    ReturnsInHanded {} Try.checked os 13 .any (Rows.lookupSeesSpec.pre6 enc Try.prog Try.f13 Rows.lookupSeesRow.domain false) (Rows.lookupSeesSpec.post enc Try.prog Try.f13 false true false false) := by
  refine returnsInHanded_of_change (C := Try.checked) own started (by kernel_rfl) Try.func13
    (ChangeSpec.witness6 (enc := enc) (C := Try.checked) false ⟨#[], #[.slice none 0 0, .slice none 0 0], []⟩ 8 (by kernel_rfl) (by kernel_rfl) (by kernel_rfl) (by kernel_rfl)) ?_
  intro W base args ds gs before hval0 hW hcnd hsz
  have hval : ∀ (j : Nat) t v, Try.f13.params[j]? = some t → args[j]? = some v → Value.okWide Try.prog W .any base t v := hval0
  have hW' := hW
  obtain ⟨p, q, hA0, hV, rfl, hfz, hnd⟩ := hW
  have hA : DataW.TrodAll enc Try.prog W 0 (fun _ => true) true Try.f13.params.toList args.toList ds p := hA0
  rw [Try.params13] at hA hval
  obtain ⟨v0, vs0, d0, ds0, p0, q0, hargs, rfl, rfl, h0, r0⟩ := trodAll_cons hA
  obtain ⟨v1, vs1, d1, ds1, p1, q1, rfl, rfl, rfl, h1, r1⟩ := trodAll_cons r0
  obtain ⟨rfl, rfl, rfl⟩ := trodAll_nil r1
  obtain rfl : args = #[v0, v1] := by cases args; simp_all
  obtain ⟨rfl, rfl⟩ := trodVars_none hV
  obtain ⟨a0, len0, cap0, rfl⟩ := okWide_slice Try.underlying22 (hval 0 22 v0 rfl rfl)
  have k0 := h0
  have lt0 : ∀ x ∈ p0, x.block < W.heap.size := by obtain ⟨m, hm⟩ := k0; exact DataW.trod_lt m _ _ _ hm
  obtain ⟨l0, rd0, nc0, mx0⟩ := rd_of_bytes h0
  obtain ⟨a1, len1, cap1, rfl⟩ := okWide_slice Try.underlying22 (hval 1 22 v1 rfl rfl)
  have k1 := h1
  have lt1 : ∀ x ∈ p1, x.block < W.heap.size := by obtain ⟨m, hm⟩ := k1; exact DataW.trod_lt m _ _ _ hm
  obtain ⟨l1, rd1, nc1, mx1⟩ := rd_of_bytes h1
  clear hA0 hval0
  have walk : Calls Try.prog 13 #[.slice a0 len0 cap0, .slice a1 len1 cap1] W fun e w' => e = .returned (.bool true) ∧ Ext W w' :=
    (law_walk (ks := [.val (.sl .u8), .val (.sl .u8)]) (globs := G_globs) (F := fun y => law22_LookupSees 18446744073709551616 y.1.1 y.1.2.1) (law22_LookupSees_ok 18446744073709551616) (w := W) (args := [.slice a0 len0 cap0, .slice a1 len1 cap1]) (x := (l0, l1, ())) rfl ⟨vr (sr_bytes rd0 nc0 mx0), vr (sr_bytes rd1 nc1 mx1), trivial⟩ (by simp [stKs, GV.ids, SV.ids]) (by intro g d h; simp [G_globs, look] at h) (Pl.sees l0 (len_of rd0 nc0 mx0) l1 (len_of rd1 nc1 mx1))).mono fun e w' ⟨h1, h2⟩ => ⟨h1, ext_of h2⟩
  refine walk.mono fun e W' ⟨he, bel⟩ => ?_
  subst he
  have bel : Below W.heap.size W W' := bel
  exact ⟨_, rfl, _, _, _, [], _, [], hW', trodAll_mk1 (shut_bool Try.underlying4 _), (trodAll_cons_mk (Below.trod laidOut (by kernel_rfl) (of_decide_eq_true (by kernel_rfl)) k0 bel lt0) (trodAll_cons_mk (Below.trod laidOut (by kernel_rfl) (of_decide_eq_true (by kernel_rfl)) k1 bel lt1) trodAll_mk0)), rfl, bel.frame _, fun h => by cases h⟩

theorem both {a b : Bool} (h : a = true) (h' : b = true) : (a && b) = true := by rw [h, h']; rfl
theorem fact0 : (Rows.lookupSeesRow.wf (OpenSpec.ofChange Rows.lookupSeesSpec)) = true := by kernel_rfl
theorem fact1 : (laidOutB Try.pinned.checked.prog) = true := by kernel_rfl
theorem fact2 : (mapsRowed Try.pinned.checked.prog) = true := by kernel_rfl
theorem fact3 : (Try.f13.params.all (Try.pinned.checked.prog.readableRec ·)) = true := by kernel_rfl
theorem fact4 : (namedTie Try.pinned.checked.prog Rows.lookupSeesRow.named Rows.lookupSeesSpec.vars) = true := by kernel_rfl
theorem fact5 : (Rows.lookupSeesRow.stops == []) = true := by kernel_rfl
theorem fact6 : (Try.pinned.checked.prog.stops == []) = true := by kernel_rfl
theorem fact7 : (Rows.lookupSeesRow.knobs == []) = true := by kernel_rfl
theorem fact8 : (Try.pinned.checked.prog.stopKnobs == []) = true := by kernel_rfl
theorem fact9 : (Rows.lookupSeesRow.inPlace == Try.pinned.checked.prog.inPlace 13) = true := by kernel_rfl
theorem fact10 : (Rows.lookupSeesRow.unfollowed == Try.pinned.checked.prog.unfollowed 13) = true := by kernel_rfl
theorem fact11 : (Rows.lookupSeesRow.recurses == Try.pinned.checked.prog.recurses 13) = true := by kernel_rfl
theorem fact12 : (Rows.lookupSeesRow.named == Try.pinned.checked.prog.varsNamed 13) = true := by kernel_rfl
theorem fact13 : (Rows.lookupSeesRow.maps == (Try.f13.params.toList ++ Rows.lookupSeesSpec.plain.varTypes Try.pinned.checked.prog).any (Try.pinned.checked.prog.mapsRec ·)) = true := by kernel_rfl
theorem fact14 : (Rows.lookupSeesRow.ifaces == (Try.f13.params.toList ++ Rows.lookupSeesSpec.plain.varTypes Try.pinned.checked.prog).any (Try.pinned.checked.prog.ifacesRec ·)) = true := by kernel_rfl
theorem fact15 : (Rows.lookupSeesRow.mapsOut == Try.pinned.checked.prog.mapsAmong Try.f13.resultTypes.toList) = true := by kernel_rfl
theorem fact16 : (Rows.lookupSeesRow.loops == (Try.f13.params.toList ++ Rows.lookupSeesSpec.plain.varTypes Try.pinned.checked.prog).any (Try.pinned.checked.prog.loopsFrom ·)) = true := by kernel_rfl
theorem fact17 : (Rows.lookupSeesRow.wideKeys == (Try.f13.params.toList ++ Rows.lookupSeesSpec.plain.varTypes Try.pinned.checked.prog ++ Try.f13.resultTypes.toList).any (Try.pinned.checked.prog.wideKeysFrom ·)) = true := by kernel_rfl
theorem fact18 : (Rows.lookupSeesSpec.vars.all (Try.pinned.checked.prog.varReadable ·)) = true := by kernel_rfl
theorem fact19 : (Try.f13.resultTypes.all (fun t => Try.pinned.checked.prog.readableRec t && decide (t < Try.pinned.checked.prog.types.size))) = true := by kernel_rfl
theorem fact20 : (Rows.lookupSeesRow.ifacesOut == Try.f13.resultTypes.toList.any (Try.pinned.checked.prog.ifacesRec ·)) = true := by kernel_rfl
theorem fact21 : (Rows.lookupSeesRow.loopsOut == Try.f13.resultTypes.toList.any (Try.pinned.checked.prog.loopsFrom ·)) = true := by kernel_rfl
theorem fact22 : (Rows.lookupSeesRow.plainKeys == Try.pinned.checked.prog.plainKeys) = true := by kernel_rfl
theorem fact23 : (Rows.lookupSeesRow.shortTexts.isNone) = true := by kernel_rfl
theorem fact24 : (Try.pinned.checked.prog.stopsHeard) = true := by kernel_rfl
theorem fact25 : (Try.pinned.checked.prog.mayEnter) = true := by kernel_rfl
theorem fact26 : (Rows.lookupSeesRow.lifted == Try.pinned.checked.prog.liftsFinal) = true := by kernel_rfl
theorem fact27 : (Try.pinned.checked.prog.make == some Rows.lookupSeesRow.make) = true := by kernel_rfl
theorem fact28 : (Rows.lookupSeesRow.kinds == (if Rows.lookupSeesRow.domain.isEmpty then [] else Try.f13.params.toList.map fun t => match Try.pinned.checked.prog.underlying t with | some (.int k) => some k | _ => none)) = true := by kernel_rfl
theorem fact29 : (Rows.lookupSeesRow.pinned == Rows.lookupSeesRow.pinnedBy) = true := by kernel_rfl
theorem fact30 : (Rows.lookupSeesRow.veiled == (Try.f13.params.toList ++ Rows.lookupSeesSpec.plain.varTypes Try.pinned.checked.prog ++ Try.f13.resultTypes.toList).any (Try.pinned.checked.prog.veiledRec ·)) = true := by kernel_rfl
theorem fact31 : (Rows.lookupSeesRow.veiledFits Try.pinned.checked.prog Try.f13.params.toList (Try.f13.params.toList ++ Rows.lookupSeesSpec.plain.varTypes Try.pinned.checked.prog ++ Try.f13.resultTypes.toList)) = true := by kernel_rfl
set_option maxRecDepth 100000 in
theorem joined : joinedFacts Try.pinned.checked.prog 13 Try.f13 Rows.lookupSeesSpec Rows.lookupSeesRow = true := by
  unfold joinedFacts
  exact (both (both (both (both (both (both (both (both (both (both (both (both (both (both (both (both (both (both (both (both (both (both (both (both (both (both (both (both (both (both (both fact0 fact1) fact2) fact3) fact4) fact5) fact6) fact7) fact8) fact9) fact10) fact11) fact12) fact13) fact14) fact15) fact16) fact17) fact18) fact19) fact20) fact21) fact22) fact23) fact24) fact25) fact26) fact27) fact28) fact29) fact30) fact31)

theorem over : Rows.lookupSeesRow.holds Try.pinned (OpenSpec.ofChange Rows.lookupSeesSpec) :=
  OpenClaim.holds_of_wide 13 Try.f13 rfl rfl rfl rfl rfl rfl rfl ⟨rfl, rfl, rfl, rfl, rfl⟩ rfl rfl rfl rfl rfl (by kernel_rfl) Try.func13 joined
    (of_decide_eq_true (by kernel_rfl)) (by unfold Func.isWrapper; first | (rw [if_pos (by decide +kernel)]; kernel_rfl) | (rw [if_neg (by decide +kernel)]; exact ⟨rfl, rfl⟩))
    (fun os started H enc _ => lifted os started H enc)

theorem proved : Rows.LookupSeesSaid := over
end Go.Proofs.Ytgbkkfpheahdfaa.lawLookupSees
