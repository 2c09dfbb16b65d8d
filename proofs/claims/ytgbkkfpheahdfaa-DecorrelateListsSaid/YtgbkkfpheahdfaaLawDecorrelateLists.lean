/- The law DecorrelateLists: the program's text returns true for every input. -/
import Derived.Test.YtgbkkfpheahdfaaRows
import Derived.Test.YtgbkkfpheahdfaaGmWalk
import Derived.Test.YtgbkkfpheahdfaaFrame
import Derived.Test.YtgbkkfpheahdfaaFnsDecorrelateListsC
import Derived.Test.YtgbkkfpheahdfaaPlDecorrelateListsA
import Derived.WalkKit
import Derived.ProofKit
import Derived.OpenShut
import Derived.ShutString
import Derived.ChangeOld
import Derived.Below
namespace Go.Proofs.Ytgbkkfpheahdfaa.lawDecorrelateLists
open Go.ChangeShapes Go.WideShapes Go.ChangeAt Go.RowKit
open Go.ChangeMaps (open_string shut_string)
set_option linter.unusedVariables false

theorem own : ownKnob Try.prog.godebug = none := by kernel_rfl
theorem laidOut : laidOutB Try.prog = true := by kernel_rfl
set_option maxRecDepth 100000 in
theorem lifted (os : Os) (started : os.Started) (H : Type) (enc : TypeId × Value → H) :
    ReturnsInHanded {} Try.checked os 16 .any (Rows.decorrelateListsSpec.pre6 enc Try.prog Try.f16 Rows.decorrelateListsRow.domain false) (Rows.decorrelateListsSpec.post enc Try.prog Try.f16 false true false false) := by
  refine returnsInHanded_of_change (C := Try.checked) own started (by kernel_rfl) Try.func16
    (ChangeSpec.witness6 (enc := enc) (C := Try.checked) false ⟨#[], #[.slice none 0 0, .int .u8 0], []⟩ 8 (by kernel_rfl) (by kernel_rfl) (by kernel_rfl) (by kernel_rfl)) ?_
  intro W base args ds gs before hval0 hW hcnd hsz
  have hval : ∀ (j : Nat) t v, Try.f16.params[j]? = some t → args[j]? = some v → Value.okWide Try.prog W .any base t v := hval0
  have hW' := hW
  obtain ⟨p, q, hA0, hV, rfl, hfz, hnd⟩ := hW
  have hA : DataW.TrodAll enc Try.prog W 0 (fun _ => true) true Try.f16.params.toList args.toList ds p := hA0
  rw [Try.params16] at hA hval
  obtain ⟨v0, vs0, d0, ds0, p0, q0, hargs, rfl, rfl, h0, r0⟩ := trodAll_cons hA
  obtain ⟨v1, vs1, d1, ds1, p1, q1, rfl, rfl, rfl, h1, r1⟩ := trodAll_cons r0
  obtain ⟨rfl, rfl, rfl⟩ := trodAll_nil r1
  obtain rfl : args = #[v0, v1] := by cases args; simp_all
  obtain ⟨rfl, rfl⟩ := trodVars_none hV
  obtain ⟨a0, len0, cap0, rfl⟩ := okWide_slice Try.underlying22 (hval 0 22 v0 rfl rfl)
  have k0 := h0
  have lt0 : ∀ x ∈ p0, x.block < W.heap.size := by obtain ⟨m, hm⟩ := k0; exact DataW.trod_lt m _ _ _ hm
  obtain ⟨l0, rd0, nc0, mx0⟩ := rd_of_bytes h0
  obtain ⟨a1, rfl, rfl, rfl, w1⟩ := open_int Try.underlying5 (hval 1 5 v1 rfl rfl) h1
  clear hA0 hval0
  have walk : Calls Try.prog 16 #[.slice a0 len0 cap0, .int .u8 a1] W fun e w' => e = .returned (.bool true) ∧ Ext W w' :=
    (law_walk (ks := [.val (.sl .u8), .val .u8]) (globs := G_globs) (F := fun y => law20_DecorrelateLists 18446744073709551616 y.1.1 y.1.2.1) (law20_DecorrelateLists_ok 18446744073709551616) (w := W) (args := [.slice a0 len0 cap0, .int .u8 a1]) (x := (l0, (UInt8.ofNat a1.toNat), ())) rfl ⟨vr (sr_bytes rd0 nc0 mx0), vr (sr_arg_u8 (bounds_u8 w1).1 (bounds_u8 w1).2), trivial⟩ (by simp [stKs, GV.ids, SV.ids]) (by intro g d h; simp [G_globs, look] at h) (Pl.lists l0 (len_of rd0 nc0 mx0) (UInt8.ofNat a1.toNat))).mono fun e w' ⟨h1, h2⟩ => ⟨h1, ext_of h2⟩
  refine walk.mono fun e W' ⟨he, bel⟩ => ?_
  subst he
  have bel : Below W.heap.size W W' := bel
  exact ⟨_, rfl, _, _, _, [], _, [], hW', trodAll_mk1 (shut_bool Try.underlying4 _), (trodAll_cons_mk (Below.trod laidOut (by kernel_rfl) (of_decide_eq_true (by kernel_rfl)) k0 bel lt0) (trodAll_cons_mk (shut_int Try.underlying5 w1) trodAll_mk0)), rfl, bel.frame _, fun h => by cases h⟩

theorem both {a b : Bool} (h : a = true) (h' : b = true) : (a && b) = true := by rw [h, h']; rfl
theorem fact0 : (Rows.decorrelateListsRow.wf (OpenSpec.ofChange Rows.decorrelateListsSpec)) = true := by kernel_rfl
theorem fact1 : (laidOutB Try.pinned.checked.prog) = true := by kernel_rfl
theorem fact2 : (mapsRowed Try.pinned.checked.prog) = true := by kernel_rfl
theorem fact3 : (Try.f16.params.all (Try.pinned.checked.prog.readableRec ·)) = true := by kernel_rfl
theorem fact4 : (namedTie Try.pinned.checked.prog Rows.decorrelateListsRow.named Rows.decorrelateListsSpec.vars) = true := by kernel_rfl
theorem fact5 : (Rows.decorrelateListsRow.stops == []) = true := by kernel_rfl
theorem fact6 : (Try.pinned.checked.prog.stops == []) = true := by kernel_rfl
theorem fact7 : (Rows.decorrelateListsRow.knobs == []) = true := by kernel_rfl
theorem fact8 : (Try.pinned.checked.prog.stopKnobs == []) = true := by kernel_rfl
theorem fact9 : (Rows.decorrelateListsRow.inPlace == Try.pinned.checked.prog.inPlace 16) = true := by kernel_rfl
theorem fact10 : (Rows.decorrelateListsRow.unfollowed == Try.pinned.checked.prog.unfollowed 16) = true := by kernel_rfl
theorem fact11 : (Rows.decorrelateListsRow.recurses == Try.pinned.checked.prog.recurses 16) = true := by kernel_rfl
theorem fact12 : (Rows.decorrelateListsRow.named == Try.pinned.checked.prog.varsNamed 16) = true := by kernel_rfl
theorem fact13 : (Rows.decorrelateListsRow.maps == (Try.f16.params.toList ++ Rows.decorrelateListsSpec.plain.varTypes Try.pinned.checked.prog).any (Try.pinned.checked.prog.mapsRec ·)) = true := by kernel_rfl
theorem fact14 : (Rows.decorrelateListsRow.ifaces == (Try.f16.params.toList ++ Rows.decorrelateListsSpec.plain.varTypes Try.pinned.checked.prog).any (Try.pinned.checked.prog.ifacesRec ·)) = true := by kernel_rfl
theorem fact15 : (Rows.decorrelateListsRow.mapsOut == Try.pinned.checked.prog.mapsAmong Try.f16.resultTypes.toList) = true := by kernel_rfl
theorem fact16 : (Rows.decorrelateListsRow.loops == (Try.f16.params.toList ++ Rows.decorrelateListsSpec.plain.varTypes Try.pinned.checked.prog).any (Try.pinned.checked.prog.loopsFrom ·)) = true := by kernel_rfl
theorem fact17 : (Rows.decorrelateListsRow.wideKeys == (Try.f16.params.toList ++ Rows.decorrelateListsSpec.plain.varTypes Try.pinned.checked.prog ++ Try.f16.resultTypes.toList).any (Try.pinned.checked.prog.wideKeysFrom ·)) = true := by kernel_rfl
theorem fact18 : (Rows.decorrelateListsSpec.vars.all (Try.pinned.checked.prog.varReadable ·)) = true := by kernel_rfl
theorem fact19 : (Try.f16.resultTypes.all (fun t => Try.pinned.checked.prog.readableRec t && decide (t < Try.pinned.checked.prog.types.size))) = true := by kernel_rfl
theorem fact20 : (Rows.decorrelateListsRow.ifacesOut == Try.f16.resultTypes.toList.any (Try.pinned.checked.prog.ifacesRec ·)) = true := by kernel_rfl
theorem fact21 : (Rows.decorrelateListsRow.loopsOut == Try.f16.resultTypes.toList.any (Try.pinned.checked.prog.loopsFrom ·)) = true := by kernel_rfl
theorem fact22 : (Rows.decorrelateListsRow.plainKeys == Try.pinned.checked.prog.plainKeys) = true := by kernel_rfl
theorem fact23 : (Rows.decorrelateListsRow.shortTexts.isNone) = true := by kernel_rfl
theorem fact24 : (Try.pinned.checked.prog.stopsHeard) = true := by kernel_rfl
theorem fact25 : (Try.pinned.checked.prog.mayEnter) = true := by kernel_rfl
theorem fact26 : (Rows.decorrelateListsRow.lifted == Try.pinned.checked.prog.liftsFinal) = true := by kernel_rfl
theorem fact27 : (Try.pinned.checked.prog.make == some Rows.decorrelateListsRow.make) = true := by kernel_rfl
theorem fact28 : (Rows.decorrelateListsRow.kinds == (if Rows.decorrelateListsRow.domain.isEmpty then [] else Try.f16.params.toList.map fun t => match Try.pinned.checked.prog.underlying t with | some (.int k) => some k | _ => none)) = true := by kernel_rfl
theorem fact29 : (Rows.decorrelateListsRow.pinned == Rows.decorrelateListsRow.pinnedBy) = true := by kernel_rfl
theorem fact30 : (Rows.decorrelateListsRow.veiled == (Try.f16.params.toList ++ Rows.decorrelateListsSpec.plain.varTypes Try.pinned.checked.prog ++ Try.f16.resultTypes.toList).any (Try.pinned.checked.prog.veiledRec ·)) = true := by kernel_rfl
theorem fact31 : (Rows.decorrelateListsRow.veiledFits Try.pinned.checked.prog Try.f16.params.toList (Try.f16.params.toList ++ Rows.decorrelateListsSpec.plain.varTypes Try.pinned.checked.prog ++ Try.f16.resultTypes.toList)) = true := by kernel_rfl
set_option maxRecDepth 100000 in
theorem joined : joinedFacts Try.pinned.checked.prog 16 Try.f16 Rows.decorrelateListsSpec Rows.decorrelateListsRow = true := by
  unfold joinedFacts
  exact (both (both (both (both (both (both (both (both (both (both (both (both (both (both (both (both (both (both (both (both (both (both (both (both (both (both (both (both (both (both (both fact0 fact1) fact2) fact3) fact4) fact5) fact6) fact7) fact8) fact9) fact10) fact11) fact12) fact13) fact14) fact15) fact16) fact17) fact18) fact19) fact20) fact21) fact22) fact23) fact24) fact25) fact26) fact27) fact28) fact29) fact30) fact31)

theorem over : Rows.decorrelateListsRow.holds Try.pinned (OpenSpec.ofChange Rows.decorrelateListsSpec) :=
  OpenClaim.holds_of_wide 16 Try.f16 rfl rfl rfl rfl rfl rfl rfl ⟨rfl, rfl, rfl, rfl, rfl⟩ rfl rfl rfl rfl rfl (by kernel_rfl) Try.func16 joined
    (of_decide_eq_true (by kernel_rfl)) (by unfold Func.isWrapper; first | (rw [if_pos (by decide +kernel)]; kernel_rfl) | (rw [if_neg (by decide +kernel)]; exact ⟨rfl, rfl⟩))
    (fun os started H enc _ => lifted os started H enc)

theorem proved : Rows.DecorrelateListsSaid := over
end Go.Proofs.Ytgbkkfpheahdfaa.lawDecorrelateLists
