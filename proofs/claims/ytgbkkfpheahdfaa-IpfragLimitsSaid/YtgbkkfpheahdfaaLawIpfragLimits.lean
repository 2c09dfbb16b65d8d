/- The law IpfragLimits: the program's text returns true for every input. -/
import Derived.Test.YtgbkkfpheahdfaaRows
import Derived.Test.YtgbkkfpheahdfaaGmWalk
import Derived.Test.YtgbkkfpheahdfaaFrame
import Derived.Test.YtgbkkfpheahdfaaFntIpfragLimitsA
import Derived.Test.YtgbkkfpheahdfaaPlIpfragLimitsA
import Derived.WalkKit
import Derived.ProofKit
import Derived.OpenShut
import Derived.ShutString
import Derived.ChangeOld
import Derived.Below
namespace Go.Proofs.Ytgbkkfpheahdfaa.lawIpfragLimits
open Go.ChangeShapes Go.WideShapes Go.ChangeAt Go.RowKit
open Go.ChangeMaps (open_string shut_string)
set_option linter.unusedVariables false

theorem own : ownKnob Try.prog.godebug = none := by kernel_rfl
theorem laidOut : laidOutB Try.prog = true := by kernel_rfl
set_option maxRecDepth 100000 in
theorem lifted (os : Os) (started : os.Started) (H : Type) (enc : TypeId × Value → H) :
    ReturnsInHanded {} Try.checked os 14 .any (Rows.ipfragLimitsSpec.pre6 enc Try.prog Try.f14 Rows.ipfragLimitsRow.domain false) (Rows.ipfragLimitsSpec.post enc Try.prog Try.f14 false true false false) := by
  refine returnsInHanded_of_change (C := Try.checked) own started (by kernel_rfl) Try.func14
    (ChangeSpec.witness6 (enc := enc) (C := Try.checked) false ⟨#[], #[.slice none 0 0], []⟩ 8 (by kernel_rfl) (by kernel_rfl) (by kernel_rfl) (by kernel_rfl)) ?_
  intro W base args ds gs before hval0 hW hcnd hsz
  have hval : ∀ (j : Nat) t v, Try.f14.params[j]? = some t → args[j]? = some v → Value.okWide Try.prog W .any base t v := hval0
  have hW' := hW
  obtain ⟨p, q, hA0, hV, rfl, hfz, hnd⟩ := hW
  have hA : DataW.TrodAll enc Try.prog W 0 (fun _ => true) true Try.f14.params.toList args.toList ds p := hA0
  rw [Try.params14] at hA hval
  obtain ⟨v0, vs0, d0, ds0, p0, q0, hargs, rfl, rfl, h0, r0⟩ := trodAll_cons hA
  obtain ⟨rfl, rfl, rfl⟩ := trodAll_nil r0
  obtain rfl : args = #[v0] := by cases args; simp_all
  obtain ⟨rfl, rfl⟩ := trodVars_none hV
  obtain ⟨a0, len0, cap0, rfl⟩ := okWide_slice Try.underlying22 (hval 0 22 v0 rfl rfl)
  have k0 := h0
  have lt0 : ∀ x ∈ p0, x.block < W.heap.size := by obtain ⟨m, hm⟩ := k0; exact DataW.trod_lt m _ _ _ hm
  obtain ⟨l0, rd0, nc0, mx0⟩ := rd_of_bytes h0
  clear hA0 hval0
  have walk : Calls Try.prog 14 #[.slice a0 len0 cap0] W fun e w' => e = .returned (.bool true) ∧ Ext W w' :=
    (law_walk (ks := [.val (.sl .u8)]) (globs := G_globs) (F := fun y => law25_IpfragLimits 18446744073709551616 y.1.1) (law25_IpfragLimits_ok 18446744073709551616) (w := W) (args := [.slice a0 len0 cap0]) (x := (l0, ())) rfl ⟨vr (sr_bytes rd0 nc0 mx0), trivial⟩ (by simp [stKs, GV.ids, SV.ids]) (by intro g d h; simp [G_globs, look] at h) (Pl.limits l0 (len_of rd0 nc0 mx0))).mono fun e w' ⟨h1, h2⟩ => ⟨h1, ext_of h2⟩
  refine walk.mono fun e W' ⟨he, bel⟩ => ?_
  subst he
  have bel : Below W.heap.size W W' := bel
  exact ⟨_, rfl, _, _, _, [], _, [], hW', trodAll_mk1 (shut_bool Try.underlying4 _), (trodAll_cons_mk (Below.trod laidOut (by kernel_rfl) (of_decide_eq_true (by kernel_rfl)) k0 bel lt0) trodAll_mk0), rfl, bel.frame _, fun h => by cases h⟩

theorem both {a b : Bool} (h : a = true) (h' : b = true) : (a && b) = true := by rw [h, h']; rfl
theorem fact0 : (Rows.ipfragLimitsRow.wf (OpenSpec.ofChange Rows.ipfragLimitsSpec)) = true := by kernel_rfl
theorem fact1 : (laidOutB Try.pinned.checked.prog) = true := by kernel_rfl
theorem fact2 : (mapsRowed Try.pinned.checked.prog) = true := by kernel_rfl
theorem fact3 : (Try.f14.params.all (Try.pinned.checked.prog.readableRec ·)) = true := by kernel_rfl
theorem fact4 : (namedTie Try.pinned.checked.prog Rows.ipfragLimitsRow.named Rows.ipfragLimitsSpec.vars) = true := by kernel_rfl
theorem fact5 : (Rows.ipfragLimitsRow.stops == []) = true := by kernel_rfl
theorem fact6 : (Try.pinned.checked.prog.stops == []) = true := by kernel_rfl
theorem fact7 : (Rows.ipfragLimitsRow.knobs == []) = true := by kernel_rfl
theorem fact8 : (Try.pinned.checked.prog.stopKnobs == []) = true := by kernel_rfl
theorem fact9 : (Rows.ipfragLimitsRow.inPlace == Try.pinned.checked.prog.inPlace 14) = true := by kernel_rfl
theorem fact10 : (Rows.ipfragLimitsRow.unfollowed == Try.pinned.checked.prog.unfollowed 14) = true := by kernel_rfl
theorem fact11 : (Rows.ipfragLimitsRow.recurses == Try.pinned.checked.prog.recurses 14) = true := by kernel_rfl
theorem fact12 : (Rows.ipfragLimitsRow.named == Try.pinned.checked.prog.varsNamed 14) = true := by kernel_rfl
theorem fact13 : (Rows.ipfragLimitsRow.maps == (Try.f14.params.toList ++ Rows.ipfragLimitsSpec.plain.varTypes Try.pinned.checked.prog).any (Try.pinned.checked.prog.mapsRec ·)) = true := by kernel_rfl
theorem fact14 : (Rows.ipfragLimitsRow.ifaces == (Try.f14.params.toList ++ Rows.ipfragLimitsSpec.plain.varTypes Try.pinned.checked.prog).any (Try.pinned.checked.prog.ifacesRec ·)) = true := by kernel_rfl
theorem fact15 : (Rows.ipfragLimitsRow.mapsOut == Try.pinned.checked.prog.mapsAmong Try.f14.resultTypes.toList) = true := by kernel_rfl
theorem fact16 : (Rows.ipfragLimitsRow.loops == (Try.f14.params.toList ++ Rows.ipfragLimitsSpec.plain.varTypes Try.pinned.checked.prog).any (Try.pinned.checked.prog.loopsFrom ·)) = true := by kernel_rfl
theorem fact17 : (Rows.ipfragLimitsRow.wideKeys == (Try.f14.params.toList ++ Rows.ipfragLimitsSpec.plain.varTypes Try.pinned.checked.prog ++ Try.f14.resultTypes.toList).any (Try.pinned.checked.prog.wideKeysFrom ·)) = true := by kernel_rfl
theorem fact18 : (Rows.ipfragLimitsSpec.vars.all (Try.pinned.checked.prog.varReadable ·)) = true := by kernel_rfl
theorem fact19 : (Try.f14.resultTypes.all (fun t => Try.pinned.checked.prog.readableRec t && decide (t < Try.pinned.checked.prog.types.size))) = true := by kernel_rfl
theorem fact20 : (Rows.ipfragLimitsRow.ifacesOut == Try.f14.resultTypes.toList.any (Try.pinned.checked.prog.ifacesRec ·)) = true := by kernel_rfl
theorem fact21 : (Rows.ipfragLimitsRow.loopsOut == Try.f14.resultTypes.toList.any (Try.pinned.checked.prog.loopsFrom ·)) = true := by kernel_rfl
theorem fact22 : (Rows.ipfragLimitsRow.plainKeys == Try.pinned.checked.prog.plainKeys) = true := by kernel_rfl
theorem fact23 : (Rows.ipfragLimitsRow.shortTexts.isNone) = true := by kernel_rfl
theorem fact24 : (Try.pinned.checked.prog.stopsHeard) = true := by kernel_rfl
theorem fact25 : (Try.pinned.checked.prog.mayEnter) = true := by kernel_rfl
theorem fact26 : (Rows.ipfragLimitsRow.lifted == Try.pinned.checked.prog.liftsFinal) = true := by kernel_rfl
theorem fact27 : (Try.pinned.checked.prog.make == some Rows.ipfragLimitsRow.make) = true := by kernel_rfl
theorem fact28 : (Rows.ipfragLimitsRow.kinds == (if Rows.ipfragLimitsRow.domain.isEmpty then [] else Try.f14.params.toList.map fun t => match Try.pinned.checked.prog.underlying t with | some (.int k) => some k | _ => none)) = true := by kernel_rfl
theorem fact29 : (Rows.ipfragLimitsRow.pinned == Rows.ipfragLimitsRow.pinnedBy) = true := by kernel_rfl
theorem fact30 : (Rows.ipfragLimitsRow.veiled == (Try.f14.params.toList ++ Rows.ipfragLimitsSpec.plain.varTypes Try.pinned.checked.prog ++ Try.f14.resultTypes.toList).any (Try.pinned.checked.prog.veiledRec ·)) = true := by kernel_rfl
theorem fact31 : (Rows.ipfragLimitsRow.veiledFits Try.pinned.checked.prog Try.f14.params.toList (Try.f14.params.toList ++ Rows.ipfragLimitsSpec.plain.varTypes Try.pinned.checked.prog ++ Try.f14.resultTypes.toList)) = true := by kernel_rfl
set_option maxRecDepth 100000 in
theorem joined : joinedFacts Try.pinned.checked.prog 14 Try.f14 Rows.ipfragLimitsSpec Rows.ipfragLimitsRow = true := by
  unfold joinedFacts
  exact (both (both (both (both (both (both (both (both (both (both (both (both (both (both (both (both (both (both (both (both (both (both (both (both (both (both (both (both (both (both (both fact0 fact1) fact2) fact3) fact4) fact5) fact6) fact7) fact8) fact9) fact10) fact11) fact12) fact13) fact14) fact15) fact16) fact17) fact18) fact19) fact20) fact21) fact22) fact23) fact24) fact25) fact26) fact27) fact28) fact29) fact30) fact31)

theorem over : Rows.ipfragLimitsRow.holds Try.pinned (OpenSpec.ofChange Rows.ipfragLimitsSpec) :=
  OpenClaim.holds_of_wide 14 Try.f14 rfl rfl rfl rfl rfl rfl rfl ⟨rfl, rfl, rfl, rfl, rfl⟩ rfl rfl rfl rfl rfl (by kernel_rfl) Try.func14 joined
    (of_decide_eq_true (by kernel_rfl)) (by unfold Func.isWrapper; first | (rw [if_pos (by decide +kernel)]; kernel_rfl) | (rw [if_neg (by decide +kernel)]; exact ⟨rfl, rfl⟩))
    (fun os started H enc _ => lifted os started H enc)

theorem proved : Rows.IpfragLimitsSaid := over
end Go.Proofs.Ytgbkkfpheahdfaa.lawIpfragLimits
