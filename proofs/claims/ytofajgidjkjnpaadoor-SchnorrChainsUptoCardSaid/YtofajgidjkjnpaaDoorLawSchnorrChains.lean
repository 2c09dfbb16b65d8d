/- The law SchnorrChains: the program's text returns true for every input. -/
import Derived.Test.YtofajgidjkjnpaaDoorRows
import Derived.Test.YtofajgidjkjnpaaDoorGmWalk
import Derived.Test.YtofajgidjkjnpaaDoorFrame
import Derived.Test.YtofajgidjkjnpaaDoorFrameUpto
import Derived.Test.YtofajgidjkjnpaaDoorFnsSchnorrChainsB
import Derived.Test.YtofajgidjkjnpaaDoorPlSchnorrChainsA
import Derived.Test.YtofajgidjkjnpaaDoorCards
import Derived.Test.YtofajgidjkjnpaaDoorTie
import Derived.Test.YtofajgidjkjnpaaDoorScQGlobSc
import Derived.WalkKit
import Derived.ProofKit
import Derived.OpenShut
import Derived.ShutString
import Derived.ChangeOld
import Derived.Below
import Derived.Deep.DeepHandedRow
import Derived.LaidMore
namespace Go.Proofs.YtofajgidjkjnpaaDoor.lawSchnorrChains
open Go.ChangeShapes Go.WideShapes Go.ChangeAt Go.RowKit
open Go.ChangeMaps (open_string shut_string)
set_option linter.unusedVariables false

theorem own : ownKnob Tryd.prog.godebug = none := by kernel_rfl
theorem laidOut : laidOutB Tryd.prog = true := by kernel_rfl
theorem door_met (os : Os) (args : Array Value) : laidMetH Tryd.prog Rows.schnorrChainsUptoRow.laid ((World.doorLaid Tryd.prog 400 os).forCall (fun _ _ => 0) ⟨#[], args, []⟩).memory :=
  laidMetH_of_parts3 (fuel := 8) (laidMet_of_run' 8 (by kernel_rfl) (by kernel_rfl)) (by kernel_rfl) (by kernel_rfl)
theorem started0 {H : Type} {enc : TypeId × Value → H} (os : Os) : ∃ (w : World) (tape : Tape) (i : Input), w.os = os ∧ (w.forCall tape i).Shaped Tryd.prog ∧ i.vars = [] ∧ Input.okWide Tryd.prog (w.forCall tape i) .any w.heap.size 8 i ∧
      (Rows.OpenSpec.upto Rows.schnorrChainsSpec).preRow enc Tryd.prog Tryd.f8 Rows.schnorrChainsUptoRow.domain false Rows.schnorrChainsUptoRow.laid (w.forCall tape i).memory i.args ∧ ({} : Assume).holds Tryd.prog (lone (Frame.enter Tryd.prog 8 i.args .normal) [] (w.forCall tape i)) :=
  have hok : Input.okWideB Tryd.prog ((World.doorLaid Tryd.prog 400 os).forCall (fun _ _ => 0) ⟨#[], #[.slice none 0 0, .int .i64 0, .slice none 0 0], []⟩) 8 ⟨#[], #[.slice none 0 0, .int .i64 0, .slice none 0 0], []⟩ = true := by kernel_rfl
  ⟨World.doorLaid Tryd.prog 400 os, fun _ _ => 0, ⟨#[], #[.slice none 0 0, .int .i64 0, .slice none 0 0], []⟩, rfl, World.shaped_of_RefB (by kernel_rfl) (by kernel_rfl), (Input.okWide_of_okWideB (base := 0) hok).1, (Input.okWide_of_okWideB hok).2,
    ⟨⟨(OpenSpec.pre_some rfl _ _ _ _).2 ⟨[.nil, .lit (.int .i64 0), .nil], [], _, DataW.Whole_of_whole (x := ([.nil, .lit (.int .i64 0), .nil], [], [])) (fuel := 8) (by kernel_rfl), by kernel_rfl, by kernel_rfl⟩, door_met os _⟩, sizedMet_of_sizedB (fuel := 8) (by kernel_rfl)⟩, by
    simp only [Assume.holds]
    exact ⟨by simp, by simp, by simp, by simp, by simp⟩⟩
set_option maxRecDepth 100000 in
theorem lifted (os : Os) (started : os.Started) (H : Type) (enc : TypeId × Value → H) (F : Stop.Interp) :
    ReturnsInHanded {} Tryd.checked os 8 .any ((Rows.OpenSpec.upto Rows.schnorrChainsSpec).preRow enc Tryd.prog Tryd.f8 Rows.schnorrChainsUptoRow.domain false Rows.schnorrChainsUptoRow.laid) (((Rows.OpenSpec.upto Rows.schnorrChainsSpec).at F).post enc Tryd.prog Tryd.f8 false true false false) := by
  refine returnsInHanded_of_row (C := Tryd.checked) own started (by kernel_rfl) Tryd.func8 (started0 os) ?_
  intro W base args ds gs before hval0 hW _ hk hsz hL _ _
  have hk : Rows.uptoSmall H (ds ++ gs) = true := hk _ rfl
  have hval : ∀ (j : Nat) t v, Tryd.f8.params[j]? = some t → args[j]? = some v → Value.okWide Tryd.prog W .any base t v := hval0
  have hW' := hW
  obtain ⟨p, q, hA0, hV, rfl, hfz, hnd⟩ := hW
  have hA : DataW.TrodAll enc Tryd.prog W 0 (fun _ => true) true Tryd.f8.params.toList args.toList ds p := hA0
  rw [Tryd.params8] at hA hval hsz
  obtain ⟨v0, vs0, d0, ds0, p0, q0, hargs, rfl, rfl, h0, r0⟩ := trodAll_cons hA
  obtain ⟨v1, vs1, d1, ds1, p1, q1, rfl, rfl, rfl, h1, r1⟩ := trodAll_cons r0
  obtain ⟨v2, vs2, d2, ds2, p2, q2, rfl, rfl, rfl, h2, r2⟩ := trodAll_cons r1
  obtain ⟨rfl, rfl, rfl⟩ := trodAll_nil r2
  obtain rfl : args = #[v0, v1, v2] := by cases args; simp_all
  obtain ⟨rfl, rfl⟩ := trodVars_none hV
  obtain ⟨a0, len0, cap0, rfl⟩ := okWide_slice Tryd.underlying22 (hval 0 22 v0 rfl rfl)
  have k0 := h0
  have lt0 : ∀ x ∈ p0, x.block < W.heap.size := by obtain ⟨m, hm⟩ := k0; exact DataW.trod_lt m _ _ _ hm
  obtain ⟨l0, rd0, nc0, mx0⟩ := rd_of_bytes h0
  obtain ⟨a1, rfl, rfl, rfl, w1⟩ := open_int Tryd.underlying3 (hval 1 3 v1 rfl rfl) h1
  obtain ⟨a2, len2, cap2, rfl⟩ := okWide_slice Tryd.underlying22 (hval 2 22 v2 rfl rfl)
  have k2 := h2
  have lt2 : ∀ x ∈ p2, x.block < W.heap.size := by obtain ⟨m, hm⟩ := k2; exact DataW.trod_lt m _ _ _ hm
  obtain ⟨l2, rd2, nc2, mx2⟩ := rd_of_bytes h2
  clear hA0 hval0
  have walk : Calls Tryd.prog 8 #[.slice a0 len0 cap0, .int .i64 a1, .slice a2 len2 cap2] W fun e w' => e = .returned (.bool true) ∧ Ext W w' :=
    (law_walk (ks := [.val (.sl .u8), .val .i64, .val (.sl .u8)]) (globs := G_globs) (F := fun y => law15_SchnorrChains 18446744073709551616 y.1.1 y.1.2.1 y.1.2.2.1) (law15_SchnorrChains_ok 18446744073709551616) (w := W) (args := [.slice a0 len0 cap0, .int .i64 a1, .slice a2 len2 cap2]) (x := (l0, a1, l2, ())) rfl ⟨vr (sr_bytes rd0 nc0 mx0), vr (sr_arg_i64 (bounds_i64 w1).1 (bounds_i64 w1).2), vr (sr_bytes rd2 nc2 mx2), trivial⟩ (by simp [stKs, GV.ids, SV.ids]) (Pl.globs_ok hL) (Pl.schains l0 (len_of rd0 nc0 mx0) a1 (bounds_i64 w1).1 (bounds_i64 w1).2 l2 (len_upto rd2 (rd_upto k2 (bulk_le hk (by simp)))))).mono fun e w' ⟨h1, h2⟩ => ⟨h1, ext_of h2⟩
  refine walk.mono fun e W' ⟨he, bel⟩ => ?_
  subst he
  have bel : Below W.heap.size W W' := bel
  exact ⟨_, rfl, _, _, _, [], _, [], hW', trodAll_mk1 (shut_bool Tryd.underlying4 _), (trodAll_cons_mk (Below.trod laidOut (by kernel_rfl) (of_decide_eq_true (by kernel_rfl)) k0 bel lt0) (trodAll_cons_mk (shut_int Tryd.underlying3 w1) (trodAll_cons_mk (Below.trod laidOut (by kernel_rfl) (of_decide_eq_true (by kernel_rfl)) k2 bel lt2) trodAll_mk0))), rfl, bel.frame _, fun h => by cases h⟩

theorem both {a b : Bool} (h : a = true) (h' : b = true) : (a && b) = true := by rw [h, h']; rfl
theorem fact0 : (Rows.schnorrChainsUptoRow.wf (OpenSpec.ofChange (Rows.OpenSpec.upto Rows.schnorrChainsSpec).bare)) = true := by kernel_rfl
theorem fact1 : (laidOutB Tryd.pinned.checked.prog) = true := by kernel_rfl
theorem fact2 : (mapsRowed Tryd.pinned.checked.prog) = true := by kernel_rfl
theorem fact3 : (Tryd.f8.params.all (Tryd.pinned.checked.prog.readableRec ·)) = true := by kernel_rfl
theorem fact4 : (namedTie Tryd.pinned.checked.prog Rows.schnorrChainsUptoRow.named (Rows.OpenSpec.upto Rows.schnorrChainsSpec).bare.vars) = true := by kernel_rfl
theorem fact5 : (Rows.schnorrChainsUptoRow.stops == []) = true := by kernel_rfl
theorem fact6 : (Tryd.pinned.checked.prog.stops == []) = true := by kernel_rfl
theorem fact7 : (Rows.schnorrChainsUptoRow.knobs == []) = true := by kernel_rfl
theorem fact8 : (Tryd.pinned.checked.prog.stopKnobs == []) = true := by kernel_rfl
theorem fact9 : (Rows.schnorrChainsUptoRow.inPlace == Tryd.pinned.checked.prog.inPlace 8) = true := by kernel_rfl
theorem fact10 : (Rows.schnorrChainsUptoRow.unfollowed == Tryd.pinned.checked.prog.unfollowed 8) = true := by kernel_rfl
theorem fact11 : (Rows.schnorrChainsUptoRow.recurses == Tryd.pinned.checked.prog.recurses 8) = true := by kernel_rfl
theorem fact12 : (Rows.schnorrChainsUptoRow.named == Tryd.pinned.checked.prog.varsNamed 8) = true := by kernel_rfl
theorem fact13 : (Rows.schnorrChainsUptoRow.maps == (Tryd.f8.params.toList ++ (Rows.OpenSpec.upto Rows.schnorrChainsSpec).bare.plain.varTypes Tryd.pinned.checked.prog).any (Tryd.pinned.checked.prog.mapsRec ·)) = true := by kernel_rfl
theorem fact14 : (Rows.schnorrChainsUptoRow.ifaces == (Tryd.f8.params.toList ++ (Rows.OpenSpec.upto Rows.schnorrChainsSpec).bare.plain.varTypes Tryd.pinned.checked.prog).any (Tryd.pinned.checked.prog.ifacesRec ·)) = true := by kernel_rfl
theorem fact15 : (Rows.schnorrChainsUptoRow.mapsOut == Tryd.pinned.checked.prog.mapsAmong Tryd.f8.resultTypes.toList) = true := by kernel_rfl
theorem fact16 : (Rows.schnorrChainsUptoRow.loops == (Tryd.f8.params.toList ++ (Rows.OpenSpec.upto Rows.schnorrChainsSpec).bare.plain.varTypes Tryd.pinned.checked.prog).any (Tryd.pinned.checked.prog.loopsFrom ·)) = true := by kernel_rfl
theorem fact17 : (Rows.schnorrChainsUptoRow.wideKeys == (Tryd.f8.params.toList ++ (Rows.OpenSpec.upto Rows.schnorrChainsSpec).bare.plain.varTypes Tryd.pinned.checked.prog ++ Tryd.f8.resultTypes.toList).any (Tryd.pinned.checked.prog.wideKeysFrom ·)) = true := by kernel_rfl
theorem fact18 : ((Rows.OpenSpec.upto Rows.schnorrChainsSpec).bare.vars.all (Tryd.pinned.checked.prog.varReadable ·)) = true := by kernel_rfl
theorem fact19 : (Tryd.f8.resultTypes.all (fun t => Tryd.pinned.checked.prog.readableRec t && decide (t < Tryd.pinned.checked.prog.types.size))) = true := by kernel_rfl
theorem fact20 : (Rows.schnorrChainsUptoRow.ifacesOut == Tryd.f8.resultTypes.toList.any (Tryd.pinned.checked.prog.ifacesRec ·)) = true := by kernel_rfl
theorem fact21 : (Rows.schnorrChainsUptoRow.loopsOut == Tryd.f8.resultTypes.toList.any (Tryd.pinned.checked.prog.loopsFrom ·)) = true := by kernel_rfl
theorem fact22 : (Rows.schnorrChainsUptoRow.plainKeys == Tryd.pinned.checked.prog.plainKeys) = true := by kernel_rfl
theorem fact23 : (Rows.schnorrChainsUptoRow.shortTexts.isNone) = true := by kernel_rfl
theorem fact24 : (Tryd.pinned.checked.prog.stopsHeard) = true := by kernel_rfl
theorem fact25 : (Tryd.pinned.checked.prog.mayEnter) = true := by kernel_rfl
theorem fact26 : (Rows.schnorrChainsUptoRow.lifted == Tryd.pinned.checked.prog.liftsFinal) = true := by kernel_rfl
theorem fact27 : (Tryd.pinned.checked.prog.make == some Rows.schnorrChainsUptoRow.make) = true := by kernel_rfl
theorem fact28 : (Rows.schnorrChainsUptoRow.kinds == (if Rows.schnorrChainsUptoRow.domain.isEmpty then [] else Tryd.f8.params.toList.map fun t => match Tryd.pinned.checked.prog.underlying t with | some (.int k) => some k | _ => none)) = true := by kernel_rfl
theorem fact29 : (Rows.schnorrChainsUptoRow.pinned == Rows.schnorrChainsUptoRow.pinnedBy) = true := by kernel_rfl
theorem fact30 : (Rows.schnorrChainsUptoRow.veiled == (Tryd.f8.params.toList ++ (Rows.OpenSpec.upto Rows.schnorrChainsSpec).bare.plain.varTypes Tryd.pinned.checked.prog ++ Tryd.f8.resultTypes.toList).any (Tryd.pinned.checked.prog.veiledRec ·)) = true := by kernel_rfl
theorem fact31 : (Rows.schnorrChainsUptoRow.veiledFits Tryd.pinned.checked.prog Tryd.f8.params.toList (Tryd.f8.params.toList ++ (Rows.OpenSpec.upto Rows.schnorrChainsSpec).bare.plain.varTypes Tryd.pinned.checked.prog ++ Tryd.f8.resultTypes.toList)) = true := by kernel_rfl
set_option maxRecDepth 100000 in
theorem joined : joinedFacts Tryd.pinned.checked.prog 8 Tryd.f8 (Rows.OpenSpec.upto Rows.schnorrChainsSpec).bare Rows.schnorrChainsUptoRow = true := by
  unfold joinedFacts
  exact (both (both (both (both (both (both (both (both (both (both (both (both (both (both (both (both (both (both (both (both (both (both (both (both (both (both (both (both (both (both (both fact0 fact1) fact2) fact3) fact4) fact5) fact6) fact7) fact8) fact9) fact10) fact11) fact12) fact13) fact14) fact15) fact16) fact17) fact18) fact19) fact20) fact21) fact22) fact23) fact24) fact25) fact26) fact27) fact28) fact29) fact30) fact31)

theorem over : Rows.schnorrChainsUptoRow.holds Tryd.pinned (Rows.OpenSpec.upto Rows.schnorrChainsSpec) :=
  OpenClaim.holds_of_cond 8 Tryd.f8 rfl rfl rfl rfl rfl rfl rfl ⟨rfl, rfl, rfl, rfl, rfl⟩ rfl rfl rfl rfl rfl (by kernel_rfl) Tryd.func8 joined
    (of_decide_eq_true (by kernel_rfl)) (by unfold Func.isWrapper; first | (rw [if_pos (by decide +kernel)]; kernel_rfl) | (rw [if_neg (by decide +kernel)]; exact ⟨rfl, rfl⟩))
    (fun os started H enc _ F => by rw [OpenClaim.pre_eq_preRow]; exact lifted os started H enc F)

theorem plain (f : FuncId) (fn : Func) (hf : Tryd.pinned.checked.prog.funcNamed "ipsecgate/ipsecgatelaw15.SchnorrChains" = some f) (hfn : Tryd.pinned.checked.prog.funcs[f]? = some fn) :
    false = Tryd.pinned.checked.prog.looks [] ∧ ∀ (j : Nat) t, fn.params[j]? = some t → Tryd.pinned.checked.prog.wantsStandIn t = false := by
  obtain rfl : f = 8 := Option.some.inj ((show Tryd.prog.funcNamed "ipsecgate/ipsecgatelaw15.SchnorrChains" = some 8 by kernel_rfl).symm.trans hf) |>.symm
  obtain rfl : fn = Tryd.f8 := (Option.some.inj (Tryd.func8.symm.trans hfn)).symm
  refine ⟨by kernel_rfl, fun j t ht => ?_⟩
  rw [Tryd.params8] at ht
  have hm : t ∈ [22, 3, 22] := by simpa using Array.mem_of_getElem? ht
  have hall : ([22, 3, 22].all fun u => !Tryd.prog.wantsStandIn u) = true := by kernel_rfl
  exact (show Tryd.prog.wantsStandIn t = false by simpa using List.all_eq_true.1 hall t hm)
theorem proved : Rows.SchnorrChainsUptoCardSaid :=
  Claim7.holds_tied_plain_at .later [] _ _ _ _ over (fun _ h => by cases h) (by kernel_rfl) (fun _ h => by cases h) schnorrChainsUpto_row_tie rfl ⟨rfl, rfl⟩ (by kernel_rfl) rfl plain (by kernel_rfl)
end Go.Proofs.YtofajgidjkjnpaaDoor.lawSchnorrChains
