/- The law SealedReturns: the program's text returns true for every input. -/
import Derived.Test.YtofajgidjkjnpaaDoorRows
import Derived.Test.YtofajgidjkjnpaaDoorGmWalk
import Derived.Test.YtofajgidjkjnpaaDoorFrame
import Derived.Test.YtofajgidjkjnpaaDoorFnuSealedReturnsA
import Derived.Test.YtofajgidjkjnpaaDoorPlSealedReturnsA
import Derived.Test.YtofajgidjkjnpaaDoorCards
import Derived.Test.YtofajgidjkjnpaaDoorTie
import Derived.Test.YtofajgidjkjnpaaDoorSwQGlobEs
import Derived.WalkKit
import Derived.ProofKit
import Derived.OpenShut
import Derived.ShutString
import Derived.ChangeOld
import Derived.Below
import Derived.Deep.DeepHandedRow
import Derived.LaidMore
namespace Go.Proofs.YtofajgidjkjnpaaDoor.lawSealedReturns
open Go.ChangeShapes Go.WideShapes Go.ChangeAt Go.RowKit
open Go.ChangeMaps (open_string shut_string)
set_option linter.unusedVariables false

theorem own : ownKnob Tryd.prog.godebug = none := by kernel_rfl
theorem laidOut : laidOutB Tryd.prog = true := by kernel_rfl
theorem door_met (os : Os) (args : Array Value) : laidMetH Tryd.prog Rows.sealedReturnsRow.laid ((World.doorLaid Tryd.prog 400 os).forCall (fun _ _ => 0) ⟨#[], args, []⟩).memory :=
  laidMetH_of_parts3 (fuel := 8) (laidMet_of_run' 8 (by kernel_rfl) (by kernel_rfl)) (by kernel_rfl) (by kernel_rfl)
set_option maxRecDepth 100000 in
theorem lifted (os : Os) (started : os.Started) (H : Type) (enc : TypeId × Value → H) :
    ReturnsInHanded {} Tryd.checked os 14 .any (fun w args => (Rows.sealedReturnsSpec.pre enc Tryd.prog Tryd.f14 Rows.sealedReturnsRow.domain false w args ∧ laidMetH Tryd.prog Rows.sealedReturnsRow.laid w) ∧ sizedMet enc Tryd.prog Tryd.f14 (OpenSpec.ofChange Rows.sealedReturnsSpec) false w args)
      (Rows.sealedReturnsSpec.post enc Tryd.prog Tryd.f14 false true false false) := by
  refine returnsInHanded_of_change_and (C := Tryd.checked) (X := fun w _ => laidMetH Tryd.prog Rows.sealedReturnsRow.laid w) (fun _ _ _ hh h => h.of_heap hh) own started (by kernel_rfl) Tryd.func14
    (ChangeSpec.witness_shaped (enc := enc) (C := Tryd.checked) (os := os) (X := fun w _ => laidMetH Tryd.prog Rows.sealedReturnsRow.laid w) false (World.doorLaid Tryd.prog 400 os) #[.slice none 0 0, .int .u8 0, .int .u64 0, .slice none 0 0, .int .u8 0] 8 rfl (World.shaped_of_RefB (by kernel_rfl) (by kernel_rfl)) (by kernel_rfl) (by kernel_rfl) (by kernel_rfl) (door_met os _)) ?_
  intro W base args ds gs before hval0 hW _ hsz hL _
  have hval : ∀ (j : Nat) t v, Tryd.f14.params[j]? = some t → args[j]? = some v → Value.okWide Tryd.prog W .any base t v := hval0
  have hW' := hW
  obtain ⟨p, q, hA0, hV, rfl, hfz, hnd⟩ := hW
  have hA : DataW.TrodAll enc Tryd.prog W 0 (fun _ => true) true Tryd.f14.params.toList args.toList ds p := hA0
  rw [Tryd.params14] at hA hval hsz
  obtain ⟨v0, vs0, d0, ds0, p0, q0, hargs, rfl, rfl, h0, r0⟩ := trodAll_cons hA
  obtain ⟨v1, vs1, d1, ds1, p1, q1, rfl, rfl, rfl, h1, r1⟩ := trodAll_cons r0
  obtain ⟨v2, vs2, d2, ds2, p2, q2, rfl, rfl, rfl, h2, r2⟩ := trodAll_cons r1
  obtain ⟨v3, vs3, d3, ds3, p3, q3, rfl, rfl, rfl, h3, r3⟩ := trodAll_cons r2
  obtain ⟨v4, vs4, d4, ds4, p4, q4, rfl, rfl, rfl, h4, r4⟩ := trodAll_cons r3
  obtain ⟨rfl, rfl, rfl⟩ := trodAll_nil r4
  obtain rfl : args = #[v0, v1, v2, v3, v4] := by cases args; simp_all
  obtain ⟨rfl, rfl⟩ := trodVars_none hV
  obtain ⟨a0, len0, cap0, rfl⟩ := okWide_slice Tryd.underlying22 (hval 0 22 v0 rfl rfl)
  have k0 := h0
  have lt0 : ∀ x ∈ p0, x.block < W.heap.size := by obtain ⟨m, hm⟩ := k0; exact DataW.trod_lt m _ _ _ hm
  obtain ⟨l0, rd0, nc0, mx0⟩ := rd_of_bytes h0
  obtain ⟨a1, rfl, rfl, rfl, w1⟩ := open_int Tryd.underlying5 (hval 1 5 v1 rfl rfl) h1
  obtain ⟨a2, rfl, rfl, rfl, w2⟩ := open_int Tryd.underlying23 (hval 2 23 v2 rfl rfl) h2
  obtain ⟨a3, len3, cap3, rfl⟩ := okWide_slice Tryd.underlying22 (hval 3 22 v3 rfl rfl)
  have k3 := h3
  have lt3 : ∀ x ∈ p3, x.block < W.heap.size := by obtain ⟨m, hm⟩ := k3; exact DataW.trod_lt m _ _ _ hm
  obtain ⟨l3, rd3, nc3, mx3⟩ := rd_of_bytes h3
  obtain ⟨a4, rfl, rfl, rfl, w4⟩ := open_int Tryd.underlying5 (hval 4 5 v4 rfl rfl) h4
  clear hA0 hval0
  have walk : Calls Tryd.prog 14 #[.slice a0 len0 cap0, .int .u8 a1, .int .u64 a2, .slice a3 len3 cap3, .int .u8 a4] W fun e w' => e = .returned (.bool true) ∧ Ext W w' :=
    (law_walk (ks := [.val (.sl .u8), .val .u8, .val .u64, .val (.sl .u8), .val .u8]) (globs := G_globs) (F := fun y => law17_SealedReturns 18446744073709551616 y.1.1 y.1.2.1 y.1.2.2.1 y.1.2.2.2.1 y.1.2.2.2.2.1) (law17_SealedReturns_ok 18446744073709551616) (w := W) (args := [.slice a0 len0 cap0, .int .u8 a1, .int .u64 a2, .slice a3 len3 cap3, .int .u8 a4]) (x := (l0, (UInt8.ofNat a1.toNat), (UInt64.ofNat a2.toNat), l3, (UInt8.ofNat a4.toNat), ())) rfl ⟨vr (sr_bytes rd0 nc0 mx0), vr (sr_arg_u8 (bounds_u8 w1).1 (bounds_u8 w1).2), vr (sr_arg_u64 (bounds_u64 w2).1 (bounds_u64 w2).2), vr (sr_bytes rd3 nc3 mx3), vr (sr_arg_u8 (bounds_u8 w4).1 (bounds_u8 w4).2), trivial⟩ (by simp [stKs, GV.ids, SV.ids]) (Pl.globs_ok hL) (Pl.returns l0 (len_of rd0 nc0 mx0) (UInt8.ofNat a1.toNat) (UInt64.ofNat a2.toNat) l3 (len_of rd3 nc3 mx3) (UInt8.ofNat a4.toNat))).mono fun e w' ⟨h1, h2⟩ => ⟨h1, ext_of h2⟩
  refine walk.mono fun e W' ⟨he, bel⟩ => ?_
  subst he
  have bel : Below W.heap.size W W' := bel
  exact ⟨_, rfl, _, _, _, [], _, [], hW', trodAll_mk1 (shut_bool Tryd.underlying4 _), (trodAll_cons_mk (Below.trod laidOut (by kernel_rfl) (of_decide_eq_true (by kernel_rfl)) k0 bel lt0) (trodAll_cons_mk (shut_int Tryd.underlying5 w1) (trodAll_cons_mk (shut_int Tryd.underlying23 w2) (trodAll_cons_mk (Below.trod laidOut (by kernel_rfl) (of_decide_eq_true (by kernel_rfl)) k3 bel lt3) (trodAll_cons_mk (shut_int Tryd.underlying5 w4) trodAll_mk0))))), rfl, bel.frame _, fun h => by cases h⟩

theorem both {a b : Bool} (h : a = true) (h' : b = true) : (a && b) = true := by rw [h, h']; rfl
theorem fact0 : (Rows.sealedReturnsRow.wf (OpenSpec.ofChange Rows.sealedReturnsSpec)) = true := by kernel_rfl
theorem fact1 : (laidOutB Tryd.pinned.checked.prog) = true := by kernel_rfl
theorem fact2 : (mapsRowed Tryd.pinned.checked.prog) = true := by kernel_rfl
theorem fact3 : (Tryd.f14.params.all (Tryd.pinned.checked.prog.readableRec ·)) = true := by kernel_rfl
theorem fact4 : (namedTie Tryd.pinned.checked.prog Rows.sealedReturnsRow.named Rows.sealedReturnsSpec.vars) = true := by kernel_rfl
theorem fact5 : (Rows.sealedReturnsRow.stops == []) = true := by kernel_rfl
theorem fact6 : (Tryd.pinned.checked.prog.stops == []) = true := by kernel_rfl
theorem fact7 : (Rows.sealedReturnsRow.knobs == []) = true := by kernel_rfl
theorem fact8 : (Tryd.pinned.checked.prog.stopKnobs == []) = true := by kernel_rfl
theorem fact9 : (Rows.sealedReturnsRow.inPlace == Tryd.pinned.checked.prog.inPlace 14) = true := by kernel_rfl
theorem fact10 : (Rows.sealedReturnsRow.unfollowed == Tryd.pinned.checked.prog.unfollowed 14) = true := by kernel_rfl
theorem fact11 : (Rows.sealedReturnsRow.recurses == Tryd.pinned.checked.prog.recurses 14) = true := by kernel_rfl
theorem fact12 : (Rows.sealedReturnsRow.named == Tryd.pinned.checked.prog.varsNamed 14) = true := by kernel_rfl
theorem fact13 : (Rows.sealedReturnsRow.maps == (Tryd.f14.params.toList ++ Rows.sealedReturnsSpec.plain.varTypes Tryd.pinned.checked.prog).any (Tryd.pinned.checked.prog.mapsRec ·)) = true := by kernel_rfl
theorem fact14 : (Rows.sealedReturnsRow.ifaces == (Tryd.f14.params.toList ++ Rows.sealedReturnsSpec.plain.varTypes Tryd.pinned.checked.prog).any (Tryd.pinned.checked.prog.ifacesRec ·)) = true := by kernel_rfl
theorem fact15 : (Rows.sealedReturnsRow.mapsOut == Tryd.pinned.checked.prog.mapsAmong Tryd.f14.resultTypes.toList) = true := by kernel_rfl
theorem fact16 : (Rows.sealedReturnsRow.loops == (Tryd.f14.params.toList ++ Rows.sealedReturnsSpec.plain.varTypes Tryd.pinned.checked.prog).any (Tryd.pinned.checked.prog.loopsFrom ·)) = true := by kernel_rfl
theorem fact17 : (Rows.sealedReturnsRow.wideKeys == (Tryd.f14.params.toList ++ Rows.sealedReturnsSpec.plain.varTypes Tryd.pinned.checked.prog ++ Tryd.f14.resultTypes.toList).any (Tryd.pinned.checked.prog.wideKeysFrom ·)) = true := by kernel_rfl
theorem fact18 : (Rows.sealedReturnsSpec.vars.all (Tryd.pinned.checked.prog.varReadable ·)) = true := by kernel_rfl
theorem fact19 : (Tryd.f14.resultTypes.all (fun t => Tryd.pinned.checked.prog.readableRec t && decide (t < Tryd.pinned.checked.prog.types.size))) = true := by kernel_rfl
theorem fact20 : (Rows.sealedReturnsRow.ifacesOut == Tryd.f14.resultTypes.toList.any (Tryd.pinned.checked.prog.ifacesRec ·)) = true := by kernel_rfl
theorem fact21 : (Rows.sealedReturnsRow.loopsOut == Tryd.f14.resultTypes.toList.any (Tryd.pinned.checked.prog.loopsFrom ·)) = true := by kernel_rfl
theorem fact22 : (Rows.sealedReturnsRow.plainKeys == Tryd.pinned.checked.prog.plainKeys) = true := by kernel_rfl
theorem fact23 : (Rows.sealedReturnsRow.shortTexts.isNone) = true := by kernel_rfl
theorem fact24 : (Tryd.pinned.checked.prog.stopsHeard) = true := by kernel_rfl
theorem fact25 : (Tryd.pinned.checked.prog.mayEnter) = true := by kernel_rfl
theorem fact26 : (Rows.sealedReturnsRow.lifted == Tryd.pinned.checked.prog.liftsFinal) = true := by kernel_rfl
theorem fact27 : (Tryd.pinned.checked.prog.make == some Rows.sealedReturnsRow.make) = true := by kernel_rfl
theorem fact28 : (Rows.sealedReturnsRow.kinds == (if Rows.sealedReturnsRow.domain.isEmpty then [] else Tryd.f14.params.toList.map fun t => match Tryd.pinned.checked.prog.underlying t with | some (.int k) => some k | _ => none)) = true := by kernel_rfl
theorem fact29 : (Rows.sealedReturnsRow.pinned == Rows.sealedReturnsRow.pinnedBy) = true := by kernel_rfl
theorem fact30 : (Rows.sealedReturnsRow.veiled == (Tryd.f14.params.toList ++ Rows.sealedReturnsSpec.plain.varTypes Tryd.pinned.checked.prog ++ Tryd.f14.resultTypes.toList).any (Tryd.pinned.checked.prog.veiledRec ·)) = true := by kernel_rfl
theorem fact31 : (Rows.sealedReturnsRow.veiledFits Tryd.pinned.checked.prog Tryd.f14.params.toList (Tryd.f14.params.toList ++ Rows.sealedReturnsSpec.plain.varTypes Tryd.pinned.checked.prog ++ Tryd.f14.resultTypes.toList)) = true := by kernel_rfl
set_option maxRecDepth 100000 in
theorem joined : joinedFacts Tryd.pinned.checked.prog 14 Tryd.f14 Rows.sealedReturnsSpec Rows.sealedReturnsRow = true := by
  unfold joinedFacts
  exact (both (both (both (both (both (both (both (both (both (both (both (both (both (both (both (both (both (both (both (both (both (both (both (both (both (both (both (both (both (both (both fact0 fact1) fact2) fact3) fact4) fact5) fact6) fact7) fact8) fact9) fact10) fact11) fact12) fact13) fact14) fact15) fact16) fact17) fact18) fact19) fact20) fact21) fact22) fact23) fact24) fact25) fact26) fact27) fact28) fact29) fact30) fact31)

theorem over : Rows.sealedReturnsRow.holds Tryd.pinned (OpenSpec.ofChange Rows.sealedReturnsSpec) :=
  OpenClaim.holds_of_wide 14 Tryd.f14 rfl rfl rfl rfl rfl rfl rfl ⟨rfl, rfl, rfl, rfl, rfl⟩ rfl rfl rfl rfl rfl (by kernel_rfl) Tryd.func14 joined
    (of_decide_eq_true (by kernel_rfl)) (by unfold Func.isWrapper; first | (rw [if_pos (by decide +kernel)]; kernel_rfl) | (rw [if_neg (by decide +kernel)]; exact ⟨rfl, rfl⟩))
    (fun os started H enc _ => lifted os started H enc)

theorem plain (f : FuncId) (fn : Func) (hf : Tryd.pinned.checked.prog.funcNamed "ipsecgate/ipsecgatelaw17.SealedReturns" = some f) (hfn : Tryd.pinned.checked.prog.funcs[f]? = some fn) :
    false = Tryd.pinned.checked.prog.looks [] ∧ ∀ (j : Nat) t, fn.params[j]? = some t → Tryd.pinned.checked.prog.wantsStandIn t = false := by
  obtain rfl : f = 14 := Option.some.inj ((show Tryd.prog.funcNamed "ipsecgate/ipsecgatelaw17.SealedReturns" = some 14 by kernel_rfl).symm.trans hf) |>.symm
  obtain rfl : fn = Tryd.f14 := (Option.some.inj (Tryd.func14.symm.trans hfn)).symm
  refine ⟨by kernel_rfl, fun j t ht => ?_⟩
  rw [Tryd.params14] at ht
  have hm : t ∈ [22, 5, 23, 22, 5] := by simpa using Array.mem_of_getElem? ht
  have hall : ([22, 5, 23, 22, 5].all fun u => !Tryd.prog.wantsStandIn u) = true := by kernel_rfl
  exact (show Tryd.prog.wantsStandIn t = false by simpa using List.all_eq_true.1 hall t hm)
theorem proved : Rows.SealedReturnsCardSaid :=
  Claim7.holds_tied_plain_at .later [] _ _ _ _ over (fun _ h => by cases h) (by kernel_rfl) (fun _ h => by cases h) sealedReturns_row_tie rfl ⟨rfl, rfl⟩ (by kernel_rfl) rfl plain (by kernel_rfl)
end Go.Proofs.YtofajgidjkjnpaaDoor.lawSealedReturns
