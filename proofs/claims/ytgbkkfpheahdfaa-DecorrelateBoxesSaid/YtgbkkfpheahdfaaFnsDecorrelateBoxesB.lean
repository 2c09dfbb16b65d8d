/- Functions of the program as plain functions, each with the proof that the text computes it. -/
import Derived.Test.YtgbkkfpheahdfaaFnsDecorrelateBoxesA
set_option linter.unusedVariables false
set_option linter.unusedSimpArgs false
namespace Go.Proofs.Ytgbkkfpheahdfaa
open Go
set_option maxRecDepth 100000
set_option linter.unusedVariables false
/-! ipsecgate/decorrelate.Has -/
abbrev decorrelate_Has_R : Type := ((Bool × Unit) × (Unit))
noncomputable def decorrelate_Has_s3 (N : Nat) (t_41 : (List ((Int × (UInt64 × (UInt64 × Unit))) × ((Int × (UInt64 × (UInt64 × Unit))) × Unit)))) (t_42 : Int) (at_7 : (List (Int × (UInt64 × (UInt64 × Unit))))) : Option (Lo (((List ((Int × (UInt64 × (UInt64 × Unit))) × ((Int × (UInt64 × (UInt64 × Unit))) × Unit))) × Int × Unit) × ((List (Int × (UInt64 × (UInt64 × Unit)))) × Unit)) ((Unit) × (Unit)) decorrelate_Has_R) :=
  bif (decide (t_42 < (5 : Int))) then
    bif inR t_42 5 then
    bif inR t_42 5 then
    Option.bind (decorrelate_side_has N (t_41.getD t_42.toNat (((0 : Int), (0 : UInt64), (0 : UInt64), ()), ((0 : Int), (0 : UInt64), (0 : UInt64), ()), ())) (at_7.getD t_42.toNat ((0 : Int), (0 : UInt64), (0 : UInt64), ()))) fun y12 =>
    bif (!y12.1.1) then
      some (.rt ((false, ()), (())))
    else
      some (.go ((t_41, (w64 (t_42 + (1 : Int))), ()), (at_7, ())))
    else none
    else none
  else
    some (.br ((()), (())))
noncomputable def decorrelate_Has_4 (N : Nat) : Option decorrelate_Has_R :=
  some ((true, ()), (()))
noncomputable def decorrelate_Has_2 (N : Nat) (t_41 : (List ((Int × (UInt64 × (UInt64 × Unit))) × ((Int × (UInt64 × (UInt64 × Unit))) × Unit)))) (t_42 : Int) (at_7 : (List (Int × (UInt64 × (UInt64 × Unit))))) : Option decorrelate_Has_R :=
  loopK N (fun y => decorrelate_Has_s3 N y.1.1 y.1.2.1 y.2.1) (fun (e : ((Unit) × (Unit))) => decorrelate_Has_4 N) ((t_41, t_42, ()), (at_7, ()))
noncomputable def decorrelate_Has_1 (N : Nat) (b_3 : ((Int × (UInt64 × (UInt64 × Unit))) × ((Int × (UInt64 × (UInt64 × Unit))) × ((Int × (UInt64 × (UInt64 × Unit))) × ((Int × (UInt64 × (UInt64 × Unit))) × (Int × (Int × ((List Int) × ((List Int) × Unit))))))))) (p_4 : ((Int × (UInt64 × (UInt64 × Unit))) × ((Int × (UInt64 × (UInt64 × Unit))) × (Int × (Int × (Int × Unit)))))) : Option decorrelate_Has_R :=
  Option.bind (decorrelate_ofAddress N p_4.1) fun y2 =>
  Option.bind (decorrelate_ofAddress N p_4.2.1) fun y3 =>
  Option.bind (decorrelate_ofNumber N p_4.2.2.1) fun y4 =>
  Option.bind (decorrelate_ofNumber N p_4.2.2.2.1) fun y5 =>
  Option.bind (decorrelate_ofNumber N p_4.2.2.2.2.1) fun y6 =>
  Option.bind (decorrelate_ofBox N b_3) fun y8 =>
  decorrelate_Has_2 N y8.1.1 (0 : Int) ([y2.1.1, y3.1.1, y4.1.1, y5.1.1, y6.1.1] : List (Int × (UInt64 × (UInt64 × Unit))))
noncomputable def decorrelate_Has (N : Nat) (b_0 : ((Int × (UInt64 × (UInt64 × Unit))) × ((Int × (UInt64 × (UInt64 × Unit))) × ((Int × (UInt64 × (UInt64 × Unit))) × ((Int × (UInt64 × (UInt64 × Unit))) × (Int × (Int × ((List Int) × ((List Int) × Unit))))))))) (p_1 : ((Int × (UInt64 × (UInt64 × Unit))) × ((Int × (UInt64 × (UInt64 × Unit))) × (Int × (Int × (Int × Unit)))))) (outbound_2 : Bool) : Option decorrelate_Has_R :=
  bif (!outbound_2) then
    decorrelate_Has_1 N b_0 (p_1.2.1, p_1.1, p_1.2.2.1, p_1.2.2.2.2.1, p_1.2.2.2.1, ())
  else
    decorrelate_Has_1 N b_0 p_1
noncomputable def decorrelate_Has_C (N : Nat) : Ctx := ⟨53, G_tys, [(103, decorrelate_ofAddress_ctr N), (104, decorrelate_ofNumber_ctr N), (79, decorrelate_ofBox_ctr N), (105, decorrelate_side_has_ctr N)], G_globs⟩
noncomputable def decorrelate_Has_S0 : Spec := ⟨[.ref 0 (.arr 5 (.pair .i64 (.pair .u64 (.pair .u64 .unit)))), .val (.arr 5 (.pair (.pair .i64 (.pair .u64 (.pair .u64 .unit))) (.pair (.pair .i64 (.pair .u64 (.pair .u64 .unit))) .unit))), .val .i64], [(.box 143 (.arr 5 (.pair .i64 (.pair .u64 (.pair .u64 .unit)))), .pos 0)]⟩
noncomputable def decorrelate_Has_S1 : Spec := ⟨[], []⟩
noncomputable def decorrelate_Has_S2 : Spec := ⟨[.ref 0 (.pair (.pair .i64 (.pair .u64 (.pair .u64 .unit))) (.pair (.pair .i64 (.pair .u64 (.pair .u64 .unit))) (.pair (.pair .i64 (.pair .u64 (.pair .u64 .unit))) (.pair (.pair .i64 (.pair .u64 (.pair .u64 .unit))) (.pair .i64 (.pair .i64 (.pair (.arr 2 .i64) (.pair (.arr 2 .i64) .unit)))))))), .ref 1 (.pair (.pair .i64 (.pair .u64 (.pair .u64 .unit))) (.pair (.pair .i64 (.pair .u64 (.pair .u64 .unit))) (.pair .i64 (.pair .i64 (.pair .i64 .unit)))))], [(.box 46 (.pair (.pair .i64 (.pair .u64 (.pair .u64 .unit))) (.pair (.pair .i64 (.pair .u64 (.pair .u64 .unit))) (.pair (.pair .i64 (.pair .u64 (.pair .u64 .unit))) (.pair (.pair .i64 (.pair .u64 (.pair .u64 .unit))) (.pair .i64 (.pair .i64 (.pair (.arr 2 .i64) (.pair (.arr 2 .i64) .unit)))))))), .pos 0), (.box 30 (.pair (.pair .i64 (.pair .u64 (.pair .u64 .unit))) (.pair (.pair .i64 (.pair .u64 (.pair .u64 .unit))) (.pair .i64 (.pair .i64 (.pair .i64 .unit))))), .pos 1)]⟩
noncomputable def decorrelate_Has_S3 : Spec := ⟨[.val (.pair (.pair .i64 (.pair .u64 (.pair .u64 .unit))) (.pair (.pair .i64 (.pair .u64 (.pair .u64 .unit))) (.pair (.pair .i64 (.pair .u64 (.pair .u64 .unit))) (.pair (.pair .i64 (.pair .u64 (.pair .u64 .unit))) (.pair .i64 (.pair .i64 (.pair (.arr 2 .i64) (.pair (.arr 2 .i64) .unit)))))))), .val (.pair (.pair .i64 (.pair .u64 (.pair .u64 .unit))) (.pair (.pair .i64 (.pair .u64 (.pair .u64 .unit))) (.pair .i64 (.pair .i64 (.pair .i64 .unit))))), .val .bool], []⟩
noncomputable def decorrelate_Has_S4 : Spec := ⟨[.val .bool], []⟩
noncomputable def decorrelate_Has_K (_N : Nat) : XE → GS → Option decorrelate_Has_R := retK 0 [6] [false] decorrelate_Has_S4
noncomputable def decorrelate_Has_L : List Code := (bodyOf (some Try.f51))
noncomputable def decorrelate_Has_L3 : List Code := (loopOf (decorrelate_Has_L[5]?))
noncomputable def decorrelate_Has_K3 (N : Nat) : XE → GS → Option (Lo (((List ((Int × (UInt64 × (UInt64 × Unit))) × ((Int × (UInt64 × (UInt64 × Unit))) × Unit))) × Int × Unit) × ((List (Int × (UInt64 × (UInt64 × Unit)))) × Unit)) ((Unit) × (Unit)) decorrelate_Has_R) := roundK (some 0) (fit 0 [7, 41, 42] decorrelate_Has_S0) (fit 0 [] decorrelate_Has_S1) (decorrelate_Has_K N)
theorem decorrelate_Has_s3_b {E : Env} (N : Nat) (hb : Base Try.prog (decorrelate_Has_C N) E 0) : Blk Try.prog (decorrelate_Has_C N) E [7, 41, 42] decorrelate_Has_S0 (decorrelate_Has_L3.drop 0) (fun y => decorrelate_Has_s3 N y.1.1 y.1.2.1 y.2.1) (decorrelate_Has_K3 N) :=
  Blk.chunkAt hb 4 (X := (decorrelate_Has_K3 N .normal)) (NxOk.end (by kernel_rfl)) rfl (fun x => by kernel_rfl)
theorem decorrelate_Has_4_b {E : Env} (N : Nat) (hb : Base Try.prog (decorrelate_Has_C N) E 0) : Blk Try.prog (decorrelate_Has_C N) E [] decorrelate_Has_S1 (decorrelate_Has_L.drop 6) (fun y => decorrelate_Has_4 N) (decorrelate_Has_K N) :=
  Blk.chunkAt hb 2 (X := (decorrelate_Has_K N .normal)) (NxOk.end (by kernel_rfl)) rfl (fun x => by kernel_rfl)
theorem decorrelate_Has_2_b {E : Env} (N : Nat) (hb : Base Try.prog (decorrelate_Has_C N) E 0) : Blk Try.prog (decorrelate_Has_C N) E [7, 41, 42] decorrelate_Has_S0 (decorrelate_Has_L.drop 5) (fun y => decorrelate_Has_2 N y.1.1 y.1.2.1 y.2.1) (decorrelate_Has_K N) :=
  Blk.loopAt (Nf := N) (hns := [7, 41, 42]) (ans := []) (hc := decorrelate_Has_S0) (ac := decorrelate_Has_S1) (bid := 0) (step := (fun y => decorrelate_Has_s3 N y.1.1 y.1.2.1 y.2.1)) (J := (fun e => (goK 0 [] decorrelate_Has_S1 (fun y => decorrelate_Has_4 N)) (decorrelate_Has_S1.st [] e))) hb (by kernel_rfl) (Blk.into (X := (goK 0 [] decorrelate_Has_S1 (fun y => decorrelate_Has_4 N))) (NxOk.go hb (decorrelate_Has_4_b N hb)) (fun x => by kernel_rfl)) (decorrelate_Has_s3_b N hb) (fun x => by kernel_rfl)
theorem decorrelate_Has_1_b {E : Env} (N : Nat) (hb : Base Try.prog (decorrelate_Has_C N) E 0) : Blk Try.prog (decorrelate_Has_C N) E [3, 4] decorrelate_Has_S2 (decorrelate_Has_L.drop 3) (fun y => decorrelate_Has_1 N y.2.1 y.2.2.1) (decorrelate_Has_K N) :=
  Blk.chunkAt hb 2 (X := (goK 0 [7, 41, 42] decorrelate_Has_S0 (fun y => decorrelate_Has_2 N y.1.1 y.1.2.1 y.2.1))) (NxOk.go hb (decorrelate_Has_2_b N hb)) rfl (fun x => by kernel_rfl)
theorem decorrelate_Has_b {E : Env} (N : Nat) (hb : Base Try.prog (decorrelate_Has_C N) E 0) : Blk Try.prog (decorrelate_Has_C N) E (List.range decorrelate_Has_S3.ks.length) decorrelate_Has_S3 (decorrelate_Has_L.drop 0) (fun y => decorrelate_Has N y.1.1 y.1.2.1 y.1.2.2.1) (decorrelate_Has_K N) :=
  Blk.chunkAt hb 3 (X := (goK 0 [3, 4] decorrelate_Has_S2 (fun y => decorrelate_Has_1 N y.2.1 y.2.2.1))) (NxOk.go hb (decorrelate_Has_1_b N hb)) rfl (fun x => by kernel_rfl)
noncomputable def decorrelate_Has_ctr (N : Nat) : Ctr := ⟨decorrelate_Has_S3, decorrelate_Has_S4.un [false], 0, (fun y => decorrelate_Has N y.1.1 y.1.2.1 y.1.2.2.1)⟩
theorem decorrelate_Has_ctrs (N : Nat) : CtrsOk Try.prog (decorrelate_Has_C N) := ctrs_of (Γ := decorrelate_Has_C N) (by
  intro p hp
  simp only [decorrelate_Has_C, List.mem_cons, List.not_mem_nil, or_false] at hp
  rcases hp with rfl | rfl | rfl | rfl
  · exact decorrelate_ofAddress_ok N
  · exact decorrelate_ofNumber_ok N
  · exact decorrelate_ofBox_ok N
  · exact decorrelate_side_has_ok N)
theorem decorrelate_Has_ok (N : Nat) : Ctr.ok Try.prog G_globs 51 (decorrelate_Has_ctr N) :=
  ctr_fn (Γ := decorrelate_Has_C N) (rfit := decorrelate_Has_S4) (bs := [false]) (res := [6]) (by kernel_rfl) (tys_ok G_tys_ok) (decorrelate_Has_ctrs N) Try.func51 (by kernel_rfl) (by kernel_rfl) Try.ntmps51 (by kernel_rfl) (by kernel_rfl) (by kernel_rfl) (by kernel_rfl) (fun E hb => decorrelate_Has_b N hb)
end Go.Proofs.Ytgbkkfpheahdfaa
namespace Go.Proofs.Ytgbkkfpheahdfaa
open Go
set_option maxRecDepth 100000
set_option linter.unusedVariables false
/-! ipsecgate/ipsecgateref20.Turn -/
abbrev ref20_Turn_R : Type := ((((Int × (UInt64 × (UInt64 × Unit))) × ((Int × (UInt64 × (UInt64 × Unit))) × (Int × (Int × (Int × Unit))))) × Unit) × (Unit))
noncomputable def ref20_Turn (N : Nat) (p_0 : ((Int × (UInt64 × (UInt64 × Unit))) × ((Int × (UInt64 × (UInt64 × Unit))) × (Int × (Int × (Int × Unit)))))) (outbound_1 : Bool) : Option ref20_Turn_R :=
  bif outbound_1 then
    some ((p_0, ()), (()))
  else
    some (((p_0.2.1, p_0.1, p_0.2.2.1, p_0.2.2.2.2.1, p_0.2.2.2.1, ()), ()), (()))
noncomputable def ref20_Turn_C (N : Nat) : Ctx := ⟨18, G_tys, [], G_globs⟩
noncomputable def ref20_Turn_S0 : Spec := ⟨[.val (.pair (.pair .i64 (.pair .u64 (.pair .u64 .unit))) (.pair (.pair .i64 (.pair .u64 (.pair .u64 .unit))) (.pair .i64 (.pair .i64 (.pair .i64 .unit))))), .val .bool], []⟩
noncomputable def ref20_Turn_S1 : Spec := ⟨[.fp (.pair (.pair .i64 (.pair .u64 (.pair .u64 .unit))) (.pair (.pair .i64 (.pair .u64 (.pair .u64 .unit))) (.pair .i64 (.pair .i64 (.pair .i64 .unit)))))], []⟩
noncomputable def ref20_Turn_K (_N : Nat) : XE → GS → Option ref20_Turn_R := retK 0 [4] [true] ref20_Turn_S1
noncomputable def ref20_Turn_L : List Code := (bodyOf (some Try.f106))
theorem ref20_Turn_b {E : Env} (N : Nat) (hb : Base Try.prog (ref20_Turn_C N) E 0) : Blk Try.prog (ref20_Turn_C N) E (List.range ref20_Turn_S0.ks.length) ref20_Turn_S0 (ref20_Turn_L.drop 0) (fun y => ref20_Turn N y.1.1 y.1.2.1) (ref20_Turn_K N) :=
  Blk.chunkAt hb 5 (X := (ref20_Turn_K N .normal)) (NxOk.end (by kernel_rfl)) rfl (fun x => by kernel_rfl)
noncomputable def ref20_Turn_ctr (N : Nat) : Ctr := ⟨ref20_Turn_S0, ref20_Turn_S1.un [true], 0, (fun y => ref20_Turn N y.1.1 y.1.2.1)⟩
theorem ref20_Turn_ctrs (N : Nat) : CtrsOk Try.prog (ref20_Turn_C N) := ctrs_nil rfl
theorem ref20_Turn_ok (N : Nat) : Ctr.ok Try.prog G_globs 106 (ref20_Turn_ctr N) :=
  ctr_fn (Γ := ref20_Turn_C N) (rfit := ref20_Turn_S1) (bs := [true]) (res := [4]) (by kernel_rfl) (tys_ok G_tys_ok) (ref20_Turn_ctrs N) Try.func106 (by kernel_rfl) (by kernel_rfl) Try.ntmps106 (by kernel_rfl) (by kernel_rfl) (by kernel_rfl) (by kernel_rfl) (fun E hb => ref20_Turn_b N hb)
end Go.Proofs.Ytgbkkfpheahdfaa
namespace Go.Proofs.Ytgbkkfpheahdfaa
open Go
set_option maxRecDepth 100000
set_option linter.unusedVariables false
/-! ipsecgate/ipsecgateref05.Between -/
abbrev ref05_Between_R : Type := ((Bool × Unit) × (Unit))
noncomputable def ref05_Between (N : Nat) (a_0 : (Int × (UInt64 × (UInt64 × Unit)))) (lo_1 : (Int × (UInt64 × (UInt64 × Unit)))) (hi_2 : (Int × (UInt64 × (UInt64 × Unit)))) : Option ref05_Between_R :=
  bif (decide (a_0.1 = lo_1.1)) then
    Option.bind (ref05_Less N a_0 lo_1) fun y2 =>
    bif (!y2.1.1) then
      Option.bind (ref05_Less N hi_2 a_0) fun y4 =>
      some (((!y4.1.1), ()), (()))
    else
      some ((false, ()), (()))
  else
    some ((false, ()), (()))
noncomputable def ref05_Between_C (N : Nat) : Ctx := ⟨24, G_tys, [(97, ref05_Less_ctr N)], G_globs⟩
noncomputable def ref05_Between_S0 : Spec := ⟨[.val (.pair .i64 (.pair .u64 (.pair .u64 .unit))), .val (.pair .i64 (.pair .u64 (.pair .u64 .unit))), .val (.pair .i64 (.pair .u64 (.pair .u64 .unit)))], []⟩
noncomputable def ref05_Between_S1 : Spec := ⟨[.val .bool], []⟩
noncomputable def ref05_Between_K (_N : Nat) : XE → GS → Option ref05_Between_R := retK 0 [6] [false] ref05_Between_S1
noncomputable def ref05_Between_L : List Code := (bodyOf (some Try.f107))
theorem ref05_Between_b {E : Env} (N : Nat) (hb : Base Try.prog (ref05_Between_C N) E 0) : Blk Try.prog (ref05_Between_C N) E (List.range ref05_Between_S0.ks.length) ref05_Between_S0 (ref05_Between_L.drop 0) (fun y => ref05_Between N y.1.1 y.1.2.1 y.1.2.2.1) (ref05_Between_K N) :=
  Blk.chunkAt hb 3 (X := (ref05_Between_K N .normal)) (NxOk.end (by kernel_rfl)) rfl (fun x => by kernel_rfl)
noncomputable def ref05_Between_ctr (N : Nat) : Ctr := ⟨ref05_Between_S0, ref05_Between_S1.un [false], 0, (fun y => ref05_Between N y.1.1 y.1.2.1 y.1.2.2.1)⟩
theorem ref05_Between_ctrs (N : Nat) : CtrsOk Try.prog (ref05_Between_C N) := ctrs_of (Γ := ref05_Between_C N) (by
  intro p hp
  simp only [ref05_Between_C, List.mem_cons, List.not_mem_nil, or_false] at hp
  rcases hp with rfl
  · exact ref05_Less_ok N)
theorem ref05_Between_ok (N : Nat) : Ctr.ok Try.prog G_globs 107 (ref05_Between_ctr N) :=
  ctr_fn (Γ := ref05_Between_C N) (rfit := ref05_Between_S1) (bs := [false]) (res := [6]) (by kernel_rfl) (tys_ok G_tys_ok) (ref05_Between_ctrs N) Try.func107 (by kernel_rfl) (by kernel_rfl) Try.ntmps107 (by kernel_rfl) (by kernel_rfl) (by kernel_rfl) (by kernel_rfl) (fun E hb => ref05_Between_b N hb)
end Go.Proofs.Ytgbkkfpheahdfaa
namespace Go.Proofs.Ytgbkkfpheahdfaa
open Go
set_option maxRecDepth 100000
set_option linter.unusedVariables false
/-! ipsecgate/ipsecgateref20.Has -/
abbrev ref20_Has_R : Type := ((Bool × Unit) × (Unit))
noncomputable def ref20_Has (N : Nat) (b_0 : ((Int × (UInt64 × (UInt64 × Unit))) × ((Int × (UInt64 × (UInt64 × Unit))) × ((Int × (UInt64 × (UInt64 × Unit))) × ((Int × (UInt64 × (UInt64 × Unit))) × (Int × (Int × ((List Int) × ((List Int) × Unit))))))))) (p_1 : ((Int × (UInt64 × (UInt64 × Unit))) × ((Int × (UInt64 × (UInt64 × Unit))) × (Int × (Int × (Int × Unit)))))) (outbound_2 : Bool) : Option ref20_Has_R :=
  Option.bind (ref20_Turn N p_1 outbound_2) fun y1 =>
  Option.bind (ref05_Between N y1.1.1.1 b_0.1 b_0.2.1) fun y2 =>
  bif y2.1.1 then
    Option.bind (ref05_Between N y1.1.1.2.1 b_0.2.2.1 b_0.2.2.2.1) fun y3 =>
    bif y3.1.1 then
      bif (decide (b_0.2.2.2.2.1 ≤ y1.1.1.2.2.1)) then
        bif (decide (y1.1.1.2.2.1 ≤ b_0.2.2.2.2.2.1)) then
          bif (decide ((b_0.2.2.2.2.2.2.1.getD 0 (0 : Int)) ≤ y1.1.1.2.2.2.1)) then
            bif (decide (y1.1.1.2.2.2.1 ≤ (b_0.2.2.2.2.2.2.1.getD 1 (0 : Int)))) then
              bif (decide ((b_0.2.2.2.2.2.2.2.1.getD 0 (0 : Int)) ≤ y1.1.1.2.2.2.2.1)) then
                some (((decide (y1.1.1.2.2.2.2.1 ≤ (b_0.2.2.2.2.2.2.2.1.getD 1 (0 : Int)))), ()), (()))
              else
                some ((false, ()), (()))
            else
              some ((false, ()), (()))
          else
            some ((false, ()), (()))
        else
          some ((false, ()), (()))
      else
        some ((false, ()), (()))
    else
      some ((false, ()), (()))
  else
    some ((false, ()), (()))
noncomputable def ref20_Has_C (N : Nat) : Ctx := ⟨73, G_tys, [(106, ref20_Turn_ctr N), (107, ref05_Between_ctr N)], G_globs⟩
noncomputable def ref20_Has_S0 : Spec := ⟨[.val (.pair (.pair .i64 (.pair .u64 (.pair .u64 .unit))) (.pair (.pair .i64 (.pair .u64 (.pair .u64 .unit))) (.pair (.pair .i64 (.pair .u64 (.pair .u64 .unit))) (.pair (.pair .i64 (.pair .u64 (.pair .u64 .unit))) (.pair .i64 (.pair .i64 (.pair (.arr 2 .i64) (.pair (.arr 2 .i64) .unit)))))))), .val (.pair (.pair .i64 (.pair .u64 (.pair .u64 .unit))) (.pair (.pair .i64 (.pair .u64 (.pair .u64 .unit))) (.pair .i64 (.pair .i64 (.pair .i64 .unit))))), .val .bool], []⟩
noncomputable def ref20_Has_S1 : Spec := ⟨[.val .bool], []⟩
noncomputable def ref20_Has_K (_N : Nat) : XE → GS → Option ref20_Has_R := retK 0 [6] [false] ref20_Has_S1
noncomputable def ref20_Has_L : List Code := (bodyOf (some Try.f52))
theorem ref20_Has_b {E : Env} (N : Nat) (hb : Base Try.prog (ref20_Has_C N) E 0) : Blk Try.prog (ref20_Has_C N) E (List.range ref20_Has_S0.ks.length) ref20_Has_S0 (ref20_Has_L.drop 0) (fun y => ref20_Has N y.1.1 y.1.2.1 y.1.2.2.1) (ref20_Has_K N) :=
  Blk.chunkAt hb 4 (X := (ref20_Has_K N .normal)) (NxOk.end (by kernel_rfl)) rfl (fun x => by kernel_rfl)
noncomputable def ref20_Has_ctr (N : Nat) : Ctr := ⟨ref20_Has_S0, ref20_Has_S1.un [false], 0, (fun y => ref20_Has N y.1.1 y.1.2.1 y.1.2.2.1)⟩
theorem ref20_Has_ctrs (N : Nat) : CtrsOk Try.prog (ref20_Has_C N) := ctrs_of (Γ := ref20_Has_C N) (by
  intro p hp
  simp only [ref20_Has_C, List.mem_cons, List.not_mem_nil, or_false] at hp
  rcases hp with rfl | rfl
  · exact ref20_Turn_ok N
  · exact ref05_Between_ok N)
theorem ref20_Has_ok (N : Nat) : Ctr.ok Try.prog G_globs 52 (ref20_Has_ctr N) :=
  ctr_fn (Γ := ref20_Has_C N) (rfit := ref20_Has_S1) (bs := [false]) (res := [6]) (by kernel_rfl) (tys_ok G_tys_ok) (ref20_Has_ctrs N) Try.func52 (by kernel_rfl) (by kernel_rfl) Try.ntmps52 (by kernel_rfl) (by kernel_rfl) (by kernel_rfl) (by kernel_rfl) (fun E hb => ref20_Has_b N hb)
end Go.Proofs.Ytgbkkfpheahdfaa
namespace Go.Proofs.Ytgbkkfpheahdfaa
open Go
set_option maxRecDepth 100000
set_option linter.unusedVariables false
/-! ipsecgate/ipsecgateref20.ends -/
abbrev ref20_ends_R : Type := ((Unit) × ((List (Int × (UInt64 × (UInt64 × Unit)))) × Unit))
noncomputable def ref20_ends_2 (N : Nat) (hi_6 : (Int × (UInt64 × (UInt64 × Unit)))) (out_7 : (List (Int × (UInt64 × (UInt64 × Unit))))) (last_9 : (Int × (UInt64 × (UInt64 × Unit)))) : Option ref20_ends_R :=
  bif (!(dq (.pair .i64 (.pair .u64 (.pair .u64 .unit))) hi_6 last_9)) then
    Option.bind (ref20_on N hi_6) fun y11 =>
    bif room (out_7.length + ([y11.1.1] : List (Int × (UInt64 × (UInt64 × Unit)))).length) 24 then
    some ((()), ((out_7 ++ ([y11.1.1] : List (Int × (UInt64 × (UInt64 × Unit))))), ()))
    else none
  else
    some ((()), (out_7, ()))
noncomputable def ref20_ends_1 (N : Nat) (lo_5 : (Int × (UInt64 × (UInt64 × Unit)))) (hi_6 : (Int × (UInt64 × (UInt64 × Unit)))) (out_7 : (List (Int × (UInt64 × (UInt64 × Unit))))) (first_8 : (Int × (UInt64 × (UInt64 × Unit)))) (last_9 : (Int × (UInt64 × (UInt64 × Unit)))) : Option ref20_ends_R :=
  bif (!(dq (.pair .i64 (.pair .u64 (.pair .u64 .unit))) lo_5 first_8)) then
    Option.bind (ref20_back N lo_5) fun y8 =>
    bif room (out_7.length + ([y8.1.1] : List (Int × (UInt64 × (UInt64 × Unit)))).length) 24 then
    ref20_ends_2 N hi_6 (out_7 ++ ([y8.1.1] : List (Int × (UInt64 × (UInt64 × Unit))))) last_9
    else none
  else
    ref20_ends_2 N hi_6 out_7 last_9
noncomputable def ref20_ends (N : Nat) (b_0 : ((Int × (UInt64 × (UInt64 × Unit))) × ((Int × (UInt64 × (UInt64 × Unit))) × ((Int × (UInt64 × (UInt64 × Unit))) × ((Int × (UInt64 × (UInt64 × Unit))) × (Int × (Int × ((List Int) × ((List Int) × Unit))))))))) (k_1 : Int) : Option ref20_ends_R :=
  Option.bind (ref20_low N b_0 k_1) fun y1 =>
  Option.bind (ref20_high N b_0 k_1) fun y2 =>
  Option.bind (ref20_number N (-1 : Int)) fun y3 =>
  Option.bind (ref20_number N (65535 : Int)) fun y4 =>
  bif (decide (k_1 = (0 : Int))) then
    Option.bind (ref18_All N y1.1.1.1) fun y6 =>
    ref20_ends_1 N y1.1.1 y2.1.1 ([y1.1.1, y2.1.1] : List (Int × (UInt64 × (UInt64 × Unit)))) y6.1.1 y6.1.2.1
  else
    bif (decide (k_1 = (1 : Int))) then
      Option.bind (ref18_All N y1.1.1.1) fun y14 =>
      ref20_ends_1 N y1.1.1 y2.1.1 ([y1.1.1, y2.1.1] : List (Int × (UInt64 × (UInt64 × Unit)))) y14.1.1 y14.1.2.1
    else
      bif (decide (k_1 = (2 : Int))) then
        Option.bind (ref20_number N (0 : Int)) fun y16 =>
        Option.bind (ref20_number N (255 : Int)) fun y17 =>
        ref20_ends_1 N y1.1.1 y2.1.1 ([y1.1.1, y2.1.1] : List (Int × (UInt64 × (UInt64 × Unit)))) y16.1.1 y17.1.1
      else
        ref20_ends_1 N y1.1.1 y2.1.1 ([y1.1.1, y2.1.1] : List (Int × (UInt64 × (UInt64 × Unit)))) y3.1.1 y4.1.1
noncomputable def ref20_ends_C (N : Nat) : Ctx := ⟨52, G_tys, [(94, ref20_low_ctr N), (96, ref20_high_ctr N), (152, ref20_number_ctr N), (142, ref18_All_ctr N), (101, ref20_back_ctr N), (102, ref20_on_ctr N)], G_globs⟩
noncomputable def ref20_ends_S0 : Spec := ⟨[.ref 0 (.pair .i64 (.pair .u64 (.pair .u64 .unit))), .row 1, .ref 2 (.pair .i64 (.pair .u64 (.pair .u64 .unit)))], [(.box 28 (.pair .i64 (.pair .u64 (.pair .u64 .unit))), .pos 0), (.row 28 (.pair .i64 (.pair .u64 (.pair .u64 .unit))), .pos 1), (.box 28 (.pair .i64 (.pair .u64 (.pair .u64 .unit))), .pos 2)]⟩
noncomputable def ref20_ends_S1 : Spec := ⟨[.ref 0 (.pair .i64 (.pair .u64 (.pair .u64 .unit))), .ref 1 (.pair .i64 (.pair .u64 (.pair .u64 .unit))), .row 2, .ref 3 (.pair .i64 (.pair .u64 (.pair .u64 .unit))), .ref 4 (.pair .i64 (.pair .u64 (.pair .u64 .unit)))], [(.box 28 (.pair .i64 (.pair .u64 (.pair .u64 .unit))), .pos 0), (.box 28 (.pair .i64 (.pair .u64 (.pair .u64 .unit))), .pos 1), (.row 28 (.pair .i64 (.pair .u64 (.pair .u64 .unit))), .pos 2), (.box 28 (.pair .i64 (.pair .u64 (.pair .u64 .unit))), .pos 3), (.box 28 (.pair .i64 (.pair .u64 (.pair .u64 .unit))), .pos 4)]⟩
noncomputable def ref20_ends_S2 : Spec := ⟨[.val (.pair (.pair .i64 (.pair .u64 (.pair .u64 .unit))) (.pair (.pair .i64 (.pair .u64 (.pair .u64 .unit))) (.pair (.pair .i64 (.pair .u64 (.pair .u64 .unit))) (.pair (.pair .i64 (.pair .u64 (.pair .u64 .unit))) (.pair .i64 (.pair .i64 (.pair (.arr 2 .i64) (.pair (.arr 2 .i64) .unit)))))))), .val .i64], []⟩
noncomputable def ref20_ends_S3 : Spec := ⟨[.row 0], [(.row 28 (.pair .i64 (.pair .u64 (.pair .u64 .unit))), .pos 0)]⟩
noncomputable def ref20_ends_K (_N : Nat) : XE → GS → Option ref20_ends_R := retK 0 [4] [false] ref20_ends_S3
noncomputable def ref20_ends_L : List Code := (bodyOf (some Try.f90))
theorem ref20_ends_2_b {E : Env} (N : Nat) (hb : Base Try.prog (ref20_ends_C N) E 0) : Blk Try.prog (ref20_ends_C N) E [6, 7, 9] ref20_ends_S0 (ref20_ends_L.drop 8) (fun y => ref20_ends_2 N y.2.1 y.2.2.1 y.2.2.2.1) (ref20_ends_K N) :=
  Blk.chunkAt hb 4 (X := (ref20_ends_K N .normal)) (NxOk.end (by kernel_rfl)) rfl (fun x => by kernel_rfl)
theorem ref20_ends_1_b {E : Env} (N : Nat) (hb : Base Try.prog (ref20_ends_C N) E 0) : Blk Try.prog (ref20_ends_C N) E [5, 6, 7, 8, 9] ref20_ends_S1 (ref20_ends_L.drop 6) (fun y => ref20_ends_1 N y.2.1 y.2.2.1 y.2.2.2.1 y.2.2.2.2.1 y.2.2.2.2.2.1) (ref20_ends_K N) :=
  Blk.chunkAt hb 2 (X := (goK 0 [6, 7, 9] ref20_ends_S0 (fun y => ref20_ends_2 N y.2.1 y.2.2.1 y.2.2.2.1))) (NxOk.go hb (ref20_ends_2_b N hb)) rfl (fun x => by kernel_rfl)
theorem ref20_ends_b {E : Env} (N : Nat) (hb : Base Try.prog (ref20_ends_C N) E 0) : Blk Try.prog (ref20_ends_C N) E (List.range ref20_ends_S2.ks.length) ref20_ends_S2 (ref20_ends_L.drop 0) (fun y => ref20_ends N y.1.1 y.1.2.1) (ref20_ends_K N) :=
  Blk.chunkAt hb 6 (X := (goK 0 [5, 6, 7, 8, 9] ref20_ends_S1 (fun y => ref20_ends_1 N y.2.1 y.2.2.1 y.2.2.2.1 y.2.2.2.2.1 y.2.2.2.2.2.1))) (NxOk.go hb (ref20_ends_1_b N hb)) rfl (fun x => by kernel_rfl)
noncomputable def ref20_ends_ctr (N : Nat) : Ctr := ⟨ref20_ends_S2, ref20_ends_S3.un [false], 0, (fun y => ref20_ends N y.1.1 y.1.2.1)⟩
theorem ref20_ends_ctrs (N : Nat) : CtrsOk Try.prog (ref20_ends_C N) := ctrs_of (Γ := ref20_ends_C N) (by
  intro p hp
  simp only [ref20_ends_C, List.mem_cons, List.not_mem_nil, or_false] at hp
  rcases hp with rfl | rfl | rfl | rfl | rfl | rfl
  · exact ref20_low_ok N
  · exact ref20_high_ok N
  · exact ref20_number_ok N
  · exact ref18_All_ok N
  · exact ref20_back_ok N
  · exact ref20_on_ok N)
theorem ref20_ends_ok (N : Nat) : Ctr.ok Try.prog G_globs 90 (ref20_ends_ctr N) :=
  ctr_fn (Γ := ref20_ends_C N) (rfit := ref20_ends_S3) (bs := [false]) (res := [4]) (by kernel_rfl) (tys_ok G_tys_ok) (ref20_ends_ctrs N) Try.func90 (by kernel_rfl) (by kernel_rfl) Try.ntmps90 (by kernel_rfl) (by kernel_rfl) (by kernel_rfl) (by kernel_rfl) (fun E hb => ref20_ends_b N hb)
end Go.Proofs.Ytgbkkfpheahdfaa
namespace Go.Proofs.Ytgbkkfpheahdfaa
open Go
set_option maxRecDepth 100000
set_option linter.unusedVariables false
/-! ipsecgate/ipsecgateref20.Corners -/
abbrev ref20_Corners_R : Type := ((Unit) × ((List ((Int × (UInt64 × (UInt64 × Unit))) × ((Int × (UInt64 × (UInt64 × Unit))) × (Int × (Int × (Int × Unit)))))) × Unit))
noncomputable def ref20_Corners_s12 (N : Nat) (l_0 : (List (Int × ((List UInt8) × ((List ((Int × (UInt64 × (UInt64 × Unit))) × ((Int × (UInt64 × (UInt64 × Unit))) × ((Int × (UInt64 × (UInt64 × Unit))) × ((Int × (UInt64 × (UInt64 × Unit))) × (Int × (Int × ((List Int) × ((List Int) × Unit))))))))) × Unit))))) (most_1 : Int) (i_6 : Int) (j_7 : Int) (n_14 : Int) (out_5 : (List ((Int × (UInt64 × (UInt64 × Unit))) × ((Int × (UInt64 × (UInt64 × Unit))) × (Int × (Int × (Int × Unit))))))) (v_9 : (List (Int × (UInt64 × (UInt64 × Unit))))) (w_10 : (List (Int × (UInt64 × (UInt64 × Unit))))) (x_11 : (List (Int × (UInt64 × (UInt64 × Unit))))) (y_12 : (List (Int × (UInt64 × (UInt64 × Unit))))) (z_13 : (List (Int × (UInt64 × (UInt64 × Unit))))) : Option (Lo (((List (Int × ((List UInt8) × ((List ((Int × (UInt64 × (UInt64 × Unit))) × ((Int × (UInt64 × (UInt64 × Unit))) × ((Int × (UInt64 × (UInt64 × Unit))) × ((Int × (UInt64 × (UInt64 × Unit))) × (Int × (Int × ((List Int) × ((List Int) × Unit))))))))) × Unit)))) × Int × Int × Int × Int × Unit) × ((List ((Int × (UInt64 × (UInt64 × Unit))) × ((Int × (UInt64 × (UInt64 × Unit))) × (Int × (Int × (Int × Unit)))))) × (List (Int × (UInt64 × (UInt64 × Unit)))) × (List (Int × (UInt64 × (UInt64 × Unit)))) × (List (Int × (UInt64 × (UInt64 × Unit)))) × (List (Int × (UInt64 × (UInt64 × Unit)))) × (List (Int × (UInt64 × (UInt64 × Unit)))) × Unit)) (((List (Int × ((List UInt8) × ((List ((Int × (UInt64 × (UInt64 × Unit))) × ((Int × (UInt64 × (UInt64 × Unit))) × ((Int × (UInt64 × (UInt64 × Unit))) × ((Int × (UInt64 × (UInt64 × Unit))) × (Int × (Int × ((List Int) × ((List Int) × Unit))))))))) × Unit)))) × Int × Int × Int × Unit) × ((List ((Int × (UInt64 × (UInt64 × Unit))) × ((Int × (UInt64 × (UInt64 × Unit))) × (Int × (Int × (Int × Unit)))))) × Unit)) (Lo (((List (Int × ((List UInt8) × ((List ((Int × (UInt64 × (UInt64 × Unit))) × ((Int × (UInt64 × (UInt64 × Unit))) × ((Int × (UInt64 × (UInt64 × Unit))) × ((Int × (UInt64 × (UInt64 × Unit))) × (Int × (Int × ((List Int) × ((List Int) × Unit))))))))) × Unit)))) × Int × Int × Int × Unit) × ((List ((Int × (UInt64 × (UInt64 × Unit))) × ((Int × (UInt64 × (UInt64 × Unit))) × (Int × (Int × (Int × Unit)))))) × Unit)) (((List (Int × ((List UInt8) × ((List ((Int × (UInt64 × (UInt64 × Unit))) × ((Int × (UInt64 × (UInt64 × Unit))) × ((Int × (UInt64 × (UInt64 × Unit))) × ((Int × (UInt64 × (UInt64 × Unit))) × (Int × (Int × ((List Int) × ((List Int) × Unit))))))))) × Unit)))) × Int × Int × Unit) × ((List ((Int × (UInt64 × (UInt64 × Unit))) × ((Int × (UInt64 × (UInt64 × Unit))) × (Int × (Int × (Int × Unit)))))) × Unit)) (Lo (((List (Int × ((List UInt8) × ((List ((Int × (UInt64 × (UInt64 × Unit))) × ((Int × (UInt64 × (UInt64 × Unit))) × ((Int × (UInt64 × (UInt64 × Unit))) × ((Int × (UInt64 × (UInt64 × Unit))) × (Int × (Int × ((List Int) × ((List Int) × Unit))))))))) × Unit)))) × Int × Int × Unit) × ((List ((Int × (UInt64 × (UInt64 × Unit))) × ((Int × (UInt64 × (UInt64 × Unit))) × (Int × (Int × (Int × Unit)))))) × Unit)) ((Unit) × ((List ((Int × (UInt64 × (UInt64 × Unit))) × ((Int × (UInt64 × (UInt64 × Unit))) × (Int × (Int × (Int × Unit)))))) × Unit)) ref20_Corners_R))) :=
  bif (decide (n_14 < (w64 ((w64 ((w64 ((w64 ((v_9.length : Int) * (w_10.length : Int))) * (x_11.length : Int))) * (y_12.length : Int))) * (z_13.length : Int))))) then
    bif (decide (most_1 ≤ (out_5.length : Int))) then
      some (.rt (.rt (.rt ((()), (out_5, ())))))
    else
      let x25 := (z_13.length : Int)
      bif !(decide (x25 = 0)) then
      bif inR (n_14.tmod x25) z_13.length then
      let x28 := (z_13.length : Int)
      bif !(decide (x28 = 0)) then
      let x29 := w64 (n_14.tdiv x28)
      let x30 := (y_12.length : Int)
      bif !(decide (x30 = 0)) then
      bif inR (x29.tmod x30) y_12.length then
      let x33 := (y_12.length : Int)
      bif !(decide (x33 = 0)) then
      let x34 := w64 (x29.tdiv x33)
      let x35 := (x_11.length : Int)
      bif !(decide (x35 = 0)) then
      bif inR (x34.tmod x35) x_11.length then
      let x38 := (x_11.length : Int)
      bif !(decide (x38 = 0)) then
      let x39 := w64 (x34.tdiv x38)
      let x40 := (w_10.length : Int)
      bif !(decide (x40 = 0)) then
      let x41 := w64 (x39.tdiv x40)
      bif inR x41 v_9.length then
      let x42 := (v_9.getD x41.toNat ((0 : Int), (0 : UInt64), (0 : UInt64), ()))
      let x43 := (w_10.length : Int)
      bif !(decide (x43 = 0)) then
      bif inR (x39.tmod x43) w_10.length then
      let x45 := (w_10.getD (x39.tmod x43).toNat ((0 : Int), (0 : UInt64), (0 : UInt64), ()))
      let x47 := w64 ((w64 ((x_11.getD (x34.tmod x35).toNat ((0 : Int), (0 : UInt64), (0 : UInt64), ())).2.2.1.toNat : Int)) - (1 : Int))
      let x49 := w64 ((w64 ((y_12.getD (x29.tmod x30).toNat ((0 : Int), (0 : UInt64), (0 : UInt64), ())).2.2.1.toNat : Int)) - (1 : Int))
      let x51 := w64 ((w64 ((z_13.getD (n_14.tmod x25).toNat ((0 : Int), (0 : UInt64), (0 : UInt64), ())).2.2.1.toNat : Int)) - (1 : Int))
      bif room (out_5.length + ([(x42, x45, x47, x49, x51, ())] : List ((Int × (UInt64 × (UInt64 × Unit))) × ((Int × (UInt64 × (UInt64 × Unit))) × (Int × (Int × (Int × Unit)))))).length) 72 then
      some (.go ((l_0, most_1, i_6, j_7, (w64 (n_14 + (1 : Int))), ()), ((out_5 ++ ([(x42, x45, x47, x49, x51, ())] : List ((Int × (UInt64 × (UInt64 × Unit))) × ((Int × (UInt64 × (UInt64 × Unit))) × (Int × (Int × (Int × Unit))))))), v_9, w_10, x_11, y_12, z_13, ())))
      else none
      else none
      else none
      else none
      else none
      else none
      else none
      else none
      else none
      else none
      else none
      else none
      else none
      else none
  else
    some (.br ((l_0, most_1, i_6, j_7, ()), (out_5, ())))
noncomputable def ref20_Corners_13 (N : Nat) (l_0 : (List (Int × ((List UInt8) × ((List ((Int × (UInt64 × (UInt64 × Unit))) × ((Int × (UInt64 × (UInt64 × Unit))) × ((Int × (UInt64 × (UInt64 × Unit))) × ((Int × (UInt64 × (UInt64 × Unit))) × (Int × (Int × ((List Int) × ((List Int) × Unit))))))))) × Unit))))) (most_1 : Int) (i_6 : Int) (j_7 : Int) (out_5 : (List ((Int × (UInt64 × (UInt64 × Unit))) × ((Int × (UInt64 × (UInt64 × Unit))) × (Int × (Int × (Int × Unit))))))) : Option (Lo (((List (Int × ((List UInt8) × ((List ((Int × (UInt64 × (UInt64 × Unit))) × ((Int × (UInt64 × (UInt64 × Unit))) × ((Int × (UInt64 × (UInt64 × Unit))) × ((Int × (UInt64 × (UInt64 × Unit))) × (Int × (Int × ((List Int) × ((List Int) × Unit))))))))) × Unit)))) × Int × Int × Int × Unit) × ((List ((Int × (UInt64 × (UInt64 × Unit))) × ((Int × (UInt64 × (UInt64 × Unit))) × (Int × (Int × (Int × Unit)))))) × Unit)) (((List (Int × ((List UInt8) × ((List ((Int × (UInt64 × (UInt64 × Unit))) × ((Int × (UInt64 × (UInt64 × Unit))) × ((Int × (UInt64 × (UInt64 × Unit))) × ((Int × (UInt64 × (UInt64 × Unit))) × (Int × (Int × ((List Int) × ((List Int) × Unit))))))))) × Unit)))) × Int × Int × Unit) × ((List ((Int × (UInt64 × (UInt64 × Unit))) × ((Int × (UInt64 × (UInt64 × Unit))) × (Int × (Int × (Int × Unit)))))) × Unit)) (Lo (((List (Int × ((List UInt8) × ((List ((Int × (UInt64 × (UInt64 × Unit))) × ((Int × (UInt64 × (UInt64 × Unit))) × ((Int × (UInt64 × (UInt64 × Unit))) × ((Int × (UInt64 × (UInt64 × Unit))) × (Int × (Int × ((List Int) × ((List Int) × Unit))))))))) × Unit)))) × Int × Int × Unit) × ((List ((Int × (UInt64 × (UInt64 × Unit))) × ((Int × (UInt64 × (UInt64 × Unit))) × (Int × (Int × (Int × Unit)))))) × Unit)) ((Unit) × ((List ((Int × (UInt64 × (UInt64 × Unit))) × ((Int × (UInt64 × (UInt64 × Unit))) × (Int × (Int × (Int × Unit)))))) × Unit)) ref20_Corners_R)) :=
  some (.go ((l_0, most_1, i_6, (w64 (j_7 + (1 : Int))), ()), (out_5, ())))
noncomputable def ref20_Corners_11 (N : Nat) (l_0 : (List (Int × ((List UInt8) × ((List ((Int × (UInt64 × (UInt64 × Unit))) × ((Int × (UInt64 × (UInt64 × Unit))) × ((Int × (UInt64 × (UInt64 × Unit))) × ((Int × (UInt64 × (UInt64 × Unit))) × (Int × (Int × ((List Int) × ((List Int) × Unit))))))))) × Unit))))) (most_1 : Int) (i_6 : Int) (j_7 : Int) (n_14 : Int) (out_5 : (List ((Int × (UInt64 × (UInt64 × Unit))) × ((Int × (UInt64 × (UInt64 × Unit))) × (Int × (Int × (Int × Unit))))))) (v_9 : (List (Int × (UInt64 × (UInt64 × Unit))))) (w_10 : (List (Int × (UInt64 × (UInt64 × Unit))))) (x_11 : (List (Int × (UInt64 × (UInt64 × Unit))))) (y_12 : (List (Int × (UInt64 × (UInt64 × Unit))))) (z_13 : (List (Int × (UInt64 × (UInt64 × Unit))))) : Option (Lo (((List (Int × ((List UInt8) × ((List ((Int × (UInt64 × (UInt64 × Unit))) × ((Int × (UInt64 × (UInt64 × Unit))) × ((Int × (UInt64 × (UInt64 × Unit))) × ((Int × (UInt64 × (UInt64 × Unit))) × (Int × (Int × ((List Int) × ((List Int) × Unit))))))))) × Unit)))) × Int × Int × Int × Unit) × ((List ((Int × (UInt64 × (UInt64 × Unit))) × ((Int × (UInt64 × (UInt64 × Unit))) × (Int × (Int × (Int × Unit)))))) × Unit)) (((List (Int × ((List UInt8) × ((List ((Int × (UInt64 × (UInt64 × Unit))) × ((Int × (UInt64 × (UInt64 × Unit))) × ((Int × (UInt64 × (UInt64 × Unit))) × ((Int × (UInt64 × (UInt64 × Unit))) × (Int × (Int × ((List Int) × ((List Int) × Unit))))))))) × Unit)))) × Int × Int × Unit) × ((List ((Int × (UInt64 × (UInt64 × Unit))) × ((Int × (UInt64 × (UInt64 × Unit))) × (Int × (Int × (Int × Unit)))))) × Unit)) (Lo (((List (Int × ((List UInt8) × ((List ((Int × (UInt64 × (UInt64 × Unit))) × ((Int × (UInt64 × (UInt64 × Unit))) × ((Int × (UInt64 × (UInt64 × Unit))) × ((Int × (UInt64 × (UInt64 × Unit))) × (Int × (Int × ((List Int) × ((List Int) × Unit))))))))) × Unit)))) × Int × Int × Unit) × ((List ((Int × (UInt64 × (UInt64 × Unit))) × ((Int × (UInt64 × (UInt64 × Unit))) × (Int × (Int × (Int × Unit)))))) × Unit)) ((Unit) × ((List ((Int × (UInt64 × (UInt64 × Unit))) × ((Int × (UInt64 × (UInt64 × Unit))) × (Int × (Int × (Int × Unit)))))) × Unit)) ref20_Corners_R)) :=
  loopK N (fun y => ref20_Corners_s12 N y.1.1 y.1.2.1 y.1.2.2.1 y.1.2.2.2.1 y.1.2.2.2.2.1 y.2.1 y.2.2.1 y.2.2.2.1 y.2.2.2.2.1 y.2.2.2.2.2.1 y.2.2.2.2.2.2.1) (fun (e : (((List (Int × ((List UInt8) × ((List ((Int × (UInt64 × (UInt64 × Unit))) × ((Int × (UInt64 × (UInt64 × Unit))) × ((Int × (UInt64 × (UInt64 × Unit))) × ((Int × (UInt64 × (UInt64 × Unit))) × (Int × (Int × ((List Int) × ((List Int) × Unit))))))))) × Unit)))) × Int × Int × Int × Unit) × ((List ((Int × (UInt64 × (UInt64 × Unit))) × ((Int × (UInt64 × (UInt64 × Unit))) × (Int × (Int × (Int × Unit)))))) × Unit))) => ref20_Corners_13 N e.1.1 e.1.2.1 e.1.2.2.1 e.1.2.2.2.1 e.2.1) ((l_0, most_1, i_6, j_7, n_14, ()), (out_5, v_9, w_10, x_11, y_12, z_13, ()))
noncomputable def ref20_Corners_10 (N : Nat) (l_0 : (List (Int × ((List UInt8) × ((List ((Int × (UInt64 × (UInt64 × Unit))) × ((Int × (UInt64 × (UInt64 × Unit))) × ((Int × (UInt64 × (UInt64 × Unit))) × ((Int × (UInt64 × (UInt64 × Unit))) × (Int × (Int × ((List Int) × ((List Int) × Unit))))))))) × Unit))))) (most_1 : Int) (i_6 : Int) (j_7 : Int) (out_5 : (List ((Int × (UInt64 × (UInt64 × Unit))) × ((Int × (UInt64 × (UInt64 × Unit))) × (Int × (Int × (Int × Unit))))))) : Option (Lo (((List (Int × ((List UInt8) × ((List ((Int × (UInt64 × (UInt64 × Unit))) × ((Int × (UInt64 × (UInt64 × Unit))) × ((Int × (UInt64 × (UInt64 × Unit))) × ((Int × (UInt64 × (UInt64 × Unit))) × (Int × (Int × ((List Int) × ((List Int) × Unit))))))))) × Unit)))) × Int × Int × Int × Unit) × ((List ((Int × (UInt64 × (UInt64 × Unit))) × ((Int × (UInt64 × (UInt64 × Unit))) × (Int × (Int × (Int × Unit)))))) × Unit)) (((List (Int × ((List UInt8) × ((List ((Int × (UInt64 × (UInt64 × Unit))) × ((Int × (UInt64 × (UInt64 × Unit))) × ((Int × (UInt64 × (UInt64 × Unit))) × ((Int × (UInt64 × (UInt64 × Unit))) × (Int × (Int × ((List Int) × ((List Int) × Unit))))))))) × Unit)))) × Int × Int × Unit) × ((List ((Int × (UInt64 × (UInt64 × Unit))) × ((Int × (UInt64 × (UInt64 × Unit))) × (Int × (Int × (Int × Unit)))))) × Unit)) (Lo (((List (Int × ((List UInt8) × ((List ((Int × (UInt64 × (UInt64 × Unit))) × ((Int × (UInt64 × (UInt64 × Unit))) × ((Int × (UInt64 × (UInt64 × Unit))) × ((Int × (UInt64 × (UInt64 × Unit))) × (Int × (Int × ((List Int) × ((List Int) × Unit))))))))) × Unit)))) × Int × Int × Unit) × ((List ((Int × (UInt64 × (UInt64 × Unit))) × ((Int × (UInt64 × (UInt64 × Unit))) × (Int × (Int × (Int × Unit)))))) × Unit)) ((Unit) × ((List ((Int × (UInt64 × (UInt64 × Unit))) × ((Int × (UInt64 × (UInt64 × Unit))) × (Int × (Int × (Int × Unit)))))) × Unit)) ref20_Corners_R)) :=
  bif inR i_6 l_0.length then
  let x6 := l_0.getD i_6.toNat ((0 : Int), ([] : List UInt8), ([] : List ((Int × (UInt64 × (UInt64 × Unit))) × ((Int × (UInt64 × (UInt64 × Unit))) × ((Int × (UInt64 × (UInt64 × Unit))) × ((Int × (UInt64 × (UInt64 × Unit))) × (Int × (Int × ((List Int) × ((List Int) × Unit))))))))), ())
  bif inR j_7 x6.2.2.1.length then
  let x7 := x6.2.2.1.getD j_7.toNat (((0 : Int), (0 : UInt64), (0 : UInt64), ()), ((0 : Int), (0 : UInt64), (0 : UInt64), ()), ((0 : Int), (0 : UInt64), (0 : UInt64), ()), ((0 : Int), (0 : UInt64), (0 : UInt64), ()), (0 : Int), (0 : Int), (List.replicate 2 (0 : Int)), (List.replicate 2 (0 : Int)), ())
  Option.bind (ref20_ends N x7 (0 : Int)) fun y8 =>
  Option.bind (ref20_ends N x7 (1 : Int)) fun y9 =>
  Option.bind (ref20_ends N x7 (2 : Int)) fun y10 =>
  Option.bind (ref20_ends N x7 (3 : Int)) fun y11 =>
  Option.bind (ref20_ends N x7 (4 : Int)) fun y12 =>
  ref20_Corners_11 N l_0 most_1 i_6 j_7 (0 : Int) out_5 y8.2.1 y9.2.1 y10.2.1 y11.2.1 y12.2.1
  else none
  else none
noncomputable def ref20_Corners_8 (N : Nat) (l_0 : (List (Int × ((List UInt8) × ((List ((Int × (UInt64 × (UInt64 × Unit))) × ((Int × (UInt64 × (UInt64 × Unit))) × ((Int × (UInt64 × (UInt64 × Unit))) × ((Int × (UInt64 × (UInt64 × Unit))) × (Int × (Int × ((List Int) × ((List Int) × Unit))))))))) × Unit))))) (most_1 : Int) (i_6 : Int) (j_7 : Int) (out_5 : (List ((Int × (UInt64 × (UInt64 × Unit))) × ((Int × (UInt64 × (UInt64 × Unit))) × (Int × (Int × (Int × Unit))))))) : Option (Lo (((List (Int × ((List UInt8) × ((List ((Int × (UInt64 × (UInt64 × Unit))) × ((Int × (UInt64 × (UInt64 × Unit))) × ((Int × (UInt64 × (UInt64 × Unit))) × ((Int × (UInt64 × (UInt64 × Unit))) × (Int × (Int × ((List Int) × ((List Int) × Unit))))))))) × Unit)))) × Int × Int × Int × Unit) × ((List ((Int × (UInt64 × (UInt64 × Unit))) × ((Int × (UInt64 × (UInt64 × Unit))) × (Int × (Int × (Int × Unit)))))) × Unit)) (((List (Int × ((List UInt8) × ((List ((Int × (UInt64 × (UInt64 × Unit))) × ((Int × (UInt64 × (UInt64 × Unit))) × ((Int × (UInt64 × (UInt64 × Unit))) × ((Int × (UInt64 × (UInt64 × Unit))) × (Int × (Int × ((List Int) × ((List Int) × Unit))))))))) × Unit)))) × Int × Int × Unit) × ((List ((Int × (UInt64 × (UInt64 × Unit))) × ((Int × (UInt64 × (UInt64 × Unit))) × (Int × (Int × (Int × Unit)))))) × Unit)) (Lo (((List (Int × ((List UInt8) × ((List ((Int × (UInt64 × (UInt64 × Unit))) × ((Int × (UInt64 × (UInt64 × Unit))) × ((Int × (UInt64 × (UInt64 × Unit))) × ((Int × (UInt64 × (UInt64 × Unit))) × (Int × (Int × ((List Int) × ((List Int) × Unit))))))))) × Unit)))) × Int × Int × Unit) × ((List ((Int × (UInt64 × (UInt64 × Unit))) × ((Int × (UInt64 × (UInt64 × Unit))) × (Int × (Int × (Int × Unit)))))) × Unit)) ((Unit) × ((List ((Int × (UInt64 × (UInt64 × Unit))) × ((Int × (UInt64 × (UInt64 × Unit))) × (Int × (Int × (Int × Unit)))))) × Unit)) ref20_Corners_R)) :=
  ref20_Corners_10 N l_0 most_1 i_6 j_7 out_5
noncomputable def ref20_Corners_s7 (N : Nat) (l_0 : (List (Int × ((List UInt8) × ((List ((Int × (UInt64 × (UInt64 × Unit))) × ((Int × (UInt64 × (UInt64 × Unit))) × ((Int × (UInt64 × (UInt64 × Unit))) × ((Int × (UInt64 × (UInt64 × Unit))) × (Int × (Int × ((List Int) × ((List Int) × Unit))))))))) × Unit))))) (most_1 : Int) (i_6 : Int) (j_7 : Int) (out_5 : (List ((Int × (UInt64 × (UInt64 × Unit))) × ((Int × (UInt64 × (UInt64 × Unit))) × (Int × (Int × (Int × Unit))))))) : Option (Lo (((List (Int × ((List UInt8) × ((List ((Int × (UInt64 × (UInt64 × Unit))) × ((Int × (UInt64 × (UInt64 × Unit))) × ((Int × (UInt64 × (UInt64 × Unit))) × ((Int × (UInt64 × (UInt64 × Unit))) × (Int × (Int × ((List Int) × ((List Int) × Unit))))))))) × Unit)))) × Int × Int × Int × Unit) × ((List ((Int × (UInt64 × (UInt64 × Unit))) × ((Int × (UInt64 × (UInt64 × Unit))) × (Int × (Int × (Int × Unit)))))) × Unit)) (((List (Int × ((List UInt8) × ((List ((Int × (UInt64 × (UInt64 × Unit))) × ((Int × (UInt64 × (UInt64 × Unit))) × ((Int × (UInt64 × (UInt64 × Unit))) × ((Int × (UInt64 × (UInt64 × Unit))) × (Int × (Int × ((List Int) × ((List Int) × Unit))))))))) × Unit)))) × Int × Int × Unit) × ((List ((Int × (UInt64 × (UInt64 × Unit))) × ((Int × (UInt64 × (UInt64 × Unit))) × (Int × (Int × (Int × Unit)))))) × Unit)) (Lo (((List (Int × ((List UInt8) × ((List ((Int × (UInt64 × (UInt64 × Unit))) × ((Int × (UInt64 × (UInt64 × Unit))) × ((Int × (UInt64 × (UInt64 × Unit))) × ((Int × (UInt64 × (UInt64 × Unit))) × (Int × (Int × ((List Int) × ((List Int) × Unit))))))))) × Unit)))) × Int × Int × Unit) × ((List ((Int × (UInt64 × (UInt64 × Unit))) × ((Int × (UInt64 × (UInt64 × Unit))) × (Int × (Int × (Int × Unit)))))) × Unit)) ((Unit) × ((List ((Int × (UInt64 × (UInt64 × Unit))) × ((Int × (UInt64 × (UInt64 × Unit))) × (Int × (Int × (Int × Unit)))))) × Unit)) ref20_Corners_R)) :=
  bif inR i_6 l_0.length then
  bif (decide (j_7 < ((l_0.getD i_6.toNat ((0 : Int), ([] : List UInt8), ([] : List ((Int × (UInt64 × (UInt64 × Unit))) × ((Int × (UInt64 × (UInt64 × Unit))) × ((Int × (UInt64 × (UInt64 × Unit))) × ((Int × (UInt64 × (UInt64 × Unit))) × (Int × (Int × ((List Int) × ((List Int) × Unit))))))))), ())).2.2.1.length : Int))) then
    ref20_Corners_8 N l_0 most_1 i_6 j_7 out_5
  else
    some (.br ((l_0, most_1, i_6, ()), (out_5, ())))
  else none
noncomputable def ref20_Corners_14 (N : Nat) (l_0 : (List (Int × ((List UInt8) × ((List ((Int × (UInt64 × (UInt64 × Unit))) × ((Int × (UInt64 × (UInt64 × Unit))) × ((Int × (UInt64 × (UInt64 × Unit))) × ((Int × (UInt64 × (UInt64 × Unit))) × (Int × (Int × ((List Int) × ((List Int) × Unit))))))))) × Unit))))) (most_1 : Int) (i_6 : Int) (out_5 : (List ((Int × (UInt64 × (UInt64 × Unit))) × ((Int × (UInt64 × (UInt64 × Unit))) × (Int × (Int × (Int × Unit))))))) : Option (Lo (((List (Int × ((List UInt8) × ((List ((Int × (UInt64 × (UInt64 × Unit))) × ((Int × (UInt64 × (UInt64 × Unit))) × ((Int × (UInt64 × (UInt64 × Unit))) × ((Int × (UInt64 × (UInt64 × Unit))) × (Int × (Int × ((List Int) × ((List Int) × Unit))))))))) × Unit)))) × Int × Int × Unit) × ((List ((Int × (UInt64 × (UInt64 × Unit))) × ((Int × (UInt64 × (UInt64 × Unit))) × (Int × (Int × (Int × Unit)))))) × Unit)) ((Unit) × ((List ((Int × (UInt64 × (UInt64 × Unit))) × ((Int × (UInt64 × (UInt64 × Unit))) × (Int × (Int × (Int × Unit)))))) × Unit)) ref20_Corners_R) :=
  some (.go ((l_0, most_1, (w64 (i_6 + (1 : Int))), ()), (out_5, ())))
noncomputable def ref20_Corners_6 (N : Nat) (l_0 : (List (Int × ((List UInt8) × ((List ((Int × (UInt64 × (UInt64 × Unit))) × ((Int × (UInt64 × (UInt64 × Unit))) × ((Int × (UInt64 × (UInt64 × Unit))) × ((Int × (UInt64 × (UInt64 × Unit))) × (Int × (Int × ((List Int) × ((List Int) × Unit))))))))) × Unit))))) (most_1 : Int) (i_6 : Int) (j_7 : Int) (out_5 : (List ((Int × (UInt64 × (UInt64 × Unit))) × ((Int × (UInt64 × (UInt64 × Unit))) × (Int × (Int × (Int × Unit))))))) : Option (Lo (((List (Int × ((List UInt8) × ((List ((Int × (UInt64 × (UInt64 × Unit))) × ((Int × (UInt64 × (UInt64 × Unit))) × ((Int × (UInt64 × (UInt64 × Unit))) × ((Int × (UInt64 × (UInt64 × Unit))) × (Int × (Int × ((List Int) × ((List Int) × Unit))))))))) × Unit)))) × Int × Int × Unit) × ((List ((Int × (UInt64 × (UInt64 × Unit))) × ((Int × (UInt64 × (UInt64 × Unit))) × (Int × (Int × (Int × Unit)))))) × Unit)) ((Unit) × ((List ((Int × (UInt64 × (UInt64 × Unit))) × ((Int × (UInt64 × (UInt64 × Unit))) × (Int × (Int × (Int × Unit)))))) × Unit)) ref20_Corners_R) :=
  loopK N (fun y => ref20_Corners_s7 N y.1.1 y.1.2.1 y.1.2.2.1 y.1.2.2.2.1 y.2.1) (fun (e : (((List (Int × ((List UInt8) × ((List ((Int × (UInt64 × (UInt64 × Unit))) × ((Int × (UInt64 × (UInt64 × Unit))) × ((Int × (UInt64 × (UInt64 × Unit))) × ((Int × (UInt64 × (UInt64 × Unit))) × (Int × (Int × ((List Int) × ((List Int) × Unit))))))))) × Unit)))) × Int × Int × Unit) × ((List ((Int × (UInt64 × (UInt64 × Unit))) × ((Int × (UInt64 × (UInt64 × Unit))) × (Int × (Int × (Int × Unit)))))) × Unit))) => ref20_Corners_14 N e.1.1 e.1.2.1 e.1.2.2.1 e.2.1) ((l_0, most_1, i_6, j_7, ()), (out_5, ()))
noncomputable def ref20_Corners_5 (N : Nat) (l_0 : (List (Int × ((List UInt8) × ((List ((Int × (UInt64 × (UInt64 × Unit))) × ((Int × (UInt64 × (UInt64 × Unit))) × ((Int × (UInt64 × (UInt64 × Unit))) × ((Int × (UInt64 × (UInt64 × Unit))) × (Int × (Int × ((List Int) × ((List Int) × Unit))))))))) × Unit))))) (most_1 : Int) (i_6 : Int) (out_5 : (List ((Int × (UInt64 × (UInt64 × Unit))) × ((Int × (UInt64 × (UInt64 × Unit))) × (Int × (Int × (Int × Unit))))))) : Option (Lo (((List (Int × ((List UInt8) × ((List ((Int × (UInt64 × (UInt64 × Unit))) × ((Int × (UInt64 × (UInt64 × Unit))) × ((Int × (UInt64 × (UInt64 × Unit))) × ((Int × (UInt64 × (UInt64 × Unit))) × (Int × (Int × ((List Int) × ((List Int) × Unit))))))))) × Unit)))) × Int × Int × Unit) × ((List ((Int × (UInt64 × (UInt64 × Unit))) × ((Int × (UInt64 × (UInt64 × Unit))) × (Int × (Int × (Int × Unit)))))) × Unit)) ((Unit) × ((List ((Int × (UInt64 × (UInt64 × Unit))) × ((Int × (UInt64 × (UInt64 × Unit))) × (Int × (Int × (Int × Unit)))))) × Unit)) ref20_Corners_R) :=
  ref20_Corners_6 N l_0 most_1 i_6 (0 : Int) out_5
noncomputable def ref20_Corners_3 (N : Nat) (l_0 : (List (Int × ((List UInt8) × ((List ((Int × (UInt64 × (UInt64 × Unit))) × ((Int × (UInt64 × (UInt64 × Unit))) × ((Int × (UInt64 × (UInt64 × Unit))) × ((Int × (UInt64 × (UInt64 × Unit))) × (Int × (Int × ((List Int) × ((List Int) × Unit))))))))) × Unit))))) (most_1 : Int) (i_6 : Int) (out_5 : (List ((Int × (UInt64 × (UInt64 × Unit))) × ((Int × (UInt64 × (UInt64 × Unit))) × (Int × (Int × (Int × Unit))))))) : Option (Lo (((List (Int × ((List UInt8) × ((List ((Int × (UInt64 × (UInt64 × Unit))) × ((Int × (UInt64 × (UInt64 × Unit))) × ((Int × (UInt64 × (UInt64 × Unit))) × ((Int × (UInt64 × (UInt64 × Unit))) × (Int × (Int × ((List Int) × ((List Int) × Unit))))))))) × Unit)))) × Int × Int × Unit) × ((List ((Int × (UInt64 × (UInt64 × Unit))) × ((Int × (UInt64 × (UInt64 × Unit))) × (Int × (Int × (Int × Unit)))))) × Unit)) ((Unit) × ((List ((Int × (UInt64 × (UInt64 × Unit))) × ((Int × (UInt64 × (UInt64 × Unit))) × (Int × (Int × (Int × Unit)))))) × Unit)) ref20_Corners_R) :=
  ref20_Corners_5 N l_0 most_1 i_6 out_5
noncomputable def ref20_Corners_s2 (N : Nat) (l_0 : (List (Int × ((List UInt8) × ((List ((Int × (UInt64 × (UInt64 × Unit))) × ((Int × (UInt64 × (UInt64 × Unit))) × ((Int × (UInt64 × (UInt64 × Unit))) × ((Int × (UInt64 × (UInt64 × Unit))) × (Int × (Int × ((List Int) × ((List Int) × Unit))))))))) × Unit))))) (most_1 : Int) (i_6 : Int) (out_5 : (List ((Int × (UInt64 × (UInt64 × Unit))) × ((Int × (UInt64 × (UInt64 × Unit))) × (Int × (Int × (Int × Unit))))))) : Option (Lo (((List (Int × ((List UInt8) × ((List ((Int × (UInt64 × (UInt64 × Unit))) × ((Int × (UInt64 × (UInt64 × Unit))) × ((Int × (UInt64 × (UInt64 × Unit))) × ((Int × (UInt64 × (UInt64 × Unit))) × (Int × (Int × ((List Int) × ((List Int) × Unit))))))))) × Unit)))) × Int × Int × Unit) × ((List ((Int × (UInt64 × (UInt64 × Unit))) × ((Int × (UInt64 × (UInt64 × Unit))) × (Int × (Int × (Int × Unit)))))) × Unit)) ((Unit) × ((List ((Int × (UInt64 × (UInt64 × Unit))) × ((Int × (UInt64 × (UInt64 × Unit))) × (Int × (Int × (Int × Unit)))))) × Unit)) ref20_Corners_R) :=
  bif (decide (i_6 < (l_0.length : Int))) then
    ref20_Corners_3 N l_0 most_1 i_6 out_5
  else
    some (.br ((()), (out_5, ())))
noncomputable def ref20_Corners_15 (N : Nat) (out_5 : (List ((Int × (UInt64 × (UInt64 × Unit))) × ((Int × (UInt64 × (UInt64 × Unit))) × (Int × (Int × (Int × Unit))))))) : Option ref20_Corners_R :=
  some ((()), (out_5, ()))
noncomputable def ref20_Corners_1 (N : Nat) (l_0 : (List (Int × ((List UInt8) × ((List ((Int × (UInt64 × (UInt64 × Unit))) × ((Int × (UInt64 × (UInt64 × Unit))) × ((Int × (UInt64 × (UInt64 × Unit))) × ((Int × (UInt64 × (UInt64 × Unit))) × (Int × (Int × ((List Int) × ((List Int) × Unit))))))))) × Unit))))) (most_1 : Int) (i_6 : Int) (out_5 : (List ((Int × (UInt64 × (UInt64 × Unit))) × ((Int × (UInt64 × (UInt64 × Unit))) × (Int × (Int × (Int × Unit))))))) : Option ref20_Corners_R :=
  loopK N (fun y => ref20_Corners_s2 N y.1.1 y.1.2.1 y.1.2.2.1 y.2.1) (fun (e : ((Unit) × ((List ((Int × (UInt64 × (UInt64 × Unit))) × ((Int × (UInt64 × (UInt64 × Unit))) × (Int × (Int × (Int × Unit)))))) × Unit))) => ref20_Corners_15 N e.2.1) ((l_0, most_1, i_6, ()), (out_5, ()))
noncomputable def ref20_Corners (N : Nat) (l_0 : (List (Int × ((List UInt8) × ((List ((Int × (UInt64 × (UInt64 × Unit))) × ((Int × (UInt64 × (UInt64 × Unit))) × ((Int × (UInt64 × (UInt64 × Unit))) × ((Int × (UInt64 × (UInt64 × Unit))) × (Int × (Int × ((List Int) × ((List Int) × Unit))))))))) × Unit))))) (most_1 : Int) : Option ref20_Corners_R :=
  ref20_Corners_1 N l_0 most_1 (0 : Int) ([] : List ((Int × (UInt64 × (UInt64 × Unit))) × ((Int × (UInt64 × (UInt64 × Unit))) × (Int × (Int × (Int × Unit))))))
noncomputable def ref20_Corners_C (N : Nat) : Ctx := ⟨141, G_tys, [(90, ref20_ends_ctr N)], G_globs⟩
noncomputable def ref20_Corners_S0 : Spec := ⟨[.val (.sl (.pair .i64 (.pair .str (.pair (.sl (.pair (.pair .i64 (.pair .u64 (.pair .u64 .unit))) (.pair (.pair .i64 (.pair .u64 (.pair .u64 .unit))) (.pair (.pair .i64 (.pair .u64 (.pair .u64 .unit))) (.pair (.pair .i64 (.pair .u64 (.pair .u64 .unit))) (.pair .i64 (.pair .i64 (.pair (.arr 2 .i64) (.pair (.arr 2 .i64) .unit))))))))) .unit)))), .val .i64, .row 0, .val .i64, .val .i64, .row 1, .row 2, .row 3, .row 4, .row 5, .val .i64], [(.row 30 (.pair (.pair .i64 (.pair .u64 (.pair .u64 .unit))) (.pair (.pair .i64 (.pair .u64 (.pair .u64 .unit))) (.pair .i64 (.pair .i64 (.pair .i64 .unit))))), .pos 2), (.row 28 (.pair .i64 (.pair .u64 (.pair .u64 .unit))), .pos 5), (.row 28 (.pair .i64 (.pair .u64 (.pair .u64 .unit))), .pos 6), (.row 28 (.pair .i64 (.pair .u64 (.pair .u64 .unit))), .pos 7), (.row 28 (.pair .i64 (.pair .u64 (.pair .u64 .unit))), .pos 8), (.row 28 (.pair .i64 (.pair .u64 (.pair .u64 .unit))), .pos 9)]⟩
noncomputable def ref20_Corners_S1 : Spec := ⟨[.val (.sl (.pair .i64 (.pair .str (.pair (.sl (.pair (.pair .i64 (.pair .u64 (.pair .u64 .unit))) (.pair (.pair .i64 (.pair .u64 (.pair .u64 .unit))) (.pair (.pair .i64 (.pair .u64 (.pair .u64 .unit))) (.pair (.pair .i64 (.pair .u64 (.pair .u64 .unit))) (.pair .i64 (.pair .i64 (.pair (.arr 2 .i64) (.pair (.arr 2 .i64) .unit))))))))) .unit)))), .val .i64, .row 0, .val .i64, .val .i64], [(.row 30 (.pair (.pair .i64 (.pair .u64 (.pair .u64 .unit))) (.pair (.pair .i64 (.pair .u64 (.pair .u64 .unit))) (.pair .i64 (.pair .i64 (.pair .i64 .unit))))), .pos 2)]⟩
noncomputable def ref20_Corners_S2 : Spec := ⟨[.val (.sl (.pair .i64 (.pair .str (.pair (.sl (.pair (.pair .i64 (.pair .u64 (.pair .u64 .unit))) (.pair (.pair .i64 (.pair .u64 (.pair .u64 .unit))) (.pair (.pair .i64 (.pair .u64 (.pair .u64 .unit))) (.pair (.pair .i64 (.pair .u64 (.pair .u64 .unit))) (.pair .i64 (.pair .i64 (.pair (.arr 2 .i64) (.pair (.arr 2 .i64) .unit))))))))) .unit)))), .val .i64, .row 0, .val .i64], [(.row 30 (.pair (.pair .i64 (.pair .u64 (.pair .u64 .unit))) (.pair (.pair .i64 (.pair .u64 (.pair .u64 .unit))) (.pair .i64 (.pair .i64 (.pair .i64 .unit))))), .pos 2)]⟩
noncomputable def ref20_Corners_S3 : Spec := ⟨[.row 0], [(.row 30 (.pair (.pair .i64 (.pair .u64 (.pair .u64 .unit))) (.pair (.pair .i64 (.pair .u64 (.pair .u64 .unit))) (.pair .i64 (.pair .i64 (.pair .i64 .unit))))), .pos 0)]⟩
noncomputable def ref20_Corners_S4 : Spec := ⟨[.val (.sl (.pair .i64 (.pair .str (.pair (.sl (.pair (.pair .i64 (.pair .u64 (.pair .u64 .unit))) (.pair (.pair .i64 (.pair .u64 (.pair .u64 .unit))) (.pair (.pair .i64 (.pair .u64 (.pair .u64 .unit))) (.pair (.pair .i64 (.pair .u64 (.pair .u64 .unit))) (.pair .i64 (.pair .i64 (.pair (.arr 2 .i64) (.pair (.arr 2 .i64) .unit))))))))) .unit)))), .val .i64], []⟩
noncomputable def ref20_Corners_K (_N : Nat) : XE → GS → Option ref20_Corners_R := retK 0 [4] [false] ref20_Corners_S3
noncomputable def ref20_Corners_L : List Code := (bodyOf (some Try.f40))
noncomputable def ref20_Corners_L2 : List Code := (loopOf (ref20_Corners_L[3]?))
noncomputable def ref20_Corners_L4b : List Code := (blockOf (ref20_Corners_L2[2]?))
noncomputable def ref20_Corners_L7 : List Code := (loopOf (ref20_Corners_L4b[1]?))
noncomputable def ref20_Corners_L9b : List Code := (blockOf (ref20_Corners_L7[2]?))
noncomputable def ref20_Corners_L12 : List Code := (loopOf (ref20_Corners_L9b[3]?))
noncomputable def ref20_Corners_K2 (N : Nat) : XE → GS → Option (Lo (((List (Int × ((List UInt8) × ((List ((Int × (UInt64 × (UInt64 × Unit))) × ((Int × (UInt64 × (UInt64 × Unit))) × ((Int × (UInt64 × (UInt64 × Unit))) × ((Int × (UInt64 × (UInt64 × Unit))) × (Int × (Int × ((List Int) × ((List Int) × Unit))))))))) × Unit)))) × Int × Int × Unit) × ((List ((Int × (UInt64 × (UInt64 × Unit))) × ((Int × (UInt64 × (UInt64 × Unit))) × (Int × (Int × (Int × Unit)))))) × Unit)) ((Unit) × ((List ((Int × (UInt64 × (UInt64 × Unit))) × ((Int × (UInt64 × (UInt64 × Unit))) × (Int × (Int × (Int × Unit)))))) × Unit)) ref20_Corners_R) := roundK (some 0) (fit 0 [0, 1, 5, 6] ref20_Corners_S2) (fit 0 [5] ref20_Corners_S3) (ref20_Corners_K N)
noncomputable def ref20_Corners_K4 (N : Nat) : XE → GS → Option (Lo (((List (Int × ((List UInt8) × ((List ((Int × (UInt64 × (UInt64 × Unit))) × ((Int × (UInt64 × (UInt64 × Unit))) × ((Int × (UInt64 × (UInt64 × Unit))) × ((Int × (UInt64 × (UInt64 × Unit))) × (Int × (Int × ((List Int) × ((List Int) × Unit))))))))) × Unit)))) × Int × Int × Unit) × ((List ((Int × (UInt64 × (UInt64 × Unit))) × ((Int × (UInt64 × (UInt64 × Unit))) × (Int × (Int × (Int × Unit)))))) × Unit)) ((Unit) × ((List ((Int × (UInt64 × (UInt64 × Unit))) × ((Int × (UInt64 × (UInt64 × Unit))) × (Int × (Int × (Int × Unit)))))) × Unit)) ref20_Corners_R) := blockK 1 (goK 0 [0, 1, 5, 6] ref20_Corners_S2 (fun y => ref20_Corners_14 N y.1.1 y.1.2.1 y.1.2.2.1 y.2.1)) (ref20_Corners_K2 N)
noncomputable def ref20_Corners_K7 (N : Nat) : XE → GS → Option (Lo (((List (Int × ((List UInt8) × ((List ((Int × (UInt64 × (UInt64 × Unit))) × ((Int × (UInt64 × (UInt64 × Unit))) × ((Int × (UInt64 × (UInt64 × Unit))) × ((Int × (UInt64 × (UInt64 × Unit))) × (Int × (Int × ((List Int) × ((List Int) × Unit))))))))) × Unit)))) × Int × Int × Int × Unit) × ((List ((Int × (UInt64 × (UInt64 × Unit))) × ((Int × (UInt64 × (UInt64 × Unit))) × (Int × (Int × (Int × Unit)))))) × Unit)) (((List (Int × ((List UInt8) × ((List ((Int × (UInt64 × (UInt64 × Unit))) × ((Int × (UInt64 × (UInt64 × Unit))) × ((Int × (UInt64 × (UInt64 × Unit))) × ((Int × (UInt64 × (UInt64 × Unit))) × (Int × (Int × ((List Int) × ((List Int) × Unit))))))))) × Unit)))) × Int × Int × Unit) × ((List ((Int × (UInt64 × (UInt64 × Unit))) × ((Int × (UInt64 × (UInt64 × Unit))) × (Int × (Int × (Int × Unit)))))) × Unit)) (Lo (((List (Int × ((List UInt8) × ((List ((Int × (UInt64 × (UInt64 × Unit))) × ((Int × (UInt64 × (UInt64 × Unit))) × ((Int × (UInt64 × (UInt64 × Unit))) × ((Int × (UInt64 × (UInt64 × Unit))) × (Int × (Int × ((List Int) × ((List Int) × Unit))))))))) × Unit)))) × Int × Int × Unit) × ((List ((Int × (UInt64 × (UInt64 × Unit))) × ((Int × (UInt64 × (UInt64 × Unit))) × (Int × (Int × (Int × Unit)))))) × Unit)) ((Unit) × ((List ((Int × (UInt64 × (UInt64 × Unit))) × ((Int × (UInt64 × (UInt64 × Unit))) × (Int × (Int × (Int × Unit)))))) × Unit)) ref20_Corners_R)) := roundK (some 2) (fit 0 [0, 1, 5, 6, 7] ref20_Corners_S1) (fit 0 [0, 1, 5, 6] ref20_Corners_S2) (ref20_Corners_K4 N)
noncomputable def ref20_Corners_K9 (N : Nat) : XE → GS → Option (Lo (((List (Int × ((List UInt8) × ((List ((Int × (UInt64 × (UInt64 × Unit))) × ((Int × (UInt64 × (UInt64 × Unit))) × ((Int × (UInt64 × (UInt64 × Unit))) × ((Int × (UInt64 × (UInt64 × Unit))) × (Int × (Int × ((List Int) × ((List Int) × Unit))))))))) × Unit)))) × Int × Int × Int × Unit) × ((List ((Int × (UInt64 × (UInt64 × Unit))) × ((Int × (UInt64 × (UInt64 × Unit))) × (Int × (Int × (Int × Unit)))))) × Unit)) (((List (Int × ((List UInt8) × ((List ((Int × (UInt64 × (UInt64 × Unit))) × ((Int × (UInt64 × (UInt64 × Unit))) × ((Int × (UInt64 × (UInt64 × Unit))) × ((Int × (UInt64 × (UInt64 × Unit))) × (Int × (Int × ((List Int) × ((List Int) × Unit))))))))) × Unit)))) × Int × Int × Unit) × ((List ((Int × (UInt64 × (UInt64 × Unit))) × ((Int × (UInt64 × (UInt64 × Unit))) × (Int × (Int × (Int × Unit)))))) × Unit)) (Lo (((List (Int × ((List UInt8) × ((List ((Int × (UInt64 × (UInt64 × Unit))) × ((Int × (UInt64 × (UInt64 × Unit))) × ((Int × (UInt64 × (UInt64 × Unit))) × ((Int × (UInt64 × (UInt64 × Unit))) × (Int × (Int × ((List Int) × ((List Int) × Unit))))))))) × Unit)))) × Int × Int × Unit) × ((List ((Int × (UInt64 × (UInt64 × Unit))) × ((Int × (UInt64 × (UInt64 × Unit))) × (Int × (Int × (Int × Unit)))))) × Unit)) ((Unit) × ((List ((Int × (UInt64 × (UInt64 × Unit))) × ((Int × (UInt64 × (UInt64 × Unit))) × (Int × (Int × (Int × Unit)))))) × Unit)) ref20_Corners_R)) := blockK 3 (goK 0 [0, 1, 5, 6, 7] ref20_Corners_S1 (fun y => ref20_Corners_13 N y.1.1 y.1.2.1 y.1.2.2.1 y.1.2.2.2.1 y.2.1)) (ref20_Corners_K7 N)
noncomputable def ref20_Corners_K12 (N : Nat) : XE → GS → Option (Lo (((List (Int × ((List UInt8) × ((List ((Int × (UInt64 × (UInt64 × Unit))) × ((Int × (UInt64 × (UInt64 × Unit))) × ((Int × (UInt64 × (UInt64 × Unit))) × ((Int × (UInt64 × (UInt64 × Unit))) × (Int × (Int × ((List Int) × ((List Int) × Unit))))))))) × Unit)))) × Int × Int × Int × Int × Unit) × ((List ((Int × (UInt64 × (UInt64 × Unit))) × ((Int × (UInt64 × (UInt64 × Unit))) × (Int × (Int × (Int × Unit)))))) × (List (Int × (UInt64 × (UInt64 × Unit)))) × (List (Int × (UInt64 × (UInt64 × Unit)))) × (List (Int × (UInt64 × (UInt64 × Unit)))) × (List (Int × (UInt64 × (UInt64 × Unit)))) × (List (Int × (UInt64 × (UInt64 × Unit)))) × Unit)) (((List (Int × ((List UInt8) × ((List ((Int × (UInt64 × (UInt64 × Unit))) × ((Int × (UInt64 × (UInt64 × Unit))) × ((Int × (UInt64 × (UInt64 × Unit))) × ((Int × (UInt64 × (UInt64 × Unit))) × (Int × (Int × ((List Int) × ((List Int) × Unit))))))))) × Unit)))) × Int × Int × Int × Unit) × ((List ((Int × (UInt64 × (UInt64 × Unit))) × ((Int × (UInt64 × (UInt64 × Unit))) × (Int × (Int × (Int × Unit)))))) × Unit)) (Lo (((List (Int × ((List UInt8) × ((List ((Int × (UInt64 × (UInt64 × Unit))) × ((Int × (UInt64 × (UInt64 × Unit))) × ((Int × (UInt64 × (UInt64 × Unit))) × ((Int × (UInt64 × (UInt64 × Unit))) × (Int × (Int × ((List Int) × ((List Int) × Unit))))))))) × Unit)))) × Int × Int × Int × Unit) × ((List ((Int × (UInt64 × (UInt64 × Unit))) × ((Int × (UInt64 × (UInt64 × Unit))) × (Int × (Int × (Int × Unit)))))) × Unit)) (((List (Int × ((List UInt8) × ((List ((Int × (UInt64 × (UInt64 × Unit))) × ((Int × (UInt64 × (UInt64 × Unit))) × ((Int × (UInt64 × (UInt64 × Unit))) × ((Int × (UInt64 × (UInt64 × Unit))) × (Int × (Int × ((List Int) × ((List Int) × Unit))))))))) × Unit)))) × Int × Int × Unit) × ((List ((Int × (UInt64 × (UInt64 × Unit))) × ((Int × (UInt64 × (UInt64 × Unit))) × (Int × (Int × (Int × Unit)))))) × Unit)) (Lo (((List (Int × ((List UInt8) × ((List ((Int × (UInt64 × (UInt64 × Unit))) × ((Int × (UInt64 × (UInt64 × Unit))) × ((Int × (UInt64 × (UInt64 × Unit))) × ((Int × (UInt64 × (UInt64 × Unit))) × (Int × (Int × ((List Int) × ((List Int) × Unit))))))))) × Unit)))) × Int × Int × Unit) × ((List ((Int × (UInt64 × (UInt64 × Unit))) × ((Int × (UInt64 × (UInt64 × Unit))) × (Int × (Int × (Int × Unit)))))) × Unit)) ((Unit) × ((List ((Int × (UInt64 × (UInt64 × Unit))) × ((Int × (UInt64 × (UInt64 × Unit))) × (Int × (Int × (Int × Unit)))))) × Unit)) ref20_Corners_R))) := roundK (some 4) (fit 0 [0, 1, 5, 6, 7, 9, 10, 11, 12, 13, 14] ref20_Corners_S0) (fit 0 [0, 1, 5, 6, 7] ref20_Corners_S1) (ref20_Corners_K9 N)
theorem ref20_Corners_s12_b {E : Env} (N : Nat) (hb : Base Try.prog (ref20_Corners_C N) E 0) : Blk Try.prog (ref20_Corners_C N) E [0, 1, 5, 6, 7, 9, 10, 11, 12, 13, 14] ref20_Corners_S0 (ref20_Corners_L12.drop 0) (fun y => ref20_Corners_s12 N y.1.1 y.1.2.1 y.1.2.2.1 y.1.2.2.2.1 y.1.2.2.2.2.1 y.2.1 y.2.2.1 y.2.2.2.1 y.2.2.2.2.1 y.2.2.2.2.2.1 y.2.2.2.2.2.2.1) (ref20_Corners_K12 N) :=
  Blk.chunkAt hb 4 (X := (ref20_Corners_K12 N .normal)) (NxOk.end (by kernel_rfl)) rfl (fun x => by kernel_rfl)
theorem ref20_Corners_13_b {E : Env} (N : Nat) (hb : Base Try.prog (ref20_Corners_C N) E 0) : Blk Try.prog (ref20_Corners_C N) E [0, 1, 5, 6, 7] ref20_Corners_S1 (ref20_Corners_L7.drop 3) (fun y => ref20_Corners_13 N y.1.1 y.1.2.1 y.1.2.2.1 y.1.2.2.2.1 y.2.1) (ref20_Corners_K7 N) :=
  Blk.chunkAt hb 1 (X := (ref20_Corners_K7 N .normal)) (NxOk.end (by kernel_rfl)) rfl (fun x => by kernel_rfl)
theorem ref20_Corners_11_b {E : Env} (N : Nat) (hb : Base Try.prog (ref20_Corners_C N) E 0) : Blk Try.prog (ref20_Corners_C N) E [0, 1, 5, 6, 7, 9, 10, 11, 12, 13, 14] ref20_Corners_S0 (ref20_Corners_L9b.drop 3) (fun y => ref20_Corners_11 N y.1.1 y.1.2.1 y.1.2.2.1 y.1.2.2.2.1 y.1.2.2.2.2.1 y.2.1 y.2.2.1 y.2.2.2.1 y.2.2.2.2.1 y.2.2.2.2.2.1 y.2.2.2.2.2.2.1) (ref20_Corners_K9 N) :=
  Blk.loopAt (Nf := N) (hns := [0, 1, 5, 6, 7, 9, 10, 11, 12, 13, 14]) (ans := [0, 1, 5, 6, 7]) (hc := ref20_Corners_S0) (ac := ref20_Corners_S1) (bid := 4) (step := (fun y => ref20_Corners_s12 N y.1.1 y.1.2.1 y.1.2.2.1 y.1.2.2.2.1 y.1.2.2.2.2.1 y.2.1 y.2.2.1 y.2.2.2.1 y.2.2.2.2.1 y.2.2.2.2.2.1 y.2.2.2.2.2.2.1)) (J := (fun e => (ref20_Corners_K9 N .normal) (ref20_Corners_S1.st [0, 1, 5, 6, 7] e))) hb (by kernel_rfl) (Blk.into (X := (ref20_Corners_K9 N .normal)) (NxOk.end (by kernel_rfl)) (fun x => by kernel_rfl)) (ref20_Corners_s12_b N hb) (fun x => by kernel_rfl)
theorem ref20_Corners_10_b {E : Env} (N : Nat) (hb : Base Try.prog (ref20_Corners_C N) E 0) : Blk Try.prog (ref20_Corners_C N) E [0, 1, 5, 6, 7] ref20_Corners_S1 (ref20_Corners_L9b.drop 0) (fun y => ref20_Corners_10 N y.1.1 y.1.2.1 y.1.2.2.1 y.1.2.2.2.1 y.2.1) (ref20_Corners_K9 N) :=
  Blk.chunkAt hb 3 (X := (goK 0 [0, 1, 5, 6, 7, 9, 10, 11, 12, 13, 14] ref20_Corners_S0 (fun y => ref20_Corners_11 N y.1.1 y.1.2.1 y.1.2.2.1 y.1.2.2.2.1 y.1.2.2.2.2.1 y.2.1 y.2.2.1 y.2.2.2.1 y.2.2.2.2.1 y.2.2.2.2.2.1 y.2.2.2.2.2.2.1))) (NxOk.go hb (ref20_Corners_11_b N hb)) rfl (fun x => by kernel_rfl)
theorem ref20_Corners_8_b {E : Env} (N : Nat) (hb : Base Try.prog (ref20_Corners_C N) E 0) : Blk Try.prog (ref20_Corners_C N) E [0, 1, 5, 6, 7] ref20_Corners_S1 (ref20_Corners_L7.drop 2) (fun y => ref20_Corners_8 N y.1.1 y.1.2.1 y.1.2.2.1 y.1.2.2.2.1 y.2.1) (ref20_Corners_K7 N) :=
  Blk.blockAt (bid := 3) (X := (goK 0 [0, 1, 5, 6, 7] ref20_Corners_S1 (fun y => ref20_Corners_13 N y.1.1 y.1.2.1 y.1.2.2.1 y.1.2.2.2.1 y.2.1))) (Y := (goK 0 [0, 1, 5, 6, 7] ref20_Corners_S1 (fun y => ref20_Corners_10 N y.1.1 y.1.2.1 y.1.2.2.1 y.1.2.2.2.1 y.2.1))) (by kernel_rfl) (NxOk.go hb (ref20_Corners_13_b N hb)) (NxOk.go hb (ref20_Corners_10_b N hb)) (fun x => by kernel_rfl)
theorem ref20_Corners_s7_b {E : Env} (N : Nat) (hb : Base Try.prog (ref20_Corners_C N) E 0) : Blk Try.prog (ref20_Corners_C N) E [0, 1, 5, 6, 7] ref20_Corners_S1 (ref20_Corners_L7.drop 0) (fun y => ref20_Corners_s7 N y.1.1 y.1.2.1 y.1.2.2.1 y.1.2.2.2.1 y.2.1) (ref20_Corners_K7 N) :=
  Blk.chunkAt hb 2 (X := (goK 0 [0, 1, 5, 6, 7] ref20_Corners_S1 (fun y => ref20_Corners_8 N y.1.1 y.1.2.1 y.1.2.2.1 y.1.2.2.2.1 y.2.1))) (NxOk.go hb (ref20_Corners_8_b N hb)) rfl (fun x => by kernel_rfl)
theorem ref20_Corners_14_b {E : Env} (N : Nat) (hb : Base Try.prog (ref20_Corners_C N) E 0) : Blk Try.prog (ref20_Corners_C N) E [0, 1, 5, 6] ref20_Corners_S2 (ref20_Corners_L2.drop 3) (fun y => ref20_Corners_14 N y.1.1 y.1.2.1 y.1.2.2.1 y.2.1) (ref20_Corners_K2 N) :=
  Blk.chunkAt hb 1 (X := (ref20_Corners_K2 N .normal)) (NxOk.end (by kernel_rfl)) rfl (fun x => by kernel_rfl)
theorem ref20_Corners_6_b {E : Env} (N : Nat) (hb : Base Try.prog (ref20_Corners_C N) E 0) : Blk Try.prog (ref20_Corners_C N) E [0, 1, 5, 6, 7] ref20_Corners_S1 (ref20_Corners_L4b.drop 1) (fun y => ref20_Corners_6 N y.1.1 y.1.2.1 y.1.2.2.1 y.1.2.2.2.1 y.2.1) (ref20_Corners_K4 N) :=
  Blk.loopAt (Nf := N) (hns := [0, 1, 5, 6, 7]) (ans := [0, 1, 5, 6]) (hc := ref20_Corners_S1) (ac := ref20_Corners_S2) (bid := 2) (step := (fun y => ref20_Corners_s7 N y.1.1 y.1.2.1 y.1.2.2.1 y.1.2.2.2.1 y.2.1)) (J := (fun e => (ref20_Corners_K4 N .normal) (ref20_Corners_S2.st [0, 1, 5, 6] e))) hb (by kernel_rfl) (Blk.into (X := (ref20_Corners_K4 N .normal)) (NxOk.end (by kernel_rfl)) (fun x => by kernel_rfl)) (ref20_Corners_s7_b N hb) (fun x => by kernel_rfl)
theorem ref20_Corners_5_b {E : Env} (N : Nat) (hb : Base Try.prog (ref20_Corners_C N) E 0) : Blk Try.prog (ref20_Corners_C N) E [0, 1, 5, 6] ref20_Corners_S2 (ref20_Corners_L4b.drop 0) (fun y => ref20_Corners_5 N y.1.1 y.1.2.1 y.1.2.2.1 y.2.1) (ref20_Corners_K4 N) :=
  Blk.chunkAt hb 1 (X := (goK 0 [0, 1, 5, 6, 7] ref20_Corners_S1 (fun y => ref20_Corners_6 N y.1.1 y.1.2.1 y.1.2.2.1 y.1.2.2.2.1 y.2.1))) (NxOk.go hb (ref20_Corners_6_b N hb)) rfl (fun x => by kernel_rfl)
theorem ref20_Corners_3_b {E : Env} (N : Nat) (hb : Base Try.prog (ref20_Corners_C N) E 0) : Blk Try.prog (ref20_Corners_C N) E [0, 1, 5, 6] ref20_Corners_S2 (ref20_Corners_L2.drop 2) (fun y => ref20_Corners_3 N y.1.1 y.1.2.1 y.1.2.2.1 y.2.1) (ref20_Corners_K2 N) :=
  Blk.blockAt (bid := 1) (X := (goK 0 [0, 1, 5, 6] ref20_Corners_S2 (fun y => ref20_Corners_14 N y.1.1 y.1.2.1 y.1.2.2.1 y.2.1))) (Y := (goK 0 [0, 1, 5, 6] ref20_Corners_S2 (fun y => ref20_Corners_5 N y.1.1 y.1.2.1 y.1.2.2.1 y.2.1))) (by kernel_rfl) (NxOk.go hb (ref20_Corners_14_b N hb)) (NxOk.go hb (ref20_Corners_5_b N hb)) (fun x => by kernel_rfl)
theorem ref20_Corners_s2_b {E : Env} (N : Nat) (hb : Base Try.prog (ref20_Corners_C N) E 0) : Blk Try.prog (ref20_Corners_C N) E [0, 1, 5, 6] ref20_Corners_S2 (ref20_Corners_L2.drop 0) (fun y => ref20_Corners_s2 N y.1.1 y.1.2.1 y.1.2.2.1 y.2.1) (ref20_Corners_K2 N) :=
  Blk.chunkAt hb 2 (X := (goK 0 [0, 1, 5, 6] ref20_Corners_S2 (fun y => ref20_Corners_3 N y.1.1 y.1.2.1 y.1.2.2.1 y.2.1))) (NxOk.go hb (ref20_Corners_3_b N hb)) rfl (fun x => by kernel_rfl)
theorem ref20_Corners_15_b {E : Env} (N : Nat) (hb : Base Try.prog (ref20_Corners_C N) E 0) : Blk Try.prog (ref20_Corners_C N) E [5] ref20_Corners_S3 (ref20_Corners_L.drop 4) (fun y => ref20_Corners_15 N y.2.1) (ref20_Corners_K N) :=
  Blk.chunkAt hb 2 (X := (ref20_Corners_K N .normal)) (NxOk.end (by kernel_rfl)) rfl (fun x => by kernel_rfl)
theorem ref20_Corners_1_b {E : Env} (N : Nat) (hb : Base Try.prog (ref20_Corners_C N) E 0) : Blk Try.prog (ref20_Corners_C N) E [0, 1, 5, 6] ref20_Corners_S2 (ref20_Corners_L.drop 3) (fun y => ref20_Corners_1 N y.1.1 y.1.2.1 y.1.2.2.1 y.2.1) (ref20_Corners_K N) :=
  Blk.loopAt (Nf := N) (hns := [0, 1, 5, 6]) (ans := [5]) (hc := ref20_Corners_S2) (ac := ref20_Corners_S3) (bid := 0) (step := (fun y => ref20_Corners_s2 N y.1.1 y.1.2.1 y.1.2.2.1 y.2.1)) (J := (fun e => (goK 0 [5] ref20_Corners_S3 (fun y => ref20_Corners_15 N y.2.1)) (ref20_Corners_S3.st [5] e))) hb (by kernel_rfl) (Blk.into (X := (goK 0 [5] ref20_Corners_S3 (fun y => ref20_Corners_15 N y.2.1))) (NxOk.go hb (ref20_Corners_15_b N hb)) (fun x => by kernel_rfl)) (ref20_Corners_s2_b N hb) (fun x => by kernel_rfl)
theorem ref20_Corners_b {E : Env} (N : Nat) (hb : Base Try.prog (ref20_Corners_C N) E 0) : Blk Try.prog (ref20_Corners_C N) E (List.range ref20_Corners_S4.ks.length) ref20_Corners_S4 (ref20_Corners_L.drop 0) (fun y => ref20_Corners N y.1.1 y.1.2.1) (ref20_Corners_K N) :=
  Blk.chunkAt hb 3 (X := (goK 0 [0, 1, 5, 6] ref20_Corners_S2 (fun y => ref20_Corners_1 N y.1.1 y.1.2.1 y.1.2.2.1 y.2.1))) (NxOk.go hb (ref20_Corners_1_b N hb)) rfl (fun x => by kernel_rfl)
noncomputable def ref20_Corners_ctr (N : Nat) : Ctr := ⟨ref20_Corners_S4, ref20_Corners_S3.un [false], 0, (fun y => ref20_Corners N y.1.1 y.1.2.1)⟩
theorem ref20_Corners_ctrs (N : Nat) : CtrsOk Try.prog (ref20_Corners_C N) := ctrs_of (Γ := ref20_Corners_C N) (by
  intro p hp
  simp only [ref20_Corners_C, List.mem_cons, List.not_mem_nil, or_false] at hp
  rcases hp with rfl
  · exact ref20_ends_ok N)
theorem ref20_Corners_ok (N : Nat) : Ctr.ok Try.prog G_globs 40 (ref20_Corners_ctr N) :=
  ctr_fn (Γ := ref20_Corners_C N) (rfit := ref20_Corners_S3) (bs := [false]) (res := [4]) (by kernel_rfl) (tys_ok G_tys_ok) (ref20_Corners_ctrs N) Try.func40 (by kernel_rfl) (by kernel_rfl) Try.ntmps40 (by kernel_rfl) (by kernel_rfl) (by kernel_rfl) (by kernel_rfl) (fun E hb => ref20_Corners_b N hb)
end Go.Proofs.Ytgbkkfpheahdfaa
namespace Go.Proofs.Ytgbkkfpheahdfaa
open Go
set_option maxRecDepth 100000
set_option linter.unusedVariables false
/-! ipsecgate/ipsecgatelaw20.DecorrelateBoxes -/
abbrev law20_DecorrelateBoxes_R : Type := ((Bool × Unit) × (Unit))
noncomputable def law20_DecorrelateBoxes_s2 (N : Nat) (outbound_1 : Bool) (t_47 : Int) (t_48 : Int) (c_5 : ((List UInt8) × (Int × Unit))) (a_6 : ((Int × (UInt64 × (UInt64 × Unit))) × ((Int × (UInt64 × (UInt64 × Unit))) × ((Int × (UInt64 × (UInt64 × Unit))) × ((Int × (UInt64 × (UInt64 × Unit))) × (Int × (Int × ((List Int) × ((List Int) × Unit))))))))) (b_7 : ((Int × (UInt64 × (UInt64 × Unit))) × ((Int × (UInt64 × (UInt64 × Unit))) × ((Int × (UInt64 × (UInt64 × Unit))) × ((Int × (UInt64 × (UInt64 × Unit))) × (Int × (Int × ((List Int) × ((List Int) × Unit))))))))) (t_46 : (List (List ((Int × (UInt64 × (UInt64 × Unit))) × ((Int × (UInt64 × (UInt64 × Unit))) × ((Int × (UInt64 × (UInt64 × Unit))) × ((Int × (UInt64 × (UInt64 × Unit))) × (Int × (Int × ((List Int) × ((List Int) × Unit))))))))))) : Option (Lo ((Bool × Int × Int × Unit) × (((List UInt8) × (Int × Unit)) × ((Int × (UInt64 × (UInt64 × Unit))) × ((Int × (UInt64 × (UInt64 × Unit))) × ((Int × (UInt64 × (UInt64 × Unit))) × ((Int × (UInt64 × (UInt64 × Unit))) × (Int × (Int × ((List Int) × ((List Int) × Unit)))))))) × ((Int × (UInt64 × (UInt64 × Unit))) × ((Int × (UInt64 × (UInt64 × Unit))) × ((Int × (UInt64 × (UInt64 × Unit))) × ((Int × (UInt64 × (UInt64 × Unit))) × (Int × (Int × ((List Int) × ((List Int) × Unit)))))))) × (List (List ((Int × (UInt64 × (UInt64 × Unit))) × ((Int × (UInt64 × (UInt64 × Unit))) × ((Int × (UInt64 × (UInt64 × Unit))) × ((Int × (UInt64 × (UInt64 × Unit))) × (Int × (Int × ((List Int) × ((List Int) × Unit)))))))))) × Unit)) ((Bool × Unit) × (((List UInt8) × (Int × Unit)) × ((Int × (UInt64 × (UInt64 × Unit))) × ((Int × (UInt64 × (UInt64 × Unit))) × ((Int × (UInt64 × (UInt64 × Unit))) × ((Int × (UInt64 × (UInt64 × Unit))) × (Int × (Int × ((List Int) × ((List Int) × Unit)))))))) × ((Int × (UInt64 × (UInt64 × Unit))) × ((Int × (UInt64 × (UInt64 × Unit))) × ((Int × (UInt64 × (UInt64 × Unit))) × ((Int × (UInt64 × (UInt64 × Unit))) × (Int × (Int × ((List Int) × ((List Int) × Unit)))))))) × Unit)) law20_DecorrelateBoxes_R) :=
  bif (decide (t_48 < t_47)) then
    bif inR t_48 t_46.length then
    let x13 := (t_46.getD t_48.toNat (List.replicate 2 (((0 : Int), (0 : UInt64), (0 : UInt64), ()), ((0 : Int), (0 : UInt64), (0 : UInt64), ()), ((0 : Int), (0 : UInt64), (0 : UInt64), ()), ((0 : Int), (0 : UInt64), (0 : UInt64), ()), (0 : Int), (0 : Int), (List.replicate 2 (0 : Int)), (List.replicate 2 (0 : Int)), ())))
    Option.bind (ref19_CheckBox N (x13.getD 0 (((0 : Int), (0 : UInt64), (0 : UInt64), ()), ((0 : Int), (0 : UInt64), (0 : UInt64), ()), ((0 : Int), (0 : UInt64), (0 : UInt64), ()), ((0 : Int), (0 : UInt64), (0 : UInt64), ()), (0 : Int), (0 : Int), (List.replicate 2 (0 : Int)), (List.replicate 2 (0 : Int)), ()))) fun y15 =>
    bif (!(decide (y15.1.1 = (0 : Int)))) then
      some (.go ((outbound_1, t_47, (w64 (t_48 + (1 : Int))), ()), (c_5, a_6, b_7, t_46, ())))
    else
      Option.bind (decorrelate_Meet N (x13.getD 0 (((0 : Int), (0 : UInt64), (0 : UInt64), ()), ((0 : Int), (0 : UInt64), (0 : UInt64), ()), ((0 : Int), (0 : UInt64), (0 : UInt64), ()), ((0 : Int), (0 : UInt64), (0 : UInt64), ()), (0 : Int), (0 : Int), (List.replicate 2 (0 : Int)), (List.replicate 2 (0 : Int)), ())) (x13.getD 1 (((0 : Int), (0 : UInt64), (0 : UInt64), ()), ((0 : Int), (0 : UInt64), (0 : UInt64), ()), ((0 : Int), (0 : UInt64), (0 : UInt64), ()), ((0 : Int), (0 : UInt64), (0 : UInt64), ()), (0 : Int), (0 : Int), (List.replicate 2 (0 : Int)), (List.replicate 2 (0 : Int)), ()))) fun y20 =>
      Option.bind (ref20_Meet N (x13.getD 0 (((0 : Int), (0 : UInt64), (0 : UInt64), ()), ((0 : Int), (0 : UInt64), (0 : UInt64), ()), ((0 : Int), (0 : UInt64), (0 : UInt64), ()), ((0 : Int), (0 : UInt64), (0 : UInt64), ()), (0 : Int), (0 : Int), (List.replicate 2 (0 : Int)), (List.replicate 2 (0 : Int)), ())) (x13.getD 1 (((0 : Int), (0 : UInt64), (0 : UInt64), ()), ((0 : Int), (0 : UInt64), (0 : UInt64), ()), ((0 : Int), (0 : UInt64), (0 : UInt64), ()), ((0 : Int), (0 : UInt64), (0 : UInt64), ()), (0 : Int), (0 : Int), (List.replicate 2 (0 : Int)), (List.replicate 2 (0 : Int)), ()))) fun y23 =>
      bif (!(dq (.pair (.pair .i64 (.pair .u64 (.pair .u64 .unit))) (.pair (.pair .i64 (.pair .u64 (.pair .u64 .unit))) (.pair (.pair .i64 (.pair .u64 (.pair .u64 .unit))) (.pair (.pair .i64 (.pair .u64 (.pair .u64 .unit))) (.pair .i64 (.pair .i64 (.pair (.arr 2 .i64) (.pair (.arr 2 .i64) .unit)))))))) y20.1.1 y23.1.1)) then
        some (.rt ((false, ()), (())))
      else
        bif (!(decide (y20.1.2.1 = y23.1.2.1))) then
          some (.rt ((false, ()), (())))
        else
          Option.bind (decorrelate_Minus N (x13.getD 0 (((0 : Int), (0 : UInt64), (0 : UInt64), ()), ((0 : Int), (0 : UInt64), (0 : UInt64), ()), ((0 : Int), (0 : UInt64), (0 : UInt64), ()), ((0 : Int), (0 : UInt64), (0 : UInt64), ()), (0 : Int), (0 : Int), (List.replicate 2 (0 : Int)), (List.replicate 2 (0 : Int)), ())) (x13.getD 1 (((0 : Int), (0 : UInt64), (0 : UInt64), ()), ((0 : Int), (0 : UInt64), (0 : UInt64), ()), ((0 : Int), (0 : UInt64), (0 : UInt64), ()), ((0 : Int), (0 : UInt64), (0 : UInt64), ()), (0 : Int), (0 : Int), (List.replicate 2 (0 : Int)), (List.replicate 2 (0 : Int)), ()))) fun y28 =>
          Option.bind (ref20_Minus N (x13.getD 0 (((0 : Int), (0 : UInt64), (0 : UInt64), ()), ((0 : Int), (0 : UInt64), (0 : UInt64), ()), ((0 : Int), (0 : UInt64), (0 : UInt64), ()), ((0 : Int), (0 : UInt64), (0 : UInt64), ()), (0 : Int), (0 : Int), (List.replicate 2 (0 : Int)), (List.replicate 2 (0 : Int)), ())) (x13.getD 1 (((0 : Int), (0 : UInt64), (0 : UInt64), ()), ((0 : Int), (0 : UInt64), (0 : UInt64), ()), ((0 : Int), (0 : UInt64), (0 : UInt64), ()), ((0 : Int), (0 : UInt64), (0 : UInt64), ()), (0 : Int), (0 : Int), (List.replicate 2 (0 : Int)), (List.replicate 2 (0 : Int)), ()))) fun y31 =>
          Option.bind (ref19_SameBoxes N y28.2.1 y31.2.1) fun y32 =>
          bif (!y32.1.1) then
            some (.rt ((false, ()), (())))
          else
            Option.bind (decorrelate_Inside N (x13.getD 0 (((0 : Int), (0 : UInt64), (0 : UInt64), ()), ((0 : Int), (0 : UInt64), (0 : UInt64), ()), ((0 : Int), (0 : UInt64), (0 : UInt64), ()), ((0 : Int), (0 : UInt64), (0 : UInt64), ()), (0 : Int), (0 : Int), (List.replicate 2 (0 : Int)), (List.replicate 2 (0 : Int)), ())) (x13.getD 1 (((0 : Int), (0 : UInt64), (0 : UInt64), ()), ((0 : Int), (0 : UInt64), (0 : UInt64), ()), ((0 : Int), (0 : UInt64), (0 : UInt64), ()), ((0 : Int), (0 : UInt64), (0 : UInt64), ()), (0 : Int), (0 : Int), (List.replicate 2 (0 : Int)), (List.replicate 2 (0 : Int)), ()))) fun y36 =>
            Option.bind (ref20_Inside N (x13.getD 0 (((0 : Int), (0 : UInt64), (0 : UInt64), ()), ((0 : Int), (0 : UInt64), (0 : UInt64), ()), ((0 : Int), (0 : UInt64), (0 : UInt64), ()), ((0 : Int), (0 : UInt64), (0 : UInt64), ()), (0 : Int), (0 : Int), (List.replicate 2 (0 : Int)), (List.replicate 2 (0 : Int)), ())) (x13.getD 1 (((0 : Int), (0 : UInt64), (0 : UInt64), ()), ((0 : Int), (0 : UInt64), (0 : UInt64), ()), ((0 : Int), (0 : UInt64), (0 : UInt64), ()), ((0 : Int), (0 : UInt64), (0 : UInt64), ()), (0 : Int), (0 : Int), (List.replicate 2 (0 : Int)), (List.replicate 2 (0 : Int)), ()))) fun y39 =>
            bif (!(decide (y36.1.1 = y39.1.1))) then
              some (.rt ((false, ()), (())))
            else
              some (.go ((outbound_1, t_47, (w64 (t_48 + (1 : Int))), ()), (c_5, a_6, b_7, t_46, ())))
    else none
  else
    some (.br ((outbound_1, ()), (c_5, a_6, b_7, ())))
noncomputable def law20_DecorrelateBoxes_s5 (N : Nat) (outbound_1 : Bool) (i_16 : Int) (c_5 : ((List UInt8) × (Int × Unit))) (a_6 : ((Int × (UInt64 × (UInt64 × Unit))) × ((Int × (UInt64 × (UInt64 × Unit))) × ((Int × (UInt64 × (UInt64 × Unit))) × ((Int × (UInt64 × (UInt64 × Unit))) × (Int × (Int × ((List Int) × ((List Int) × Unit))))))))) (b_7 : ((Int × (UInt64 × (UInt64 × Unit))) × ((Int × (UInt64 × (UInt64 × Unit))) × ((Int × (UInt64 × (UInt64 × Unit))) × ((Int × (UInt64 × (UInt64 × Unit))) × (Int × (Int × ((List Int) × ((List Int) × Unit))))))))) : Option (Lo ((Bool × Int × Unit) × (((List UInt8) × (Int × Unit)) × ((Int × (UInt64 × (UInt64 × Unit))) × ((Int × (UInt64 × (UInt64 × Unit))) × ((Int × (UInt64 × (UInt64 × Unit))) × ((Int × (UInt64 × (UInt64 × Unit))) × (Int × (Int × ((List Int) × ((List Int) × Unit)))))))) × ((Int × (UInt64 × (UInt64 × Unit))) × ((Int × (UInt64 × (UInt64 × Unit))) × ((Int × (UInt64 × (UInt64 × Unit))) × ((Int × (UInt64 × (UInt64 × Unit))) × (Int × (Int × ((List Int) × ((List Int) × Unit)))))))) × Unit)) ((Bool × Unit) × (((Int × (UInt64 × (UInt64 × Unit))) × ((Int × (UInt64 × (UInt64 × Unit))) × ((Int × (UInt64 × (UInt64 × Unit))) × ((Int × (UInt64 × (UInt64 × Unit))) × (Int × (Int × ((List Int) × ((List Int) × Unit)))))))) × ((Int × (UInt64 × (UInt64 × Unit))) × ((Int × (UInt64 × (UInt64 × Unit))) × ((Int × (UInt64 × (UInt64 × Unit))) × ((Int × (UInt64 × (UInt64 × Unit))) × (Int × (Int × ((List Int) × ((List Int) × Unit)))))))) × Unit)) law20_DecorrelateBoxes_R) :=
  bif (decide (i_16 < (6 : Int))) then
    Option.bind (make_Codes_Packet N c_5) fun y43 =>
    Option.bind (decorrelate_Has N a_6 y43.1.1 outbound_1) fun y44 =>
    Option.bind (ref20_Has N a_6 y43.1.1 outbound_1) fun y45 =>
    bif (!(decide (y44.1.1 = y45.1.1))) then
      some (.rt ((false, ()), (())))
    else
      some (.go ((outbound_1, (w64 (i_16 + (1 : Int))), ()), (y43.2.1, a_6, b_7, ())))
  else
    some (.br ((outbound_1, ()), (a_6, b_7, ())))
noncomputable def law20_DecorrelateBoxes_s8 (N : Nat) (outbound_1 : Bool) (t_128 : Int) (t_129 : Int) (b_7 : ((Int × (UInt64 × (UInt64 × Unit))) × ((Int × (UInt64 × (UInt64 × Unit))) × ((Int × (UInt64 × (UInt64 × Unit))) × ((Int × (UInt64 × (UInt64 × Unit))) × (Int × (Int × ((List Int) × ((List Int) × Unit))))))))) (t_127 : (List ((Int × (UInt64 × (UInt64 × Unit))) × ((Int × (UInt64 × (UInt64 × Unit))) × (Int × (Int × (Int × Unit))))))) : Option (Lo ((Bool × Int × Int × Unit) × (((Int × (UInt64 × (UInt64 × Unit))) × ((Int × (UInt64 × (UInt64 × Unit))) × ((Int × (UInt64 × (UInt64 × Unit))) × ((Int × (UInt64 × (UInt64 × Unit))) × (Int × (Int × ((List Int) × ((List Int) × Unit)))))))) × (List ((Int × (UInt64 × (UInt64 × Unit))) × ((Int × (UInt64 × (UInt64 × Unit))) × (Int × (Int × (Int × Unit)))))) × Unit)) ((Unit) × (Unit)) law20_DecorrelateBoxes_R) :=
  bif (decide (t_129 < t_128)) then
    bif inR t_129 t_127.length then
    let x51 := (t_127.getD t_129.toNat (((0 : Int), (0 : UInt64), (0 : UInt64), ()), ((0 : Int), (0 : UInt64), (0 : UInt64), ()), (0 : Int), (0 : Int), (0 : Int), ()))
    Option.bind (decorrelate_Has N b_7 x51 outbound_1) fun y52 =>
    Option.bind (ref20_Has N b_7 x51 outbound_1) fun y53 =>
    bif (!(decide (y52.1.1 = y53.1.1))) then
      some (.rt ((false, ()), (())))
    else
      some (.go ((outbound_1, t_128, (w64 (t_129 + (1 : Int))), ()), (b_7, t_127, ())))
    else none
  else
    some (.br ((()), (())))
noncomputable def law20_DecorrelateBoxes_9 (N : Nat) : Option law20_DecorrelateBoxes_R :=
  some ((true, ()), (()))
noncomputable def law20_DecorrelateBoxes_7 (N : Nat) (outbound_1 : Bool) (t_128 : Int) (t_129 : Int) (b_7 : ((Int × (UInt64 × (UInt64 × Unit))) × ((Int × (UInt64 × (UInt64 × Unit))) × ((Int × (UInt64 × (UInt64 × Unit))) × ((Int × (UInt64 × (UInt64 × Unit))) × (Int × (Int × ((List Int) × ((List Int) × Unit))))))))) (t_127 : (List ((Int × (UInt64 × (UInt64 × Unit))) × ((Int × (UInt64 × (UInt64 × Unit))) × (Int × (Int × (Int × Unit))))))) : Option law20_DecorrelateBoxes_R :=
  loopK N (fun y => law20_DecorrelateBoxes_s8 N y.1.1 y.1.2.1 y.1.2.2.1 y.2.1 y.2.2.1) (fun (e : ((Unit) × (Unit))) => law20_DecorrelateBoxes_9 N) ((outbound_1, t_128, t_129, ()), (b_7, t_127, ()))
noncomputable def law20_DecorrelateBoxes_6 (N : Nat) (outbound_1 : Bool) (a_6 : ((Int × (UInt64 × (UInt64 × Unit))) × ((Int × (UInt64 × (UInt64 × Unit))) × ((Int × (UInt64 × (UInt64 × Unit))) × ((Int × (UInt64 × (UInt64 × Unit))) × (Int × (Int × ((List Int) × ((List Int) × Unit))))))))) (b_7 : ((Int × (UInt64 × (UInt64 × Unit))) × ((Int × (UInt64 × (UInt64 × Unit))) × ((Int × (UInt64 × (UInt64 × Unit))) × ((Int × (UInt64 × (UInt64 × Unit))) × (Int × (Int × ((List Int) × ((List Int) × Unit))))))))) : Option law20_DecorrelateBoxes_R :=
  Option.bind (ref20_Corners N ([((0 : Int), ([] : List UInt8), ([a_6] : List ((Int × (UInt64 × (UInt64 × Unit))) × ((Int × (UInt64 × (UInt64 × Unit))) × ((Int × (UInt64 × (UInt64 × Unit))) × ((Int × (UInt64 × (UInt64 × Unit))) × (Int × (Int × ((List Int) × ((List Int) × Unit))))))))), ())] : List (Int × ((List UInt8) × ((List ((Int × (UInt64 × (UInt64 × Unit))) × ((Int × (UInt64 × (UInt64 × Unit))) × ((Int × (UInt64 × (UInt64 × Unit))) × ((Int × (UInt64 × (UInt64 × Unit))) × (Int × (Int × ((List Int) × ((List Int) × Unit))))))))) × Unit)))) (200 : Int)) fun y48 =>
  law20_DecorrelateBoxes_7 N outbound_1 (y48.2.1.length : Int) (0 : Int) b_7 y48.2.1
noncomputable def law20_DecorrelateBoxes_4 (N : Nat) (outbound_1 : Bool) (i_16 : Int) (c_5 : ((List UInt8) × (Int × Unit))) (a_6 : ((Int × (UInt64 × (UInt64 × Unit))) × ((Int × (UInt64 × (UInt64 × Unit))) × ((Int × (UInt64 × (UInt64 × Unit))) × ((Int × (UInt64 × (UInt64 × Unit))) × (Int × (Int × ((List Int) × ((List Int) × Unit))))))))) (b_7 : ((Int × (UInt64 × (UInt64 × Unit))) × ((Int × (UInt64 × (UInt64 × Unit))) × ((Int × (UInt64 × (UInt64 × Unit))) × ((Int × (UInt64 × (UInt64 × Unit))) × (Int × (Int × ((List Int) × ((List Int) × Unit))))))))) : Option law20_DecorrelateBoxes_R :=
  loopK N (fun y => law20_DecorrelateBoxes_s5 N y.1.1 y.1.2.1 y.2.1 y.2.2.1 y.2.2.2.1) (fun (e : ((Bool × Unit) × (((Int × (UInt64 × (UInt64 × Unit))) × ((Int × (UInt64 × (UInt64 × Unit))) × ((Int × (UInt64 × (UInt64 × Unit))) × ((Int × (UInt64 × (UInt64 × Unit))) × (Int × (Int × ((List Int) × ((List Int) × Unit)))))))) × ((Int × (UInt64 × (UInt64 × Unit))) × ((Int × (UInt64 × (UInt64 × Unit))) × ((Int × (UInt64 × (UInt64 × Unit))) × ((Int × (UInt64 × (UInt64 × Unit))) × (Int × (Int × ((List Int) × ((List Int) × Unit)))))))) × Unit))) => law20_DecorrelateBoxes_6 N e.1.1 e.2.1 e.2.2.1) ((outbound_1, i_16, ()), (c_5, a_6, b_7, ()))
noncomputable def law20_DecorrelateBoxes_3 (N : Nat) (outbound_1 : Bool) (c_5 : ((List UInt8) × (Int × Unit))) (a_6 : ((Int × (UInt64 × (UInt64 × Unit))) × ((Int × (UInt64 × (UInt64 × Unit))) × ((Int × (UInt64 × (UInt64 × Unit))) × ((Int × (UInt64 × (UInt64 × Unit))) × (Int × (Int × ((List Int) × ((List Int) × Unit))))))))) (b_7 : ((Int × (UInt64 × (UInt64 × Unit))) × ((Int × (UInt64 × (UInt64 × Unit))) × ((Int × (UInt64 × (UInt64 × Unit))) × ((Int × (UInt64 × (UInt64 × Unit))) × (Int × (Int × ((List Int) × ((List Int) × Unit))))))))) : Option law20_DecorrelateBoxes_R :=
  law20_DecorrelateBoxes_4 N outbound_1 (0 : Int) c_5 a_6 b_7
noncomputable def law20_DecorrelateBoxes_1 (N : Nat) (outbound_1 : Bool) (t_47 : Int) (t_48 : Int) (c_5 : ((List UInt8) × (Int × Unit))) (a_6 : ((Int × (UInt64 × (UInt64 × Unit))) × ((Int × (UInt64 × (UInt64 × Unit))) × ((Int × (UInt64 × (UInt64 × Unit))) × ((Int × (UInt64 × (UInt64 × Unit))) × (Int × (Int × ((List Int) × ((List Int) × Unit))))))))) (b_7 : ((Int × (UInt64 × (UInt64 × Unit))) × ((Int × (UInt64 × (UInt64 × Unit))) × ((Int × (UInt64 × (UInt64 × Unit))) × ((Int × (UInt64 × (UInt64 × Unit))) × (Int × (Int × ((List Int) × ((List Int) × Unit))))))))) (t_46 : (List (List ((Int × (UInt64 × (UInt64 × Unit))) × ((Int × (UInt64 × (UInt64 × Unit))) × ((Int × (UInt64 × (UInt64 × Unit))) × ((Int × (UInt64 × (UInt64 × Unit))) × (Int × (Int × ((List Int) × ((List Int) × Unit))))))))))) : Option law20_DecorrelateBoxes_R :=
  loopK N (fun y => law20_DecorrelateBoxes_s2 N y.1.1 y.1.2.1 y.1.2.2.1 y.2.1 y.2.2.1 y.2.2.2.1 y.2.2.2.2.1) (fun (e : ((Bool × Unit) × (((List UInt8) × (Int × Unit)) × ((Int × (UInt64 × (UInt64 × Unit))) × ((Int × (UInt64 × (UInt64 × Unit))) × ((Int × (UInt64 × (UInt64 × Unit))) × ((Int × (UInt64 × (UInt64 × Unit))) × (Int × (Int × ((List Int) × ((List Int) × Unit)))))))) × ((Int × (UInt64 × (UInt64 × Unit))) × ((Int × (UInt64 × (UInt64 × Unit))) × ((Int × (UInt64 × (UInt64 × Unit))) × ((Int × (UInt64 × (UInt64 × Unit))) × (Int × (Int × ((List Int) × ((List Int) × Unit)))))))) × Unit))) => law20_DecorrelateBoxes_3 N e.1.1 e.2.1 e.2.2.1 e.2.2.2.1) ((outbound_1, t_47, t_48, ()), (c_5, a_6, b_7, t_46, ()))
noncomputable def law20_DecorrelateBoxes (N : Nat) (codes_0 : (List UInt8)) (outbound_1 : Bool) : Option law20_DecorrelateBoxes_R :=
  Option.bind (law20_awake N) fun y1 =>
  bif (!y1.1.1) then
    some ((false, ()), (()))
  else
    Option.bind (make_New N codes_0 (240 : Int)) fun y3 =>
    Option.bind (make_Codes_Box N y3.2.1) fun y4 =>
    Option.bind (make_Codes_Box N y4.2.1) fun y5 =>
    Option.bind (ref20_Meet N y4.1.1 y5.1.1) fun y6 =>
    let x7 := ([y4.1.1, y5.1.1] : List ((Int × (UInt64 × (UInt64 × Unit))) × ((Int × (UInt64 × (UInt64 × Unit))) × ((Int × (UInt64 × (UInt64 × Unit))) × ((Int × (UInt64 × (UInt64 × Unit))) × (Int × (Int × ((List Int) × ((List Int) × Unit)))))))))
    let x8 := ([y5.1.1, y4.1.1] : List ((Int × (UInt64 × (UInt64 × Unit))) × ((Int × (UInt64 × (UInt64 × Unit))) × ((Int × (UInt64 × (UInt64 × Unit))) × ((Int × (UInt64 × (UInt64 × Unit))) × (Int × (Int × ((List Int) × ((List Int) × Unit)))))))))
    let x9 := ([y4.1.1, y4.1.1] : List ((Int × (UInt64 × (UInt64 × Unit))) × ((Int × (UInt64 × (UInt64 × Unit))) × ((Int × (UInt64 × (UInt64 × Unit))) × ((Int × (UInt64 × (UInt64 × Unit))) × (Int × (Int × ((List Int) × ((List Int) × Unit)))))))))
    let x10 := ([y6.1.1, y5.1.1] : List ((Int × (UInt64 × (UInt64 × Unit))) × ((Int × (UInt64 × (UInt64 × Unit))) × ((Int × (UInt64 × (UInt64 × Unit))) × ((Int × (UInt64 × (UInt64 × Unit))) × (Int × (Int × ((List Int) × ((List Int) × Unit)))))))))
    law20_DecorrelateBoxes_1 N outbound_1 (([x7, x8, x9, x10] : List (List ((Int × (UInt64 × (UInt64 × Unit))) × ((Int × (UInt64 × (UInt64 × Unit))) × ((Int × (UInt64 × (UInt64 × Unit))) × ((Int × (UInt64 × (UInt64 × Unit))) × (Int × (Int × ((List Int) × ((List Int) × Unit)))))))))).length : Int) (0 : Int) y5.2.1 y4.1.1 y5.1.1 ([x7, x8, x9, x10] : List (List ((Int × (UInt64 × (UInt64 × Unit))) × ((Int × (UInt64 × (UInt64 × Unit))) × ((Int × (UInt64 × (UInt64 × Unit))) × ((Int × (UInt64 × (UInt64 × Unit))) × (Int × (Int × ((List Int) × ((List Int) × Unit))))))))))
noncomputable def law20_DecorrelateBoxes_C (N : Nat) : Ctx := ⟨143, G_tys, [(27, law20_awake_ctr N), (28, make_New_ctr N), (29, make_Codes_Box_ctr N), (45, ref20_Meet_ctr N), (46, ref19_CheckBox_ctr N), (32, decorrelate_Meet_ctr N), (30, decorrelate_Minus_ctr N), (48, ref20_Minus_ctr N), (47, ref19_SameBoxes_ctr N), (49, decorrelate_Inside_ctr N), (50, ref20_Inside_ctr N), (35, make_Codes_Packet_ctr N), (51, decorrelate_Has_ctr N), (52, ref20_Has_ctr N), (40, ref20_Corners_ctr N)], G_globs⟩
noncomputable def law20_DecorrelateBoxes_S0 : Spec := ⟨[.val .bool, .ref 0 (.pair (.sl .u8) (.pair .i64 .unit)), .ref 1 (.pair (.pair .i64 (.pair .u64 (.pair .u64 .unit))) (.pair (.pair .i64 (.pair .u64 (.pair .u64 .unit))) (.pair (.pair .i64 (.pair .u64 (.pair .u64 .unit))) (.pair (.pair .i64 (.pair .u64 (.pair .u64 .unit))) (.pair .i64 (.pair .i64 (.pair (.arr 2 .i64) (.pair (.arr 2 .i64) .unit)))))))), .ref 2 (.pair (.pair .i64 (.pair .u64 (.pair .u64 .unit))) (.pair (.pair .i64 (.pair .u64 (.pair .u64 .unit))) (.pair (.pair .i64 (.pair .u64 (.pair .u64 .unit))) (.pair (.pair .i64 (.pair .u64 (.pair .u64 .unit))) (.pair .i64 (.pair .i64 (.pair (.arr 2 .i64) (.pair (.arr 2 .i64) .unit)))))))), .row 3, .val .i64, .val .i64], [(.box 113 (.pair (.sl .u8) (.pair .i64 .unit)), .pos 1), (.box 46 (.pair (.pair .i64 (.pair .u64 (.pair .u64 .unit))) (.pair (.pair .i64 (.pair .u64 (.pair .u64 .unit))) (.pair (.pair .i64 (.pair .u64 (.pair .u64 .unit))) (.pair (.pair .i64 (.pair .u64 (.pair .u64 .unit))) (.pair .i64 (.pair .i64 (.pair (.arr 2 .i64) (.pair (.arr 2 .i64) .unit)))))))), .pos 2), (.box 46 (.pair (.pair .i64 (.pair .u64 (.pair .u64 .unit))) (.pair (.pair .i64 (.pair .u64 (.pair .u64 .unit))) (.pair (.pair .i64 (.pair .u64 (.pair .u64 .unit))) (.pair (.pair .i64 (.pair .u64 (.pair .u64 .unit))) (.pair .i64 (.pair .i64 (.pair (.arr 2 .i64) (.pair (.arr 2 .i64) .unit)))))))), .pos 3), (.row 71 (.arr 2 (.pair (.pair .i64 (.pair .u64 (.pair .u64 .unit))) (.pair (.pair .i64 (.pair .u64 (.pair .u64 .unit))) (.pair (.pair .i64 (.pair .u64 (.pair .u64 .unit))) (.pair (.pair .i64 (.pair .u64 (.pair .u64 .unit))) (.pair .i64 (.pair .i64 (.pair (.arr 2 .i64) (.pair (.arr 2 .i64) .unit))))))))), .pos 4)]⟩
noncomputable def law20_DecorrelateBoxes_S1 : Spec := ⟨[.val .bool, .ref 0 (.pair (.sl .u8) (.pair .i64 .unit)), .ref 1 (.pair (.pair .i64 (.pair .u64 (.pair .u64 .unit))) (.pair (.pair .i64 (.pair .u64 (.pair .u64 .unit))) (.pair (.pair .i64 (.pair .u64 (.pair .u64 .unit))) (.pair (.pair .i64 (.pair .u64 (.pair .u64 .unit))) (.pair .i64 (.pair .i64 (.pair (.arr 2 .i64) (.pair (.arr 2 .i64) .unit)))))))), .ref 2 (.pair (.pair .i64 (.pair .u64 (.pair .u64 .unit))) (.pair (.pair .i64 (.pair .u64 (.pair .u64 .unit))) (.pair (.pair .i64 (.pair .u64 (.pair .u64 .unit))) (.pair (.pair .i64 (.pair .u64 (.pair .u64 .unit))) (.pair .i64 (.pair .i64 (.pair (.arr 2 .i64) (.pair (.arr 2 .i64) .unit)))))))), .val .i64], [(.box 113 (.pair (.sl .u8) (.pair .i64 .unit)), .pos 1), (.box 46 (.pair (.pair .i64 (.pair .u64 (.pair .u64 .unit))) (.pair (.pair .i64 (.pair .u64 (.pair .u64 .unit))) (.pair (.pair .i64 (.pair .u64 (.pair .u64 .unit))) (.pair (.pair .i64 (.pair .u64 (.pair .u64 .unit))) (.pair .i64 (.pair .i64 (.pair (.arr 2 .i64) (.pair (.arr 2 .i64) .unit)))))))), .pos 2), (.box 46 (.pair (.pair .i64 (.pair .u64 (.pair .u64 .unit))) (.pair (.pair .i64 (.pair .u64 (.pair .u64 .unit))) (.pair (.pair .i64 (.pair .u64 (.pair .u64 .unit))) (.pair (.pair .i64 (.pair .u64 (.pair .u64 .unit))) (.pair .i64 (.pair .i64 (.pair (.arr 2 .i64) (.pair (.arr 2 .i64) .unit)))))))), .pos 3)]⟩
noncomputable def law20_DecorrelateBoxes_S2 : Spec := ⟨[.val .bool, .ref 0 (.pair (.pair .i64 (.pair .u64 (.pair .u64 .unit))) (.pair (.pair .i64 (.pair .u64 (.pair .u64 .unit))) (.pair (.pair .i64 (.pair .u64 (.pair .u64 .unit))) (.pair (.pair .i64 (.pair .u64 (.pair .u64 .unit))) (.pair .i64 (.pair .i64 (.pair (.arr 2 .i64) (.pair (.arr 2 .i64) .unit)))))))), .row 1, .val .i64, .val .i64], [(.box 46 (.pair (.pair .i64 (.pair .u64 (.pair .u64 .unit))) (.pair (.pair .i64 (.pair .u64 (.pair .u64 .unit))) (.pair (.pair .i64 (.pair .u64 (.pair .u64 .unit))) (.pair (.pair .i64 (.pair .u64 (.pair .u64 .unit))) (.pair .i64 (.pair .i64 (.pair (.arr 2 .i64) (.pair (.arr 2 .i64) .unit)))))))), .pos 1), (.row 30 (.pair (.pair .i64 (.pair .u64 (.pair .u64 .unit))) (.pair (.pair .i64 (.pair .u64 (.pair .u64 .unit))) (.pair .i64 (.pair .i64 (.pair .i64 .unit))))), .pos 2)]⟩
noncomputable def law20_DecorrelateBoxes_S3 : Spec := ⟨[], []⟩
noncomputable def law20_DecorrelateBoxes_S4 : Spec := ⟨[.val .bool, .ref 0 (.pair (.pair .i64 (.pair .u64 (.pair .u64 .unit))) (.pair (.pair .i64 (.pair .u64 (.pair .u64 .unit))) (.pair (.pair .i64 (.pair .u64 (.pair .u64 .unit))) (.pair (.pair .i64 (.pair .u64 (.pair .u64 .unit))) (.pair .i64 (.pair .i64 (.pair (.arr 2 .i64) (.pair (.arr 2 .i64) .unit)))))))), .ref 1 (.pair (.pair .i64 (.pair .u64 (.pair .u64 .unit))) (.pair (.pair .i64 (.pair .u64 (.pair .u64 .unit))) (.pair (.pair .i64 (.pair .u64 (.pair .u64 .unit))) (.pair (.pair .i64 (.pair .u64 (.pair .u64 .unit))) (.pair .i64 (.pair .i64 (.pair (.arr 2 .i64) (.pair (.arr 2 .i64) .unit))))))))], [(.box 46 (.pair (.pair .i64 (.pair .u64 (.pair .u64 .unit))) (.pair (.pair .i64 (.pair .u64 (.pair .u64 .unit))) (.pair (.pair .i64 (.pair .u64 (.pair .u64 .unit))) (.pair (.pair .i64 (.pair .u64 (.pair .u64 .unit))) (.pair .i64 (.pair .i64 (.pair (.arr 2 .i64) (.pair (.arr 2 .i64) .unit)))))))), .pos 1), (.box 46 (.pair (.pair .i64 (.pair .u64 (.pair .u64 .unit))) (.pair (.pair .i64 (.pair .u64 (.pair .u64 .unit))) (.pair (.pair .i64 (.pair .u64 (.pair .u64 .unit))) (.pair (.pair .i64 (.pair .u64 (.pair .u64 .unit))) (.pair .i64 (.pair .i64 (.pair (.arr 2 .i64) (.pair (.arr 2 .i64) .unit)))))))), .pos 2)]⟩
noncomputable def law20_DecorrelateBoxes_S5 : Spec := ⟨[.val .bool, .ref 0 (.pair (.sl .u8) (.pair .i64 .unit)), .ref 1 (.pair (.pair .i64 (.pair .u64 (.pair .u64 .unit))) (.pair (.pair .i64 (.pair .u64 (.pair .u64 .unit))) (.pair (.pair .i64 (.pair .u64 (.pair .u64 .unit))) (.pair (.pair .i64 (.pair .u64 (.pair .u64 .unit))) (.pair .i64 (.pair .i64 (.pair (.arr 2 .i64) (.pair (.arr 2 .i64) .unit)))))))), .ref 2 (.pair (.pair .i64 (.pair .u64 (.pair .u64 .unit))) (.pair (.pair .i64 (.pair .u64 (.pair .u64 .unit))) (.pair (.pair .i64 (.pair .u64 (.pair .u64 .unit))) (.pair (.pair .i64 (.pair .u64 (.pair .u64 .unit))) (.pair .i64 (.pair .i64 (.pair (.arr 2 .i64) (.pair (.arr 2 .i64) .unit))))))))], [(.box 113 (.pair (.sl .u8) (.pair .i64 .unit)), .pos 1), (.box 46 (.pair (.pair .i64 (.pair .u64 (.pair .u64 .unit))) (.pair (.pair .i64 (.pair .u64 (.pair .u64 .unit))) (.pair (.pair .i64 (.pair .u64 (.pair .u64 .unit))) (.pair (.pair .i64 (.pair .u64 (.pair .u64 .unit))) (.pair .i64 (.pair .i64 (.pair (.arr 2 .i64) (.pair (.arr 2 .i64) .unit)))))))), .pos 2), (.box 46 (.pair (.pair .i64 (.pair .u64 (.pair .u64 .unit))) (.pair (.pair .i64 (.pair .u64 (.pair .u64 .unit))) (.pair (.pair .i64 (.pair .u64 (.pair .u64 .unit))) (.pair (.pair .i64 (.pair .u64 (.pair .u64 .unit))) (.pair .i64 (.pair .i64 (.pair (.arr 2 .i64) (.pair (.arr 2 .i64) .unit)))))))), .pos 3)]⟩
noncomputable def law20_DecorrelateBoxes_S6 : Spec := ⟨[.val (.sl .u8), .val .bool], []⟩
noncomputable def law20_DecorrelateBoxes_S7 : Spec := ⟨[.val .bool], []⟩
noncomputable def law20_DecorrelateBoxes_K (_N : Nat) : XE → GS → Option law20_DecorrelateBoxes_R := retK 0 [4] [false] law20_DecorrelateBoxes_S7
noncomputable def law20_DecorrelateBoxes_L : List Code := (bodyOf (some Try.f8))
noncomputable def law20_DecorrelateBoxes_L2 : List Code := (loopOf (law20_DecorrelateBoxes_L[7]?))
noncomputable def law20_DecorrelateBoxes_L5 : List Code := (loopOf (law20_DecorrelateBoxes_L[9]?))
noncomputable def law20_DecorrelateBoxes_L8 : List Code := (loopOf (law20_DecorrelateBoxes_L[11]?))
noncomputable def law20_DecorrelateBoxes_K2 (N : Nat) : XE → GS → Option (Lo ((Bool × Int × Int × Unit) × (((List UInt8) × (Int × Unit)) × ((Int × (UInt64 × (UInt64 × Unit))) × ((Int × (UInt64 × (UInt64 × Unit))) × ((Int × (UInt64 × (UInt64 × Unit))) × ((Int × (UInt64 × (UInt64 × Unit))) × (Int × (Int × ((List Int) × ((List Int) × Unit)))))))) × ((Int × (UInt64 × (UInt64 × Unit))) × ((Int × (UInt64 × (UInt64 × Unit))) × ((Int × (UInt64 × (UInt64 × Unit))) × ((Int × (UInt64 × (UInt64 × Unit))) × (Int × (Int × ((List Int) × ((List Int) × Unit)))))))) × (List (List ((Int × (UInt64 × (UInt64 × Unit))) × ((Int × (UInt64 × (UInt64 × Unit))) × ((Int × (UInt64 × (UInt64 × Unit))) × ((Int × (UInt64 × (UInt64 × Unit))) × (Int × (Int × ((List Int) × ((List Int) × Unit)))))))))) × Unit)) ((Bool × Unit) × (((List UInt8) × (Int × Unit)) × ((Int × (UInt64 × (UInt64 × Unit))) × ((Int × (UInt64 × (UInt64 × Unit))) × ((Int × (UInt64 × (UInt64 × Unit))) × ((Int × (UInt64 × (UInt64 × Unit))) × (Int × (Int × ((List Int) × ((List Int) × Unit)))))))) × ((Int × (UInt64 × (UInt64 × Unit))) × ((Int × (UInt64 × (UInt64 × Unit))) × ((Int × (UInt64 × (UInt64 × Unit))) × ((Int × (UInt64 × (UInt64 × Unit))) × (Int × (Int × ((List Int) × ((List Int) × Unit)))))))) × Unit)) law20_DecorrelateBoxes_R) := roundK (some 0) (fit 0 [1, 5, 6, 7, 46, 47, 48] law20_DecorrelateBoxes_S0) (fit 0 [1, 5, 6, 7] law20_DecorrelateBoxes_S5) (law20_DecorrelateBoxes_K N)
noncomputable def law20_DecorrelateBoxes_K5 (N : Nat) : XE → GS → Option (Lo ((Bool × Int × Unit) × (((List UInt8) × (Int × Unit)) × ((Int × (UInt64 × (UInt64 × Unit))) × ((Int × (UInt64 × (UInt64 × Unit))) × ((Int × (UInt64 × (UInt64 × Unit))) × ((Int × (UInt64 × (UInt64 × Unit))) × (Int × (Int × ((List Int) × ((List Int) × Unit)))))))) × ((Int × (UInt64 × (UInt64 × Unit))) × ((Int × (UInt64 × (UInt64 × Unit))) × ((Int × (UInt64 × (UInt64 × Unit))) × ((Int × (UInt64 × (UInt64 × Unit))) × (Int × (Int × ((List Int) × ((List Int) × Unit)))))))) × Unit)) ((Bool × Unit) × (((Int × (UInt64 × (UInt64 × Unit))) × ((Int × (UInt64 × (UInt64 × Unit))) × ((Int × (UInt64 × (UInt64 × Unit))) × ((Int × (UInt64 × (UInt64 × Unit))) × (Int × (Int × ((List Int) × ((List Int) × Unit)))))))) × ((Int × (UInt64 × (UInt64 × Unit))) × ((Int × (UInt64 × (UInt64 × Unit))) × ((Int × (UInt64 × (UInt64 × Unit))) × ((Int × (UInt64 × (UInt64 × Unit))) × (Int × (Int × ((List Int) × ((List Int) × Unit)))))))) × Unit)) law20_DecorrelateBoxes_R) := roundK (some 2) (fit 0 [1, 5, 6, 7, 16] law20_DecorrelateBoxes_S1) (fit 0 [1, 6, 7] law20_DecorrelateBoxes_S4) (law20_DecorrelateBoxes_K N)
noncomputable def law20_DecorrelateBoxes_K8 (N : Nat) : XE → GS → Option (Lo ((Bool × Int × Int × Unit) × (((Int × (UInt64 × (UInt64 × Unit))) × ((Int × (UInt64 × (UInt64 × Unit))) × ((Int × (UInt64 × (UInt64 × Unit))) × ((Int × (UInt64 × (UInt64 × Unit))) × (Int × (Int × ((List Int) × ((List Int) × Unit)))))))) × (List ((Int × (UInt64 × (UInt64 × Unit))) × ((Int × (UInt64 × (UInt64 × Unit))) × (Int × (Int × (Int × Unit)))))) × Unit)) ((Unit) × (Unit)) law20_DecorrelateBoxes_R) := roundK (some 4) (fit 0 [1, 7, 127, 128, 129] law20_DecorrelateBoxes_S2) (fit 0 [] law20_DecorrelateBoxes_S3) (law20_DecorrelateBoxes_K N)
theorem law20_DecorrelateBoxes_s2_b {E : Env} (N : Nat) (hb : Base Try.prog (law20_DecorrelateBoxes_C N) E 0) : Blk Try.prog (law20_DecorrelateBoxes_C N) E [1, 5, 6, 7, 46, 47, 48] law20_DecorrelateBoxes_S0 (law20_DecorrelateBoxes_L2.drop 0) (fun y => law20_DecorrelateBoxes_s2 N y.1.1 y.1.2.1 y.1.2.2.1 y.2.1 y.2.2.1 y.2.2.2.1 y.2.2.2.2.1) (law20_DecorrelateBoxes_K2 N) :=
  Blk.chunkAt hb 4 (X := (law20_DecorrelateBoxes_K2 N .normal)) (NxOk.end (by kernel_rfl)) rfl (fun x => by kernel_rfl)
theorem law20_DecorrelateBoxes_s5_b {E : Env} (N : Nat) (hb : Base Try.prog (law20_DecorrelateBoxes_C N) E 0) : Blk Try.prog (law20_DecorrelateBoxes_C N) E [1, 5, 6, 7, 16] law20_DecorrelateBoxes_S1 (law20_DecorrelateBoxes_L5.drop 0) (fun y => law20_DecorrelateBoxes_s5 N y.1.1 y.1.2.1 y.2.1 y.2.2.1 y.2.2.2.1) (law20_DecorrelateBoxes_K5 N) :=
  Blk.chunkAt hb 4 (X := (law20_DecorrelateBoxes_K5 N .normal)) (NxOk.end (by kernel_rfl)) rfl (fun x => by kernel_rfl)
theorem law20_DecorrelateBoxes_s8_b {E : Env} (N : Nat) (hb : Base Try.prog (law20_DecorrelateBoxes_C N) E 0) : Blk Try.prog (law20_DecorrelateBoxes_C N) E [1, 7, 127, 128, 129] law20_DecorrelateBoxes_S2 (law20_DecorrelateBoxes_L8.drop 0) (fun y => law20_DecorrelateBoxes_s8 N y.1.1 y.1.2.1 y.1.2.2.1 y.2.1 y.2.2.1) (law20_DecorrelateBoxes_K8 N) :=
  Blk.chunkAt hb 4 (X := (law20_DecorrelateBoxes_K8 N .normal)) (NxOk.end (by kernel_rfl)) rfl (fun x => by kernel_rfl)
theorem law20_DecorrelateBoxes_9_b {E : Env} (N : Nat) (hb : Base Try.prog (law20_DecorrelateBoxes_C N) E 0) : Blk Try.prog (law20_DecorrelateBoxes_C N) E [] law20_DecorrelateBoxes_S3 (law20_DecorrelateBoxes_L.drop 12) (fun y => law20_DecorrelateBoxes_9 N) (law20_DecorrelateBoxes_K N) :=
  Blk.chunkAt hb 2 (X := (law20_DecorrelateBoxes_K N .normal)) (NxOk.end (by kernel_rfl)) rfl (fun x => by kernel_rfl)
theorem law20_DecorrelateBoxes_7_b {E : Env} (N : Nat) (hb : Base Try.prog (law20_DecorrelateBoxes_C N) E 0) : Blk Try.prog (law20_DecorrelateBoxes_C N) E [1, 7, 127, 128, 129] law20_DecorrelateBoxes_S2 (law20_DecorrelateBoxes_L.drop 11) (fun y => law20_DecorrelateBoxes_7 N y.1.1 y.1.2.1 y.1.2.2.1 y.2.1 y.2.2.1) (law20_DecorrelateBoxes_K N) :=
  Blk.loopAt (Nf := N) (hns := [1, 7, 127, 128, 129]) (ans := []) (hc := law20_DecorrelateBoxes_S2) (ac := law20_DecorrelateBoxes_S3) (bid := 4) (step := (fun y => law20_DecorrelateBoxes_s8 N y.1.1 y.1.2.1 y.1.2.2.1 y.2.1 y.2.2.1)) (J := (fun e => (goK 0 [] law20_DecorrelateBoxes_S3 (fun y => law20_DecorrelateBoxes_9 N)) (law20_DecorrelateBoxes_S3.st [] e))) hb (by kernel_rfl) (Blk.into (X := (goK 0 [] law20_DecorrelateBoxes_S3 (fun y => law20_DecorrelateBoxes_9 N))) (NxOk.go hb (law20_DecorrelateBoxes_9_b N hb)) (fun x => by kernel_rfl)) (law20_DecorrelateBoxes_s8_b N hb) (fun x => by kernel_rfl)
theorem law20_DecorrelateBoxes_6_b {E : Env} (N : Nat) (hb : Base Try.prog (law20_DecorrelateBoxes_C N) E 0) : Blk Try.prog (law20_DecorrelateBoxes_C N) E [1, 6, 7] law20_DecorrelateBoxes_S4 (law20_DecorrelateBoxes_L.drop 10) (fun y => law20_DecorrelateBoxes_6 N y.1.1 y.2.1 y.2.2.1) (law20_DecorrelateBoxes_K N) :=
  Blk.chunkAt hb 1 (X := (goK 0 [1, 7, 127, 128, 129] law20_DecorrelateBoxes_S2 (fun y => law20_DecorrelateBoxes_7 N y.1.1 y.1.2.1 y.1.2.2.1 y.2.1 y.2.2.1))) (NxOk.go hb (law20_DecorrelateBoxes_7_b N hb)) rfl (fun x => by kernel_rfl)
theorem law20_DecorrelateBoxes_4_b {E : Env} (N : Nat) (hb : Base Try.prog (law20_DecorrelateBoxes_C N) E 0) : Blk Try.prog (law20_DecorrelateBoxes_C N) E [1, 5, 6, 7, 16] law20_DecorrelateBoxes_S1 (law20_DecorrelateBoxes_L.drop 9) (fun y => law20_DecorrelateBoxes_4 N y.1.1 y.1.2.1 y.2.1 y.2.2.1 y.2.2.2.1) (law20_DecorrelateBoxes_K N) :=
  Blk.loopAt (Nf := N) (hns := [1, 5, 6, 7, 16]) (ans := [1, 6, 7]) (hc := law20_DecorrelateBoxes_S1) (ac := law20_DecorrelateBoxes_S4) (bid := 2) (step := (fun y => law20_DecorrelateBoxes_s5 N y.1.1 y.1.2.1 y.2.1 y.2.2.1 y.2.2.2.1)) (J := (fun e => (goK 0 [1, 6, 7] law20_DecorrelateBoxes_S4 (fun y => law20_DecorrelateBoxes_6 N y.1.1 y.2.1 y.2.2.1)) (law20_DecorrelateBoxes_S4.st [1, 6, 7] e))) hb (by kernel_rfl) (Blk.into (X := (goK 0 [1, 6, 7] law20_DecorrelateBoxes_S4 (fun y => law20_DecorrelateBoxes_6 N y.1.1 y.2.1 y.2.2.1))) (NxOk.go hb (law20_DecorrelateBoxes_6_b N hb)) (fun x => by kernel_rfl)) (law20_DecorrelateBoxes_s5_b N hb) (fun x => by kernel_rfl)
theorem law20_DecorrelateBoxes_3_b {E : Env} (N : Nat) (hb : Base Try.prog (law20_DecorrelateBoxes_C N) E 0) : Blk Try.prog (law20_DecorrelateBoxes_C N) E [1, 5, 6, 7] law20_DecorrelateBoxes_S5 (law20_DecorrelateBoxes_L.drop 8) (fun y => law20_DecorrelateBoxes_3 N y.1.1 y.2.1 y.2.2.1 y.2.2.2.1) (law20_DecorrelateBoxes_K N) :=
  Blk.chunkAt hb 1 (X := (goK 0 [1, 5, 6, 7, 16] law20_DecorrelateBoxes_S1 (fun y => law20_DecorrelateBoxes_4 N y.1.1 y.1.2.1 y.2.1 y.2.2.1 y.2.2.2.1))) (NxOk.go hb (law20_DecorrelateBoxes_4_b N hb)) rfl (fun x => by kernel_rfl)
theorem law20_DecorrelateBoxes_1_b {E : Env} (N : Nat) (hb : Base Try.prog (law20_DecorrelateBoxes_C N) E 0) : Blk Try.prog (law20_DecorrelateBoxes_C N) E [1, 5, 6, 7, 46, 47, 48] law20_DecorrelateBoxes_S0 (law20_DecorrelateBoxes_L.drop 7) (fun y => law20_DecorrelateBoxes_1 N y.1.1 y.1.2.1 y.1.2.2.1 y.2.1 y.2.2.1 y.2.2.2.1 y.2.2.2.2.1) (law20_DecorrelateBoxes_K N) :=
  Blk.loopAt (Nf := N) (hns := [1, 5, 6, 7, 46, 47, 48]) (ans := [1, 5, 6, 7]) (hc := law20_DecorrelateBoxes_S0) (ac := law20_DecorrelateBoxes_S5) (bid := 0) (step := (fun y => law20_DecorrelateBoxes_s2 N y.1.1 y.1.2.1 y.1.2.2.1 y.2.1 y.2.2.1 y.2.2.2.1 y.2.2.2.2.1)) (J := (fun e => (goK 0 [1, 5, 6, 7] law20_DecorrelateBoxes_S5 (fun y => law20_DecorrelateBoxes_3 N y.1.1 y.2.1 y.2.2.1 y.2.2.2.1)) (law20_DecorrelateBoxes_S5.st [1, 5, 6, 7] e))) hb (by kernel_rfl) (Blk.into (X := (goK 0 [1, 5, 6, 7] law20_DecorrelateBoxes_S5 (fun y => law20_DecorrelateBoxes_3 N y.1.1 y.2.1 y.2.2.1 y.2.2.2.1))) (NxOk.go hb (law20_DecorrelateBoxes_3_b N hb)) (fun x => by kernel_rfl)) (law20_DecorrelateBoxes_s2_b N hb) (fun x => by kernel_rfl)
theorem law20_DecorrelateBoxes_b {E : Env} (N : Nat) (hb : Base Try.prog (law20_DecorrelateBoxes_C N) E 0) : Blk Try.prog (law20_DecorrelateBoxes_C N) E (List.range law20_DecorrelateBoxes_S6.ks.length) law20_DecorrelateBoxes_S6 (law20_DecorrelateBoxes_L.drop 0) (fun y => law20_DecorrelateBoxes N y.1.1 y.1.2.1) (law20_DecorrelateBoxes_K N) :=
  Blk.chunkAt hb 7 (X := (goK 0 [1, 5, 6, 7, 46, 47, 48] law20_DecorrelateBoxes_S0 (fun y => law20_DecorrelateBoxes_1 N y.1.1 y.1.2.1 y.1.2.2.1 y.2.1 y.2.2.1 y.2.2.2.1 y.2.2.2.2.1))) (NxOk.go hb (law20_DecorrelateBoxes_1_b N hb)) rfl (fun x => by kernel_rfl)
noncomputable def law20_DecorrelateBoxes_ctr (N : Nat) : Ctr := ⟨law20_DecorrelateBoxes_S6, law20_DecorrelateBoxes_S7.un [false], 0, (fun y => law20_DecorrelateBoxes N y.1.1 y.1.2.1)⟩
theorem law20_DecorrelateBoxes_ctrs (N : Nat) : CtrsOk Try.prog (law20_DecorrelateBoxes_C N) := ctrs_of (Γ := law20_DecorrelateBoxes_C N) (by
  intro p hp
  simp only [law20_DecorrelateBoxes_C, List.mem_cons, List.not_mem_nil, or_false] at hp
  rcases hp with rfl | rfl | rfl | rfl | rfl | rfl | rfl | rfl | rfl | rfl | rfl | rfl | rfl | rfl | rfl
  · exact law20_awake_ok N
  · exact make_New_ok N
  · exact make_Codes_Box_ok N
  · exact ref20_Meet_ok N
  · exact ref19_CheckBox_ok N
  · exact decorrelate_Meet_ok N
  · exact decorrelate_Minus_ok N
  · exact ref20_Minus_ok N
  · exact ref19_SameBoxes_ok N
  · exact decorrelate_Inside_ok N
  · exact ref20_Inside_ok N
  · exact make_Codes_Packet_ok N
  · exact decorrelate_Has_ok N
  · exact ref20_Has_ok N
  · exact ref20_Corners_ok N)
theorem law20_DecorrelateBoxes_ok (N : Nat) : Ctr.ok Try.prog G_globs 8 (law20_DecorrelateBoxes_ctr N) :=
  ctr_fn (Γ := law20_DecorrelateBoxes_C N) (rfit := law20_DecorrelateBoxes_S7) (bs := [false]) (res := [4]) (by kernel_rfl) (tys_ok G_tys_ok) (law20_DecorrelateBoxes_ctrs N) Try.func8 (by kernel_rfl) (by kernel_rfl) Try.ntmps8 (by kernel_rfl) (by kernel_rfl) (by kernel_rfl) (by kernel_rfl) (fun E hb => law20_DecorrelateBoxes_b N hb)
end Go.Proofs.Ytgbkkfpheahdfaa
namespace Go.Proofs.Ytgbkkfpheahdfaa
open Go
set_option maxRecDepth 100000
set_option linter.unusedVariables false
/-! (*ipsecgate/ipsecgatemake.Codes).Bytes -/
abbrev make_Codes_Bytes_R : Type := ((Unit) × (((List UInt8) × (Int × Unit)) × (List UInt8) × Unit))
noncomputable def make_Codes_Bytes_s2 (N : Nat) (n_1 : Int) (i_6 : Int) (p0 : ((List UInt8) × (Int × Unit))) (out_5 : (List UInt8)) : Option (Lo ((Int × Int × Unit) × (((List UInt8) × (Int × Unit)) × (List UInt8) × Unit)) ((Unit) × (((List UInt8) × (Int × Unit)) × (List UInt8) × Unit)) make_Codes_Bytes_R) :=
  bif (decide (i_6 < n_1)) then
    Option.bind (make_Codes_Next N (256 : Int) p0) fun y2 =>
    let x4 := w64 (y2.1.1 + (w64 (i_6 * (7 : Int))))
    bif room (out_5.length + ([iu8 x4] : List UInt8).length) 1 then
    some (.go ((n_1, (w64 (i_6 + (1 : Int))), ()), (y2.2.1, (out_5 ++ ([iu8 x4] : List UInt8)), ())))
    else none
  else
    some (.br ((()), (p0, out_5, ())))
noncomputable def make_Codes_Bytes_3 (N : Nat) (p0 : ((List UInt8) × (Int × Unit))) (out_5 : (List UInt8)) : Option make_Codes_Bytes_R :=
  some ((()), (p0, out_5, ()))
noncomputable def make_Codes_Bytes_1 (N : Nat) (n_1 : Int) (i_6 : Int) (p0 : ((List UInt8) × (Int × Unit))) (out_5 : (List UInt8)) : Option make_Codes_Bytes_R :=
  loopK N (fun y => make_Codes_Bytes_s2 N y.1.1 y.1.2.1 y.2.1 y.2.2.1) (fun (e : ((Unit) × (((List UInt8) × (Int × Unit)) × (List UInt8) × Unit))) => make_Codes_Bytes_3 N e.2.1 e.2.2.1) ((n_1, i_6, ()), (p0, out_5, ()))
noncomputable def make_Codes_Bytes (N : Nat) (n_1 : Int) (c_0 : ((List UInt8) × (Int × Unit))) : Option make_Codes_Bytes_R :=
  make_Codes_Bytes_1 N n_1 (0 : Int) c_0 ([] : List UInt8)
noncomputable def make_Codes_Bytes_C (N : Nat) : Ctx := ⟨22, G_tys, [(36, make_Codes_Next_ctr N)], G_globs⟩
noncomputable def make_Codes_Bytes_S0 : Spec := ⟨[.ref 0 (.pair (.sl .u8) (.pair .i64 .unit)), .val .i64, .row 1, .val .i64], [(.box 113 (.pair (.sl .u8) (.pair .i64 .unit)), .fix 0), (.row 5 .u8, .pos 2)]⟩
noncomputable def make_Codes_Bytes_S1 : Spec := ⟨[.row 1], [(.box 113 (.pair (.sl .u8) (.pair .i64 .unit)), .fix 0), (.row 5 .u8, .pos 0)]⟩
noncomputable def make_Codes_Bytes_S2 : Spec := ⟨[.ref 0 (.pair (.sl .u8) (.pair .i64 .unit)), .val .i64], [(.box 113 (.pair (.sl .u8) (.pair .i64 .unit)), .pos 0)]⟩
noncomputable def make_Codes_Bytes_K (_N : Nat) : XE → GS → Option make_Codes_Bytes_R := retK 1 [4] [false] make_Codes_Bytes_S1
noncomputable def make_Codes_Bytes_L : List Code := (bodyOf (some Try.f56))
noncomputable def make_Codes_Bytes_L2 : List Code := (loopOf (make_Codes_Bytes_L[3]?))
noncomputable def make_Codes_Bytes_K2 (N : Nat) : XE → GS → Option (Lo ((Int × Int × Unit) × (((List UInt8) × (Int × Unit)) × (List UInt8) × Unit)) ((Unit) × (((List UInt8) × (Int × Unit)) × (List UInt8) × Unit)) make_Codes_Bytes_R) := roundK (some 0) (fit 1 [0, 1, 5, 6] make_Codes_Bytes_S0) (fit 1 [5] make_Codes_Bytes_S1) (make_Codes_Bytes_K N)
theorem make_Codes_Bytes_s2_b {E : Env} (N : Nat) (hb : Base Try.prog (make_Codes_Bytes_C N) E 1) : Blk Try.prog (make_Codes_Bytes_C N) E [0, 1, 5, 6] make_Codes_Bytes_S0 (make_Codes_Bytes_L2.drop 0) (fun y => make_Codes_Bytes_s2 N y.1.1 y.1.2.1 y.2.1 y.2.2.1) (make_Codes_Bytes_K2 N) :=
  Blk.chunkAt hb 4 (X := (make_Codes_Bytes_K2 N .normal)) (NxOk.end (by kernel_rfl)) rfl (fun x => by kernel_rfl)
theorem make_Codes_Bytes_3_b {E : Env} (N : Nat) (hb : Base Try.prog (make_Codes_Bytes_C N) E 1) : Blk Try.prog (make_Codes_Bytes_C N) E [5] make_Codes_Bytes_S1 (make_Codes_Bytes_L.drop 4) (fun y => make_Codes_Bytes_3 N y.2.1 y.2.2.1) (make_Codes_Bytes_K N) :=
  Blk.chunkAt hb 2 (X := (make_Codes_Bytes_K N .normal)) (NxOk.end (by kernel_rfl)) rfl (fun x => by kernel_rfl)
theorem make_Codes_Bytes_1_b {E : Env} (N : Nat) (hb : Base Try.prog (make_Codes_Bytes_C N) E 1) : Blk Try.prog (make_Codes_Bytes_C N) E [0, 1, 5, 6] make_Codes_Bytes_S0 (make_Codes_Bytes_L.drop 3) (fun y => make_Codes_Bytes_1 N y.1.1 y.1.2.1 y.2.1 y.2.2.1) (make_Codes_Bytes_K N) :=
  Blk.loopAt (Nf := N) (hns := [0, 1, 5, 6]) (ans := [5]) (hc := make_Codes_Bytes_S0) (ac := make_Codes_Bytes_S1) (bid := 0) (step := (fun y => make_Codes_Bytes_s2 N y.1.1 y.1.2.1 y.2.1 y.2.2.1)) (J := (fun e => (goK 1 [5] make_Codes_Bytes_S1 (fun y => make_Codes_Bytes_3 N y.2.1 y.2.2.1)) (make_Codes_Bytes_S1.st [5] e))) hb (by kernel_rfl) (Blk.into (X := (goK 1 [5] make_Codes_Bytes_S1 (fun y => make_Codes_Bytes_3 N y.2.1 y.2.2.1))) (NxOk.go hb (make_Codes_Bytes_3_b N hb)) (fun x => by kernel_rfl)) (make_Codes_Bytes_s2_b N hb) (fun x => by kernel_rfl)
theorem make_Codes_Bytes_b {E : Env} (N : Nat) (hb : Base Try.prog (make_Codes_Bytes_C N) E 1) : Blk Try.prog (make_Codes_Bytes_C N) E (List.range make_Codes_Bytes_S2.ks.length) make_Codes_Bytes_S2 (make_Codes_Bytes_L.drop 0) (fun y => make_Codes_Bytes N y.1.1 y.2.1) (make_Codes_Bytes_K N) :=
  Blk.chunkAt hb 3 (X := (goK 1 [0, 1, 5, 6] make_Codes_Bytes_S0 (fun y => make_Codes_Bytes_1 N y.1.1 y.1.2.1 y.2.1 y.2.2.1))) (NxOk.go hb (make_Codes_Bytes_1_b N hb)) rfl (fun x => by kernel_rfl)
noncomputable def make_Codes_Bytes_ctr (N : Nat) : Ctr := ⟨make_Codes_Bytes_S2, make_Codes_Bytes_S1.un [false], 1, (fun y => make_Codes_Bytes N y.1.1 y.2.1)⟩
theorem make_Codes_Bytes_ctrs (N : Nat) : CtrsOk Try.prog (make_Codes_Bytes_C N) := ctrs_of (Γ := make_Codes_Bytes_C N) (by
  intro p hp
  simp only [make_Codes_Bytes_C, List.mem_cons, List.not_mem_nil, or_false] at hp
  rcases hp with rfl
  · exact make_Codes_Next_ok N)
theorem make_Codes_Bytes_ok (N : Nat) : Ctr.ok Try.prog G_globs 56 (make_Codes_Bytes_ctr N) :=
  ctr_fn (Γ := make_Codes_Bytes_C N) (rfit := make_Codes_Bytes_S1) (bs := [false]) (res := [4]) (by kernel_rfl) (tys_ok G_tys_ok) (make_Codes_Bytes_ctrs N) Try.func56 (by kernel_rfl) (by kernel_rfl) Try.ntmps56 (by kernel_rfl) (by kernel_rfl) (by kernel_rfl) (by kernel_rfl) (fun E hb => make_Codes_Bytes_b N hb)
end Go.Proofs.Ytgbkkfpheahdfaa