/- Functions of the program as plain functions, each with the proof that the text computes it. -/
import Derived.Test.YtgbkkfpheahdfaaFnsDecorrelateAgreesA
import Derived.Test.YtgbkkfpheahdfaaFnsDecorrelateAgreesB
set_option linter.unusedVariables false
set_option linter.unusedSimpArgs false
namespace Go.Proofs.Ytgbkkfpheahdfaa
open Go
set_option maxRecDepth 100000
set_option linter.unusedVariables false
/-! ipsecgate/ipsecgateref22.Action -/
abbrev ref22_Action_R : Type := ((Int × Int × Unit) × (Unit))
noncomputable def ref22_Action_s10 (N : Nat) (l_0 : (List D59)) (outbound_2 : Bool) (r_8 : Int) (ok_9 : Bool) (last_10 : Int) (i_11 : Int) (k_12 : Int) (p_4 : D29) : Option (Lo (((List D59) × Bool × Int × Bool × Int × Int × Int × Unit) × (D29 × Unit)) (((List D59) × Bool × Int × Bool × Int × Int × Unit) × (D29 × Unit)) (Lo (((List D59) × Bool × Int × Bool × Int × Int × Unit) × (D29 × Unit)) (((List D59) × Int × Bool × Unit) × (Unit)) ref22_Action_R)) :=
  bif inR i_11 l_0.length then
  bif (decide (k_12 < ((l_0.getD i_11.toNat ((0 : Int), ([] : List UInt8), ([] : List D45), ())).2.2.1.length : Int))) then
    bif inR i_11 l_0.length then
    bif (!(decide ((l_0.getD i_11.toNat ((0 : Int), ([] : List UInt8), ([] : List D45), ())).1 = (1 : Int)))) then
      bif inR i_11 l_0.length then
      let x13 := l_0.getD i_11.toNat ((0 : Int), ([] : List UInt8), ([] : List D45), ())
      bif inR k_12 x13.2.2.1.length then
      Option.bind (ref22_some N (x13.2.2.1.getD k_12.toNat (((0 : Int), (0 : UInt64), (0 : UInt64), ()), ((0 : Int), (0 : UInt64), (0 : UInt64), ()), ((0 : Int), (0 : UInt64), (0 : UInt64), ()), ((0 : Int), (0 : UInt64), (0 : UInt64), ()), (0 : Int), (0 : Int), (List.replicate 2 (0 : Int)), (List.replicate 2 (0 : Int)), ())) p_4 outbound_2) fun y15 =>
      bif y15.1.1 then
        some (.rt (.rt (((0 : Int), i_11, ()), (()))))
      else
        some (.go ((l_0, outbound_2, r_8, ok_9, last_10, i_11, (w64 (k_12 + (1 : Int))), ()), (p_4, ())))
      else none
      else none
    else
      some (.go ((l_0, outbound_2, r_8, ok_9, last_10, i_11, (w64 (k_12 + (1 : Int))), ()), (p_4, ())))
    else none
  else
    some (.br ((l_0, outbound_2, r_8, ok_9, last_10, i_11, ()), (p_4, ())))
  else none
noncomputable def ref22_Action_11 (N : Nat) (l_0 : (List D59)) (outbound_2 : Bool) (r_8 : Int) (ok_9 : Bool) (last_10 : Int) (i_11 : Int) (p_4 : D29) : Option (Lo (((List D59) × Bool × Int × Bool × Int × Int × Unit) × (D29 × Unit)) (((List D59) × Int × Bool × Unit) × (Unit)) ref22_Action_R) :=
  some (.go ((l_0, outbound_2, r_8, ok_9, last_10, (w64 (i_11 + (1 : Int))), ()), (p_4, ())))
noncomputable def ref22_Action_9 (N : Nat) (l_0 : (List D59)) (outbound_2 : Bool) (r_8 : Int) (ok_9 : Bool) (last_10 : Int) (i_11 : Int) (k_12 : Int) (p_4 : D29) : Option (Lo (((List D59) × Bool × Int × Bool × Int × Int × Unit) × (D29 × Unit)) (((List D59) × Int × Bool × Unit) × (Unit)) ref22_Action_R) :=
  loopK N (fun y => ref22_Action_s10 N y.1.1 y.1.2.1 y.1.2.2.1 y.1.2.2.2.1 y.1.2.2.2.2.1 y.1.2.2.2.2.2.1 y.1.2.2.2.2.2.2.1 y.2.1) (fun (e : (((List D59) × Bool × Int × Bool × Int × Int × Unit) × (D29 × Unit))) => ref22_Action_11 N e.1.1 e.1.2.1 e.1.2.2.1 e.1.2.2.2.1 e.1.2.2.2.2.1 e.1.2.2.2.2.2.1 e.2.1) ((l_0, outbound_2, r_8, ok_9, last_10, i_11, k_12, ()), (p_4, ()))
noncomputable def ref22_Action_8 (N : Nat) (l_0 : (List D59)) (outbound_2 : Bool) (r_8 : Int) (ok_9 : Bool) (last_10 : Int) (i_11 : Int) (p_4 : D29) : Option (Lo (((List D59) × Bool × Int × Bool × Int × Int × Unit) × (D29 × Unit)) (((List D59) × Int × Bool × Unit) × (Unit)) ref22_Action_R) :=
  ref22_Action_9 N l_0 outbound_2 r_8 ok_9 last_10 i_11 (0 : Int) p_4
noncomputable def ref22_Action_6 (N : Nat) (l_0 : (List D59)) (outbound_2 : Bool) (r_8 : Int) (ok_9 : Bool) (last_10 : Int) (i_11 : Int) (p_4 : D29) : Option (Lo (((List D59) × Bool × Int × Bool × Int × Int × Unit) × (D29 × Unit)) (((List D59) × Int × Bool × Unit) × (Unit)) ref22_Action_R) :=
  ref22_Action_8 N l_0 outbound_2 r_8 ok_9 last_10 i_11 p_4
noncomputable def ref22_Action_5 (N : Nat) (l_0 : (List D59)) (outbound_2 : Bool) (r_8 : Int) (ok_9 : Bool) (last_10 : Int) (i_11 : Int) (t_45 : Bool) (p_4 : D29) : Option (Lo (((List D59) × Bool × Int × Bool × Int × Int × Unit) × (D29 × Unit)) (((List D59) × Int × Bool × Unit) × (Unit)) ref22_Action_R) :=
  bif t_45 then
    ref22_Action_6 N l_0 outbound_2 r_8 ok_9 last_10 i_11 p_4
  else
    some (.br ((l_0, r_8, ok_9, ()), (())))
noncomputable def ref22_Action_s4 (N : Nat) (l_0 : (List D59)) (outbound_2 : Bool) (r_8 : Int) (ok_9 : Bool) (last_10 : Int) (i_11 : Int) (p_4 : D29) : Option (Lo (((List D59) × Bool × Int × Bool × Int × Int × Unit) × (D29 × Unit)) (((List D59) × Int × Bool × Unit) × (Unit)) ref22_Action_R) :=
  bif (decide (i_11 < last_10)) then
    Option.bind (ref22_hidden N p_4) fun y7 =>
    ref22_Action_5 N l_0 outbound_2 r_8 ok_9 last_10 i_11 y7.1.1 p_4
  else
    ref22_Action_5 N l_0 outbound_2 r_8 ok_9 last_10 i_11 false p_4
noncomputable def ref22_Action_12 (N : Nat) (l_0 : (List D59)) (r_8 : Int) (ok_9 : Bool) : Option ref22_Action_R :=
  bif !ok_9 then
    some (((0 : Int), (-1 : Int), ()), (()))
  else
    bif inR r_8 l_0.length then
    some (((l_0.getD r_8.toNat ((0 : Int), ([] : List UInt8), ([] : List D45), ())).1, r_8, ()), (()))
    else none
noncomputable def ref22_Action_3 (N : Nat) (l_0 : (List D59)) (outbound_2 : Bool) (r_8 : Int) (ok_9 : Bool) (last_10 : Int) (i_11 : Int) (p_4 : D29) : Option ref22_Action_R :=
  loopK N (fun y => ref22_Action_s4 N y.1.1 y.1.2.1 y.1.2.2.1 y.1.2.2.2.1 y.1.2.2.2.2.1 y.1.2.2.2.2.2.1 y.2.1) (fun (e : (((List D59) × Int × Bool × Unit) × (Unit))) => ref22_Action_12 N e.1.1 e.1.2.1 e.1.2.2.1) ((l_0, outbound_2, r_8, ok_9, last_10, i_11, ()), (p_4, ()))
noncomputable def ref22_Action_2 (N : Nat) (l_0 : (List D59)) (outbound_2 : Bool) (r_8 : Int) (ok_9 : Bool) (last_10 : Int) (p_4 : D29) : Option ref22_Action_R :=
  ref22_Action_3 N l_0 outbound_2 r_8 ok_9 last_10 (0 : Int) p_4
noncomputable def ref22_Action_1 (N : Nat) (l_0 : (List D59)) (outbound_2 : Bool) (r_8 : Int) (ok_9 : Bool) (t_28 : Bool) (p_4 : D29) : Option ref22_Action_R :=
  bif t_28 then
    bif inR r_8 l_0.length then
    some (((l_0.getD r_8.toNat ((0 : Int), ([] : List UInt8), ([] : List D45), ())).1, r_8, ()), (()))
    else none
  else
    bif ok_9 then
      ref22_Action_2 N l_0 outbound_2 r_8 ok_9 r_8 p_4
    else
      ref22_Action_2 N l_0 outbound_2 r_8 ok_9 (l_0.length : Int) p_4
noncomputable def ref22_Action (N : Nat) (l_0 : (List D59)) (p_1 : D29) (outbound_2 : Bool) : Option ref22_Action_R :=
  Option.bind (ref22_Rule N l_0 p_1 outbound_2) fun y1 =>
  bif y1.1.2.1 then
    bif inR y1.1.1 l_0.length then
    ref22_Action_1 N l_0 outbound_2 y1.1.1 y1.1.2.1 (!(decide ((l_0.getD y1.1.1.toNat ((0 : Int), ([] : List UInt8), ([] : List D45), ())).1 = (1 : Int)))) p_1
    else none
  else
    ref22_Action_1 N l_0 outbound_2 y1.1.1 y1.1.2.1 false p_1
noncomputable def ref22_Action_C (N : Nat) : Ctx := ⟨86, G_tys, [(41, ref22_Rule_ctr N), (91, ref22_hidden_ctr N), (92, ref22_some_ctr N)], G_globs⟩
noncomputable def ref22_Action_S0 : Spec := ⟨[.val (.sl T59), .val .bool, .ref 0 T29, .val .i64, .val .bool, .val .i64, .val .i64, .val .i64], [(.box 30 T29, .pos 2)]⟩
noncomputable def ref22_Action_S1 : Spec := ⟨[.val (.sl T59), .val .bool, .ref 0 T29, .val .i64, .val .bool, .val .i64, .val .i64], [(.box 30 T29, .pos 2)]⟩
noncomputable def ref22_Action_S2 : Spec := ⟨[.val (.sl T59), .val .bool, .ref 0 T29, .val .i64, .val .bool, .val .i64, .val .i64, .val .bool], [(.box 30 T29, .pos 2)]⟩
noncomputable def ref22_Action_S3 : Spec := ⟨[.val (.sl T59), .val .i64, .val .bool], []⟩
noncomputable def ref22_Action_S4 : Spec := ⟨[.val (.sl T59), .val .bool, .ref 0 T29, .val .i64, .val .bool, .val .i64], [(.box 30 T29, .pos 2)]⟩
noncomputable def ref22_Action_S5 : Spec := ⟨[.val (.sl T59), .val .bool, .ref 0 T29, .val .i64, .val .bool, .val .bool], [(.box 30 T29, .pos 2)]⟩
noncomputable def ref22_Action_S6 : Spec := ⟨[.val (.sl T59), .val T29, .val .bool], []⟩
noncomputable def ref22_Action_S7 : Spec := ⟨[.val .i64, .val .i64], []⟩
noncomputable def ref22_Action_K (_N : Nat) : XE → GS → Option ref22_Action_R := retK 0 [6, 7] [false, false] ref22_Action_S7
noncomputable def ref22_Action_L : List Code := (bodyOf (some Try.f44))
noncomputable def ref22_Action_L4 : List Code := (loopOf (ref22_Action_L[8]?))
noncomputable def ref22_Action_L7b : List Code := (blockOf (ref22_Action_L4[2]?))
noncomputable def ref22_Action_L10 : List Code := (loopOf (ref22_Action_L7b[1]?))
noncomputable def ref22_Action_K4 (N : Nat) : XE → GS → Option (Lo (((List D59) × Bool × Int × Bool × Int × Int × Unit) × (D29 × Unit)) (((List D59) × Int × Bool × Unit) × (Unit)) ref22_Action_R) := roundK (some 0) (fit 0 [0, 2, 4, 8, 9, 10, 11] ref22_Action_S1) (fit 0 [0, 8, 9] ref22_Action_S3) (ref22_Action_K N)
noncomputable def ref22_Action_K7 (N : Nat) : XE → GS → Option (Lo (((List D59) × Bool × Int × Bool × Int × Int × Unit) × (D29 × Unit)) (((List D59) × Int × Bool × Unit) × (Unit)) ref22_Action_R) := blockK 1 (goK 0 [0, 2, 4, 8, 9, 10, 11] ref22_Action_S1 (fun y => ref22_Action_11 N y.1.1 y.1.2.1 y.1.2.2.1 y.1.2.2.2.1 y.1.2.2.2.2.1 y.1.2.2.2.2.2.1 y.2.1)) (ref22_Action_K4 N)
noncomputable def ref22_Action_K10 (N : Nat) : XE → GS → Option (Lo (((List D59) × Bool × Int × Bool × Int × Int × Int × Unit) × (D29 × Unit)) (((List D59) × Bool × Int × Bool × Int × Int × Unit) × (D29 × Unit)) (Lo (((List D59) × Bool × Int × Bool × Int × Int × Unit) × (D29 × Unit)) (((List D59) × Int × Bool × Unit) × (Unit)) ref22_Action_R)) := roundK (some 2) (fit 0 [0, 2, 4, 8, 9, 10, 11, 12] ref22_Action_S0) (fit 0 [0, 2, 4, 8, 9, 10, 11] ref22_Action_S1) (ref22_Action_K7 N)
theorem ref22_Action_s10_b {E : Env} (N : Nat) (hb : Base Try.prog (ref22_Action_C N) E 0) : Blk Try.prog (ref22_Action_C N) E [0, 2, 4, 8, 9, 10, 11, 12] ref22_Action_S0 (ref22_Action_L10.drop 0) (fun y => ref22_Action_s10 N y.1.1 y.1.2.1 y.1.2.2.1 y.1.2.2.2.1 y.1.2.2.2.2.1 y.1.2.2.2.2.2.1 y.1.2.2.2.2.2.2.1 y.2.1) (ref22_Action_K10 N) :=
  Blk.chunkAt hb 4 (X := (ref22_Action_K10 N .normal)) (NxOk.end (by kernel_rfl)) rfl (fun x => by kernel_rfl)
theorem ref22_Action_11_b {E : Env} (N : Nat) (hb : Base Try.prog (ref22_Action_C N) E 0) : Blk Try.prog (ref22_Action_C N) E [0, 2, 4, 8, 9, 10, 11] ref22_Action_S1 (ref22_Action_L4.drop 3) (fun y => ref22_Action_11 N y.1.1 y.1.2.1 y.1.2.2.1 y.1.2.2.2.1 y.1.2.2.2.2.1 y.1.2.2.2.2.2.1 y.2.1) (ref22_Action_K4 N) :=
  Blk.chunkAt hb 1 (X := (ref22_Action_K4 N .normal)) (NxOk.end (by kernel_rfl)) rfl (fun x => by kernel_rfl)
theorem ref22_Action_9_b {E : Env} (N : Nat) (hb : Base Try.prog (ref22_Action_C N) E 0) : Blk Try.prog (ref22_Action_C N) E [0, 2, 4, 8, 9, 10, 11, 12] ref22_Action_S0 (ref22_Action_L7b.drop 1) (fun y => ref22_Action_9 N y.1.1 y.1.2.1 y.1.2.2.1 y.1.2.2.2.1 y.1.2.2.2.2.1 y.1.2.2.2.2.2.1 y.1.2.2.2.2.2.2.1 y.2.1) (ref22_Action_K7 N) :=
  Blk.loopAt (Nf := N) (hns := [0, 2, 4, 8, 9, 10, 11, 12]) (ans := [0, 2, 4, 8, 9, 10, 11]) (hc := ref22_Action_S0) (ac := ref22_Action_S1) (bid := 2) (step := (fun y => ref22_Action_s10 N y.1.1 y.1.2.1 y.1.2.2.1 y.1.2.2.2.1 y.1.2.2.2.2.1 y.1.2.2.2.2.2.1 y.1.2.2.2.2.2.2.1 y.2.1)) (J := (fun e => (ref22_Action_K7 N .normal) (ref22_Action_S1.st [0, 2, 4, 8, 9, 10, 11] e))) hb (by kernel_rfl) (Blk.into (X := (ref22_Action_K7 N .normal)) (NxOk.end (by kernel_rfl)) (fun x => by kernel_rfl)) (ref22_Action_s10_b N hb) (fun x => by kernel_rfl)
theorem ref22_Action_8_b {E : Env} (N : Nat) (hb : Base Try.prog (ref22_Action_C N) E 0) : Blk Try.prog (ref22_Action_C N) E [0, 2, 4, 8, 9, 10, 11] ref22_Action_S1 (ref22_Action_L7b.drop 0) (fun y => ref22_Action_8 N y.1.1 y.1.2.1 y.1.2.2.1 y.1.2.2.2.1 y.1.2.2.2.2.1 y.1.2.2.2.2.2.1 y.2.1) (ref22_Action_K7 N) :=
  Blk.chunkAt hb 1 (X := (goK 0 [0, 2, 4, 8, 9, 10, 11, 12] ref22_Action_S0 (fun y => ref22_Action_9 N y.1.1 y.1.2.1 y.1.2.2.1 y.1.2.2.2.1 y.1.2.2.2.2.1 y.1.2.2.2.2.2.1 y.1.2.2.2.2.2.2.1 y.2.1))) (NxOk.go hb (ref22_Action_9_b N hb)) rfl (fun x => by kernel_rfl)
theorem ref22_Action_6_b {E : Env} (N : Nat) (hb : Base Try.prog (ref22_Action_C N) E 0) : Blk Try.prog (ref22_Action_C N) E [0, 2, 4, 8, 9, 10, 11] ref22_Action_S1 (ref22_Action_L4.drop 2) (fun y => ref22_Action_6 N y.1.1 y.1.2.1 y.1.2.2.1 y.1.2.2.2.1 y.1.2.2.2.2.1 y.1.2.2.2.2.2.1 y.2.1) (ref22_Action_K4 N) :=
  Blk.blockAt (bid := 1) (X := (goK 0 [0, 2, 4, 8, 9, 10, 11] ref22_Action_S1 (fun y => ref22_Action_11 N y.1.1 y.1.2.1 y.1.2.2.1 y.1.2.2.2.1 y.1.2.2.2.2.1 y.1.2.2.2.2.2.1 y.2.1))) (Y := (goK 0 [0, 2, 4, 8, 9, 10, 11] ref22_Action_S1 (fun y => ref22_Action_8 N y.1.1 y.1.2.1 y.1.2.2.1 y.1.2.2.2.1 y.1.2.2.2.2.1 y.1.2.2.2.2.2.1 y.2.1))) (by kernel_rfl) (NxOk.go hb (ref22_Action_11_b N hb)) (NxOk.go hb (ref22_Action_8_b N hb)) (fun x => by kernel_rfl)
theorem ref22_Action_5_b {E : Env} (N : Nat) (hb : Base Try.prog (ref22_Action_C N) E 0) : Blk Try.prog (ref22_Action_C N) E [0, 2, 4, 8, 9, 10, 11, 45] ref22_Action_S2 (ref22_Action_L4.drop 1) (fun y => ref22_Action_5 N y.1.1 y.1.2.1 y.1.2.2.1 y.1.2.2.2.1 y.1.2.2.2.2.1 y.1.2.2.2.2.2.1 y.1.2.2.2.2.2.2.1 y.2.1) (ref22_Action_K4 N) :=
  Blk.chunkAt hb 1 (X := (goK 0 [0, 2, 4, 8, 9, 10, 11] ref22_Action_S1 (fun y => ref22_Action_6 N y.1.1 y.1.2.1 y.1.2.2.1 y.1.2.2.2.1 y.1.2.2.2.2.1 y.1.2.2.2.2.2.1 y.2.1))) (NxOk.go hb (ref22_Action_6_b N hb)) rfl (fun x => by kernel_rfl)
theorem ref22_Action_s4_b {E : Env} (N : Nat) (hb : Base Try.prog (ref22_Action_C N) E 0) : Blk Try.prog (ref22_Action_C N) E [0, 2, 4, 8, 9, 10, 11] ref22_Action_S1 (ref22_Action_L4.drop 0) (fun y => ref22_Action_s4 N y.1.1 y.1.2.1 y.1.2.2.1 y.1.2.2.2.1 y.1.2.2.2.2.1 y.1.2.2.2.2.2.1 y.2.1) (ref22_Action_K4 N) :=
  Blk.chunkAt hb 1 (X := (goK 0 [0, 2, 4, 8, 9, 10, 11, 45] ref22_Action_S2 (fun y => ref22_Action_5 N y.1.1 y.1.2.1 y.1.2.2.1 y.1.2.2.2.1 y.1.2.2.2.2.1 y.1.2.2.2.2.2.1 y.1.2.2.2.2.2.2.1 y.2.1))) (NxOk.go hb (ref22_Action_5_b N hb)) rfl (fun x => by kernel_rfl)
theorem ref22_Action_12_b {E : Env} (N : Nat) (hb : Base Try.prog (ref22_Action_C N) E 0) : Blk Try.prog (ref22_Action_C N) E [0, 8, 9] ref22_Action_S3 (ref22_Action_L.drop 9) (fun y => ref22_Action_12 N y.1.1 y.1.2.1 y.1.2.2.1) (ref22_Action_K N) :=
  Blk.chunkAt hb 4 (X := (ref22_Action_K N .normal)) (NxOk.end (by kernel_rfl)) rfl (fun x => by kernel_rfl)
theorem ref22_Action_3_b {E : Env} (N : Nat) (hb : Base Try.prog (ref22_Action_C N) E 0) : Blk Try.prog (ref22_Action_C N) E [0, 2, 4, 8, 9, 10, 11] ref22_Action_S1 (ref22_Action_L.drop 8) (fun y => ref22_Action_3 N y.1.1 y.1.2.1 y.1.2.2.1 y.1.2.2.2.1 y.1.2.2.2.2.1 y.1.2.2.2.2.2.1 y.2.1) (ref22_Action_K N) :=
  Blk.loopAt (Nf := N) (hns := [0, 2, 4, 8, 9, 10, 11]) (ans := [0, 8, 9]) (hc := ref22_Action_S1) (ac := ref22_Action_S3) (bid := 0) (step := (fun y => ref22_Action_s4 N y.1.1 y.1.2.1 y.1.2.2.1 y.1.2.2.2.1 y.1.2.2.2.2.1 y.1.2.2.2.2.2.1 y.2.1)) (J := (fun e => (goK 0 [0, 8, 9] ref22_Action_S3 (fun y => ref22_Action_12 N y.1.1 y.1.2.1 y.1.2.2.1)) (ref22_Action_S3.st [0, 8, 9] e))) hb (by kernel_rfl) (Blk.into (X := (goK 0 [0, 8, 9] ref22_Action_S3 (fun y => ref22_Action_12 N y.1.1 y.1.2.1 y.1.2.2.1))) (NxOk.go hb (ref22_Action_12_b N hb)) (fun x => by kernel_rfl)) (ref22_Action_s4_b N hb) (fun x => by kernel_rfl)
theorem ref22_Action_2_b {E : Env} (N : Nat) (hb : Base Try.prog (ref22_Action_C N) E 0) : Blk Try.prog (ref22_Action_C N) E [0, 2, 4, 8, 9, 10] ref22_Action_S4 (ref22_Action_L.drop 7) (fun y => ref22_Action_2 N y.1.1 y.1.2.1 y.1.2.2.1 y.1.2.2.2.1 y.1.2.2.2.2.1 y.2.1) (ref22_Action_K N) :=
  Blk.chunkAt hb 1 (X := (goK 0 [0, 2, 4, 8, 9, 10, 11] ref22_Action_S1 (fun y => ref22_Action_3 N y.1.1 y.1.2.1 y.1.2.2.1 y.1.2.2.2.1 y.1.2.2.2.2.1 y.1.2.2.2.2.2.1 y.2.1))) (NxOk.go hb (ref22_Action_3_b N hb)) rfl (fun x => by kernel_rfl)
theorem ref22_Action_1_b {E : Env} (N : Nat) (hb : Base Try.prog (ref22_Action_C N) E 0) : Blk Try.prog (ref22_Action_C N) E [0, 2, 4, 8, 9, 28] ref22_Action_S5 (ref22_Action_L.drop 3) (fun y => ref22_Action_1 N y.1.1 y.1.2.1 y.1.2.2.1 y.1.2.2.2.1 y.1.2.2.2.2.1 y.2.1) (ref22_Action_K N) :=
  Blk.chunkAt hb 4 (X := (goK 0 [0, 2, 4, 8, 9, 10] ref22_Action_S4 (fun y => ref22_Action_2 N y.1.1 y.1.2.1 y.1.2.2.1 y.1.2.2.2.1 y.1.2.2.2.2.1 y.2.1))) (NxOk.go hb (ref22_Action_2_b N hb)) rfl (fun x => by kernel_rfl)
theorem ref22_Action_b {E : Env} (N : Nat) (hb : Base Try.prog (ref22_Action_C N) E 0) : Blk Try.prog (ref22_Action_C N) E (List.range ref22_Action_S6.ks.length) ref22_Action_S6 (ref22_Action_L.drop 0) (fun y => ref22_Action N y.1.1 y.1.2.1 y.1.2.2.1) (ref22_Action_K N) :=
  Blk.chunkAt hb 3 (X := (goK 0 [0, 2, 4, 8, 9, 28] ref22_Action_S5 (fun y => ref22_Action_1 N y.1.1 y.1.2.1 y.1.2.2.1 y.1.2.2.2.1 y.1.2.2.2.2.1 y.2.1))) (NxOk.go hb (ref22_Action_1_b N hb)) rfl (fun x => by kernel_rfl)
noncomputable def ref22_Action_ctr (N : Nat) : Ctr := ⟨ref22_Action_S6, ref22_Action_S7.un [false, false], 0, (fun y => ref22_Action N y.1.1 y.1.2.1 y.1.2.2.1)⟩
theorem ref22_Action_ctrs (N : Nat) : CtrsOk Try.prog (ref22_Action_C N) := ctrs_of (Γ := ref22_Action_C N) (by
  intro p hp
  simp only [ref22_Action_C, List.mem_cons, List.not_mem_nil, or_false] at hp
  rcases hp with rfl | rfl | rfl
  · exact ref22_Rule_ok N
  · exact ref22_hidden_ok N
  · exact ref22_some_ok N)
theorem ref22_Action_ok (N : Nat) : Ctr.ok Try.prog G_globs 44 (ref22_Action_ctr N) :=
  ctr_fn (Γ := ref22_Action_C N) (rfit := ref22_Action_S7) (bs := [false, false]) (res := [6, 7]) (by kernel_rfl) (tys_ok G_tys_ok) (ref22_Action_ctrs N) Try.func44 (by kernel_rfl) (by kernel_rfl) Try.ntmps44 (by kernel_rfl) (by kernel_rfl) (by kernel_rfl) (by kernel_rfl) (fun E hb => ref22_Action_b N hb)
end Go.Proofs.Ytgbkkfpheahdfaa
namespace Go.Proofs.Ytgbkkfpheahdfaa
open Go
set_option maxRecDepth 100000
set_option linter.unusedVariables false
/-! ipsecgate/ipsecgateref19.Name -/
abbrev ref19_Name_R : Type := ((Bool × Unit) × (Unit))
noncomputable def ref19_Name_s3 (N : Nat) (s_0 : (List UInt8)) (i_3 : Int) : Option (Lo (((List UInt8) × Int × Unit) × (Unit)) ((Unit) × (Unit)) ref19_Name_R) :=
  bif (decide (i_3 < (s_0.length : Int))) then
    bif inR i_3 s_0.length then
    let x5 := s_0.getD i_3.toNat 0
    bif (decide ((48 : UInt8) ≤ x5)) then
      bif (decide (x5 ≤ (57 : UInt8))) then
        some (.go ((s_0, (w64 (i_3 + (1 : Int))), ()), (())))
      else
        bif (decide ((97 : UInt8) ≤ x5)) then
          bif (decide (x5 ≤ (122 : UInt8))) then
            some (.go ((s_0, (w64 (i_3 + (1 : Int))), ()), (())))
          else
            bif (decide ((65 : UInt8) ≤ x5)) then
              bif !(decide (x5 ≤ (90 : UInt8))) then
                some (.rt ((false, ()), (())))
              else
                some (.go ((s_0, (w64 (i_3 + (1 : Int))), ()), (())))
            else
              some (.rt ((false, ()), (())))
        else
          bif (decide ((65 : UInt8) ≤ x5)) then
            bif !(decide (x5 ≤ (90 : UInt8))) then
              some (.rt ((false, ()), (())))
            else
              some (.go ((s_0, (w64 (i_3 + (1 : Int))), ()), (())))
          else
            some (.rt ((false, ()), (())))
    else
      bif (decide ((97 : UInt8) ≤ x5)) then
        bif (decide (x5 ≤ (122 : UInt8))) then
          some (.go ((s_0, (w64 (i_3 + (1 : Int))), ()), (())))
        else
          bif (decide ((65 : UInt8) ≤ x5)) then
            bif !(decide (x5 ≤ (90 : UInt8))) then
              some (.rt ((false, ()), (())))
            else
              some (.go ((s_0, (w64 (i_3 + (1 : Int))), ()), (())))
          else
            some (.rt ((false, ()), (())))
      else
        bif (decide ((65 : UInt8) ≤ x5)) then
          bif !(decide (x5 ≤ (90 : UInt8))) then
            some (.rt ((false, ()), (())))
          else
            some (.go ((s_0, (w64 (i_3 + (1 : Int))), ()), (())))
        else
          some (.rt ((false, ()), (())))
    else none
  else
    some (.br ((()), (())))
noncomputable def ref19_Name_4 (N : Nat) : Option ref19_Name_R :=
  some ((true, ()), (()))
noncomputable def ref19_Name_2 (N : Nat) (s_0 : (List UInt8)) (i_3 : Int) : Option ref19_Name_R :=
  loopK N (fun y => ref19_Name_s3 N y.1.1 y.1.2.1) (fun (e : ((Unit) × (Unit))) => ref19_Name_4 N) ((s_0, i_3, ()), (()))
noncomputable def ref19_Name_1 (N : Nat) (s_0 : (List UInt8)) (t_12 : Bool) : Option ref19_Name_R :=
  bif t_12 then
    some ((false, ()), (()))
  else
    ref19_Name_2 N s_0 (0 : Int)
noncomputable def ref19_Name (N : Nat) (s_0 : (List UInt8)) : Option ref19_Name_R :=
  bif (decide ((s_0.length : Int) < (1 : Int))) then
    ref19_Name_1 N s_0 true
  else
    ref19_Name_1 N s_0 (decide ((16 : Int) < (s_0.length : Int)))
noncomputable def ref19_Name_C (N : Nat) : Ctx := ⟨45, G_tys, [], G_globs⟩
noncomputable def ref19_Name_S0 : Spec := ⟨[.val .str, .val .i64], []⟩
noncomputable def ref19_Name_S1 : Spec := ⟨[], []⟩
noncomputable def ref19_Name_S2 : Spec := ⟨[.val .str, .val .bool], []⟩
noncomputable def ref19_Name_S3 : Spec := ⟨[.val .str], []⟩
noncomputable def ref19_Name_S4 : Spec := ⟨[.val .bool], []⟩
noncomputable def ref19_Name_K (_N : Nat) : XE → GS → Option ref19_Name_R := retK 0 [2] [false] ref19_Name_S4
noncomputable def ref19_Name_L : List Code := (bodyOf (some Try.f151))
noncomputable def ref19_Name_L3 : List Code := (loopOf (ref19_Name_L[4]?))
noncomputable def ref19_Name_K3 (N : Nat) : XE → GS → Option (Lo (((List UInt8) × Int × Unit) × (Unit)) ((Unit) × (Unit)) ref19_Name_R) := roundK (some 0) (fit 0 [0, 3] ref19_Name_S0) (fit 0 [] ref19_Name_S1) (ref19_Name_K N)
theorem ref19_Name_s3_b {E : Env} (N : Nat) (hb : Base Try.prog (ref19_Name_C N) E 0) : Blk Try.prog (ref19_Name_C N) E [0, 3] ref19_Name_S0 (ref19_Name_L3.drop 0) (fun y => ref19_Name_s3 N y.1.1 y.1.2.1) (ref19_Name_K3 N) :=
  Blk.chunkAt hb 4 (X := (ref19_Name_K3 N .normal)) (NxOk.end (by kernel_rfl)) rfl (fun x => by kernel_rfl)
theorem ref19_Name_4_b {E : Env} (N : Nat) (hb : Base Try.prog (ref19_Name_C N) E 0) : Blk Try.prog (ref19_Name_C N) E [] ref19_Name_S1 (ref19_Name_L.drop 5) (fun y => ref19_Name_4 N) (ref19_Name_K N) :=
  Blk.chunkAt hb 2 (X := (ref19_Name_K N .normal)) (NxOk.end (by kernel_rfl)) rfl (fun x => by kernel_rfl)
theorem ref19_Name_2_b {E : Env} (N : Nat) (hb : Base Try.prog (ref19_Name_C N) E 0) : Blk Try.prog (ref19_Name_C N) E [0, 3] ref19_Name_S0 (ref19_Name_L.drop 4) (fun y => ref19_Name_2 N y.1.1 y.1.2.1) (ref19_Name_K N) :=
  Blk.loopAt (Nf := N) (hns := [0, 3]) (ans := []) (hc := ref19_Name_S0) (ac := ref19_Name_S1) (bid := 0) (step := (fun y => ref19_Name_s3 N y.1.1 y.1.2.1)) (J := (fun e => (goK 0 [] ref19_Name_S1 (fun y => ref19_Name_4 N)) (ref19_Name_S1.st [] e))) hb (by kernel_rfl) (Blk.into (X := (goK 0 [] ref19_Name_S1 (fun y => ref19_Name_4 N))) (NxOk.go hb (ref19_Name_4_b N hb)) (fun x => by kernel_rfl)) (ref19_Name_s3_b N hb) (fun x => by kernel_rfl)
theorem ref19_Name_1_b {E : Env} (N : Nat) (hb : Base Try.prog (ref19_Name_C N) E 0) : Blk Try.prog (ref19_Name_C N) E [0, 12] ref19_Name_S2 (ref19_Name_L.drop 2) (fun y => ref19_Name_1 N y.1.1 y.1.2.1) (ref19_Name_K N) :=
  Blk.chunkAt hb 2 (X := (goK 0 [0, 3] ref19_Name_S0 (fun y => ref19_Name_2 N y.1.1 y.1.2.1))) (NxOk.go hb (ref19_Name_2_b N hb)) rfl (fun x => by kernel_rfl)
theorem ref19_Name_b {E : Env} (N : Nat) (hb : Base Try.prog (ref19_Name_C N) E 0) : Blk Try.prog (ref19_Name_C N) E (List.range ref19_Name_S3.ks.length) ref19_Name_S3 (ref19_Name_L.drop 0) (fun y => ref19_Name N y.1.1) (ref19_Name_K N) :=
  Blk.chunkAt hb 2 (X := (goK 0 [0, 12] ref19_Name_S2 (fun y => ref19_Name_1 N y.1.1 y.1.2.1))) (NxOk.go hb (ref19_Name_1_b N hb)) rfl (fun x => by kernel_rfl)
noncomputable def ref19_Name_ctr (N : Nat) : Ctr := ⟨ref19_Name_S3, ref19_Name_S4.un [false], 0, (fun y => ref19_Name N y.1.1)⟩
theorem ref19_Name_ctrs (N : Nat) : CtrsOk Try.prog (ref19_Name_C N) := ctrs_nil rfl
theorem ref19_Name_ok (N : Nat) : Ctr.ok Try.prog G_globs 151 (ref19_Name_ctr N) :=
  ctr_fn (Γ := ref19_Name_C N) (rfit := ref19_Name_S4) (bs := [false]) (res := [2]) (by kernel_rfl) (tys_ok G_tys_ok) (ref19_Name_ctrs N) Try.func151 (by kernel_rfl) (by kernel_rfl) Try.ntmps151 (by kernel_rfl) (by kernel_rfl) (by kernel_rfl) (by kernel_rfl) (fun E hb => ref19_Name_b N hb)
end Go.Proofs.Ytgbkkfpheahdfaa
namespace Go.Proofs.Ytgbkkfpheahdfaa
open Go
set_option maxRecDepth 100000
set_option linter.unusedVariables false
/-! ipsecgate/ipsecgateref19.Check -/
abbrev ref19_Check_R : Type := ((Int × Unit) × (Unit))
noncomputable def ref19_Check_s8 (N : Nat) (l_0 : (List D59)) (i_3 : Int) (k_5 : Int) (r_4 : D59) (r_4_v : (List D45)) : Option (Lo (((List D59) × Int × Int × Unit) × (D59 × (List D45) × Unit)) (((List D59) × Int × Unit) × (Unit)) (Lo (((List D59) × Int × Unit) × (Unit)) ((Unit) × (Unit)) ref19_Check_R)) :=
  bif (decide (k_5 < (r_4_v.length : Int))) then
    bif inR k_5 r_4_v.length then
    Option.bind (ref19_CheckBox N (r_4_v.getD k_5.toNat (((0 : Int), (0 : UInt64), (0 : UInt64), ()), ((0 : Int), (0 : UInt64), (0 : UInt64), ()), ((0 : Int), (0 : UInt64), (0 : UInt64), ()), ((0 : Int), (0 : UInt64), (0 : UInt64), ()), (0 : Int), (0 : Int), (List.replicate 2 (0 : Int)), (List.replicate 2 (0 : Int)), ()))) fun y20 =>
    bif (!(decide (y20.1.1 = (0 : Int)))) then
      some (.rt (.rt ((y20.1.1, ()), (()))))
    else
      some (.go ((l_0, i_3, (w64 (k_5 + (1 : Int))), ()), (r_4, r_4_v, ())))
    else none
  else
    some (.br ((l_0, i_3, ()), (())))
noncomputable def ref19_Check_9 (N : Nat) (l_0 : (List D59)) (i_3 : Int) : Option (Lo (((List D59) × Int × Unit) × (Unit)) ((Unit) × (Unit)) ref19_Check_R) :=
  some (.go ((l_0, (w64 (i_3 + (1 : Int))), ()), (())))
noncomputable def ref19_Check_7 (N : Nat) (l_0 : (List D59)) (i_3 : Int) (k_5 : Int) (r_4 : D59) (r_4_v : (List D45)) : Option (Lo (((List D59) × Int × Unit) × (Unit)) ((Unit) × (Unit)) ref19_Check_R) :=
  loopK N (fun y => ref19_Check_s8 N y.1.1 y.1.2.1 y.1.2.2.1 y.2.1 y.2.2.1) (fun (e : (((List D59) × Int × Unit) × (Unit))) => ref19_Check_9 N e.1.1 e.1.2.1) ((l_0, i_3, k_5, ()), (r_4, r_4_v, ()))
noncomputable def ref19_Check_6 (N : Nat) (l_0 : (List D59)) (i_3 : Int) (r_4 : D59) (r_4_v : (List D45)) : Option (Lo (((List D59) × Int × Unit) × (Unit)) ((Unit) × (Unit)) ref19_Check_R) :=
  ref19_Check_7 N l_0 i_3 (0 : Int) r_4 r_4_v
noncomputable def ref19_Check_5 (N : Nat) (l_0 : (List D59)) (i_3 : Int) : Option (Lo (((List D59) × Int × Unit) × (Unit)) ((Unit) × (Unit)) ref19_Check_R) :=
  bif inR i_3 l_0.length then
  let x5 := l_0.getD i_3.toNat ((0 : Int), ([] : List UInt8), ([] : List D45), ())
  bif (decide (x5.1 < (0 : Int))) then
    some (.rt (((5 : Int), ()), (())))
  else
    bif (decide ((2 : Int) < x5.1)) then
      some (.rt (((5 : Int), ()), (())))
    else
      bif (decide (x5.1 = (2 : Int))) then
        Option.bind (ref19_Name N x5.2.1) fun y9 =>
        bif (!y9.1.1) then
          some (.rt (((14 : Int), ()), (())))
        else
          bif (!(decide (x5.1 = (2 : Int)))) then
            bif (!(decide (x5.2.1 = ([] : List UInt8)))) then
              some (.rt (((14 : Int), ()), (())))
            else
              bif (decide ((x5.2.2.1.length : Int) = (0 : Int))) then
                some (.rt (((8 : Int), ()), (())))
              else
                bif (decide ((16 : Int) < (x5.2.2.1.length : Int))) then
                  some (.rt (((10 : Int), ()), (())))
                else
                  ref19_Check_6 N l_0 i_3 x5 x5.2.2.1
          else
            bif (decide ((x5.2.2.1.length : Int) = (0 : Int))) then
              some (.rt (((8 : Int), ()), (())))
            else
              bif (decide ((16 : Int) < (x5.2.2.1.length : Int))) then
                some (.rt (((10 : Int), ()), (())))
              else
                ref19_Check_6 N l_0 i_3 x5 x5.2.2.1
      else
        bif (!(decide (x5.1 = (2 : Int)))) then
          bif (!(decide (x5.2.1 = ([] : List UInt8)))) then
            some (.rt (((14 : Int), ()), (())))
          else
            bif (decide ((x5.2.2.1.length : Int) = (0 : Int))) then
              some (.rt (((8 : Int), ()), (())))
            else
              bif (decide ((16 : Int) < (x5.2.2.1.length : Int))) then
                some (.rt (((10 : Int), ()), (())))
              else
                ref19_Check_6 N l_0 i_3 x5 x5.2.2.1
        else
          bif (decide ((x5.2.2.1.length : Int) = (0 : Int))) then
            some (.rt (((8 : Int), ()), (())))
          else
            bif (decide ((16 : Int) < (x5.2.2.1.length : Int))) then
              some (.rt (((10 : Int), ()), (())))
            else
              ref19_Check_6 N l_0 i_3 x5 x5.2.2.1
  else none
noncomputable def ref19_Check_3 (N : Nat) (l_0 : (List D59)) (i_3 : Int) : Option (Lo (((List D59) × Int × Unit) × (Unit)) ((Unit) × (Unit)) ref19_Check_R) :=
  ref19_Check_5 N l_0 i_3
noncomputable def ref19_Check_s2 (N : Nat) (l_0 : (List D59)) (i_3 : Int) : Option (Lo (((List D59) × Int × Unit) × (Unit)) ((Unit) × (Unit)) ref19_Check_R) :=
  bif (decide (i_3 < (l_0.length : Int))) then
    ref19_Check_3 N l_0 i_3
  else
    some (.br ((()), (())))
noncomputable def ref19_Check_10 (N : Nat) : Option ref19_Check_R :=
  some (((0 : Int), ()), (()))
noncomputable def ref19_Check_1 (N : Nat) (l_0 : (List D59)) (i_3 : Int) : Option ref19_Check_R :=
  loopK N (fun y => ref19_Check_s2 N y.1.1 y.1.2.1) (fun (e : ((Unit) × (Unit))) => ref19_Check_10 N) ((l_0, i_3, ()), (()))
noncomputable def ref19_Check (N : Nat) (l_0 : (List D59)) : Option ref19_Check_R :=
  bif (decide ((24 : Int) < (l_0.length : Int))) then
    some (((10 : Int), ()), (()))
  else
    ref19_Check_1 N l_0 (0 : Int)
noncomputable def ref19_Check_C (N : Nat) : Ctx := ⟨75, G_tys, [(151, ref19_Name_ctr N), (46, ref19_CheckBox_ctr N)], G_globs⟩
noncomputable def ref19_Check_S0 : Spec := ⟨[.val (.sl T59), .val .i64, .ref 0 T59, .val .i64], [(.sval 60 T59 2 (.sl T45), .pos 2)]⟩
noncomputable def ref19_Check_S1 : Spec := ⟨[.val (.sl T59), .val .i64], []⟩
noncomputable def ref19_Check_S2 : Spec := ⟨[.val (.sl T59), .val .i64, .ref 0 T59], [(.sval 60 T59 2 (.sl T45), .pos 2)]⟩
noncomputable def ref19_Check_S3 : Spec := ⟨[], []⟩
noncomputable def ref19_Check_S4 : Spec := ⟨[.val (.sl T59)], []⟩
noncomputable def ref19_Check_S5 : Spec := ⟨[.val .i64], []⟩
noncomputable def ref19_Check_K (_N : Nat) : XE → GS → Option ref19_Check_R := retK 0 [2] [false] ref19_Check_S5
noncomputable def ref19_Check_L : List Code := (bodyOf (some Try.f89))
noncomputable def ref19_Check_L2 : List Code := (loopOf (ref19_Check_L[4]?))
noncomputable def ref19_Check_L4b : List Code := (blockOf (ref19_Check_L2[2]?))
noncomputable def ref19_Check_L8 : List Code := (loopOf (ref19_Check_L4b[3]?))
noncomputable def ref19_Check_K2 (N : Nat) : XE → GS → Option (Lo (((List D59) × Int × Unit) × (Unit)) ((Unit) × (Unit)) ref19_Check_R) := roundK (some 0) (fit 0 [0, 3] ref19_Check_S1) (fit 0 [] ref19_Check_S3) (ref19_Check_K N)
noncomputable def ref19_Check_K4 (N : Nat) : XE → GS → Option (Lo (((List D59) × Int × Unit) × (Unit)) ((Unit) × (Unit)) ref19_Check_R) := blockK 1 (goK 0 [0, 3] ref19_Check_S1 (fun y => ref19_Check_9 N y.1.1 y.1.2.1)) (ref19_Check_K2 N)
noncomputable def ref19_Check_K8 (N : Nat) : XE → GS → Option (Lo (((List D59) × Int × Int × Unit) × (D59 × (List D45) × Unit)) (((List D59) × Int × Unit) × (Unit)) (Lo (((List D59) × Int × Unit) × (Unit)) ((Unit) × (Unit)) ref19_Check_R)) := roundK (some 3) (fit 0 [0, 3, 4, 5] ref19_Check_S0) (fit 0 [0, 3] ref19_Check_S1) (ref19_Check_K4 N)
theorem ref19_Check_s8_b {E : Env} (N : Nat) (hb : Base Try.prog (ref19_Check_C N) E 0) : Blk Try.prog (ref19_Check_C N) E [0, 3, 4, 5] ref19_Check_S0 (ref19_Check_L8.drop 0) (fun y => ref19_Check_s8 N y.1.1 y.1.2.1 y.1.2.2.1 y.2.1 y.2.2.1) (ref19_Check_K8 N) :=
  Blk.chunkAt hb 4 (X := (ref19_Check_K8 N .normal)) (NxOk.end (by kernel_rfl)) rfl (fun x => by kernel_rfl)
theorem ref19_Check_9_b {E : Env} (N : Nat) (hb : Base Try.prog (ref19_Check_C N) E 0) : Blk Try.prog (ref19_Check_C N) E [0, 3] ref19_Check_S1 (ref19_Check_L2.drop 3) (fun y => ref19_Check_9 N y.1.1 y.1.2.1) (ref19_Check_K2 N) :=
  Blk.chunkAt hb 1 (X := (ref19_Check_K2 N .normal)) (NxOk.end (by kernel_rfl)) rfl (fun x => by kernel_rfl)
theorem ref19_Check_7_b {E : Env} (N : Nat) (hb : Base Try.prog (ref19_Check_C N) E 0) : Blk Try.prog (ref19_Check_C N) E [0, 3, 4, 5] ref19_Check_S0 (ref19_Check_L4b.drop 3) (fun y => ref19_Check_7 N y.1.1 y.1.2.1 y.1.2.2.1 y.2.1 y.2.2.1) (ref19_Check_K4 N) :=
  Blk.loopAt (Nf := N) (hns := [0, 3, 4, 5]) (ans := [0, 3]) (hc := ref19_Check_S0) (ac := ref19_Check_S1) (bid := 3) (step := (fun y => ref19_Check_s8 N y.1.1 y.1.2.1 y.1.2.2.1 y.2.1 y.2.2.1)) (J := (fun e => (ref19_Check_K4 N .normal) (ref19_Check_S1.st [0, 3] e))) hb (by kernel_rfl) (Blk.into (X := (ref19_Check_K4 N .normal)) (NxOk.end (by kernel_rfl)) (fun x => by kernel_rfl)) (ref19_Check_s8_b N hb) (fun x => by kernel_rfl)
theorem ref19_Check_6_b {E : Env} (N : Nat) (hb : Base Try.prog (ref19_Check_C N) E 0) : Blk Try.prog (ref19_Check_C N) E [0, 3, 4] ref19_Check_S2 (ref19_Check_L4b.drop 2) (fun y => ref19_Check_6 N y.1.1 y.1.2.1 y.2.1 y.2.2.1) (ref19_Check_K4 N) :=
  Blk.chunkAt hb 1 (X := (goK 0 [0, 3, 4, 5] ref19_Check_S0 (fun y => ref19_Check_7 N y.1.1 y.1.2.1 y.1.2.2.1 y.2.1 y.2.2.1))) (NxOk.go hb (ref19_Check_7_b N hb)) rfl (fun x => by kernel_rfl)
theorem ref19_Check_5_b {E : Env} (N : Nat) (hb : Base Try.prog (ref19_Check_C N) E 0) : Blk Try.prog (ref19_Check_C N) E [0, 3] ref19_Check_S1 (ref19_Check_L4b.drop 0) (fun y => ref19_Check_5 N y.1.1 y.1.2.1) (ref19_Check_K4 N) :=
  Blk.chunkAt hb 2 (X := (goK 0 [0, 3, 4] ref19_Check_S2 (fun y => ref19_Check_6 N y.1.1 y.1.2.1 y.2.1 y.2.2.1))) (NxOk.go hb (ref19_Check_6_b N hb)) rfl (fun x => by kernel_rfl)
theorem ref19_Check_3_b {E : Env} (N : Nat) (hb : Base Try.prog (ref19_Check_C N) E 0) : Blk Try.prog (ref19_Check_C N) E [0, 3] ref19_Check_S1 (ref19_Check_L2.drop 2) (fun y => ref19_Check_3 N y.1.1 y.1.2.1) (ref19_Check_K2 N) :=
  Blk.blockAt (bid := 1) (X := (goK 0 [0, 3] ref19_Check_S1 (fun y => ref19_Check_9 N y.1.1 y.1.2.1))) (Y := (goK 0 [0, 3] ref19_Check_S1 (fun y => ref19_Check_5 N y.1.1 y.1.2.1))) (by kernel_rfl) (NxOk.go hb (ref19_Check_9_b N hb)) (NxOk.go hb (ref19_Check_5_b N hb)) (fun x => by kernel_rfl)
theorem ref19_Check_s2_b {E : Env} (N : Nat) (hb : Base Try.prog (ref19_Check_C N) E 0) : Blk Try.prog (ref19_Check_C N) E [0, 3] ref19_Check_S1 (ref19_Check_L2.drop 0) (fun y => ref19_Check_s2 N y.1.1 y.1.2.1) (ref19_Check_K2 N) :=
  Blk.chunkAt hb 2 (X := (goK 0 [0, 3] ref19_Check_S1 (fun y => ref19_Check_3 N y.1.1 y.1.2.1))) (NxOk.go hb (ref19_Check_3_b N hb)) rfl (fun x => by kernel_rfl)
theorem ref19_Check_10_b {E : Env} (N : Nat) (hb : Base Try.prog (ref19_Check_C N) E 0) : Blk Try.prog (ref19_Check_C N) E [] ref19_Check_S3 (ref19_Check_L.drop 5) (fun y => ref19_Check_10 N) (ref19_Check_K N) :=
  Blk.chunkAt hb 2 (X := (ref19_Check_K N .normal)) (NxOk.end (by kernel_rfl)) rfl (fun x => by kernel_rfl)
theorem ref19_Check_1_b {E : Env} (N : Nat) (hb : Base Try.prog (ref19_Check_C N) E 0) : Blk Try.prog (ref19_Check_C N) E [0, 3] ref19_Check_S1 (ref19_Check_L.drop 4) (fun y => ref19_Check_1 N y.1.1 y.1.2.1) (ref19_Check_K N) :=
  Blk.loopAt (Nf := N) (hns := [0, 3]) (ans := []) (hc := ref19_Check_S1) (ac := ref19_Check_S3) (bid := 0) (step := (fun y => ref19_Check_s2 N y.1.1 y.1.2.1)) (J := (fun e => (goK 0 [] ref19_Check_S3 (fun y => ref19_Check_10 N)) (ref19_Check_S3.st [] e))) hb (by kernel_rfl) (Blk.into (X := (goK 0 [] ref19_Check_S3 (fun y => ref19_Check_10 N))) (NxOk.go hb (ref19_Check_10_b N hb)) (fun x => by kernel_rfl)) (ref19_Check_s2_b N hb) (fun x => by kernel_rfl)
theorem ref19_Check_b {E : Env} (N : Nat) (hb : Base Try.prog (ref19_Check_C N) E 0) : Blk Try.prog (ref19_Check_C N) E (List.range ref19_Check_S4.ks.length) ref19_Check_S4 (ref19_Check_L.drop 0) (fun y => ref19_Check N y.1.1) (ref19_Check_K N) :=
  Blk.chunkAt hb 4 (X := (goK 0 [0, 3] ref19_Check_S1 (fun y => ref19_Check_1 N y.1.1 y.1.2.1))) (NxOk.go hb (ref19_Check_1_b N hb)) rfl (fun x => by kernel_rfl)
noncomputable def ref19_Check_ctr (N : Nat) : Ctr := ⟨ref19_Check_S4, ref19_Check_S5.un [false], 0, (fun y => ref19_Check N y.1.1)⟩
theorem ref19_Check_ctrs (N : Nat) : CtrsOk Try.prog (ref19_Check_C N) := ctrs_of (Γ := ref19_Check_C N) (by
  intro p hp
  simp only [ref19_Check_C, List.mem_cons, List.not_mem_nil, or_false] at hp
  rcases hp with rfl | rfl
  · exact ref19_Name_ok N
  · exact ref19_CheckBox_ok N)
theorem ref19_Check_ok (N : Nat) : Ctr.ok Try.prog G_globs 89 (ref19_Check_ctr N) :=
  ctr_fn (Γ := ref19_Check_C N) (rfit := ref19_Check_S5) (bs := [false]) (res := [2]) (by kernel_rfl) (tys_ok G_tys_ok) (ref19_Check_ctrs N) Try.func89 (by kernel_rfl) (by kernel_rfl) Try.ntmps89 (by kernel_rfl) (by kernel_rfl) (by kernel_rfl) (by kernel_rfl) (fun E hb => ref19_Check_b N hb)
end Go.Proofs.Ytgbkkfpheahdfaa
namespace Go.Proofs.Ytgbkkfpheahdfaa
open Go
set_option maxRecDepth 100000
set_option linter.unusedVariables false
/-! ipsecgate/ipsecgateref20.Entries -/
abbrev ref20_Entries_R : Type := ((Int × Unit) × ((List D85) × Unit))
noncomputable def ref20_Entries_s17 (N : Nat) (l_0 : (List D59)) (i_6 : Int) (k_7 : Int) (j_9 : Int) (q_11 : Int) (out_5 : (List D85)) (pieces_8 : (List D45)) (next_10 : (List D45)) : Option (Lo (((List D59) × Int × Int × Int × Int × Unit) × ((List D85) × (List D45) × (List D45) × Unit)) (((List D59) × Int × Int × Int × Unit) × ((List D85) × (List D45) × Unit)) (Lo (((List D59) × Int × Int × Int × Unit) × ((List D85) × (List D45) × Unit)) (((List D59) × Int × Int × Unit) × ((List D85) × (List D45) × Unit)) (Lo (((List D59) × Int × Int × Unit) × ((List D85) × Unit)) (((List D59) × Int × Unit) × ((List D85) × Unit)) (Lo (((List D59) × Int × Unit) × ((List D85) × Unit)) ((Unit) × ((List D85) × Unit)) ref20_Entries_R)))) :=
  bif (decide (q_11 < (pieces_8.length : Int))) then
    bif inR q_11 pieces_8.length then
    bif inR j_9 out_5.length then
    Option.bind (ref20_Minus N (pieces_8.getD q_11.toNat (((0 : Int), (0 : UInt64), (0 : UInt64), ()), ((0 : Int), (0 : UInt64), (0 : UInt64), ()), ((0 : Int), (0 : UInt64), (0 : UInt64), ()), ((0 : Int), (0 : UInt64), (0 : UInt64), ()), (0 : Int), (0 : Int), (List.replicate 2 (0 : Int)), (List.replicate 2 (0 : Int)), ())) ((out_5.getD j_9.toNat ((((0 : Int), (0 : UInt64), (0 : UInt64), ()), ((0 : Int), (0 : UInt64), (0 : UInt64), ()), ((0 : Int), (0 : UInt64), (0 : UInt64), ()), ((0 : Int), (0 : UInt64), (0 : UInt64), ()), (0 : Int), (0 : Int), (List.replicate 2 (0 : Int)), (List.replicate 2 (0 : Int)), ()), (0 : Int), ())).1)) fun y16 =>
    bif room (next_10.length + y16.2.1.length) 144 then
    some (.go ((l_0, i_6, k_7, j_9, (w64 (q_11 + (1 : Int))), ()), (out_5, pieces_8, (next_10 ++ y16.2.1), ())))
    else none
    else none
    else none
  else
    some (.br ((l_0, i_6, k_7, j_9, ()), (out_5, next_10, ())))
noncomputable def ref20_Entries_19 (N : Nat) (l_0 : (List D59)) (i_6 : Int) (k_7 : Int) (j_9 : Int) (out_5 : (List D85)) (pieces_8 : (List D45)) : Option (Lo (((List D59) × Int × Int × Int × Unit) × ((List D85) × (List D45) × Unit)) (((List D59) × Int × Int × Unit) × ((List D85) × (List D45) × Unit)) (Lo (((List D59) × Int × Int × Unit) × ((List D85) × Unit)) (((List D59) × Int × Unit) × ((List D85) × Unit)) (Lo (((List D59) × Int × Unit) × ((List D85) × Unit)) ((Unit) × ((List D85) × Unit)) ref20_Entries_R))) :=
  some (.go ((l_0, i_6, k_7, (w64 (j_9 + (1 : Int))), ()), (out_5, pieces_8, ())))
noncomputable def ref20_Entries_18 (N : Nat) (l_0 : (List D59)) (i_6 : Int) (k_7 : Int) (j_9 : Int) (out_5 : (List D85)) (next_10 : (List D45)) : Option (Lo (((List D59) × Int × Int × Int × Unit) × ((List D85) × (List D45) × Unit)) (((List D59) × Int × Int × Unit) × ((List D85) × (List D45) × Unit)) (Lo (((List D59) × Int × Int × Unit) × ((List D85) × Unit)) (((List D59) × Int × Unit) × ((List D85) × Unit)) (Lo (((List D59) × Int × Unit) × ((List D85) × Unit)) ((Unit) × ((List D85) × Unit)) ref20_Entries_R))) :=
  bif (decide ((400 : Int) < (next_10.length : Int))) then
    some (.rt (.rt (.rt (((10 : Int), ()), (([] : List D85), ())))))
  else
    ref20_Entries_19 N l_0 i_6 k_7 j_9 out_5 next_10
noncomputable def ref20_Entries_16 (N : Nat) (l_0 : (List D59)) (i_6 : Int) (k_7 : Int) (j_9 : Int) (q_11 : Int) (out_5 : (List D85)) (pieces_8 : (List D45)) (next_10 : (List D45)) : Option (Lo (((List D59) × Int × Int × Int × Unit) × ((List D85) × (List D45) × Unit)) (((List D59) × Int × Int × Unit) × ((List D85) × (List D45) × Unit)) (Lo (((List D59) × Int × Int × Unit) × ((List D85) × Unit)) (((List D59) × Int × Unit) × ((List D85) × Unit)) (Lo (((List D59) × Int × Unit) × ((List D85) × Unit)) ((Unit) × ((List D85) × Unit)) ref20_Entries_R))) :=
  loopK N (fun y => ref20_Entries_s17 N y.1.1 y.1.2.1 y.1.2.2.1 y.1.2.2.2.1 y.1.2.2.2.2.1 y.2.1 y.2.2.1 y.2.2.2.1) (fun (e : (((List D59) × Int × Int × Int × Unit) × ((List D85) × (List D45) × Unit))) => ref20_Entries_18 N e.1.1 e.1.2.1 e.1.2.2.1 e.1.2.2.2.1 e.2.1 e.2.2.1) ((l_0, i_6, k_7, j_9, q_11, ()), (out_5, pieces_8, next_10, ()))
noncomputable def ref20_Entries_15 (N : Nat) (l_0 : (List D59)) (i_6 : Int) (k_7 : Int) (j_9 : Int) (out_5 : (List D85)) (pieces_8 : (List D45)) : Option (Lo (((List D59) × Int × Int × Int × Unit) × ((List D85) × (List D45) × Unit)) (((List D59) × Int × Int × Unit) × ((List D85) × (List D45) × Unit)) (Lo (((List D59) × Int × Int × Unit) × ((List D85) × Unit)) (((List D59) × Int × Unit) × ((List D85) × Unit)) (Lo (((List D59) × Int × Unit) × ((List D85) × Unit)) ((Unit) × ((List D85) × Unit)) ref20_Entries_R))) :=
  ref20_Entries_16 N l_0 i_6 k_7 j_9 (0 : Int) out_5 pieces_8 ([] : List D45)
noncomputable def ref20_Entries_13 (N : Nat) (l_0 : (List D59)) (i_6 : Int) (k_7 : Int) (j_9 : Int) (out_5 : (List D85)) (pieces_8 : (List D45)) : Option (Lo (((List D59) × Int × Int × Int × Unit) × ((List D85) × (List D45) × Unit)) (((List D59) × Int × Int × Unit) × ((List D85) × (List D45) × Unit)) (Lo (((List D59) × Int × Int × Unit) × ((List D85) × Unit)) (((List D59) × Int × Unit) × ((List D85) × Unit)) (Lo (((List D59) × Int × Unit) × ((List D85) × Unit)) ((Unit) × ((List D85) × Unit)) ref20_Entries_R))) :=
  ref20_Entries_15 N l_0 i_6 k_7 j_9 out_5 pieces_8
noncomputable def ref20_Entries_s12 (N : Nat) (l_0 : (List D59)) (i_6 : Int) (k_7 : Int) (j_9 : Int) (out_5 : (List D85)) (pieces_8 : (List D45)) : Option (Lo (((List D59) × Int × Int × Int × Unit) × ((List D85) × (List D45) × Unit)) (((List D59) × Int × Int × Unit) × ((List D85) × (List D45) × Unit)) (Lo (((List D59) × Int × Int × Unit) × ((List D85) × Unit)) (((List D59) × Int × Unit) × ((List D85) × Unit)) (Lo (((List D59) × Int × Unit) × ((List D85) × Unit)) ((Unit) × ((List D85) × Unit)) ref20_Entries_R))) :=
  bif (decide (j_9 < (out_5.length : Int))) then
    ref20_Entries_13 N l_0 i_6 k_7 j_9 out_5 pieces_8
  else
    some (.br ((l_0, i_6, k_7, ()), (out_5, pieces_8, ())))
noncomputable def ref20_Entries_s22 (N : Nat) (l_0 : (List D59)) (i_6 : Int) (k_7 : Int) (q_12 : Int) (out_5 : (List D85)) (pieces_8 : (List D45)) : Option (Lo (((List D59) × Int × Int × Int × Unit) × ((List D85) × (List D45) × Unit)) (((List D59) × Int × Int × Unit) × ((List D85) × Unit)) (Lo (((List D59) × Int × Int × Unit) × ((List D85) × Unit)) (((List D59) × Int × Unit) × ((List D85) × Unit)) (Lo (((List D59) × Int × Unit) × ((List D85) × Unit)) ((Unit) × ((List D85) × Unit)) ref20_Entries_R))) :=
  bif (decide (q_12 < (pieces_8.length : Int))) then
    bif inR q_12 pieces_8.length then
    let x24 := (pieces_8.getD q_12.toNat (((0 : Int), (0 : UInt64), (0 : UInt64), ()), ((0 : Int), (0 : UInt64), (0 : UInt64), ()), ((0 : Int), (0 : UInt64), (0 : UInt64), ()), ((0 : Int), (0 : UInt64), (0 : UInt64), ()), (0 : Int), (0 : Int), (List.replicate 2 (0 : Int)), (List.replicate 2 (0 : Int)), ()))
    bif room (out_5.length + ([(x24, i_6, ())] : List D85).length) 152 then
    some (.go ((l_0, i_6, k_7, (w64 (q_12 + (1 : Int))), ()), ((out_5 ++ ([(x24, i_6, ())] : List D85)), pieces_8, ())))
    else none
    else none
  else
    some (.br ((l_0, i_6, k_7, ()), (out_5, ())))
noncomputable def ref20_Entries_24 (N : Nat) (l_0 : (List D59)) (i_6 : Int) (k_7 : Int) (out_5 : (List D85)) : Option (Lo (((List D59) × Int × Int × Unit) × ((List D85) × Unit)) (((List D59) × Int × Unit) × ((List D85) × Unit)) (Lo (((List D59) × Int × Unit) × ((List D85) × Unit)) ((Unit) × ((List D85) × Unit)) ref20_Entries_R)) :=
  some (.go ((l_0, i_6, (w64 (k_7 + (1 : Int))), ()), (out_5, ())))
noncomputable def ref20_Entries_23 (N : Nat) (l_0 : (List D59)) (i_6 : Int) (k_7 : Int) (out_5 : (List D85)) : Option (Lo (((List D59) × Int × Int × Unit) × ((List D85) × Unit)) (((List D59) × Int × Unit) × ((List D85) × Unit)) (Lo (((List D59) × Int × Unit) × ((List D85) × Unit)) ((Unit) × ((List D85) × Unit)) ref20_Entries_R)) :=
  bif (decide ((400 : Int) < (out_5.length : Int))) then
    some (.rt (.rt (((10 : Int), ()), (([] : List D85), ()))))
  else
    ref20_Entries_24 N l_0 i_6 k_7 out_5
noncomputable def ref20_Entries_21 (N : Nat) (l_0 : (List D59)) (i_6 : Int) (k_7 : Int) (q_12 : Int) (out_5 : (List D85)) (pieces_8 : (List D45)) : Option (Lo (((List D59) × Int × Int × Unit) × ((List D85) × Unit)) (((List D59) × Int × Unit) × ((List D85) × Unit)) (Lo (((List D59) × Int × Unit) × ((List D85) × Unit)) ((Unit) × ((List D85) × Unit)) ref20_Entries_R)) :=
  loopK N (fun y => ref20_Entries_s22 N y.1.1 y.1.2.1 y.1.2.2.1 y.1.2.2.2.1 y.2.1 y.2.2.1) (fun (e : (((List D59) × Int × Int × Unit) × ((List D85) × Unit))) => ref20_Entries_23 N e.1.1 e.1.2.1 e.1.2.2.1 e.2.1) ((l_0, i_6, k_7, q_12, ()), (out_5, pieces_8, ()))
noncomputable def ref20_Entries_20 (N : Nat) (l_0 : (List D59)) (i_6 : Int) (k_7 : Int) (out_5 : (List D85)) (pieces_8 : (List D45)) : Option (Lo (((List D59) × Int × Int × Unit) × ((List D85) × Unit)) (((List D59) × Int × Unit) × ((List D85) × Unit)) (Lo (((List D59) × Int × Unit) × ((List D85) × Unit)) ((Unit) × ((List D85) × Unit)) ref20_Entries_R)) :=
  ref20_Entries_21 N l_0 i_6 k_7 (0 : Int) out_5 pieces_8
noncomputable def ref20_Entries_11 (N : Nat) (l_0 : (List D59)) (i_6 : Int) (k_7 : Int) (j_9 : Int) (out_5 : (List D85)) (pieces_8 : (List D45)) : Option (Lo (((List D59) × Int × Int × Unit) × ((List D85) × Unit)) (((List D59) × Int × Unit) × ((List D85) × Unit)) (Lo (((List D59) × Int × Unit) × ((List D85) × Unit)) ((Unit) × ((List D85) × Unit)) ref20_Entries_R)) :=
  loopK N (fun y => ref20_Entries_s12 N y.1.1 y.1.2.1 y.1.2.2.1 y.1.2.2.2.1 y.2.1 y.2.2.1) (fun (e : (((List D59) × Int × Int × Unit) × ((List D85) × (List D45) × Unit))) => ref20_Entries_20 N e.1.1 e.1.2.1 e.1.2.2.1 e.2.1 e.2.2.1) ((l_0, i_6, k_7, j_9, ()), (out_5, pieces_8, ()))
noncomputable def ref20_Entries_10 (N : Nat) (l_0 : (List D59)) (i_6 : Int) (k_7 : Int) (out_5 : (List D85)) : Option (Lo (((List D59) × Int × Int × Unit) × ((List D85) × Unit)) (((List D59) × Int × Unit) × ((List D85) × Unit)) (Lo (((List D59) × Int × Unit) × ((List D85) × Unit)) ((Unit) × ((List D85) × Unit)) ref20_Entries_R)) :=
  bif inR i_6 l_0.length then
  let x8 := l_0.getD i_6.toNat ((0 : Int), ([] : List UInt8), ([] : List D45), ())
  bif inR k_7 x8.2.2.1.length then
  ref20_Entries_11 N l_0 i_6 k_7 (0 : Int) out_5 ([(x8.2.2.1.getD k_7.toNat (((0 : Int), (0 : UInt64), (0 : UInt64), ()), ((0 : Int), (0 : UInt64), (0 : UInt64), ()), ((0 : Int), (0 : UInt64), (0 : UInt64), ()), ((0 : Int), (0 : UInt64), (0 : UInt64), ()), (0 : Int), (0 : Int), (List.replicate 2 (0 : Int)), (List.replicate 2 (0 : Int)), ()))] : List D45)
  else none
  else none
noncomputable def ref20_Entries_8 (N : Nat) (l_0 : (List D59)) (i_6 : Int) (k_7 : Int) (out_5 : (List D85)) : Option (Lo (((List D59) × Int × Int × Unit) × ((List D85) × Unit)) (((List D59) × Int × Unit) × ((List D85) × Unit)) (Lo (((List D59) × Int × Unit) × ((List D85) × Unit)) ((Unit) × ((List D85) × Unit)) ref20_Entries_R)) :=
  ref20_Entries_10 N l_0 i_6 k_7 out_5
noncomputable def ref20_Entries_s7 (N : Nat) (l_0 : (List D59)) (i_6 : Int) (k_7 : Int) (out_5 : (List D85)) : Option (Lo (((List D59) × Int × Int × Unit) × ((List D85) × Unit)) (((List D59) × Int × Unit) × ((List D85) × Unit)) (Lo (((List D59) × Int × Unit) × ((List D85) × Unit)) ((Unit) × ((List D85) × Unit)) ref20_Entries_R)) :=
  bif inR i_6 l_0.length then
  bif (decide (k_7 < ((l_0.getD i_6.toNat ((0 : Int), ([] : List UInt8), ([] : List D45), ())).2.2.1.length : Int))) then
    ref20_Entries_8 N l_0 i_6 k_7 out_5
  else
    some (.br ((l_0, i_6, ()), (out_5, ())))
  else none
noncomputable def ref20_Entries_25 (N : Nat) (l_0 : (List D59)) (i_6 : Int) (out_5 : (List D85)) : Option (Lo (((List D59) × Int × Unit) × ((List D85) × Unit)) ((Unit) × ((List D85) × Unit)) ref20_Entries_R) :=
  some (.go ((l_0, (w64 (i_6 + (1 : Int))), ()), (out_5, ())))
noncomputable def ref20_Entries_6 (N : Nat) (l_0 : (List D59)) (i_6 : Int) (k_7 : Int) (out_5 : (List D85)) : Option (Lo (((List D59) × Int × Unit) × ((List D85) × Unit)) ((Unit) × ((List D85) × Unit)) ref20_Entries_R) :=
  loopK N (fun y => ref20_Entries_s7 N y.1.1 y.1.2.1 y.1.2.2.1 y.2.1) (fun (e : (((List D59) × Int × Unit) × ((List D85) × Unit))) => ref20_Entries_25 N e.1.1 e.1.2.1 e.2.1) ((l_0, i_6, k_7, ()), (out_5, ()))
noncomputable def ref20_Entries_5 (N : Nat) (l_0 : (List D59)) (i_6 : Int) (out_5 : (List D85)) : Option (Lo (((List D59) × Int × Unit) × ((List D85) × Unit)) ((Unit) × ((List D85) × Unit)) ref20_Entries_R) :=
  ref20_Entries_6 N l_0 i_6 (0 : Int) out_5
noncomputable def ref20_Entries_3 (N : Nat) (l_0 : (List D59)) (i_6 : Int) (out_5 : (List D85)) : Option (Lo (((List D59) × Int × Unit) × ((List D85) × Unit)) ((Unit) × ((List D85) × Unit)) ref20_Entries_R) :=
  ref20_Entries_5 N l_0 i_6 out_5
noncomputable def ref20_Entries_s2 (N : Nat) (l_0 : (List D59)) (i_6 : Int) (out_5 : (List D85)) : Option (Lo (((List D59) × Int × Unit) × ((List D85) × Unit)) ((Unit) × ((List D85) × Unit)) ref20_Entries_R) :=
  bif (decide (i_6 < (l_0.length : Int))) then
    ref20_Entries_3 N l_0 i_6 out_5
  else
    some (.br ((()), (out_5, ())))
noncomputable def ref20_Entries_26 (N : Nat) (out_5 : (List D85)) : Option ref20_Entries_R :=
  some (((0 : Int), ()), (out_5, ()))
noncomputable def ref20_Entries_1 (N : Nat) (l_0 : (List D59)) (i_6 : Int) (out_5 : (List D85)) : Option ref20_Entries_R :=
  loopK N (fun y => ref20_Entries_s2 N y.1.1 y.1.2.1 y.2.1) (fun (e : ((Unit) × ((List D85) × Unit))) => ref20_Entries_26 N e.2.1) ((l_0, i_6, ()), (out_5, ()))
noncomputable def ref20_Entries (N : Nat) (l_0 : (List D59)) : Option ref20_Entries_R :=
  Option.bind (ref19_Check N l_0) fun y1 =>
  bif (!(decide (y1.1.1 = (0 : Int)))) then
    some ((y1.1.1, ()), (([] : List D85), ()))
  else
    ref20_Entries_1 N l_0 (0 : Int) ([] : List D85)
noncomputable def ref20_Entries_C (N : Nat) : Ctx := ⟨90, G_tys, [(89, ref19_Check_ctr N), (48, ref20_Minus_ctr N)], G_globs⟩
noncomputable def ref20_Entries_S0 : Spec := ⟨[.val (.sl T59), .row 0, .val .i64, .val .i64, .row 1, .val .i64, .row 2, .val .i64], [(.row 86 T85, .pos 1), (.row 46 T45, .pos 4), (.row 46 T45, .pos 6)]⟩
noncomputable def ref20_Entries_S1 : Spec := ⟨[.val (.sl T59), .row 0, .val .i64, .val .i64, .row 1, .val .i64], [(.row 86 T85, .pos 1), (.row 46 T45, .pos 4)]⟩
noncomputable def ref20_Entries_S2 : Spec := ⟨[.val (.sl T59), .row 0, .val .i64, .val .i64, .val .i64, .row 1], [(.row 86 T85, .pos 1), (.row 46 T45, .pos 5)]⟩
noncomputable def ref20_Entries_S3 : Spec := ⟨[.val (.sl T59), .row 0, .val .i64, .val .i64], [(.row 86 T85, .pos 1)]⟩
noncomputable def ref20_Entries_S4 : Spec := ⟨[.val (.sl T59), .row 0, .val .i64, .val .i64, .row 1], [(.row 86 T85, .pos 1), (.row 46 T45, .pos 4)]⟩
noncomputable def ref20_Entries_S5 : Spec := ⟨[.val (.sl T59), .row 0, .val .i64], [(.row 86 T85, .pos 1)]⟩
noncomputable def ref20_Entries_S6 : Spec := ⟨[.row 0], [(.row 86 T85, .pos 0)]⟩
noncomputable def ref20_Entries_S7 : Spec := ⟨[.val (.sl T59)], []⟩
noncomputable def ref20_Entries_S8 : Spec := ⟨[.row 0, .val .i64], [(.row 86 T85, .pos 0)]⟩
noncomputable def ref20_Entries_K (_N : Nat) : XE → GS → Option ref20_Entries_R := retK 0 [2, 3] [false, false] ref20_Entries_S8
noncomputable def ref20_Entries_L : List Code := (bodyOf (some Try.f39))
noncomputable def ref20_Entries_L2 : List Code := (loopOf (ref20_Entries_L[6]?))
noncomputable def ref20_Entries_L4b : List Code := (blockOf (ref20_Entries_L2[2]?))
noncomputable def ref20_Entries_L7 : List Code := (loopOf (ref20_Entries_L4b[1]?))
noncomputable def ref20_Entries_L9b : List Code := (blockOf (ref20_Entries_L7[2]?))
noncomputable def ref20_Entries_L12 : List Code := (loopOf (ref20_Entries_L9b[2]?))
noncomputable def ref20_Entries_L14b : List Code := (blockOf (ref20_Entries_L12[2]?))
noncomputable def ref20_Entries_L17 : List Code := (loopOf (ref20_Entries_L14b[2]?))
noncomputable def ref20_Entries_L22 : List Code := (loopOf (ref20_Entries_L9b[4]?))
noncomputable def ref20_Entries_K2 (N : Nat) : XE → GS → Option (Lo (((List D59) × Int × Unit) × ((List D85) × Unit)) ((Unit) × ((List D85) × Unit)) ref20_Entries_R) := roundK (some 0) (fit 0 [0, 5, 6] ref20_Entries_S5) (fit 0 [5] ref20_Entries_S6) (ref20_Entries_K N)
noncomputable def ref20_Entries_K4 (N : Nat) : XE → GS → Option (Lo (((List D59) × Int × Unit) × ((List D85) × Unit)) ((Unit) × ((List D85) × Unit)) ref20_Entries_R) := blockK 1 (goK 0 [0, 5, 6] ref20_Entries_S5 (fun y => ref20_Entries_25 N y.1.1 y.1.2.1 y.2.1)) (ref20_Entries_K2 N)
noncomputable def ref20_Entries_K7 (N : Nat) : XE → GS → Option (Lo (((List D59) × Int × Int × Unit) × ((List D85) × Unit)) (((List D59) × Int × Unit) × ((List D85) × Unit)) (Lo (((List D59) × Int × Unit) × ((List D85) × Unit)) ((Unit) × ((List D85) × Unit)) ref20_Entries_R)) := roundK (some 2) (fit 0 [0, 5, 6, 7] ref20_Entries_S3) (fit 0 [0, 5, 6] ref20_Entries_S5) (ref20_Entries_K4 N)
noncomputable def ref20_Entries_K9 (N : Nat) : XE → GS → Option (Lo (((List D59) × Int × Int × Unit) × ((List D85) × Unit)) (((List D59) × Int × Unit) × ((List D85) × Unit)) (Lo (((List D59) × Int × Unit) × ((List D85) × Unit)) ((Unit) × ((List D85) × Unit)) ref20_Entries_R)) := blockK 3 (goK 0 [0, 5, 6, 7] ref20_Entries_S3 (fun y => ref20_Entries_24 N y.1.1 y.1.2.1 y.1.2.2.1 y.2.1)) (ref20_Entries_K7 N)
noncomputable def ref20_Entries_K12 (N : Nat) : XE → GS → Option (Lo (((List D59) × Int × Int × Int × Unit) × ((List D85) × (List D45) × Unit)) (((List D59) × Int × Int × Unit) × ((List D85) × (List D45) × Unit)) (Lo (((List D59) × Int × Int × Unit) × ((List D85) × Unit)) (((List D59) × Int × Unit) × ((List D85) × Unit)) (Lo (((List D59) × Int × Unit) × ((List D85) × Unit)) ((Unit) × ((List D85) × Unit)) ref20_Entries_R))) := roundK (some 4) (fit 0 [0, 5, 6, 7, 8, 9] ref20_Entries_S1) (fit 0 [0, 5, 6, 7, 8] ref20_Entries_S4) (ref20_Entries_K9 N)
noncomputable def ref20_Entries_K22 (N : Nat) : XE → GS → Option (Lo (((List D59) × Int × Int × Int × Unit) × ((List D85) × (List D45) × Unit)) (((List D59) × Int × Int × Unit) × ((List D85) × Unit)) (Lo (((List D59) × Int × Int × Unit) × ((List D85) × Unit)) (((List D59) × Int × Unit) × ((List D85) × Unit)) (Lo (((List D59) × Int × Unit) × ((List D85) × Unit)) ((Unit) × ((List D85) × Unit)) ref20_Entries_R))) := roundK (some 8) (fit 0 [0, 5, 6, 7, 8, 12] ref20_Entries_S1) (fit 0 [0, 5, 6, 7] ref20_Entries_S3) (ref20_Entries_K9 N)
noncomputable def ref20_Entries_K14 (N : Nat) : XE → GS → Option (Lo (((List D59) × Int × Int × Int × Unit) × ((List D85) × (List D45) × Unit)) (((List D59) × Int × Int × Unit) × ((List D85) × (List D45) × Unit)) (Lo (((List D59) × Int × Int × Unit) × ((List D85) × Unit)) (((List D59) × Int × Unit) × ((List D85) × Unit)) (Lo (((List D59) × Int × Unit) × ((List D85) × Unit)) ((Unit) × ((List D85) × Unit)) ref20_Entries_R))) := blockK 5 (goK 0 [0, 5, 6, 7, 8, 9] ref20_Entries_S1 (fun y => ref20_Entries_19 N y.1.1 y.1.2.1 y.1.2.2.1 y.1.2.2.2.1 y.2.1 y.2.2.1)) (ref20_Entries_K12 N)
noncomputable def ref20_Entries_K17 (N : Nat) : XE → GS → Option (Lo (((List D59) × Int × Int × Int × Int × Unit) × ((List D85) × (List D45) × (List D45) × Unit)) (((List D59) × Int × Int × Int × Unit) × ((List D85) × (List D45) × Unit)) (Lo (((List D59) × Int × Int × Int × Unit) × ((List D85) × (List D45) × Unit)) (((List D59) × Int × Int × Unit) × ((List D85) × (List D45) × Unit)) (Lo (((List D59) × Int × Int × Unit) × ((List D85) × Unit)) (((List D59) × Int × Unit) × ((List D85) × Unit)) (Lo (((List D59) × Int × Unit) × ((List D85) × Unit)) ((Unit) × ((List D85) × Unit)) ref20_Entries_R)))) := roundK (some 6) (fit 0 [0, 5, 6, 7, 8, 9, 10, 11] ref20_Entries_S0) (fit 0 [0, 5, 6, 7, 9, 10] ref20_Entries_S2) (ref20_Entries_K14 N)
theorem ref20_Entries_s17_b {E : Env} (N : Nat) (hb : Base Try.prog (ref20_Entries_C N) E 0) : Blk Try.prog (ref20_Entries_C N) E [0, 5, 6, 7, 8, 9, 10, 11] ref20_Entries_S0 (ref20_Entries_L17.drop 0) (fun y => ref20_Entries_s17 N y.1.1 y.1.2.1 y.1.2.2.1 y.1.2.2.2.1 y.1.2.2.2.2.1 y.2.1 y.2.2.1 y.2.2.2.1) (ref20_Entries_K17 N) :=
  Blk.chunkAt hb 4 (X := (ref20_Entries_K17 N .normal)) (NxOk.end (by kernel_rfl)) rfl (fun x => by kernel_rfl)
theorem ref20_Entries_19_b {E : Env} (N : Nat) (hb : Base Try.prog (ref20_Entries_C N) E 0) : Blk Try.prog (ref20_Entries_C N) E [0, 5, 6, 7, 8, 9] ref20_Entries_S1 (ref20_Entries_L12.drop 3) (fun y => ref20_Entries_19 N y.1.1 y.1.2.1 y.1.2.2.1 y.1.2.2.2.1 y.2.1 y.2.2.1) (ref20_Entries_K12 N) :=
  Blk.chunkAt hb 1 (X := (ref20_Entries_K12 N .normal)) (NxOk.end (by kernel_rfl)) rfl (fun x => by kernel_rfl)
theorem ref20_Entries_18_b {E : Env} (N : Nat) (hb : Base Try.prog (ref20_Entries_C N) E 0) : Blk Try.prog (ref20_Entries_C N) E [0, 5, 6, 7, 9, 10] ref20_Entries_S2 (ref20_Entries_L14b.drop 3) (fun y => ref20_Entries_18 N y.1.1 y.1.2.1 y.1.2.2.1 y.1.2.2.2.1 y.2.1 y.2.2.1) (ref20_Entries_K14 N) :=
  Blk.chunkAt hb 3 (X := (ref20_Entries_K14 N .normal)) (NxOk.end (by kernel_rfl)) rfl (fun x => by kernel_rfl)
theorem ref20_Entries_16_b {E : Env} (N : Nat) (hb : Base Try.prog (ref20_Entries_C N) E 0) : Blk Try.prog (ref20_Entries_C N) E [0, 5, 6, 7, 8, 9, 10, 11] ref20_Entries_S0 (ref20_Entries_L14b.drop 2) (fun y => ref20_Entries_16 N y.1.1 y.1.2.1 y.1.2.2.1 y.1.2.2.2.1 y.1.2.2.2.2.1 y.2.1 y.2.2.1 y.2.2.2.1) (ref20_Entries_K14 N) :=
  Blk.loopAt (Nf := N) (hns := [0, 5, 6, 7, 8, 9, 10, 11]) (ans := [0, 5, 6, 7, 9, 10]) (hc := ref20_Entries_S0) (ac := ref20_Entries_S2) (bid := 6) (step := (fun y => ref20_Entries_s17 N y.1.1 y.1.2.1 y.1.2.2.1 y.1.2.2.2.1 y.1.2.2.2.2.1 y.2.1 y.2.2.1 y.2.2.2.1)) (J := (fun e => (goK 0 [0, 5, 6, 7, 9, 10] ref20_Entries_S2 (fun y => ref20_Entries_18 N y.1.1 y.1.2.1 y.1.2.2.1 y.1.2.2.2.1 y.2.1 y.2.2.1)) (ref20_Entries_S2.st [0, 5, 6, 7, 9, 10] e))) hb (by kernel_rfl) (Blk.into (X := (goK 0 [0, 5, 6, 7, 9, 10] ref20_Entries_S2 (fun y => ref20_Entries_18 N y.1.1 y.1.2.1 y.1.2.2.1 y.1.2.2.2.1 y.2.1 y.2.2.1))) (NxOk.go hb (ref20_Entries_18_b N hb)) (fun x => by kernel_rfl)) (ref20_Entries_s17_b N hb) (fun x => by kernel_rfl)
theorem ref20_Entries_15_b {E : Env} (N : Nat) (hb : Base Try.prog (ref20_Entries_C N) E 0) : Blk Try.prog (ref20_Entries_C N) E [0, 5, 6, 7, 8, 9] ref20_Entries_S1 (ref20_Entries_L14b.drop 0) (fun y => ref20_Entries_15 N y.1.1 y.1.2.1 y.1.2.2.1 y.1.2.2.2.1 y.2.1 y.2.2.1) (ref20_Entries_K14 N) :=
  Blk.chunkAt hb 2 (X := (goK 0 [0, 5, 6, 7, 8, 9, 10, 11] ref20_Entries_S0 (fun y => ref20_Entries_16 N y.1.1 y.1.2.1 y.1.2.2.1 y.1.2.2.2.1 y.1.2.2.2.2.1 y.2.1 y.2.2.1 y.2.2.2.1))) (NxOk.go hb (ref20_Entries_16_b N hb)) rfl (fun x => by kernel_rfl)
theorem ref20_Entries_13_b {E : Env} (N : Nat) (hb : Base Try.prog (ref20_Entries_C N) E 0) : Blk Try.prog (ref20_Entries_C N) E [0, 5, 6, 7, 8, 9] ref20_Entries_S1 (ref20_Entries_L12.drop 2) (fun y => ref20_Entries_13 N y.1.1 y.1.2.1 y.1.2.2.1 y.1.2.2.2.1 y.2.1 y.2.2.1) (ref20_Entries_K12 N) :=
  Blk.blockAt (bid := 5) (X := (goK 0 [0, 5, 6, 7, 8, 9] ref20_Entries_S1 (fun y => ref20_Entries_19 N y.1.1 y.1.2.1 y.1.2.2.1 y.1.2.2.2.1 y.2.1 y.2.2.1))) (Y := (goK 0 [0, 5, 6, 7, 8, 9] ref20_Entries_S1 (fun y => ref20_Entries_15 N y.1.1 y.1.2.1 y.1.2.2.1 y.1.2.2.2.1 y.2.1 y.2.2.1))) (by kernel_rfl) (NxOk.go hb (ref20_Entries_19_b N hb)) (NxOk.go hb (ref20_Entries_15_b N hb)) (fun x => by kernel_rfl)
theorem ref20_Entries_s12_b {E : Env} (N : Nat) (hb : Base Try.prog (ref20_Entries_C N) E 0) : Blk Try.prog (ref20_Entries_C N) E [0, 5, 6, 7, 8, 9] ref20_Entries_S1 (ref20_Entries_L12.drop 0) (fun y => ref20_Entries_s12 N y.1.1 y.1.2.1 y.1.2.2.1 y.1.2.2.2.1 y.2.1 y.2.2.1) (ref20_Entries_K12 N) :=
  Blk.chunkAt hb 2 (X := (goK 0 [0, 5, 6, 7, 8, 9] ref20_Entries_S1 (fun y => ref20_Entries_13 N y.1.1 y.1.2.1 y.1.2.2.1 y.1.2.2.2.1 y.2.1 y.2.2.1))) (NxOk.go hb (ref20_Entries_13_b N hb)) rfl (fun x => by kernel_rfl)
theorem ref20_Entries_s22_b {E : Env} (N : Nat) (hb : Base Try.prog (ref20_Entries_C N) E 0) : Blk Try.prog (ref20_Entries_C N) E [0, 5, 6, 7, 8, 12] ref20_Entries_S1 (ref20_Entries_L22.drop 0) (fun y => ref20_Entries_s22 N y.1.1 y.1.2.1 y.1.2.2.1 y.1.2.2.2.1 y.2.1 y.2.2.1) (ref20_Entries_K22 N) :=
  Blk.chunkAt hb 4 (X := (ref20_Entries_K22 N .normal)) (NxOk.end (by kernel_rfl)) rfl (fun x => by kernel_rfl)
theorem ref20_Entries_24_b {E : Env} (N : Nat) (hb : Base Try.prog (ref20_Entries_C N) E 0) : Blk Try.prog (ref20_Entries_C N) E [0, 5, 6, 7] ref20_Entries_S3 (ref20_Entries_L7.drop 3) (fun y => ref20_Entries_24 N y.1.1 y.1.2.1 y.1.2.2.1 y.2.1) (ref20_Entries_K7 N) :=
  Blk.chunkAt hb 1 (X := (ref20_Entries_K7 N .normal)) (NxOk.end (by kernel_rfl)) rfl (fun x => by kernel_rfl)
theorem ref20_Entries_23_b {E : Env} (N : Nat) (hb : Base Try.prog (ref20_Entries_C N) E 0) : Blk Try.prog (ref20_Entries_C N) E [0, 5, 6, 7] ref20_Entries_S3 (ref20_Entries_L9b.drop 5) (fun y => ref20_Entries_23 N y.1.1 y.1.2.1 y.1.2.2.1 y.2.1) (ref20_Entries_K9 N) :=
  Blk.chunkAt hb 2 (X := (ref20_Entries_K9 N .normal)) (NxOk.end (by kernel_rfl)) rfl (fun x => by kernel_rfl)
theorem ref20_Entries_21_b {E : Env} (N : Nat) (hb : Base Try.prog (ref20_Entries_C N) E 0) : Blk Try.prog (ref20_Entries_C N) E [0, 5, 6, 7, 8, 12] ref20_Entries_S1 (ref20_Entries_L9b.drop 4) (fun y => ref20_Entries_21 N y.1.1 y.1.2.1 y.1.2.2.1 y.1.2.2.2.1 y.2.1 y.2.2.1) (ref20_Entries_K9 N) :=
  Blk.loopAt (Nf := N) (hns := [0, 5, 6, 7, 8, 12]) (ans := [0, 5, 6, 7]) (hc := ref20_Entries_S1) (ac := ref20_Entries_S3) (bid := 8) (step := (fun y => ref20_Entries_s22 N y.1.1 y.1.2.1 y.1.2.2.1 y.1.2.2.2.1 y.2.1 y.2.2.1)) (J := (fun e => (goK 0 [0, 5, 6, 7] ref20_Entries_S3 (fun y => ref20_Entries_23 N y.1.1 y.1.2.1 y.1.2.2.1 y.2.1)) (ref20_Entries_S3.st [0, 5, 6, 7] e))) hb (by kernel_rfl) (Blk.into (X := (goK 0 [0, 5, 6, 7] ref20_Entries_S3 (fun y => ref20_Entries_23 N y.1.1 y.1.2.1 y.1.2.2.1 y.2.1))) (NxOk.go hb (ref20_Entries_23_b N hb)) (fun x => by kernel_rfl)) (ref20_Entries_s22_b N hb) (fun x => by kernel_rfl)
theorem ref20_Entries_20_b {E : Env} (N : Nat) (hb : Base Try.prog (ref20_Entries_C N) E 0) : Blk Try.prog (ref20_Entries_C N) E [0, 5, 6, 7, 8] ref20_Entries_S4 (ref20_Entries_L9b.drop 3) (fun y => ref20_Entries_20 N y.1.1 y.1.2.1 y.1.2.2.1 y.2.1 y.2.2.1) (ref20_Entries_K9 N) :=
  Blk.chunkAt hb 1 (X := (goK 0 [0, 5, 6, 7, 8, 12] ref20_Entries_S1 (fun y => ref20_Entries_21 N y.1.1 y.1.2.1 y.1.2.2.1 y.1.2.2.2.1 y.2.1 y.2.2.1))) (NxOk.go hb (ref20_Entries_21_b N hb)) rfl (fun x => by kernel_rfl)
theorem ref20_Entries_11_b {E : Env} (N : Nat) (hb : Base Try.prog (ref20_Entries_C N) E 0) : Blk Try.prog (ref20_Entries_C N) E [0, 5, 6, 7, 8, 9] ref20_Entries_S1 (ref20_Entries_L9b.drop 2) (fun y => ref20_Entries_11 N y.1.1 y.1.2.1 y.1.2.2.1 y.1.2.2.2.1 y.2.1 y.2.2.1) (ref20_Entries_K9 N) :=
  Blk.loopAt (Nf := N) (hns := [0, 5, 6, 7, 8, 9]) (ans := [0, 5, 6, 7, 8]) (hc := ref20_Entries_S1) (ac := ref20_Entries_S4) (bid := 4) (step := (fun y => ref20_Entries_s12 N y.1.1 y.1.2.1 y.1.2.2.1 y.1.2.2.2.1 y.2.1 y.2.2.1)) (J := (fun e => (goK 0 [0, 5, 6, 7, 8] ref20_Entries_S4 (fun y => ref20_Entries_20 N y.1.1 y.1.2.1 y.1.2.2.1 y.2.1 y.2.2.1)) (ref20_Entries_S4.st [0, 5, 6, 7, 8] e))) hb (by kernel_rfl) (Blk.into (X := (goK 0 [0, 5, 6, 7, 8] ref20_Entries_S4 (fun y => ref20_Entries_20 N y.1.1 y.1.2.1 y.1.2.2.1 y.2.1 y.2.2.1))) (NxOk.go hb (ref20_Entries_20_b N hb)) (fun x => by kernel_rfl)) (ref20_Entries_s12_b N hb) (fun x => by kernel_rfl)
theorem ref20_Entries_10_b {E : Env} (N : Nat) (hb : Base Try.prog (ref20_Entries_C N) E 0) : Blk Try.prog (ref20_Entries_C N) E [0, 5, 6, 7] ref20_Entries_S3 (ref20_Entries_L9b.drop 0) (fun y => ref20_Entries_10 N y.1.1 y.1.2.1 y.1.2.2.1 y.2.1) (ref20_Entries_K9 N) :=
  Blk.chunkAt hb 2 (X := (goK 0 [0, 5, 6, 7, 8, 9] ref20_Entries_S1 (fun y => ref20_Entries_11 N y.1.1 y.1.2.1 y.1.2.2.1 y.1.2.2.2.1 y.2.1 y.2.2.1))) (NxOk.go hb (ref20_Entries_11_b N hb)) rfl (fun x => by kernel_rfl)
theorem ref20_Entries_8_b {E : Env} (N : Nat) (hb : Base Try.prog (ref20_Entries_C N) E 0) : Blk Try.prog (ref20_Entries_C N) E [0, 5, 6, 7] ref20_Entries_S3 (ref20_Entries_L7.drop 2) (fun y => ref20_Entries_8 N y.1.1 y.1.2.1 y.1.2.2.1 y.2.1) (ref20_Entries_K7 N) :=
  Blk.blockAt (bid := 3) (X := (goK 0 [0, 5, 6, 7] ref20_Entries_S3 (fun y => ref20_Entries_24 N y.1.1 y.1.2.1 y.1.2.2.1 y.2.1))) (Y := (goK 0 [0, 5, 6, 7] ref20_Entries_S3 (fun y => ref20_Entries_10 N y.1.1 y.1.2.1 y.1.2.2.1 y.2.1))) (by kernel_rfl) (NxOk.go hb (ref20_Entries_24_b N hb)) (NxOk.go hb (ref20_Entries_10_b N hb)) (fun x => by kernel_rfl)
theorem ref20_Entries_s7_b {E : Env} (N : Nat) (hb : Base Try.prog (ref20_Entries_C N) E 0) : Blk Try.prog (ref20_Entries_C N) E [0, 5, 6, 7] ref20_Entries_S3 (ref20_Entries_L7.drop 0) (fun y => ref20_Entries_s7 N y.1.1 y.1.2.1 y.1.2.2.1 y.2.1) (ref20_Entries_K7 N) :=
  Blk.chunkAt hb 2 (X := (goK 0 [0, 5, 6, 7] ref20_Entries_S3 (fun y => ref20_Entries_8 N y.1.1 y.1.2.1 y.1.2.2.1 y.2.1))) (NxOk.go hb (ref20_Entries_8_b N hb)) rfl (fun x => by kernel_rfl)
theorem ref20_Entries_25_b {E : Env} (N : Nat) (hb : Base Try.prog (ref20_Entries_C N) E 0) : Blk Try.prog (ref20_Entries_C N) E [0, 5, 6] ref20_Entries_S5 (ref20_Entries_L2.drop 3) (fun y => ref20_Entries_25 N y.1.1 y.1.2.1 y.2.1) (ref20_Entries_K2 N) :=
  Blk.chunkAt hb 1 (X := (ref20_Entries_K2 N .normal)) (NxOk.end (by kernel_rfl)) rfl (fun x => by kernel_rfl)
theorem ref20_Entries_6_b {E : Env} (N : Nat) (hb : Base Try.prog (ref20_Entries_C N) E 0) : Blk Try.prog (ref20_Entries_C N) E [0, 5, 6, 7] ref20_Entries_S3 (ref20_Entries_L4b.drop 1) (fun y => ref20_Entries_6 N y.1.1 y.1.2.1 y.1.2.2.1 y.2.1) (ref20_Entries_K4 N) :=
  Blk.loopAt (Nf := N) (hns := [0, 5, 6, 7]) (ans := [0, 5, 6]) (hc := ref20_Entries_S3) (ac := ref20_Entries_S5) (bid := 2) (step := (fun y => ref20_Entries_s7 N y.1.1 y.1.2.1 y.1.2.2.1 y.2.1)) (J := (fun e => (ref20_Entries_K4 N .normal) (ref20_Entries_S5.st [0, 5, 6] e))) hb (by kernel_rfl) (Blk.into (X := (ref20_Entries_K4 N .normal)) (NxOk.end (by kernel_rfl)) (fun x => by kernel_rfl)) (ref20_Entries_s7_b N hb) (fun x => by kernel_rfl)
theorem ref20_Entries_5_b {E : Env} (N : Nat) (hb : Base Try.prog (ref20_Entries_C N) E 0) : Blk Try.prog (ref20_Entries_C N) E [0, 5, 6] ref20_Entries_S5 (ref20_Entries_L4b.drop 0) (fun y => ref20_Entries_5 N y.1.1 y.1.2.1 y.2.1) (ref20_Entries_K4 N) :=
  Blk.chunkAt hb 1 (X := (goK 0 [0, 5, 6, 7] ref20_Entries_S3 (fun y => ref20_Entries_6 N y.1.1 y.1.2.1 y.1.2.2.1 y.2.1))) (NxOk.go hb (ref20_Entries_6_b N hb)) rfl (fun x => by kernel_rfl)
theorem ref20_Entries_3_b {E : Env} (N : Nat) (hb : Base Try.prog (ref20_Entries_C N) E 0) : Blk Try.prog (ref20_Entries_C N) E [0, 5, 6] ref20_Entries_S5 (ref20_Entries_L2.drop 2) (fun y => ref20_Entries_3 N y.1.1 y.1.2.1 y.2.1) (ref20_Entries_K2 N) :=
  Blk.blockAt (bid := 1) (X := (goK 0 [0, 5, 6] ref20_Entries_S5 (fun y => ref20_Entries_25 N y.1.1 y.1.2.1 y.2.1))) (Y := (goK 0 [0, 5, 6] ref20_Entries_S5 (fun y => ref20_Entries_5 N y.1.1 y.1.2.1 y.2.1))) (by kernel_rfl) (NxOk.go hb (ref20_Entries_25_b N hb)) (NxOk.go hb (ref20_Entries_5_b N hb)) (fun x => by kernel_rfl)
theorem ref20_Entries_s2_b {E : Env} (N : Nat) (hb : Base Try.prog (ref20_Entries_C N) E 0) : Blk Try.prog (ref20_Entries_C N) E [0, 5, 6] ref20_Entries_S5 (ref20_Entries_L2.drop 0) (fun y => ref20_Entries_s2 N y.1.1 y.1.2.1 y.2.1) (ref20_Entries_K2 N) :=
  Blk.chunkAt hb 2 (X := (goK 0 [0, 5, 6] ref20_Entries_S5 (fun y => ref20_Entries_3 N y.1.1 y.1.2.1 y.2.1))) (NxOk.go hb (ref20_Entries_3_b N hb)) rfl (fun x => by kernel_rfl)
theorem ref20_Entries_26_b {E : Env} (N : Nat) (hb : Base Try.prog (ref20_Entries_C N) E 0) : Blk Try.prog (ref20_Entries_C N) E [5] ref20_Entries_S6 (ref20_Entries_L.drop 7) (fun y => ref20_Entries_26 N y.2.1) (ref20_Entries_K N) :=
  Blk.chunkAt hb 2 (X := (ref20_Entries_K N .normal)) (NxOk.end (by kernel_rfl)) rfl (fun x => by kernel_rfl)
theorem ref20_Entries_1_b {E : Env} (N : Nat) (hb : Base Try.prog (ref20_Entries_C N) E 0) : Blk Try.prog (ref20_Entries_C N) E [0, 5, 6] ref20_Entries_S5 (ref20_Entries_L.drop 6) (fun y => ref20_Entries_1 N y.1.1 y.1.2.1 y.2.1) (ref20_Entries_K N) :=
  Blk.loopAt (Nf := N) (hns := [0, 5, 6]) (ans := [5]) (hc := ref20_Entries_S5) (ac := ref20_Entries_S6) (bid := 0) (step := (fun y => ref20_Entries_s2 N y.1.1 y.1.2.1 y.2.1)) (J := (fun e => (goK 0 [5] ref20_Entries_S6 (fun y => ref20_Entries_26 N y.2.1)) (ref20_Entries_S6.st [5] e))) hb (by kernel_rfl) (Blk.into (X := (goK 0 [5] ref20_Entries_S6 (fun y => ref20_Entries_26 N y.2.1))) (NxOk.go hb (ref20_Entries_26_b N hb)) (fun x => by kernel_rfl)) (ref20_Entries_s2_b N hb) (fun x => by kernel_rfl)
theorem ref20_Entries_b {E : Env} (N : Nat) (hb : Base Try.prog (ref20_Entries_C N) E 0) : Blk Try.prog (ref20_Entries_C N) E (List.range ref20_Entries_S7.ks.length) ref20_Entries_S7 (ref20_Entries_L.drop 0) (fun y => ref20_Entries N y.1.1) (ref20_Entries_K N) :=
  Blk.chunkAt hb 6 (X := (goK 0 [0, 5, 6] ref20_Entries_S5 (fun y => ref20_Entries_1 N y.1.1 y.1.2.1 y.2.1))) (NxOk.go hb (ref20_Entries_1_b N hb)) rfl (fun x => by kernel_rfl)
noncomputable def ref20_Entries_ctr (N : Nat) : Ctr := ⟨ref20_Entries_S7, ref20_Entries_S8.un [false, false], 0, (fun y => ref20_Entries N y.1.1)⟩
theorem ref20_Entries_ctrs (N : Nat) : CtrsOk Try.prog (ref20_Entries_C N) := ctrs_of (Γ := ref20_Entries_C N) (by
  intro p hp
  simp only [ref20_Entries_C, List.mem_cons, List.not_mem_nil, or_false] at hp
  rcases hp with rfl | rfl
  · exact ref19_Check_ok N
  · exact ref20_Minus_ok N)
theorem ref20_Entries_ok (N : Nat) : Ctr.ok Try.prog G_globs 39 (ref20_Entries_ctr N) :=
  ctr_fn (Γ := ref20_Entries_C N) (rfit := ref20_Entries_S8) (bs := [false, false]) (res := [2, 3]) (by kernel_rfl) (tys_ok G_tys_ok) (ref20_Entries_ctrs N) Try.func39 (by kernel_rfl) (by kernel_rfl) Try.ntmps39 (by kernel_rfl) (by kernel_rfl) (by kernel_rfl) (by kernel_rfl) (fun E hb => ref20_Entries_b N hb)
end Go.Proofs.Ytgbkkfpheahdfaa