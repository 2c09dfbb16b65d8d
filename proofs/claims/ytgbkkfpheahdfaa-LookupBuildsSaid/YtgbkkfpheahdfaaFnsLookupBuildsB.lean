/- Functions of the program as plain functions, each with the proof that the text computes it. -/
import Derived.Test.YtgbkkfpheahdfaaFnsLookupBuildsA
set_option linter.unusedVariables false
set_option linter.unusedSimpArgs false
namespace Go.Proofs.Ytgbkkfpheahdfaa
open Go
set_option maxRecDepth 100000
set_option linter.unusedVariables false
/-! ipsecgate/ipsecgatelaw22.LookupBuilds -/
abbrev law22_LookupBuilds_R : Type := ((Bool × Unit) × (Unit))
noncomputable def law22_LookupBuilds_s8 (N : Nat) (data_2 : (List UInt8)) (t_49 : Int) (t_50 : Int) (t_64 : Int) (t_65 : Int) (c_7 : ((List UInt8) × (Int × Unit))) (x_11 : ((Int × (UInt64 × (UInt64 × Unit))) × ((Int × (UInt64 × (UInt64 × Unit))) × (Int × (Int × (Int × Unit)))))) (t_48 : (List ((Int × (UInt64 × (UInt64 × Unit))) × ((Int × (UInt64 × (UInt64 × Unit))) × (Int × (Int × (Int × Unit))))))) (t_63 : (List (List UInt8))) : Option (Lo (((List UInt8) × Int × Int × Int × Int × Unit) × (((List UInt8) × (Int × Unit)) × ((Int × (UInt64 × (UInt64 × Unit))) × ((Int × (UInt64 × (UInt64 × Unit))) × (Int × (Int × (Int × Unit))))) × (List ((Int × (UInt64 × (UInt64 × Unit))) × ((Int × (UInt64 × (UInt64 × Unit))) × (Int × (Int × (Int × Unit)))))) × (List (List UInt8)) × Unit)) (((List UInt8) × Int × Int × Unit) × (((List UInt8) × (Int × Unit)) × (List ((Int × (UInt64 × (UInt64 × Unit))) × ((Int × (UInt64 × (UInt64 × Unit))) × (Int × (Int × (Int × Unit)))))) × Unit)) (Lo (((List UInt8) × Int × Int × Unit) × (((List UInt8) × (Int × Unit)) × (List ((Int × (UInt64 × (UInt64 × Unit))) × ((Int × (UInt64 × (UInt64 × Unit))) × (Int × (Int × (Int × Unit)))))) × Unit)) ((Unit) × (Unit)) law22_LookupBuilds_R)) :=
  bif (decide (t_65 < t_64)) then
    bif inR t_65 t_63.length then
    let x17 := (t_63.getD t_65.toNat ([] : List UInt8))
    Option.bind (lookup_Build N x_11 x17) fun y18 =>
    Option.bind (ref22_Build N x_11 x17) fun y19 =>
    bif (!(decide (y18.1.1 = y19.1.1))) then
      some (.rt (.rt ((false, ()), (()))))
    else
      Option.bind (ref01_Equal N y18.2.1 y19.2.1) fun y21 =>
      bif (!y21.1.1) then
        some (.rt (.rt ((false, ()), (()))))
      else
        some (.go ((data_2, t_49, t_50, t_64, (w64 (t_65 + (1 : Int))), ()), (c_7, x_11, t_48, t_63, ())))
    else none
  else
    some (.br ((data_2, t_49, t_50, ()), (c_7, t_48, ())))
noncomputable def law22_LookupBuilds_9 (N : Nat) (data_2 : (List UInt8)) (t_49 : Int) (t_50 : Int) (c_7 : ((List UInt8) × (Int × Unit))) (t_48 : (List ((Int × (UInt64 × (UInt64 × Unit))) × ((Int × (UInt64 × (UInt64 × Unit))) × (Int × (Int × (Int × Unit))))))) : Option (Lo (((List UInt8) × Int × Int × Unit) × (((List UInt8) × (Int × Unit)) × (List ((Int × (UInt64 × (UInt64 × Unit))) × ((Int × (UInt64 × (UInt64 × Unit))) × (Int × (Int × (Int × Unit)))))) × Unit)) ((Unit) × (Unit)) law22_LookupBuilds_R) :=
  some (.go ((data_2, t_49, (w64 (t_50 + (1 : Int))), ()), (c_7, t_48, ())))
noncomputable def law22_LookupBuilds_7 (N : Nat) (data_2 : (List UInt8)) (t_49 : Int) (t_50 : Int) (t_64 : Int) (t_65 : Int) (c_7 : ((List UInt8) × (Int × Unit))) (x_11 : ((Int × (UInt64 × (UInt64 × Unit))) × ((Int × (UInt64 × (UInt64 × Unit))) × (Int × (Int × (Int × Unit)))))) (t_48 : (List ((Int × (UInt64 × (UInt64 × Unit))) × ((Int × (UInt64 × (UInt64 × Unit))) × (Int × (Int × (Int × Unit))))))) (t_63 : (List (List UInt8))) : Option (Lo (((List UInt8) × Int × Int × Unit) × (((List UInt8) × (Int × Unit)) × (List ((Int × (UInt64 × (UInt64 × Unit))) × ((Int × (UInt64 × (UInt64 × Unit))) × (Int × (Int × (Int × Unit)))))) × Unit)) ((Unit) × (Unit)) law22_LookupBuilds_R) :=
  loopK N (fun y => law22_LookupBuilds_s8 N y.1.1 y.1.2.1 y.1.2.2.1 y.1.2.2.2.1 y.1.2.2.2.2.1 y.2.1 y.2.2.1 y.2.2.2.1 y.2.2.2.2.1) (fun (e : (((List UInt8) × Int × Int × Unit) × (((List UInt8) × (Int × Unit)) × (List ((Int × (UInt64 × (UInt64 × Unit))) × ((Int × (UInt64 × (UInt64 × Unit))) × (Int × (Int × (Int × Unit)))))) × Unit))) => law22_LookupBuilds_9 N e.1.1 e.1.2.1 e.1.2.2.1 e.2.1 e.2.2.1) ((data_2, t_49, t_50, t_64, t_65, ()), (c_7, x_11, t_48, t_63, ()))
noncomputable def law22_LookupBuilds_6 (N : Nat) (data_2 : (List UInt8)) (t_49 : Int) (t_50 : Int) (c_7 : ((List UInt8) × (Int × Unit))) (t_48 : (List ((Int × (UInt64 × (UInt64 × Unit))) × ((Int × (UInt64 × (UInt64 × Unit))) × (Int × (Int × (Int × Unit))))))) : Option (Lo (((List UInt8) × Int × Int × Unit) × (((List UInt8) × (Int × Unit)) × (List ((Int × (UInt64 × (UInt64 × Unit))) × ((Int × (UInt64 × (UInt64 × Unit))) × (Int × (Int × (Int × Unit)))))) × Unit)) ((Unit) × (Unit)) law22_LookupBuilds_R) :=
  bif inR t_50 t_48.length then
  Option.bind (make_Codes_Next N (8 : Int) c_7) fun y11 =>
  Option.bind (make_Codes_Bytes N y11.1.1 y11.2.1) fun y12 =>
  Option.bind (make_Codes_Next N (50 : Int) y12.2.1) fun y13 =>
  let x14 := w64 ((4050 : Int) + y13.1.1)
  bif decide (0 ≤ x14) && decide (x14 ≤ x14) && room x14.toNat 1 then
  law22_LookupBuilds_7 N data_2 t_49 t_50 (([data_2, y12.2.2.1, (List.replicate x14.toNat (0 : UInt8))] : List (List UInt8)).length : Int) (0 : Int) y13.2.1 (t_48.getD t_50.toNat (((0 : Int), (0 : UInt64), (0 : UInt64), ()), ((0 : Int), (0 : UInt64), (0 : UInt64), ()), (0 : Int), (0 : Int), (0 : Int), ())) t_48 ([data_2, y12.2.2.1, (List.replicate x14.toNat (0 : UInt8))] : List (List UInt8))
  else none
  else none
noncomputable def law22_LookupBuilds_4 (N : Nat) (data_2 : (List UInt8)) (t_49 : Int) (t_50 : Int) (c_7 : ((List UInt8) × (Int × Unit))) (t_48 : (List ((Int × (UInt64 × (UInt64 × Unit))) × ((Int × (UInt64 × (UInt64 × Unit))) × (Int × (Int × (Int × Unit))))))) : Option (Lo (((List UInt8) × Int × Int × Unit) × (((List UInt8) × (Int × Unit)) × (List ((Int × (UInt64 × (UInt64 × Unit))) × ((Int × (UInt64 × (UInt64 × Unit))) × (Int × (Int × (Int × Unit)))))) × Unit)) ((Unit) × (Unit)) law22_LookupBuilds_R) :=
  law22_LookupBuilds_6 N data_2 t_49 t_50 c_7 t_48
noncomputable def law22_LookupBuilds_s3 (N : Nat) (data_2 : (List UInt8)) (t_49 : Int) (t_50 : Int) (c_7 : ((List UInt8) × (Int × Unit))) (t_48 : (List ((Int × (UInt64 × (UInt64 × Unit))) × ((Int × (UInt64 × (UInt64 × Unit))) × (Int × (Int × (Int × Unit))))))) : Option (Lo (((List UInt8) × Int × Int × Unit) × (((List UInt8) × (Int × Unit)) × (List ((Int × (UInt64 × (UInt64 × Unit))) × ((Int × (UInt64 × (UInt64 × Unit))) × (Int × (Int × (Int × Unit)))))) × Unit)) ((Unit) × (Unit)) law22_LookupBuilds_R) :=
  bif (decide (t_50 < t_49)) then
    law22_LookupBuilds_4 N data_2 t_49 t_50 c_7 t_48
  else
    some (.br ((()), (())))
noncomputable def law22_LookupBuilds_10 (N : Nat) : Option law22_LookupBuilds_R :=
  some ((true, ()), (()))
noncomputable def law22_LookupBuilds_2 (N : Nat) (data_2 : (List UInt8)) (t_49 : Int) (t_50 : Int) (c_7 : ((List UInt8) × (Int × Unit))) (t_48 : (List ((Int × (UInt64 × (UInt64 × Unit))) × ((Int × (UInt64 × (UInt64 × Unit))) × (Int × (Int × (Int × Unit))))))) : Option law22_LookupBuilds_R :=
  loopK N (fun y => law22_LookupBuilds_s3 N y.1.1 y.1.2.1 y.1.2.2.1 y.2.1 y.2.2.1) (fun (e : ((Unit) × (Unit))) => law22_LookupBuilds_10 N) ((data_2, t_49, t_50, ()), (c_7, t_48, ()))
noncomputable def law22_LookupBuilds_1 (N : Nat) (data_2 : (List UInt8)) (p_4 : ((Int × (UInt64 × (UInt64 × Unit))) × ((Int × (UInt64 × (UInt64 × Unit))) × (Int × (Int × (Int × Unit)))))) (c_7 : ((List UInt8) × (Int × Unit))) (q_8 : ((Int × (UInt64 × (UInt64 × Unit))) × ((Int × (UInt64 × (UInt64 × Unit))) × (Int × (Int × (Int × Unit)))))) (r_9 : ((Int × (UInt64 × (UInt64 × Unit))) × ((Int × (UInt64 × (UInt64 × Unit))) × (Int × (Int × (Int × Unit)))))) : Option law22_LookupBuilds_R :=
  law22_LookupBuilds_2 N data_2 (([p_4, q_8, r_9] : List ((Int × (UInt64 × (UInt64 × Unit))) × ((Int × (UInt64 × (UInt64 × Unit))) × (Int × (Int × (Int × Unit)))))).length : Int) (0 : Int) c_7 ([p_4, q_8, r_9] : List ((Int × (UInt64 × (UInt64 × Unit))) × ((Int × (UInt64 × (UInt64 × Unit))) × (Int × (Int × (Int × Unit))))))
noncomputable def law22_LookupBuilds (N : Nat) (codes_0 : (List UInt8)) (p_1 : ((Int × (UInt64 × (UInt64 × Unit))) × ((Int × (UInt64 × (UInt64 × Unit))) × (Int × (Int × (Int × Unit)))))) (data_2 : (List UInt8)) : Option law22_LookupBuilds_R :=
  Option.bind (law22_awake N) fun y1 =>
  bif (!y1.1.1) then
    some ((false, ()), (()))
  else
    Option.bind (make_New N codes_0 (120 : Int)) fun y3 =>
    Option.bind (make_Codes_Packet N y3.2.1) fun y4 =>
    Option.bind (make_Codes_Next N (5 : Int) y4.2.1) fun y5 =>
    bif (decide (y5.1.1 = (0 : Int))) then
      Option.bind (make_Codes_Int N y5.2.1) fun y7 =>
      law22_LookupBuilds_1 N data_2 p_1 y7.2.1 y4.1.1 (y4.1.1.1, y4.1.1.2.1, y7.1.1, y4.1.1.2.2.2.1, y4.1.1.2.2.2.2.1, ())
    else
      bif (decide (y5.1.1 = (1 : Int))) then
        Option.bind (make_Codes_Int N y5.2.1) fun y26 =>
        law22_LookupBuilds_1 N data_2 p_1 y26.2.1 y4.1.1 (y4.1.1.1, y4.1.1.2.1, y4.1.1.2.2.1, y26.1.1, y4.1.1.2.2.2.2.1, ())
      else
        bif (decide (y5.1.1 = (2 : Int))) then
          Option.bind (make_Codes_Address N (6 : Int) y5.2.1) fun y28 =>
          law22_LookupBuilds_1 N data_2 p_1 y28.2.1 y4.1.1 (y4.1.1.1, y28.1.1, y4.1.1.2.2.1, y4.1.1.2.2.2.1, y4.1.1.2.2.2.2.1, ())
        else
          bif (decide (y5.1.1 = (3 : Int))) then
            law22_LookupBuilds_1 N data_2 p_1 y5.2.1 y4.1.1 (y4.1.1.1, y4.1.1.2.1, (44 : Int), y4.1.1.2.2.2.1, y4.1.1.2.2.2.2.1, ())
          else
            law22_LookupBuilds_1 N data_2 p_1 y5.2.1 y4.1.1 y4.1.1
noncomputable def law22_LookupBuilds_C (N : Nat) : Ctx := ⟨92, G_tys, [(33, law22_awake_ctr N), (28, make_New_ctr N), (35, make_Codes_Packet_ctr N), (36, make_Codes_Next_ctr N), (54, make_Codes_Int_ctr N), (56, make_Codes_Bytes_ctr N), (57, lookup_Build_ctr N), (58, ref22_Build_ctr N), (59, ref01_Equal_ctr N), (55, make_Codes_Address_ctr N)], G_globs⟩
noncomputable def law22_LookupBuilds_S0 : Spec := ⟨[.val (.sl .u8), .ref 0 (.pair (.sl .u8) (.pair .i64 .unit)), .ref 1 (.pair (.pair .i64 (.pair .u64 (.pair .u64 .unit))) (.pair (.pair .i64 (.pair .u64 (.pair .u64 .unit))) (.pair .i64 (.pair .i64 (.pair .i64 .unit))))), .row 2, .val .i64, .val .i64, .row 3, .val .i64, .val .i64], [(.box 113 (.pair (.sl .u8) (.pair .i64 .unit)), .pos 1), (.box 30 (.pair (.pair .i64 (.pair .u64 (.pair .u64 .unit))) (.pair (.pair .i64 (.pair .u64 (.pair .u64 .unit))) (.pair .i64 (.pair .i64 (.pair .i64 .unit))))), .pos 2), (.row 30 (.pair (.pair .i64 (.pair .u64 (.pair .u64 .unit))) (.pair (.pair .i64 (.pair .u64 (.pair .u64 .unit))) (.pair .i64 (.pair .i64 (.pair .i64 .unit))))), .pos 3), (.row 22 (.sl .u8), .pos 6)]⟩
noncomputable def law22_LookupBuilds_S1 : Spec := ⟨[.val (.sl .u8), .ref 0 (.pair (.sl .u8) (.pair .i64 .unit)), .row 1, .val .i64, .val .i64], [(.box 113 (.pair (.sl .u8) (.pair .i64 .unit)), .pos 1), (.row 30 (.pair (.pair .i64 (.pair .u64 (.pair .u64 .unit))) (.pair (.pair .i64 (.pair .u64 (.pair .u64 .unit))) (.pair .i64 (.pair .i64 (.pair .i64 .unit))))), .pos 2)]⟩
noncomputable def law22_LookupBuilds_S2 : Spec := ⟨[], []⟩
noncomputable def law22_LookupBuilds_S3 : Spec := ⟨[.val (.sl .u8), .ref 0 (.pair (.pair .i64 (.pair .u64 (.pair .u64 .unit))) (.pair (.pair .i64 (.pair .u64 (.pair .u64 .unit))) (.pair .i64 (.pair .i64 (.pair .i64 .unit))))), .ref 1 (.pair (.sl .u8) (.pair .i64 .unit)), .ref 2 (.pair (.pair .i64 (.pair .u64 (.pair .u64 .unit))) (.pair (.pair .i64 (.pair .u64 (.pair .u64 .unit))) (.pair .i64 (.pair .i64 (.pair .i64 .unit))))), .ref 3 (.pair (.pair .i64 (.pair .u64 (.pair .u64 .unit))) (.pair (.pair .i64 (.pair .u64 (.pair .u64 .unit))) (.pair .i64 (.pair .i64 (.pair .i64 .unit)))))], [(.box 30 (.pair (.pair .i64 (.pair .u64 (.pair .u64 .unit))) (.pair (.pair .i64 (.pair .u64 (.pair .u64 .unit))) (.pair .i64 (.pair .i64 (.pair .i64 .unit))))), .pos 1), (.box 113 (.pair (.sl .u8) (.pair .i64 .unit)), .pos 2), (.box 30 (.pair (.pair .i64 (.pair .u64 (.pair .u64 .unit))) (.pair (.pair .i64 (.pair .u64 (.pair .u64 .unit))) (.pair .i64 (.pair .i64 (.pair .i64 .unit))))), .pos 3), (.box 30 (.pair (.pair .i64 (.pair .u64 (.pair .u64 .unit))) (.pair (.pair .i64 (.pair .u64 (.pair .u64 .unit))) (.pair .i64 (.pair .i64 (.pair .i64 .unit))))), .pos 4)]⟩
noncomputable def law22_LookupBuilds_S4 : Spec := ⟨[.val (.sl .u8), .val (.pair (.pair .i64 (.pair .u64 (.pair .u64 .unit))) (.pair (.pair .i64 (.pair .u64 (.pair .u64 .unit))) (.pair .i64 (.pair .i64 (.pair .i64 .unit))))), .val (.sl .u8)], []⟩
noncomputable def law22_LookupBuilds_S5 : Spec := ⟨[.val .bool], []⟩
noncomputable def law22_LookupBuilds_K (_N : Nat) : XE → GS → Option law22_LookupBuilds_R := retK 0 [6] [false] law22_LookupBuilds_S5
noncomputable def law22_LookupBuilds_L : List Code := (bodyOf (some Try.f10))
noncomputable def law22_LookupBuilds_L3 : List Code := (loopOf (law22_LookupBuilds_L[9]?))
noncomputable def law22_LookupBuilds_L5b : List Code := (blockOf (law22_LookupBuilds_L3[2]?))
noncomputable def law22_LookupBuilds_L8 : List Code := (loopOf (law22_LookupBuilds_L5b[2]?))
noncomputable def law22_LookupBuilds_K3 (N : Nat) : XE → GS → Option (Lo (((List UInt8) × Int × Int × Unit) × (((List UInt8) × (Int × Unit)) × (List ((Int × (UInt64 × (UInt64 × Unit))) × ((Int × (UInt64 × (UInt64 × Unit))) × (Int × (Int × (Int × Unit)))))) × Unit)) ((Unit) × (Unit)) law22_LookupBuilds_R) := roundK (some 1) (fit 0 [2, 7, 48, 49, 50] law22_LookupBuilds_S1) (fit 0 [] law22_LookupBuilds_S2) (law22_LookupBuilds_K N)
noncomputable def law22_LookupBuilds_K5 (N : Nat) : XE → GS → Option (Lo (((List UInt8) × Int × Int × Unit) × (((List UInt8) × (Int × Unit)) × (List ((Int × (UInt64 × (UInt64 × Unit))) × ((Int × (UInt64 × (UInt64 × Unit))) × (Int × (Int × (Int × Unit)))))) × Unit)) ((Unit) × (Unit)) law22_LookupBuilds_R) := blockK 2 (goK 0 [2, 7, 48, 49, 50] law22_LookupBuilds_S1 (fun y => law22_LookupBuilds_9 N y.1.1 y.1.2.1 y.1.2.2.1 y.2.1 y.2.2.1)) (law22_LookupBuilds_K3 N)
noncomputable def law22_LookupBuilds_K8 (N : Nat) : XE → GS → Option (Lo (((List UInt8) × Int × Int × Int × Int × Unit) × (((List UInt8) × (Int × Unit)) × ((Int × (UInt64 × (UInt64 × Unit))) × ((Int × (UInt64 × (UInt64 × Unit))) × (Int × (Int × (Int × Unit))))) × (List ((Int × (UInt64 × (UInt64 × Unit))) × ((Int × (UInt64 × (UInt64 × Unit))) × (Int × (Int × (Int × Unit)))))) × (List (List UInt8)) × Unit)) (((List UInt8) × Int × Int × Unit) × (((List UInt8) × (Int × Unit)) × (List ((Int × (UInt64 × (UInt64 × Unit))) × ((Int × (UInt64 × (UInt64 × Unit))) × (Int × (Int × (Int × Unit)))))) × Unit)) (Lo (((List UInt8) × Int × Int × Unit) × (((List UInt8) × (Int × Unit)) × (List ((Int × (UInt64 × (UInt64 × Unit))) × ((Int × (UInt64 × (UInt64 × Unit))) × (Int × (Int × (Int × Unit)))))) × Unit)) ((Unit) × (Unit)) law22_LookupBuilds_R)) := roundK (some 3) (fit 0 [2, 7, 11, 48, 49, 50, 63, 64, 65] law22_LookupBuilds_S0) (fit 0 [2, 7, 48, 49, 50] law22_LookupBuilds_S1) (law22_LookupBuilds_K5 N)
theorem law22_LookupBuilds_s8_b {E : Env} (N : Nat) (hb : Base Try.prog (law22_LookupBuilds_C N) E 0) : Blk Try.prog (law22_LookupBuilds_C N) E [2, 7, 11, 48, 49, 50, 63, 64, 65] law22_LookupBuilds_S0 (law22_LookupBuilds_L8.drop 0) (fun y => law22_LookupBuilds_s8 N y.1.1 y.1.2.1 y.1.2.2.1 y.1.2.2.2.1 y.1.2.2.2.2.1 y.2.1 y.2.2.1 y.2.2.2.1 y.2.2.2.2.1) (law22_LookupBuilds_K8 N) :=
  Blk.chunkAt hb 4 (X := (law22_LookupBuilds_K8 N .normal)) (NxOk.end (by kernel_rfl)) rfl (fun x => by kernel_rfl)
theorem law22_LookupBuilds_9_b {E : Env} (N : Nat) (hb : Base Try.prog (law22_LookupBuilds_C N) E 0) : Blk Try.prog (law22_LookupBuilds_C N) E [2, 7, 48, 49, 50] law22_LookupBuilds_S1 (law22_LookupBuilds_L3.drop 3) (fun y => law22_LookupBuilds_9 N y.1.1 y.1.2.1 y.1.2.2.1 y.2.1 y.2.2.1) (law22_LookupBuilds_K3 N) :=
  Blk.chunkAt hb 1 (X := (law22_LookupBuilds_K3 N .normal)) (NxOk.end (by kernel_rfl)) rfl (fun x => by kernel_rfl)
theorem law22_LookupBuilds_7_b {E : Env} (N : Nat) (hb : Base Try.prog (law22_LookupBuilds_C N) E 0) : Blk Try.prog (law22_LookupBuilds_C N) E [2, 7, 11, 48, 49, 50, 63, 64, 65] law22_LookupBuilds_S0 (law22_LookupBuilds_L5b.drop 2) (fun y => law22_LookupBuilds_7 N y.1.1 y.1.2.1 y.1.2.2.1 y.1.2.2.2.1 y.1.2.2.2.2.1 y.2.1 y.2.2.1 y.2.2.2.1 y.2.2.2.2.1) (law22_LookupBuilds_K5 N) :=
  Blk.loopAt (Nf := N) (hns := [2, 7, 11, 48, 49, 50, 63, 64, 65]) (ans := [2, 7, 48, 49, 50]) (hc := law22_LookupBuilds_S0) (ac := law22_LookupBuilds_S1) (bid := 3) (step := (fun y => law22_LookupBuilds_s8 N y.1.1 y.1.2.1 y.1.2.2.1 y.1.2.2.2.1 y.1.2.2.2.2.1 y.2.1 y.2.2.1 y.2.2.2.1 y.2.2.2.2.1)) (J := (fun e => (law22_LookupBuilds_K5 N .normal) (law22_LookupBuilds_S1.st [2, 7, 48, 49, 50] e))) hb (by kernel_rfl) (Blk.into (X := (law22_LookupBuilds_K5 N .normal)) (NxOk.end (by kernel_rfl)) (fun x => by kernel_rfl)) (law22_LookupBuilds_s8_b N hb) (fun x => by kernel_rfl)
theorem law22_LookupBuilds_6_b {E : Env} (N : Nat) (hb : Base Try.prog (law22_LookupBuilds_C N) E 0) : Blk Try.prog (law22_LookupBuilds_C N) E [2, 7, 48, 49, 50] law22_LookupBuilds_S1 (law22_LookupBuilds_L5b.drop 0) (fun y => law22_LookupBuilds_6 N y.1.1 y.1.2.1 y.1.2.2.1 y.2.1 y.2.2.1) (law22_LookupBuilds_K5 N) :=
  Blk.chunkAt hb 2 (X := (goK 0 [2, 7, 11, 48, 49, 50, 63, 64, 65] law22_LookupBuilds_S0 (fun y => law22_LookupBuilds_7 N y.1.1 y.1.2.1 y.1.2.2.1 y.1.2.2.2.1 y.1.2.2.2.2.1 y.2.1 y.2.2.1 y.2.2.2.1 y.2.2.2.2.1))) (NxOk.go hb (law22_LookupBuilds_7_b N hb)) rfl (fun x => by kernel_rfl)
theorem law22_LookupBuilds_4_b {E : Env} (N : Nat) (hb : Base Try.prog (law22_LookupBuilds_C N) E 0) : Blk Try.prog (law22_LookupBuilds_C N) E [2, 7, 48, 49, 50] law22_LookupBuilds_S1 (law22_LookupBuilds_L3.drop 2) (fun y => law22_LookupBuilds_4 N y.1.1 y.1.2.1 y.1.2.2.1 y.2.1 y.2.2.1) (law22_LookupBuilds_K3 N) :=
  Blk.blockAt (bid := 2) (X := (goK 0 [2, 7, 48, 49, 50] law22_LookupBuilds_S1 (fun y => law22_LookupBuilds_9 N y.1.1 y.1.2.1 y.1.2.2.1 y.2.1 y.2.2.1))) (Y := (goK 0 [2, 7, 48, 49, 50] law22_LookupBuilds_S1 (fun y => law22_LookupBuilds_6 N y.1.1 y.1.2.1 y.1.2.2.1 y.2.1 y.2.2.1))) (by kernel_rfl) (NxOk.go hb (law22_LookupBuilds_9_b N hb)) (NxOk.go hb (law22_LookupBuilds_6_b N hb)) (fun x => by kernel_rfl)
theorem law22_LookupBuilds_s3_b {E : Env} (N : Nat) (hb : Base Try.prog (law22_LookupBuilds_C N) E 0) : Blk Try.prog (law22_LookupBuilds_C N) E [2, 7, 48, 49, 50] law22_LookupBuilds_S1 (law22_LookupBuilds_L3.drop 0) (fun y => law22_LookupBuilds_s3 N y.1.1 y.1.2.1 y.1.2.2.1 y.2.1 y.2.2.1) (law22_LookupBuilds_K3 N) :=
  Blk.chunkAt hb 2 (X := (goK 0 [2, 7, 48, 49, 50] law22_LookupBuilds_S1 (fun y => law22_LookupBuilds_4 N y.1.1 y.1.2.1 y.1.2.2.1 y.2.1 y.2.2.1))) (NxOk.go hb (law22_LookupBuilds_4_b N hb)) rfl (fun x => by kernel_rfl)
theorem law22_LookupBuilds_10_b {E : Env} (N : Nat) (hb : Base Try.prog (law22_LookupBuilds_C N) E 0) : Blk Try.prog (law22_LookupBuilds_C N) E [] law22_LookupBuilds_S2 (law22_LookupBuilds_L.drop 10) (fun y => law22_LookupBuilds_10 N) (law22_LookupBuilds_K N) :=
  Blk.chunkAt hb 2 (X := (law22_LookupBuilds_K N .normal)) (NxOk.end (by kernel_rfl)) rfl (fun x => by kernel_rfl)
theorem law22_LookupBuilds_2_b {E : Env} (N : Nat) (hb : Base Try.prog (law22_LookupBuilds_C N) E 0) : Blk Try.prog (law22_LookupBuilds_C N) E [2, 7, 48, 49, 50] law22_LookupBuilds_S1 (law22_LookupBuilds_L.drop 9) (fun y => law22_LookupBuilds_2 N y.1.1 y.1.2.1 y.1.2.2.1 y.2.1 y.2.2.1) (law22_LookupBuilds_K N) :=
  Blk.loopAt (Nf := N) (hns := [2, 7, 48, 49, 50]) (ans := []) (hc := law22_LookupBuilds_S1) (ac := law22_LookupBuilds_S2) (bid := 1) (step := (fun y => law22_LookupBuilds_s3 N y.1.1 y.1.2.1 y.1.2.2.1 y.2.1 y.2.2.1)) (J := (fun e => (goK 0 [] law22_LookupBuilds_S2 (fun y => law22_LookupBuilds_10 N)) (law22_LookupBuilds_S2.st [] e))) hb (by kernel_rfl) (Blk.into (X := (goK 0 [] law22_LookupBuilds_S2 (fun y => law22_LookupBuilds_10 N))) (NxOk.go hb (law22_LookupBuilds_10_b N hb)) (fun x => by kernel_rfl)) (law22_LookupBuilds_s3_b N hb) (fun x => by kernel_rfl)
theorem law22_LookupBuilds_1_b {E : Env} (N : Nat) (hb : Base Try.prog (law22_LookupBuilds_C N) E 0) : Blk Try.prog (law22_LookupBuilds_C N) E [2, 4, 7, 8, 9] law22_LookupBuilds_S3 (law22_LookupBuilds_L.drop 8) (fun y => law22_LookupBuilds_1 N y.1.1 y.2.1 y.2.2.1 y.2.2.2.1 y.2.2.2.2.1) (law22_LookupBuilds_K N) :=
  Blk.chunkAt hb 1 (X := (goK 0 [2, 7, 48, 49, 50] law22_LookupBuilds_S1 (fun y => law22_LookupBuilds_2 N y.1.1 y.1.2.1 y.1.2.2.1 y.2.1 y.2.2.1))) (NxOk.go hb (law22_LookupBuilds_2_b N hb)) rfl (fun x => by kernel_rfl)
theorem law22_LookupBuilds_b {E : Env} (N : Nat) (hb : Base Try.prog (law22_LookupBuilds_C N) E 0) : Blk Try.prog (law22_LookupBuilds_C N) E (List.range law22_LookupBuilds_S4.ks.length) law22_LookupBuilds_S4 (law22_LookupBuilds_L.drop 0) (fun y => law22_LookupBuilds N y.1.1 y.1.2.1 y.1.2.2.1) (law22_LookupBuilds_K N) :=
  Blk.chunkAt hb 8 (X := (goK 0 [2, 4, 7, 8, 9] law22_LookupBuilds_S3 (fun y => law22_LookupBuilds_1 N y.1.1 y.2.1 y.2.2.1 y.2.2.2.1 y.2.2.2.2.1))) (NxOk.go hb (law22_LookupBuilds_1_b N hb)) rfl (fun x => by kernel_rfl)
noncomputable def law22_LookupBuilds_ctr (N : Nat) : Ctr := ⟨law22_LookupBuilds_S4, law22_LookupBuilds_S5.un [false], 0, (fun y => law22_LookupBuilds N y.1.1 y.1.2.1 y.1.2.2.1)⟩
theorem law22_LookupBuilds_ctrs (N : Nat) : CtrsOk Try.prog (law22_LookupBuilds_C N) := ctrs_of (Γ := law22_LookupBuilds_C N) (by
  intro p hp
  simp only [law22_LookupBuilds_C, List.mem_cons, List.not_mem_nil, or_false] at hp
  rcases hp with rfl | rfl | rfl | rfl | rfl | rfl | rfl | rfl | rfl | rfl
  · exact law22_awake_ok N
  · exact make_New_ok N
  · exact make_Codes_Packet_ok N
  · exact make_Codes_Next_ok N
  · exact make_Codes_Int_ok N
  · exact make_Codes_Bytes_ok N
  · exact lookup_Build_ok N
  · exact ref22_Build_ok N
  · exact ref01_Equal_ok N
  · exact make_Codes_Address_ok N)
theorem law22_LookupBuilds_ok (N : Nat) : Ctr.ok Try.prog G_globs 10 (law22_LookupBuilds_ctr N) :=
  ctr_fn (Γ := law22_LookupBuilds_C N) (rfit := law22_LookupBuilds_S5) (bs := [false]) (res := [6]) (by kernel_rfl) (tys_ok G_tys_ok) (law22_LookupBuilds_ctrs N) Try.func10 (by kernel_rfl) (by kernel_rfl) Try.ntmps10 (by kernel_rfl) (by kernel_rfl) (by kernel_rfl) (by kernel_rfl) (fun E hb => law22_LookupBuilds_b N hb)
end Go.Proofs.Ytgbkkfpheahdfaa
namespace Go.Proofs.Ytgbkkfpheahdfaa
open Go
set_option maxRecDepth 100000
set_option linter.unusedVariables false
/-! ipsecgate/wire.Slice -/
abbrev wire_Slice_R : Type := (((List UInt8) × Bool × Unit) × (Unit))
noncomputable def wire_Slice_1 (N : Nat) (b_0 : (List UInt8)) (at_1 : Int) (n_2 : Int) (t_27 : Bool) : Option wire_Slice_R :=
  bif t_27 then
    some ((([] : List UInt8), false, ()), (()))
  else
    let x2 := w64 (at_1 + n_2)
    let x3 := w64 (at_1 + n_2)
    bif decide (0 ≤ at_1) && decide (at_1 ≤ x2) && decide (x2 ≤ (b_0.length : Int)) && (decide (x2 ≤ x3) && decide (x3 ≤ (b_0.length : Int))) then
    some (((cut b_0 at_1.toNat x2.toNat), true, ()), (()))
    else none
noncomputable def wire_Slice (N : Nat) (b_0 : (List UInt8)) (at_1 : Int) (n_2 : Int) : Option wire_Slice_R :=
  bif (decide (at_1 < (0 : Int))) then
    wire_Slice_1 N b_0 at_1 n_2 true
  else
    bif (decide (n_2 < (0 : Int))) then
      wire_Slice_1 N b_0 at_1 n_2 true
    else
      bif (decide ((b_0.length : Int) < at_1)) then
        wire_Slice_1 N b_0 at_1 n_2 true
      else
        wire_Slice_1 N b_0 at_1 n_2 (decide ((w64 ((b_0.length : Int) - at_1)) < n_2))
noncomputable def wire_Slice_C (N : Nat) : Ctx := ⟨37, G_tys, [], G_globs⟩
noncomputable def wire_Slice_S0 : Spec := ⟨[.val (.sl .u8), .val .i64, .val .i64, .val .bool], []⟩
noncomputable def wire_Slice_S1 : Spec := ⟨[.val (.sl .u8), .val .i64, .val .i64], []⟩
noncomputable def wire_Slice_S2 : Spec := ⟨[.val (.sl .u8), .val .bool], []⟩
noncomputable def wire_Slice_K (_N : Nat) : XE → GS → Option wire_Slice_R := retK 0 [6, 7] [false, false] wire_Slice_S2
noncomputable def wire_Slice_L : List Code := (bodyOf (some Try.f178))
theorem wire_Slice_1_b {E : Env} (N : Nat) (hb : Base Try.prog (wire_Slice_C N) E 0) : Blk Try.prog (wire_Slice_C N) E [0, 1, 2, 27] wire_Slice_S0 (wire_Slice_L.drop 2) (fun y => wire_Slice_1 N y.1.1 y.1.2.1 y.1.2.2.1 y.1.2.2.2.1) (wire_Slice_K N) :=
  Blk.chunkAt hb 3 (X := (wire_Slice_K N .normal)) (NxOk.end (by kernel_rfl)) rfl (fun x => by kernel_rfl)
theorem wire_Slice_b {E : Env} (N : Nat) (hb : Base Try.prog (wire_Slice_C N) E 0) : Blk Try.prog (wire_Slice_C N) E (List.range wire_Slice_S1.ks.length) wire_Slice_S1 (wire_Slice_L.drop 0) (fun y => wire_Slice N y.1.1 y.1.2.1 y.1.2.2.1) (wire_Slice_K N) :=
  Blk.chunkAt hb 2 (X := (goK 0 [0, 1, 2, 27] wire_Slice_S0 (fun y => wire_Slice_1 N y.1.1 y.1.2.1 y.1.2.2.1 y.1.2.2.2.1))) (NxOk.go hb (wire_Slice_1_b N hb)) rfl (fun x => by kernel_rfl)
noncomputable def wire_Slice_ctr (N : Nat) : Ctr := ⟨wire_Slice_S1, wire_Slice_S2.un [false, false], 0, (fun y => wire_Slice N y.1.1 y.1.2.1 y.1.2.2.1)⟩
theorem wire_Slice_ctrs (N : Nat) : CtrsOk Try.prog (wire_Slice_C N) := ctrs_nil rfl
theorem wire_Slice_ok (N : Nat) : Ctr.ok Try.prog G_globs 178 (wire_Slice_ctr N) :=
  ctr_fn (Γ := wire_Slice_C N) (rfit := wire_Slice_S2) (bs := [false, false]) (res := [6, 7]) (by kernel_rfl) (tys_ok G_tys_ok) (wire_Slice_ctrs N) Try.func178 (by kernel_rfl) (by kernel_rfl) Try.ntmps178 (by kernel_rfl) (by kernel_rfl) (by kernel_rfl) (by kernel_rfl) (fun E hb => wire_Slice_b N hb)
end Go.Proofs.Ytgbkkfpheahdfaa
namespace Go.Proofs.Ytgbkkfpheahdfaa
open Go
set_option maxRecDepth 100000
set_option linter.unusedVariables false
/-! ipsecgate/wire.Number -/
abbrev wire_Number_R : Type := ((UInt64 × Bool × Unit) × (Unit))
noncomputable def wire_Number_s3 (N : Nat) (v_10 : UInt64) (t_28 : (List UInt8)) (t_29 : Int) (t_30 : Int) : Option (Lo ((UInt64 × (List UInt8) × Int × Int × Unit) × (Unit)) ((UInt64 × Unit) × (Unit)) wire_Number_R) :=
  bif (decide (t_30 < t_29)) then
    bif inR t_30 t_28.length then
    some (.go ((((shl64 v_10 8) ||| (t_28.getD t_30.toNat (0 : UInt8)).toUInt64), t_28, t_29, (w64 (t_30 + (1 : Int))), ()), (())))
    else none
  else
    some (.br ((v_10, ()), (())))
noncomputable def wire_Number_4 (N : Nat) (v_10 : UInt64) : Option wire_Number_R :=
  some ((v_10, true, ()), (()))
noncomputable def wire_Number_2 (N : Nat) (v_10 : UInt64) (t_28 : (List UInt8)) (t_29 : Int) (t_30 : Int) : Option wire_Number_R :=
  loopK N (fun y => wire_Number_s3 N y.1.1 y.1.2.1 y.1.2.2.1 y.1.2.2.2.1) (fun (e : ((UInt64 × Unit) × (Unit))) => wire_Number_4 N e.1.1) ((v_10, t_28, t_29, t_30, ()), (()))
noncomputable def wire_Number_1 (N : Nat) (b_0 : (List UInt8)) (at_1 : Int) (width_2 : Int) (t_18 : Bool) : Option wire_Number_R :=
  bif t_18 then
    some (((0 : UInt64), false, ()), (()))
  else
    Option.bind (wire_Slice N b_0 at_1 width_2) fun y2 =>
    bif (!y2.1.2.1) then
      some (((0 : UInt64), false, ()), (()))
    else
      wire_Number_2 N (0 : UInt64) y2.1.1 (y2.1.1.length : Int) (0 : Int)
noncomputable def wire_Number (N : Nat) (b_0 : (List UInt8)) (at_1 : Int) (width_2 : Int) : Option wire_Number_R :=
  bif (decide (width_2 < (1 : Int))) then
    wire_Number_1 N b_0 at_1 width_2 true
  else
    wire_Number_1 N b_0 at_1 width_2 (decide ((8 : Int) < width_2))
noncomputable def wire_Number_C (N : Nat) : Ctx := ⟨41, G_tys, [(178, wire_Slice_ctr N)], G_globs⟩
noncomputable def wire_Number_S0 : Spec := ⟨[.val .u64, .val (.sl .u8), .val .i64, .val .i64], []⟩
noncomputable def wire_Number_S1 : Spec := ⟨[.val .u64], []⟩
noncomputable def wire_Number_S2 : Spec := ⟨[.val (.sl .u8), .val .i64, .val .i64, .val .bool], []⟩
noncomputable def wire_Number_S3 : Spec := ⟨[.val (.sl .u8), .val .i64, .val .i64], []⟩
noncomputable def wire_Number_S4 : Spec := ⟨[.val .u64, .val .bool], []⟩
noncomputable def wire_Number_K (_N : Nat) : XE → GS → Option wire_Number_R := retK 0 [6, 7] [false, false] wire_Number_S4
noncomputable def wire_Number_L : List Code := (bodyOf (some Try.f175))
noncomputable def wire_Number_L3 : List Code := (loopOf (wire_Number_L[8]?))
noncomputable def wire_Number_K3 (N : Nat) : XE → GS → Option (Lo ((UInt64 × (List UInt8) × Int × Int × Unit) × (Unit)) ((UInt64 × Unit) × (Unit)) wire_Number_R) := roundK (some 0) (fit 0 [10, 28, 29, 30] wire_Number_S0) (fit 0 [10] wire_Number_S1) (wire_Number_K N)
theorem wire_Number_s3_b {E : Env} (N : Nat) (hb : Base Try.prog (wire_Number_C N) E 0) : Blk Try.prog (wire_Number_C N) E [10, 28, 29, 30] wire_Number_S0 (wire_Number_L3.drop 0) (fun y => wire_Number_s3 N y.1.1 y.1.2.1 y.1.2.2.1 y.1.2.2.2.1) (wire_Number_K3 N) :=
  Blk.chunkAt hb 4 (X := (wire_Number_K3 N .normal)) (NxOk.end (by kernel_rfl)) rfl (fun x => by kernel_rfl)
theorem wire_Number_4_b {E : Env} (N : Nat) (hb : Base Try.prog (wire_Number_C N) E 0) : Blk Try.prog (wire_Number_C N) E [10] wire_Number_S1 (wire_Number_L.drop 9) (fun y => wire_Number_4 N y.1.1) (wire_Number_K N) :=
  Blk.chunkAt hb 2 (X := (wire_Number_K N .normal)) (NxOk.end (by kernel_rfl)) rfl (fun x => by kernel_rfl)
theorem wire_Number_2_b {E : Env} (N : Nat) (hb : Base Try.prog (wire_Number_C N) E 0) : Blk Try.prog (wire_Number_C N) E [10, 28, 29, 30] wire_Number_S0 (wire_Number_L.drop 8) (fun y => wire_Number_2 N y.1.1 y.1.2.1 y.1.2.2.1 y.1.2.2.2.1) (wire_Number_K N) :=
  Blk.loopAt (Nf := N) (hns := [10, 28, 29, 30]) (ans := [10]) (hc := wire_Number_S0) (ac := wire_Number_S1) (bid := 0) (step := (fun y => wire_Number_s3 N y.1.1 y.1.2.1 y.1.2.2.1 y.1.2.2.2.1)) (J := (fun e => (goK 0 [10] wire_Number_S1 (fun y => wire_Number_4 N y.1.1)) (wire_Number_S1.st [10] e))) hb (by kernel_rfl) (Blk.into (X := (goK 0 [10] wire_Number_S1 (fun y => wire_Number_4 N y.1.1))) (NxOk.go hb (wire_Number_4_b N hb)) (fun x => by kernel_rfl)) (wire_Number_s3_b N hb) (fun x => by kernel_rfl)
theorem wire_Number_1_b {E : Env} (N : Nat) (hb : Base Try.prog (wire_Number_C N) E 0) : Blk Try.prog (wire_Number_C N) E [0, 1, 2, 18] wire_Number_S2 (wire_Number_L.drop 2) (fun y => wire_Number_1 N y.1.1 y.1.2.1 y.1.2.2.1 y.1.2.2.2.1) (wire_Number_K N) :=
  Blk.chunkAt hb 6 (X := (goK 0 [10, 28, 29, 30] wire_Number_S0 (fun y => wire_Number_2 N y.1.1 y.1.2.1 y.1.2.2.1 y.1.2.2.2.1))) (NxOk.go hb (wire_Number_2_b N hb)) rfl (fun x => by kernel_rfl)
theorem wire_Number_b {E : Env} (N : Nat) (hb : Base Try.prog (wire_Number_C N) E 0) : Blk Try.prog (wire_Number_C N) E (List.range wire_Number_S3.ks.length) wire_Number_S3 (wire_Number_L.drop 0) (fun y => wire_Number N y.1.1 y.1.2.1 y.1.2.2.1) (wire_Number_K N) :=
  Blk.chunkAt hb 2 (X := (goK 0 [0, 1, 2, 18] wire_Number_S2 (fun y => wire_Number_1 N y.1.1 y.1.2.1 y.1.2.2.1 y.1.2.2.2.1))) (NxOk.go hb (wire_Number_1_b N hb)) rfl (fun x => by kernel_rfl)
noncomputable def wire_Number_ctr (N : Nat) : Ctr := ⟨wire_Number_S3, wire_Number_S4.un [false, false], 0, (fun y => wire_Number N y.1.1 y.1.2.1 y.1.2.2.1)⟩
theorem wire_Number_ctrs (N : Nat) : CtrsOk Try.prog (wire_Number_C N) := ctrs_of (Γ := wire_Number_C N) (by
  intro p hp
  simp only [wire_Number_C, List.mem_cons, List.not_mem_nil, or_false] at hp
  rcases hp with rfl
  · exact wire_Slice_ok N)
theorem wire_Number_ok (N : Nat) : Ctr.ok Try.prog G_globs 175 (wire_Number_ctr N) :=
  ctr_fn (Γ := wire_Number_C N) (rfit := wire_Number_S4) (bs := [false, false]) (res := [6, 7]) (by kernel_rfl) (tys_ok G_tys_ok) (wire_Number_ctrs N) Try.func175 (by kernel_rfl) (by kernel_rfl) Try.ntmps175 (by kernel_rfl) (by kernel_rfl) (by kernel_rfl) (by kernel_rfl) (fun E hb => wire_Number_b N hb)
end Go.Proofs.Ytgbkkfpheahdfaa
namespace Go.Proofs.Ytgbkkfpheahdfaa
open Go
set_option maxRecDepth 100000
set_option linter.unusedVariables false
/-! ipsecgate/ipsecgateref01.Number -/
abbrev ref01_Number_R : Type := ((UInt64 × Bool × Unit) × (Unit))
noncomputable def ref01_Number_s3 (N : Nat) (b_0 : (List UInt8)) (at_1 : Int) (width_2 : Int) (v_8 : UInt64) (i_9 : Int) : Option (Lo (((List UInt8) × Int × Int × UInt64 × Int × Unit) × (Unit)) ((UInt64 × Unit) × (Unit)) ref01_Number_R) :=
  bif (decide (i_9 < (w64 (at_1 + width_2)))) then
    bif inR i_9 b_0.length then
    some (.go ((b_0, at_1, width_2, ((shl64 v_8 8) ||| (b_0.getD i_9.toNat (0 : UInt8)).toUInt64), (w64 (i_9 + (1 : Int))), ()), (())))
    else none
  else
    some (.br ((v_8, ()), (())))
noncomputable def ref01_Number_4 (N : Nat) (v_8 : UInt64) : Option ref01_Number_R :=
  some ((v_8, true, ()), (()))
noncomputable def ref01_Number_2 (N : Nat) (b_0 : (List UInt8)) (at_1 : Int) (width_2 : Int) (v_8 : UInt64) (i_9 : Int) : Option ref01_Number_R :=
  loopK N (fun y => ref01_Number_s3 N y.1.1 y.1.2.1 y.1.2.2.1 y.1.2.2.2.1 y.1.2.2.2.2.1) (fun (e : ((UInt64 × Unit) × (Unit))) => ref01_Number_4 N e.1.1) ((b_0, at_1, width_2, v_8, i_9, ()), (()))
noncomputable def ref01_Number_1 (N : Nat) (b_0 : (List UInt8)) (at_1 : Int) (width_2 : Int) (t_33 : Bool) : Option ref01_Number_R :=
  bif t_33 then
    some (((0 : UInt64), false, ()), (()))
  else
    ref01_Number_2 N b_0 at_1 width_2 (0 : UInt64) at_1
noncomputable def ref01_Number (N : Nat) (b_0 : (List UInt8)) (at_1 : Int) (width_2 : Int) : Option ref01_Number_R :=
  bif (decide (width_2 < (1 : Int))) then
    ref01_Number_1 N b_0 at_1 width_2 true
  else
    bif (decide ((8 : Int) < width_2)) then
      ref01_Number_1 N b_0 at_1 width_2 true
    else
      bif (decide (at_1 < (0 : Int))) then
        ref01_Number_1 N b_0 at_1 width_2 true
      else
        bif (decide ((b_0.length : Int) < at_1)) then
          ref01_Number_1 N b_0 at_1 width_2 true
        else
          ref01_Number_1 N b_0 at_1 width_2 (decide ((w64 ((b_0.length : Int) - at_1)) < width_2))
noncomputable def ref01_Number_C (N : Nat) : Ctx := ⟨51, G_tys, [], G_globs⟩
noncomputable def ref01_Number_S0 : Spec := ⟨[.val (.sl .u8), .val .i64, .val .i64, .val .u64, .val .i64], []⟩
noncomputable def ref01_Number_S1 : Spec := ⟨[.val .u64], []⟩
noncomputable def ref01_Number_S2 : Spec := ⟨[.val (.sl .u8), .val .i64, .val .i64, .val .bool], []⟩
noncomputable def ref01_Number_S3 : Spec := ⟨[.val (.sl .u8), .val .i64, .val .i64], []⟩
noncomputable def ref01_Number_S4 : Spec := ⟨[.val .u64, .val .bool], []⟩
noncomputable def ref01_Number_K (_N : Nat) : XE → GS → Option ref01_Number_R := retK 0 [6, 7] [false, false] ref01_Number_S4
noncomputable def ref01_Number_L : List Code := (bodyOf (some Try.f157))
noncomputable def ref01_Number_L3 : List Code := (loopOf (ref01_Number_L[5]?))
noncomputable def ref01_Number_K3 (N : Nat) : XE → GS → Option (Lo (((List UInt8) × Int × Int × UInt64 × Int × Unit) × (Unit)) ((UInt64 × Unit) × (Unit)) ref01_Number_R) := roundK (some 0) (fit 0 [0, 1, 2, 8, 9] ref01_Number_S0) (fit 0 [8] ref01_Number_S1) (ref01_Number_K N)
theorem ref01_Number_s3_b {E : Env} (N : Nat) (hb : Base Try.prog (ref01_Number_C N) E 0) : Blk Try.prog (ref01_Number_C N) E [0, 1, 2, 8, 9] ref01_Number_S0 (ref01_Number_L3.drop 0) (fun y => ref01_Number_s3 N y.1.1 y.1.2.1 y.1.2.2.1 y.1.2.2.2.1 y.1.2.2.2.2.1) (ref01_Number_K3 N) :=
  Blk.chunkAt hb 4 (X := (ref01_Number_K3 N .normal)) (NxOk.end (by kernel_rfl)) rfl (fun x => by kernel_rfl)
theorem ref01_Number_4_b {E : Env} (N : Nat) (hb : Base Try.prog (ref01_Number_C N) E 0) : Blk Try.prog (ref01_Number_C N) E [8] ref01_Number_S1 (ref01_Number_L.drop 6) (fun y => ref01_Number_4 N y.1.1) (ref01_Number_K N) :=
  Blk.chunkAt hb 2 (X := (ref01_Number_K N .normal)) (NxOk.end (by kernel_rfl)) rfl (fun x => by kernel_rfl)
theorem ref01_Number_2_b {E : Env} (N : Nat) (hb : Base Try.prog (ref01_Number_C N) E 0) : Blk Try.prog (ref01_Number_C N) E [0, 1, 2, 8, 9] ref01_Number_S0 (ref01_Number_L.drop 5) (fun y => ref01_Number_2 N y.1.1 y.1.2.1 y.1.2.2.1 y.1.2.2.2.1 y.1.2.2.2.2.1) (ref01_Number_K N) :=
  Blk.loopAt (Nf := N) (hns := [0, 1, 2, 8, 9]) (ans := [8]) (hc := ref01_Number_S0) (ac := ref01_Number_S1) (bid := 0) (step := (fun y => ref01_Number_s3 N y.1.1 y.1.2.1 y.1.2.2.1 y.1.2.2.2.1 y.1.2.2.2.2.1)) (J := (fun e => (goK 0 [8] ref01_Number_S1 (fun y => ref01_Number_4 N y.1.1)) (ref01_Number_S1.st [8] e))) hb (by kernel_rfl) (Blk.into (X := (goK 0 [8] ref01_Number_S1 (fun y => ref01_Number_4 N y.1.1))) (NxOk.go hb (ref01_Number_4_b N hb)) (fun x => by kernel_rfl)) (ref01_Number_s3_b N hb) (fun x => by kernel_rfl)
theorem ref01_Number_1_b {E : Env} (N : Nat) (hb : Base Try.prog (ref01_Number_C N) E 0) : Blk Try.prog (ref01_Number_C N) E [0, 1, 2, 33] ref01_Number_S2 (ref01_Number_L.drop 2) (fun y => ref01_Number_1 N y.1.1 y.1.2.1 y.1.2.2.1 y.1.2.2.2.1) (ref01_Number_K N) :=
  Blk.chunkAt hb 3 (X := (goK 0 [0, 1, 2, 8, 9] ref01_Number_S0 (fun y => ref01_Number_2 N y.1.1 y.1.2.1 y.1.2.2.1 y.1.2.2.2.1 y.1.2.2.2.2.1))) (NxOk.go hb (ref01_Number_2_b N hb)) rfl (fun x => by kernel_rfl)
theorem ref01_Number_b {E : Env} (N : Nat) (hb : Base Try.prog (ref01_Number_C N) E 0) : Blk Try.prog (ref01_Number_C N) E (List.range ref01_Number_S3.ks.length) ref01_Number_S3 (ref01_Number_L.drop 0) (fun y => ref01_Number N y.1.1 y.1.2.1 y.1.2.2.1) (ref01_Number_K N) :=
  Blk.chunkAt hb 2 (X := (goK 0 [0, 1, 2, 33] ref01_Number_S2 (fun y => ref01_Number_1 N y.1.1 y.1.2.1 y.1.2.2.1 y.1.2.2.2.1))) (NxOk.go hb (ref01_Number_1_b N hb)) rfl (fun x => by kernel_rfl)
noncomputable def ref01_Number_ctr (N : Nat) : Ctr := ⟨ref01_Number_S3, ref01_Number_S4.un [false, false], 0, (fun y => ref01_Number N y.1.1 y.1.2.1 y.1.2.2.1)⟩
theorem ref01_Number_ctrs (N : Nat) : CtrsOk Try.prog (ref01_Number_C N) := ctrs_nil rfl
theorem ref01_Number_ok (N : Nat) : Ctr.ok Try.prog G_globs 157 (ref01_Number_ctr N) :=
  ctr_fn (Γ := ref01_Number_C N) (rfit := ref01_Number_S4) (bs := [false, false]) (res := [6, 7]) (by kernel_rfl) (tys_ok G_tys_ok) (ref01_Number_ctrs N) Try.func157 (by kernel_rfl) (by kernel_rfl) Try.ntmps157 (by kernel_rfl) (by kernel_rfl) (by kernel_rfl) (by kernel_rfl) (fun E hb => ref01_Number_b N hb)
end Go.Proofs.Ytgbkkfpheahdfaa