import Derived.Test.YtofajgidjkjnpaaDoorFnsSealedWritesA
import Derived.Test.YtofajgidjkjnpaaDoorFntSealedWritesA
set_option linter.unusedVariables false
set_option linter.unusedSimpArgs false
namespace Go.Proofs.YtofajgidjkjnpaaDoor
open Go
set_option maxRecDepth 100000
set_option linter.unusedVariables false
/-! ipsecgate/ipsecgatelaw17.SealedWrites -/
abbrev law17_SealedWrites_R : Type := ((Bool × Unit) × (Unit))
noncomputable def law17_SealedWrites_s11 (N : Nat) (iv_2 : UInt64) (size_3 : Int) (b_14 : (List UInt8)) (short_16 : (List UInt8)) (f_18 : Int) (t_65 : Int) (t_66 : Int) (t_102 : Int) (t_103 : Int) (bad_15 : D75) (t_64 : (List Int)) (t_101 : (List Int)) : Option (Lo ((UInt64 × Int × (List UInt8) × (List UInt8) × Int × Int × Int × Int × Int × Unit) × (D75 × (List Int) × (List Int) × Unit)) ((UInt64 × Int × (List UInt8) × (List UInt8) × Int × Int × Unit) × (D75 × (List Int) × Unit)) (Lo ((UInt64 × Int × (List UInt8) × (List UInt8) × Int × Int × Unit) × (D75 × (List Int) × Unit)) ((Unit) × (Unit)) law17_SealedWrites_R)) :=
  bif (decide (t_103 < t_102)) then
    bif inR t_103 t_101.length then
    let x27 := (t_101.getD t_103.toNat (0 : Int))
    Option.bind (sealed_Split N bad_15 f_18 b_14 short_16 iv_2 x27) fun y28 =>
    Option.bind (ref17_Split N bad_15 f_18 b_14 short_16 iv_2 x27) fun y29 =>
    bif (!(decide (y28.1.1 = y29.1.1))) then
      some (.rt (.rt ((false, ()), (()))))
    else
      Option.bind (ref17_SameBytes N y28.2.1 y29.2.1) fun y31 =>
      bif (!y31.1.1) then
        some (.rt (.rt ((false, ()), (()))))
      else
        some (.go ((iv_2, size_3, b_14, short_16, f_18, t_65, t_66, t_102, (w64 (t_103 + (1 : Int))), ()), (bad_15, t_64, t_101, ())))
    else none
  else
    some (.br ((iv_2, size_3, b_14, short_16, t_65, t_66, ()), (bad_15, t_64, ())))
noncomputable def law17_SealedWrites_12 (N : Nat) (iv_2 : UInt64) (size_3 : Int) (b_14 : (List UInt8)) (short_16 : (List UInt8)) (t_65 : Int) (t_66 : Int) (bad_15 : D75) (t_64 : (List Int)) : Option (Lo ((UInt64 × Int × (List UInt8) × (List UInt8) × Int × Int × Unit) × (D75 × (List Int) × Unit)) ((Unit) × (Unit)) law17_SealedWrites_R) :=
  some (.go ((iv_2, size_3, b_14, short_16, t_65, (w64 (t_66 + (1 : Int))), ()), (bad_15, t_64, ())))
noncomputable def law17_SealedWrites_10 (N : Nat) (iv_2 : UInt64) (size_3 : Int) (b_14 : (List UInt8)) (short_16 : (List UInt8)) (f_18 : Int) (t_65 : Int) (t_66 : Int) (t_102 : Int) (t_103 : Int) (bad_15 : D75) (t_64 : (List Int)) (t_101 : (List Int)) : Option (Lo ((UInt64 × Int × (List UInt8) × (List UInt8) × Int × Int × Unit) × (D75 × (List Int) × Unit)) ((Unit) × (Unit)) law17_SealedWrites_R) :=
  loopK N (fun y => law17_SealedWrites_s11 N y.1.1 y.1.2.1 y.1.2.2.1 y.1.2.2.2.1 y.1.2.2.2.2.1 y.1.2.2.2.2.2.1 y.1.2.2.2.2.2.2.1 y.1.2.2.2.2.2.2.2.1 y.1.2.2.2.2.2.2.2.2.1 y.2.1 y.2.2.1 y.2.2.2.1) (fun (e : ((UInt64 × Int × (List UInt8) × (List UInt8) × Int × Int × Unit) × (D75 × (List Int) × Unit))) => law17_SealedWrites_12 N e.1.1 e.1.2.1 e.1.2.2.1 e.1.2.2.2.1 e.1.2.2.2.2.1 e.1.2.2.2.2.2.1 e.2.1 e.2.2.1) ((iv_2, size_3, b_14, short_16, f_18, t_65, t_66, t_102, t_103, ()), (bad_15, t_64, t_101, ()))
noncomputable def law17_SealedWrites_9 (N : Nat) (iv_2 : UInt64) (size_3 : Int) (b_14 : (List UInt8)) (short_16 : (List UInt8)) (f_18 : Int) (t_65 : Int) (t_66 : Int) (t_96 : Bool) (bad_15 : D75) (t_64 : (List Int)) : Option (Lo ((UInt64 × Int × (List UInt8) × (List UInt8) × Int × Int × Unit) × (D75 × (List Int) × Unit)) ((Unit) × (Unit)) law17_SealedWrites_R) :=
  bif t_96 then
    some (.rt ((false, ()), (())))
  else
    Option.bind (make_Mod N size_3 (60 : Int)) fun y23 =>
    let x24 := w64 ((1 : Int) + y23.1.1)
    law17_SealedWrites_10 N iv_2 size_3 b_14 short_16 f_18 t_65 t_66 (([size_3, x24] : List Int).length : Int) (0 : Int) bad_15 t_64 ([size_3, x24] : List Int)
noncomputable def law17_SealedWrites_8 (N : Nat) (iv_2 : UInt64) (size_3 : Int) (b_14 : (List UInt8)) (short_16 : (List UInt8)) (t_65 : Int) (t_66 : Int) (bad_15 : D75) (t_64 : (List Int)) : Option (Lo ((UInt64 × Int × (List UInt8) × (List UInt8) × Int × Int × Unit) × (D75 × (List Int) × Unit)) ((Unit) × (Unit)) law17_SealedWrites_R) :=
  bif inR t_66 t_64.length then
  let x19 := (t_64.getD t_66.toNat (0 : Int))
  Option.bind (sealed_Seal N bad_15 x19 b_14 short_16 iv_2) fun y20 =>
  Option.bind (ref17_Seal N bad_15 x19 b_14 short_16 iv_2) fun y21 =>
  bif (!(decide (y20.1.1 = y21.1.1))) then
    law17_SealedWrites_9 N iv_2 size_3 b_14 short_16 x19 t_65 t_66 true bad_15 t_64
  else
    Option.bind (ref01_Equal N y20.2.1 y21.2.1) fun y35 =>
    law17_SealedWrites_9 N iv_2 size_3 b_14 short_16 x19 t_65 t_66 (!y35.1.1) bad_15 t_64
  else none
noncomputable def law17_SealedWrites_6 (N : Nat) (iv_2 : UInt64) (size_3 : Int) (b_14 : (List UInt8)) (short_16 : (List UInt8)) (t_65 : Int) (t_66 : Int) (bad_15 : D75) (t_64 : (List Int)) : Option (Lo ((UInt64 × Int × (List UInt8) × (List UInt8) × Int × Int × Unit) × (D75 × (List Int) × Unit)) ((Unit) × (Unit)) law17_SealedWrites_R) :=
  law17_SealedWrites_8 N iv_2 size_3 b_14 short_16 t_65 t_66 bad_15 t_64
noncomputable def law17_SealedWrites_s5 (N : Nat) (iv_2 : UInt64) (size_3 : Int) (b_14 : (List UInt8)) (short_16 : (List UInt8)) (t_65 : Int) (t_66 : Int) (bad_15 : D75) (t_64 : (List Int)) : Option (Lo ((UInt64 × Int × (List UInt8) × (List UInt8) × Int × Int × Unit) × (D75 × (List Int) × Unit)) ((Unit) × (Unit)) law17_SealedWrites_R) :=
  bif (decide (t_66 < t_65)) then
    law17_SealedWrites_6 N iv_2 size_3 b_14 short_16 t_65 t_66 bad_15 t_64
  else
    some (.br ((()), (())))
noncomputable def law17_SealedWrites_13 (N : Nat) : Option law17_SealedWrites_R :=
  some ((true, ()), (()))
noncomputable def law17_SealedWrites_4 (N : Nat) (iv_2 : UInt64) (size_3 : Int) (short_16 : (List UInt8)) (t_65 : Int) (t_66 : Int) (b_14 : (List UInt8)) (bad_15 : D75) (t_64 : (List Int)) : Option law17_SealedWrites_R :=
  loopK N (fun y => law17_SealedWrites_s5 N y.1.1 y.1.2.1 y.1.2.2.1 y.1.2.2.2.1 y.1.2.2.2.2.1 y.1.2.2.2.2.2.1 y.2.1 y.2.2.1) (fun (e : ((Unit) × (Unit))) => law17_SealedWrites_13 N) ((iv_2, size_3, b_14, short_16, t_65, t_66, ()), (bad_15, t_64, ()))
noncomputable def law17_SealedWrites_3 (N : Nat) (first_1 : Int) (iv_2 : UInt64) (size_3 : Int) (short_16 : (List UInt8)) (b_14 : (List UInt8)) (bad_15 : D75) : Option law17_SealedWrites_R :=
  Option.bind (make_Mod N first_1 (256 : Int)) fun y16 =>
  law17_SealedWrites_4 N iv_2 size_3 short_16 (([first_1, y16.1.1] : List Int).length : Int) (0 : Int) b_14 bad_15 ([first_1, y16.1.1] : List Int)
noncomputable def law17_SealedWrites_2 (N : Nat) (first_1 : Int) (iv_2 : UInt64) (size_3 : Int) (long_4 : UInt8) (short_16 : (List UInt8)) (b_14 : (List UInt8)) (bad_15 : D75) : Option law17_SealedWrites_R :=
  bif (decide ((long_4 % (16 : UInt8)) = (15 : UInt8))) then
    let x14 := w64 ((8060 : Int) + (long_4.toNat : Int))
    bif decide (0 ≤ x14) then
    bif room (b_14.length + (List.replicate x14.toNat (0 : UInt8)).length) 1 then
    law17_SealedWrites_3 N first_1 iv_2 size_3 short_16 (b_14 ++ (List.replicate x14.toNat (0 : UInt8))) bad_15
    else none
    else none
  else
    law17_SealedWrites_3 N first_1 iv_2 size_3 short_16 b_14 bad_15
noncomputable def law17_SealedWrites_1 (N : Nat) (first_1 : Int) (iv_2 : UInt64) (size_3 : Int) (long_4 : UInt8) (c_11 : ((List UInt8) × (Int × Unit))) (k_13 : (List UInt8)) (b_14 : (List UInt8)) (bad_15 : D75) : Option law17_SealedWrites_R :=
  Option.bind (make_Codes_Next N (4 : Int) c_11) fun y8 =>
  bif (decide (y8.1.1 = (3 : Int))) then
    Option.bind (make_Codes_Change N k_13 y8.2.1) fun y10 =>
    law17_SealedWrites_2 N first_1 iv_2 size_3 long_4 y10.1.1 b_14 bad_15
  else
    law17_SealedWrites_2 N first_1 iv_2 size_3 long_4 k_13 b_14 bad_15
noncomputable def law17_SealedWrites (N : Nat) (codes_0 : (List UInt8)) (first_1 : Int) (iv_2 : UInt64) (size_3 : Int) (long_4 : UInt8) : Option law17_SealedWrites_R :=
  Option.bind (law17_awake N) fun y1 =>
  bif (!y1.1.1) then
    some ((false, ()), (()))
  else
    Option.bind (make_New N codes_0 (240 : Int)) fun y3 =>
    Option.bind (law17_draw N y3.2.1) fun y4 =>
    Option.bind (make_Codes_Next N (3 : Int) y4.2.1) fun y5 =>
    bif (decide (y5.1.1 = (2 : Int))) then
      Option.bind (make_Codes_Int N y5.2.1) fun y7 =>
      law17_SealedWrites_1 N first_1 iv_2 size_3 long_4 y7.2.1 y4.2.2.1 y4.2.2.2.1 (y4.1.1.1, y4.1.1.2.1, y4.1.1.2.2.1, y7.1.1, y4.1.1.2.2.2.2.1, y4.1.1.2.2.2.2.2.1, ())
    else
      law17_SealedWrites_1 N first_1 iv_2 size_3 long_4 y5.2.1 y4.2.2.1 y4.2.2.2.1 y4.1.1
noncomputable def law17_SealedWrites_C (N : Nat) : Ctx := ⟨138, G_tys, [(53, law17_awake_ctr N), (16, make_New_ctr N), (54, law17_draw_ctr N), (61, make_Codes_Next_ctr N), (69, make_Codes_Int_ctr N), (22, make_Codes_Change_ctr N), (42, make_Mod_ctr N), (55, sealed_Seal_ctr N), (59, ref17_Seal_ctr N), (70, sealed_Split_ctr N), (60, ref17_Split_ctr N), (71, ref17_SameBytes_ctr N), (21, ref01_Equal_ctr N)], G_globs, G_ifs⟩
noncomputable def law17_SealedWrites_S0 : Spec := ⟨[.val .u64, .val .i64, .val (.sl .u8), .ref 0 T75, .val (.sl .u8), .val .i64, .row 1, .val .i64, .val .i64, .row 2, .val .i64, .val .i64], [(.box 76 T75, .pos 3), (.row 3 .i64, .pos 6), (.row 3 .i64, .pos 9)]⟩
noncomputable def law17_SealedWrites_S1 : Spec := ⟨[.val .u64, .val .i64, .val (.sl .u8), .ref 0 T75, .val (.sl .u8), .row 1, .val .i64, .val .i64], [(.box 76 T75, .pos 3), (.row 3 .i64, .pos 5)]⟩
noncomputable def law17_SealedWrites_S2 : Spec := ⟨[.val .u64, .val .i64, .val (.sl .u8), .ref 0 T75, .val (.sl .u8), .val .i64, .row 1, .val .i64, .val .i64, .val .bool], [(.box 76 T75, .pos 3), (.row 3 .i64, .pos 6)]⟩
noncomputable def law17_SealedWrites_S3 : Spec := ⟨[], []⟩
noncomputable def law17_SealedWrites_S4 : Spec := ⟨[.val .u64, .val .i64, .row 0, .ref 1 T75, .val (.sl .u8), .row 2, .val .i64, .val .i64], [(.row 5 .u8, .pos 2), (.box 76 T75, .pos 3), (.row 3 .i64, .pos 5)]⟩
noncomputable def law17_SealedWrites_S5 : Spec := ⟨[.val .i64, .val .u64, .val .i64, .row 0, .ref 1 T75, .val (.sl .u8)], [(.row 5 .u8, .pos 3), (.box 76 T75, .pos 4)]⟩
noncomputable def law17_SealedWrites_S6 : Spec := ⟨[.val .i64, .val .u64, .val .i64, .val .u8, .row 0, .ref 1 T75, .val (.sl .u8)], [(.row 5 .u8, .pos 4), (.box 76 T75, .pos 5)]⟩
noncomputable def law17_SealedWrites_S7 : Spec := ⟨[.val .i64, .val .u64, .val .i64, .val .u8, .ref 0 (.pair (.sl .u8) (.pair .i64 .unit)), .row 1, .row 2, .ref 3 T75], [(.box 122 (.pair (.sl .u8) (.pair .i64 .unit)), .pos 4), (.row 5 .u8, .pos 5), (.row 5 .u8, .pos 6), (.box 76 T75, .pos 7)]⟩
noncomputable def law17_SealedWrites_S8 : Spec := ⟨[.val (.sl .u8), .val .i64, .val .u64, .val .i64, .val .u8], []⟩
noncomputable def law17_SealedWrites_S9 : Spec := ⟨[.val .bool], []⟩
noncomputable def law17_SealedWrites_K (_N : Nat) : XE → GS → Option law17_SealedWrites_R := retK 0 [10] [false] law17_SealedWrites_S9
noncomputable def law17_SealedWrites_L : List Code := (bodyOf (some Tryd.f11))
noncomputable def law17_SealedWrites_L5 : List Code := (loopOf (law17_SealedWrites_L[14]?))
noncomputable def law17_SealedWrites_L7b : List Code := (blockOf (law17_SealedWrites_L5[2]?))
noncomputable def law17_SealedWrites_L11 : List Code := (loopOf (law17_SealedWrites_L7b[6]?))
noncomputable def law17_SealedWrites_K5 (N : Nat) : XE → GS → Option (Lo ((UInt64 × Int × (List UInt8) × (List UInt8) × Int × Int × Unit) × (D75 × (List Int) × Unit)) ((Unit) × (Unit)) law17_SealedWrites_R) := roundK (some 0) (fit 0 [2, 3, 14, 15, 16, 64, 65, 66] law17_SealedWrites_S1) (fit 0 [] law17_SealedWrites_S3) (law17_SealedWrites_K N)
noncomputable def law17_SealedWrites_K7 (N : Nat) : XE → GS → Option (Lo ((UInt64 × Int × (List UInt8) × (List UInt8) × Int × Int × Unit) × (D75 × (List Int) × Unit)) ((Unit) × (Unit)) law17_SealedWrites_R) := blockK 1 (goK 0 [2, 3, 14, 15, 16, 64, 65, 66] law17_SealedWrites_S1 (fun y => law17_SealedWrites_12 N y.1.1 y.1.2.1 y.1.2.2.1 y.1.2.2.2.1 y.1.2.2.2.2.1 y.1.2.2.2.2.2.1 y.2.1 y.2.2.1)) (law17_SealedWrites_K5 N)
noncomputable def law17_SealedWrites_K11 (N : Nat) : XE → GS → Option (Lo ((UInt64 × Int × (List UInt8) × (List UInt8) × Int × Int × Int × Int × Int × Unit) × (D75 × (List Int) × (List Int) × Unit)) ((UInt64 × Int × (List UInt8) × (List UInt8) × Int × Int × Unit) × (D75 × (List Int) × Unit)) (Lo ((UInt64 × Int × (List UInt8) × (List UInt8) × Int × Int × Unit) × (D75 × (List Int) × Unit)) ((Unit) × (Unit)) law17_SealedWrites_R)) := roundK (some 2) (fit 0 [2, 3, 14, 15, 16, 18, 64, 65, 66, 101, 102, 103] law17_SealedWrites_S0) (fit 0 [2, 3, 14, 15, 16, 64, 65, 66] law17_SealedWrites_S1) (law17_SealedWrites_K7 N)
theorem law17_SealedWrites_s11_b {E : Env} (N : Nat) (hb : Base Tryd.prog (law17_SealedWrites_C N) E 0) : Blk Tryd.prog (law17_SealedWrites_C N) E [2, 3, 14, 15, 16, 18, 64, 65, 66, 101, 102, 103] law17_SealedWrites_S0 (law17_SealedWrites_L11.drop 0) (fun y => law17_SealedWrites_s11 N y.1.1 y.1.2.1 y.1.2.2.1 y.1.2.2.2.1 y.1.2.2.2.2.1 y.1.2.2.2.2.2.1 y.1.2.2.2.2.2.2.1 y.1.2.2.2.2.2.2.2.1 y.1.2.2.2.2.2.2.2.2.1 y.2.1 y.2.2.1 y.2.2.2.1) (law17_SealedWrites_K11 N) :=
  Blk.chunkAt hb 4 (X := (law17_SealedWrites_K11 N .normal)) (NxOk.end (by kernel_rfl)) rfl (fun x => by kernel_rfl)
theorem law17_SealedWrites_12_b {E : Env} (N : Nat) (hb : Base Tryd.prog (law17_SealedWrites_C N) E 0) : Blk Tryd.prog (law17_SealedWrites_C N) E [2, 3, 14, 15, 16, 64, 65, 66] law17_SealedWrites_S1 (law17_SealedWrites_L5.drop 3) (fun y => law17_SealedWrites_12 N y.1.1 y.1.2.1 y.1.2.2.1 y.1.2.2.2.1 y.1.2.2.2.2.1 y.1.2.2.2.2.2.1 y.2.1 y.2.2.1) (law17_SealedWrites_K5 N) :=
  Blk.chunkAt hb 1 (X := (law17_SealedWrites_K5 N .normal)) (NxOk.end (by kernel_rfl)) rfl (fun x => by kernel_rfl)
theorem law17_SealedWrites_10_b {E : Env} (N : Nat) (hb : Base Tryd.prog (law17_SealedWrites_C N) E 0) : Blk Tryd.prog (law17_SealedWrites_C N) E [2, 3, 14, 15, 16, 18, 64, 65, 66, 101, 102, 103] law17_SealedWrites_S0 (law17_SealedWrites_L7b.drop 6) (fun y => law17_SealedWrites_10 N y.1.1 y.1.2.1 y.1.2.2.1 y.1.2.2.2.1 y.1.2.2.2.2.1 y.1.2.2.2.2.2.1 y.1.2.2.2.2.2.2.1 y.1.2.2.2.2.2.2.2.1 y.1.2.2.2.2.2.2.2.2.1 y.2.1 y.2.2.1 y.2.2.2.1) (law17_SealedWrites_K7 N) :=
  Blk.loopAt (Nf := N) (hns := [2, 3, 14, 15, 16, 18, 64, 65, 66, 101, 102, 103]) (ans := [2, 3, 14, 15, 16, 64, 65, 66]) (hc := law17_SealedWrites_S0) (ac := law17_SealedWrites_S1) (bid := 2) (step := (fun y => law17_SealedWrites_s11 N y.1.1 y.1.2.1 y.1.2.2.1 y.1.2.2.2.1 y.1.2.2.2.2.1 y.1.2.2.2.2.2.1 y.1.2.2.2.2.2.2.1 y.1.2.2.2.2.2.2.2.1 y.1.2.2.2.2.2.2.2.2.1 y.2.1 y.2.2.1 y.2.2.2.1)) (J := (fun e => (law17_SealedWrites_K7 N .normal) (law17_SealedWrites_S1.st [2, 3, 14, 15, 16, 64, 65, 66] e))) hb (by kernel_rfl) (Blk.into (X := (law17_SealedWrites_K7 N .normal)) (NxOk.end (by kernel_rfl)) (fun x => by kernel_rfl)) (law17_SealedWrites_s11_b N hb) (fun x => by kernel_rfl)
theorem law17_SealedWrites_9_b {E : Env} (N : Nat) (hb : Base Tryd.prog (law17_SealedWrites_C N) E 0) : Blk Tryd.prog (law17_SealedWrites_C N) E [2, 3, 14, 15, 16, 18, 64, 65, 66, 96] law17_SealedWrites_S2 (law17_SealedWrites_L7b.drop 4) (fun y => law17_SealedWrites_9 N y.1.1 y.1.2.1 y.1.2.2.1 y.1.2.2.2.1 y.1.2.2.2.2.1 y.1.2.2.2.2.2.1 y.1.2.2.2.2.2.2.1 y.1.2.2.2.2.2.2.2.1 y.2.1 y.2.2.1) (law17_SealedWrites_K7 N) :=
  Blk.chunkAt hb 2 (X := (goK 0 [2, 3, 14, 15, 16, 18, 64, 65, 66, 101, 102, 103] law17_SealedWrites_S0 (fun y => law17_SealedWrites_10 N y.1.1 y.1.2.1 y.1.2.2.1 y.1.2.2.2.1 y.1.2.2.2.2.1 y.1.2.2.2.2.2.1 y.1.2.2.2.2.2.2.1 y.1.2.2.2.2.2.2.2.1 y.1.2.2.2.2.2.2.2.2.1 y.2.1 y.2.2.1 y.2.2.2.1))) (NxOk.go hb (law17_SealedWrites_10_b N hb)) rfl (fun x => by kernel_rfl)
theorem law17_SealedWrites_8_b {E : Env} (N : Nat) (hb : Base Tryd.prog (law17_SealedWrites_C N) E 0) : Blk Tryd.prog (law17_SealedWrites_C N) E [2, 3, 14, 15, 16, 64, 65, 66] law17_SealedWrites_S1 (law17_SealedWrites_L7b.drop 0) (fun y => law17_SealedWrites_8 N y.1.1 y.1.2.1 y.1.2.2.1 y.1.2.2.2.1 y.1.2.2.2.2.1 y.1.2.2.2.2.2.1 y.2.1 y.2.2.1) (law17_SealedWrites_K7 N) :=
  Blk.chunkAt hb 4 (X := (goK 0 [2, 3, 14, 15, 16, 18, 64, 65, 66, 96] law17_SealedWrites_S2 (fun y => law17_SealedWrites_9 N y.1.1 y.1.2.1 y.1.2.2.1 y.1.2.2.2.1 y.1.2.2.2.2.1 y.1.2.2.2.2.2.1 y.1.2.2.2.2.2.2.1 y.1.2.2.2.2.2.2.2.1 y.2.1 y.2.2.1))) (NxOk.go hb (law17_SealedWrites_9_b N hb)) rfl (fun x => by kernel_rfl)
theorem law17_SealedWrites_6_b {E : Env} (N : Nat) (hb : Base Tryd.prog (law17_SealedWrites_C N) E 0) : Blk Tryd.prog (law17_SealedWrites_C N) E [2, 3, 14, 15, 16, 64, 65, 66] law17_SealedWrites_S1 (law17_SealedWrites_L5.drop 2) (fun y => law17_SealedWrites_6 N y.1.1 y.1.2.1 y.1.2.2.1 y.1.2.2.2.1 y.1.2.2.2.2.1 y.1.2.2.2.2.2.1 y.2.1 y.2.2.1) (law17_SealedWrites_K5 N) :=
  Blk.blockAt (bid := 1) (X := (goK 0 [2, 3, 14, 15, 16, 64, 65, 66] law17_SealedWrites_S1 (fun y => law17_SealedWrites_12 N y.1.1 y.1.2.1 y.1.2.2.1 y.1.2.2.2.1 y.1.2.2.2.2.1 y.1.2.2.2.2.2.1 y.2.1 y.2.2.1))) (Y := (goK 0 [2, 3, 14, 15, 16, 64, 65, 66] law17_SealedWrites_S1 (fun y => law17_SealedWrites_8 N y.1.1 y.1.2.1 y.1.2.2.1 y.1.2.2.2.1 y.1.2.2.2.2.1 y.1.2.2.2.2.2.1 y.2.1 y.2.2.1))) (by kernel_rfl) (NxOk.go hb (law17_SealedWrites_12_b N hb)) (NxOk.go hb (law17_SealedWrites_8_b N hb)) (fun x => by kernel_rfl)
theorem law17_SealedWrites_s5_b {E : Env} (N : Nat) (hb : Base Tryd.prog (law17_SealedWrites_C N) E 0) : Blk Tryd.prog (law17_SealedWrites_C N) E [2, 3, 14, 15, 16, 64, 65, 66] law17_SealedWrites_S1 (law17_SealedWrites_L5.drop 0) (fun y => law17_SealedWrites_s5 N y.1.1 y.1.2.1 y.1.2.2.1 y.1.2.2.2.1 y.1.2.2.2.2.1 y.1.2.2.2.2.2.1 y.2.1 y.2.2.1) (law17_SealedWrites_K5 N) :=
  Blk.chunkAt hb 2 (X := (goK 0 [2, 3, 14, 15, 16, 64, 65, 66] law17_SealedWrites_S1 (fun y => law17_SealedWrites_6 N y.1.1 y.1.2.1 y.1.2.2.1 y.1.2.2.2.1 y.1.2.2.2.2.1 y.1.2.2.2.2.2.1 y.2.1 y.2.2.1))) (NxOk.go hb (law17_SealedWrites_6_b N hb)) rfl (fun x => by kernel_rfl)
theorem law17_SealedWrites_13_b {E : Env} (N : Nat) (hb : Base Tryd.prog (law17_SealedWrites_C N) E 0) : Blk Tryd.prog (law17_SealedWrites_C N) E [] law17_SealedWrites_S3 (law17_SealedWrites_L.drop 15) (fun y => law17_SealedWrites_13 N) (law17_SealedWrites_K N) :=
  Blk.chunkAt hb 2 (X := (law17_SealedWrites_K N .normal)) (NxOk.end (by kernel_rfl)) rfl (fun x => by kernel_rfl)
theorem law17_SealedWrites_4_b {E : Env} (N : Nat) (hb : Base Tryd.prog (law17_SealedWrites_C N) E 0) : Blk Tryd.prog (law17_SealedWrites_C N) E [2, 3, 14, 15, 16, 64, 65, 66] law17_SealedWrites_S4 (law17_SealedWrites_L.drop 14) (fun y => law17_SealedWrites_4 N y.1.1 y.1.2.1 y.1.2.2.1 y.1.2.2.2.1 y.1.2.2.2.2.1 y.2.1 y.2.2.1 y.2.2.2.1) (law17_SealedWrites_K N) :=
  Blk.loopAt (Nf := N) (hns := [2, 3, 14, 15, 16, 64, 65, 66]) (ans := []) (hc := law17_SealedWrites_S1) (ac := law17_SealedWrites_S3) (bid := 0) (step := (fun y => law17_SealedWrites_s5 N y.1.1 y.1.2.1 y.1.2.2.1 y.1.2.2.2.1 y.1.2.2.2.2.1 y.1.2.2.2.2.2.1 y.2.1 y.2.2.1)) (J := (fun e => (goK 0 [] law17_SealedWrites_S3 (fun y => law17_SealedWrites_13 N)) (law17_SealedWrites_S3.st [] e))) hb (by kernel_rfl) (Blk.into (X := (goK 0 [] law17_SealedWrites_S3 (fun y => law17_SealedWrites_13 N))) (NxOk.go hb (law17_SealedWrites_13_b N hb)) (fun x => by kernel_rfl)) (law17_SealedWrites_s5_b N hb) (fun x => by kernel_rfl)
theorem law17_SealedWrites_3_b {E : Env} (N : Nat) (hb : Base Tryd.prog (law17_SealedWrites_C N) E 0) : Blk Tryd.prog (law17_SealedWrites_C N) E [1, 2, 3, 14, 15, 16] law17_SealedWrites_S5 (law17_SealedWrites_L.drop 13) (fun y => law17_SealedWrites_3 N y.1.1 y.1.2.1 y.1.2.2.1 y.1.2.2.2.1 y.2.1 y.2.2.1) (law17_SealedWrites_K N) :=
  Blk.chunkAt hb 1 (X := (goK 0 [2, 3, 14, 15, 16, 64, 65, 66] law17_SealedWrites_S4 (fun y => law17_SealedWrites_4 N y.1.1 y.1.2.1 y.1.2.2.1 y.1.2.2.2.1 y.1.2.2.2.2.1 y.2.1 y.2.2.1 y.2.2.2.1))) (NxOk.go hb (law17_SealedWrites_4_b N hb)) rfl (fun x => by kernel_rfl)
theorem law17_SealedWrites_2_b {E : Env} (N : Nat) (hb : Base Tryd.prog (law17_SealedWrites_C N) E 0) : Blk Tryd.prog (law17_SealedWrites_C N) E [1, 2, 3, 4, 14, 15, 16] law17_SealedWrites_S6 (law17_SealedWrites_L.drop 11) (fun y => law17_SealedWrites_2 N y.1.1 y.1.2.1 y.1.2.2.1 y.1.2.2.2.1 y.1.2.2.2.2.1 y.2.1 y.2.2.1) (law17_SealedWrites_K N) :=
  Blk.chunkAt hb 2 (X := (goK 0 [1, 2, 3, 14, 15, 16] law17_SealedWrites_S5 (fun y => law17_SealedWrites_3 N y.1.1 y.1.2.1 y.1.2.2.1 y.1.2.2.2.1 y.2.1 y.2.2.1))) (NxOk.go hb (law17_SealedWrites_3_b N hb)) rfl (fun x => by kernel_rfl)
theorem law17_SealedWrites_1_b {E : Env} (N : Nat) (hb : Base Tryd.prog (law17_SealedWrites_C N) E 0) : Blk Tryd.prog (law17_SealedWrites_C N) E [1, 2, 3, 4, 11, 13, 14, 15] law17_SealedWrites_S7 (law17_SealedWrites_L.drop 8) (fun y => law17_SealedWrites_1 N y.1.1 y.1.2.1 y.1.2.2.1 y.1.2.2.2.1 y.2.1 y.2.2.1 y.2.2.2.1 y.2.2.2.2.1) (law17_SealedWrites_K N) :=
  Blk.chunkAt hb 3 (X := (goK 0 [1, 2, 3, 4, 14, 15, 16] law17_SealedWrites_S6 (fun y => law17_SealedWrites_2 N y.1.1 y.1.2.1 y.1.2.2.1 y.1.2.2.2.1 y.1.2.2.2.2.1 y.2.1 y.2.2.1))) (NxOk.go hb (law17_SealedWrites_2_b N hb)) rfl (fun x => by kernel_rfl)
theorem law17_SealedWrites_b {E : Env} (N : Nat) (hb : Base Tryd.prog (law17_SealedWrites_C N) E 0) : Blk Tryd.prog (law17_SealedWrites_C N) E (List.range law17_SealedWrites_S8.ks.length) law17_SealedWrites_S8 (law17_SealedWrites_L.drop 0) (fun y => law17_SealedWrites N y.1.1 y.1.2.1 y.1.2.2.1 y.1.2.2.2.1 y.1.2.2.2.2.1) (law17_SealedWrites_K N) :=
  Blk.chunkAt hb 8 (X := (goK 0 [1, 2, 3, 4, 11, 13, 14, 15] law17_SealedWrites_S7 (fun y => law17_SealedWrites_1 N y.1.1 y.1.2.1 y.1.2.2.1 y.1.2.2.2.1 y.2.1 y.2.2.1 y.2.2.2.1 y.2.2.2.2.1))) (NxOk.go hb (law17_SealedWrites_1_b N hb)) rfl (fun x => by kernel_rfl)
noncomputable def law17_SealedWrites_ctr (N : Nat) : Ctr := ⟨law17_SealedWrites_S8, law17_SealedWrites_S9.un [false], 0, (fun y => law17_SealedWrites N y.1.1 y.1.2.1 y.1.2.2.1 y.1.2.2.2.1 y.1.2.2.2.2.1)⟩
theorem law17_SealedWrites_ctrs (N : Nat) : CtrsOk Tryd.prog (law17_SealedWrites_C N) := ctrs_of (Γ := law17_SealedWrites_C N) G_ifs_ok (by
  intro p hp
  simp only [law17_SealedWrites_C, List.mem_cons, List.not_mem_nil, or_false] at hp
  rcases hp with rfl | rfl | rfl | rfl | rfl | rfl | rfl | rfl | rfl | rfl | rfl | rfl | rfl
  · exact law17_awake_ok N
  · exact make_New_ok N
  · exact law17_draw_ok N
  · exact make_Codes_Next_ok N
  · exact make_Codes_Int_ok N
  · exact make_Codes_Change_ok N
  · exact make_Mod_ok N
  · exact sealed_Seal_ok N
  · exact ref17_Seal_ok N
  · exact sealed_Split_ok N
  · exact ref17_Split_ok N
  · exact ref17_SameBytes_ok N
  · exact ref01_Equal_ok N)
theorem law17_SealedWrites_ok (N : Nat) : Ctr.ok Tryd.prog G_globs 11 (law17_SealedWrites_ctr N) :=
  ctr_fn (Γ := law17_SealedWrites_C N) (rfit := law17_SealedWrites_S9) (bs := [false]) (res := [10]) (by kernel_rfl) (tys_ok G_tys_ok) (law17_SealedWrites_ctrs N) Tryd.func11 (by kernel_rfl) (by kernel_rfl) Tryd.ntmps11 (by kernel_rfl) (by kernel_rfl) (by kernel_rfl) (by kernel_rfl) (fun E hb => law17_SealedWrites_b N hb)
end Go.Proofs.YtofajgidjkjnpaaDoor