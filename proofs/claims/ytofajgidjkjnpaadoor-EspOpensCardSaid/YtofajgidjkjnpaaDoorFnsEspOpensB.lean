/- Functions of the program as plain functions, each with the proof that the text computes it. -/
import Derived.Test.YtofajgidjkjnpaaDoorFnsEspOpensA
set_option linter.unusedVariables false
set_option linter.unusedSimpArgs false
namespace Go.Proofs.YtofajgidjkjnpaaDoor
open Go
set_option maxRecDepth 100000
set_option linter.unusedVariables false
/-! ipsecgate/ipsecgateref10.Xor -/
abbrev ref10_Xor_R : Type := ((Bool × Unit) × ((List UInt8) × Unit))
noncomputable def ref10_Xor_9 (N : Nat) (key_0 : (List UInt8)) (counter_1 : UInt32) (nonce_2 : (List UInt8)) (b_3 : (List UInt8)) (at_11 : Int) (i_14 : Int) (t_52 : Bool) (out_10 : (List UInt8)) (s_12 : (List UInt8)) : Option (Lo (((List UInt8) × UInt32 × (List UInt8) × (List UInt8) × Int × Int × Unit) × ((List UInt8) × (List UInt8) × Unit)) (((List UInt8) × UInt32 × (List UInt8) × (List UInt8) × Int × Unit) × ((List UInt8) × Unit)) (Lo (((List UInt8) × UInt32 × (List UInt8) × (List UInt8) × Int × Unit) × ((List UInt8) × Unit)) ((Unit) × ((List UInt8) × Unit)) ref10_Xor_R)) :=
  bif t_52 then
    bif inR i_14 out_10.length then
    let x14 := w64 (i_14 - at_11)
    bif inR x14 s_12.length then
    bif inR i_14 out_10.length then
    some (.go ((key_0, counter_1, nonce_2, b_3, at_11, (w64 (i_14 + (1 : Int))), ()), ((out_10.set i_14.toNat ((out_10.getD i_14.toNat (0 : UInt8)) ^^^ (s_12.getD x14.toNat (0 : UInt8)))), s_12, ())))
    else none
    else none
    else none
  else
    some (.br ((key_0, counter_1, nonce_2, b_3, at_11, ()), (out_10, ())))
noncomputable def ref10_Xor_s8 (N : Nat) (key_0 : (List UInt8)) (counter_1 : UInt32) (nonce_2 : (List UInt8)) (b_3 : (List UInt8)) (at_11 : Int) (i_14 : Int) (out_10 : (List UInt8)) (s_12 : (List UInt8)) : Option (Lo (((List UInt8) × UInt32 × (List UInt8) × (List UInt8) × Int × Int × Unit) × ((List UInt8) × (List UInt8) × Unit)) (((List UInt8) × UInt32 × (List UInt8) × (List UInt8) × Int × Unit) × ((List UInt8) × Unit)) (Lo (((List UInt8) × UInt32 × (List UInt8) × (List UInt8) × Int × Unit) × ((List UInt8) × Unit)) ((Unit) × ((List UInt8) × Unit)) ref10_Xor_R)) :=
  bif (decide (i_14 < (b_3.length : Int))) then
    ref10_Xor_9 N key_0 counter_1 nonce_2 b_3 at_11 i_14 (decide (i_14 < (w64 (at_11 + (64 : Int))))) out_10 s_12
  else
    ref10_Xor_9 N key_0 counter_1 nonce_2 b_3 at_11 i_14 false out_10 s_12
noncomputable def ref10_Xor_10 (N : Nat) (key_0 : (List UInt8)) (counter_1 : UInt32) (nonce_2 : (List UInt8)) (b_3 : (List UInt8)) (at_11 : Int) (out_10 : (List UInt8)) : Option (Lo (((List UInt8) × UInt32 × (List UInt8) × (List UInt8) × Int × Unit) × ((List UInt8) × Unit)) ((Unit) × ((List UInt8) × Unit)) ref10_Xor_R) :=
  some (.go ((key_0, counter_1, nonce_2, b_3, (w64 (at_11 + (64 : Int))), ()), (out_10, ())))
noncomputable def ref10_Xor_7 (N : Nat) (key_0 : (List UInt8)) (counter_1 : UInt32) (nonce_2 : (List UInt8)) (b_3 : (List UInt8)) (at_11 : Int) (i_14 : Int) (out_10 : (List UInt8)) (s_12 : (List UInt8)) : Option (Lo (((List UInt8) × UInt32 × (List UInt8) × (List UInt8) × Int × Unit) × ((List UInt8) × Unit)) ((Unit) × ((List UInt8) × Unit)) ref10_Xor_R) :=
  loopK N (fun y => ref10_Xor_s8 N y.1.1 y.1.2.1 y.1.2.2.1 y.1.2.2.2.1 y.1.2.2.2.2.1 y.1.2.2.2.2.2.1 y.2.1 y.2.2.1) (fun (e : (((List UInt8) × UInt32 × (List UInt8) × (List UInt8) × Int × Unit) × ((List UInt8) × Unit))) => ref10_Xor_10 N e.1.1 e.1.2.1 e.1.2.2.1 e.1.2.2.2.1 e.1.2.2.2.2.1 e.2.1) ((key_0, counter_1, nonce_2, b_3, at_11, i_14, ()), (out_10, s_12, ()))
noncomputable def ref10_Xor_6 (N : Nat) (key_0 : (List UInt8)) (counter_1 : UInt32) (nonce_2 : (List UInt8)) (b_3 : (List UInt8)) (at_11 : Int) (out_10 : (List UInt8)) : Option (Lo (((List UInt8) × UInt32 × (List UInt8) × (List UInt8) × Int × Unit) × ((List UInt8) × Unit)) ((Unit) × ((List UInt8) × Unit)) ref10_Xor_R) :=
  Option.bind (ref10_Block N key_0 (counter_1 + (iu32 (w64 (at_11.tdiv (64 : Int))))) nonce_2) fun y8 =>
  ref10_Xor_7 N key_0 counter_1 nonce_2 b_3 at_11 at_11 out_10 y8.2.1
noncomputable def ref10_Xor_4 (N : Nat) (key_0 : (List UInt8)) (counter_1 : UInt32) (nonce_2 : (List UInt8)) (b_3 : (List UInt8)) (at_11 : Int) (out_10 : (List UInt8)) : Option (Lo (((List UInt8) × UInt32 × (List UInt8) × (List UInt8) × Int × Unit) × ((List UInt8) × Unit)) ((Unit) × ((List UInt8) × Unit)) ref10_Xor_R) :=
  ref10_Xor_6 N key_0 counter_1 nonce_2 b_3 at_11 out_10
noncomputable def ref10_Xor_s3 (N : Nat) (key_0 : (List UInt8)) (counter_1 : UInt32) (nonce_2 : (List UInt8)) (b_3 : (List UInt8)) (at_11 : Int) (out_10 : (List UInt8)) : Option (Lo (((List UInt8) × UInt32 × (List UInt8) × (List UInt8) × Int × Unit) × ((List UInt8) × Unit)) ((Unit) × ((List UInt8) × Unit)) ref10_Xor_R) :=
  bif (decide (at_11 < (b_3.length : Int))) then
    ref10_Xor_4 N key_0 counter_1 nonce_2 b_3 at_11 out_10
  else
    some (.br ((()), (out_10, ())))
noncomputable def ref10_Xor_11 (N : Nat) (out_10 : (List UInt8)) : Option ref10_Xor_R :=
  some ((true, ()), (out_10, ()))
noncomputable def ref10_Xor_2 (N : Nat) (key_0 : (List UInt8)) (counter_1 : UInt32) (nonce_2 : (List UInt8)) (b_3 : (List UInt8)) (at_11 : Int) (out_10 : (List UInt8)) : Option ref10_Xor_R :=
  loopK N (fun y => ref10_Xor_s3 N y.1.1 y.1.2.1 y.1.2.2.1 y.1.2.2.2.1 y.1.2.2.2.2.1 y.2.1) (fun (e : ((Unit) × ((List UInt8) × Unit))) => ref10_Xor_11 N e.2.1) ((key_0, counter_1, nonce_2, b_3, at_11, ()), (out_10, ()))
noncomputable def ref10_Xor_1 (N : Nat) (key_0 : (List UInt8)) (counter_1 : UInt32) (nonce_2 : (List UInt8)) (b_3 : (List UInt8)) (t_22 : Bool) : Option ref10_Xor_R :=
  bif t_22 then
    some ((false, ()), (([] : List UInt8), ()))
  else
    bif room (0 + b_3.length) 1 then
    ref10_Xor_2 N key_0 counter_1 nonce_2 b_3 (0 : Int) b_3
    else none
noncomputable def ref10_Xor (N : Nat) (key_0 : (List UInt8)) (counter_1 : UInt32) (nonce_2 : (List UInt8)) (b_3 : (List UInt8)) : Option ref10_Xor_R :=
  bif (!(decide ((key_0.length : Int) = (32 : Int)))) then
    ref10_Xor_1 N key_0 counter_1 nonce_2 b_3 true
  else
    ref10_Xor_1 N key_0 counter_1 nonce_2 b_3 (!(decide ((nonce_2.length : Int) = (12 : Int))))
noncomputable def ref10_Xor_C (N : Nat) : Ctx := ⟨68, G_tys, [(194, ref10_Block_ctr N)], G_globs⟩
noncomputable def ref10_Xor_S0 : Spec := ⟨[.val (.sl .u8), .val .u32, .val (.sl .u8), .val (.sl .u8), .row 0, .val .i64, .row 1, .val .i64, .val .bool], [(.row 5 .u8, .pos 4), (.row 5 .u8, .pos 6)]⟩
noncomputable def ref10_Xor_S1 : Spec := ⟨[.val (.sl .u8), .val .u32, .val (.sl .u8), .val (.sl .u8), .row 0, .val .i64, .row 1, .val .i64], [(.row 5 .u8, .pos 4), (.row 5 .u8, .pos 6)]⟩
noncomputable def ref10_Xor_S2 : Spec := ⟨[.val (.sl .u8), .val .u32, .val (.sl .u8), .val (.sl .u8), .row 0, .val .i64], [(.row 5 .u8, .pos 4)]⟩
noncomputable def ref10_Xor_S3 : Spec := ⟨[.row 0], [(.row 5 .u8, .pos 0)]⟩
noncomputable def ref10_Xor_S4 : Spec := ⟨[.val (.sl .u8), .val .u32, .val (.sl .u8), .val (.sl .u8), .val .bool], []⟩
noncomputable def ref10_Xor_S5 : Spec := ⟨[.val (.sl .u8), .val .u32, .val (.sl .u8), .val (.sl .u8)], []⟩
noncomputable def ref10_Xor_S6 : Spec := ⟨[.row 0, .val .bool], [(.row 5 .u8, .pos 0)]⟩
noncomputable def ref10_Xor_K (_N : Nat) : XE → GS → Option ref10_Xor_R := retK 0 [8, 9] [false, false] ref10_Xor_S6
noncomputable def ref10_Xor_L : List Code := (bodyOf (some Tryd.f159))
noncomputable def ref10_Xor_L3 : List Code := (loopOf (ref10_Xor_L[5]?))
noncomputable def ref10_Xor_L5b : List Code := (blockOf (ref10_Xor_L3[2]?))
noncomputable def ref10_Xor_L8 : List Code := (loopOf (ref10_Xor_L5b[2]?))
noncomputable def ref10_Xor_K3 (N : Nat) : XE → GS → Option (Lo (((List UInt8) × UInt32 × (List UInt8) × (List UInt8) × Int × Unit) × ((List UInt8) × Unit)) ((Unit) × ((List UInt8) × Unit)) ref10_Xor_R) := roundK (some 0) (fit 0 [0, 1, 2, 3, 10, 11] ref10_Xor_S2) (fit 0 [10] ref10_Xor_S3) (ref10_Xor_K N)
noncomputable def ref10_Xor_K5 (N : Nat) : XE → GS → Option (Lo (((List UInt8) × UInt32 × (List UInt8) × (List UInt8) × Int × Unit) × ((List UInt8) × Unit)) ((Unit) × ((List UInt8) × Unit)) ref10_Xor_R) := blockK 1 (goK 0 [0, 1, 2, 3, 10, 11] ref10_Xor_S2 (fun y => ref10_Xor_10 N y.1.1 y.1.2.1 y.1.2.2.1 y.1.2.2.2.1 y.1.2.2.2.2.1 y.2.1)) (ref10_Xor_K3 N)
noncomputable def ref10_Xor_K8 (N : Nat) : XE → GS → Option (Lo (((List UInt8) × UInt32 × (List UInt8) × (List UInt8) × Int × Int × Unit) × ((List UInt8) × (List UInt8) × Unit)) (((List UInt8) × UInt32 × (List UInt8) × (List UInt8) × Int × Unit) × ((List UInt8) × Unit)) (Lo (((List UInt8) × UInt32 × (List UInt8) × (List UInt8) × Int × Unit) × ((List UInt8) × Unit)) ((Unit) × ((List UInt8) × Unit)) ref10_Xor_R)) := roundK (some 2) (fit 0 [0, 1, 2, 3, 10, 11, 12, 14] ref10_Xor_S1) (fit 0 [0, 1, 2, 3, 10, 11] ref10_Xor_S2) (ref10_Xor_K5 N)
theorem ref10_Xor_9_b {E : Env} (N : Nat) (hb : Base Tryd.prog (ref10_Xor_C N) E 0) : Blk Tryd.prog (ref10_Xor_C N) E [0, 1, 2, 3, 10, 11, 12, 14, 52] ref10_Xor_S0 (ref10_Xor_L8.drop 1) (fun y => ref10_Xor_9 N y.1.1 y.1.2.1 y.1.2.2.1 y.1.2.2.2.1 y.1.2.2.2.2.1 y.1.2.2.2.2.2.1 y.1.2.2.2.2.2.2.1 y.2.1 y.2.2.1) (ref10_Xor_K8 N) :=
  Blk.chunkAt hb 3 (X := (ref10_Xor_K8 N .normal)) (NxOk.end (by kernel_rfl)) rfl (fun x => by kernel_rfl)
theorem ref10_Xor_s8_b {E : Env} (N : Nat) (hb : Base Tryd.prog (ref10_Xor_C N) E 0) : Blk Tryd.prog (ref10_Xor_C N) E [0, 1, 2, 3, 10, 11, 12, 14] ref10_Xor_S1 (ref10_Xor_L8.drop 0) (fun y => ref10_Xor_s8 N y.1.1 y.1.2.1 y.1.2.2.1 y.1.2.2.2.1 y.1.2.2.2.2.1 y.1.2.2.2.2.2.1 y.2.1 y.2.2.1) (ref10_Xor_K8 N) :=
  Blk.chunkAt hb 1 (X := (goK 0 [0, 1, 2, 3, 10, 11, 12, 14, 52] ref10_Xor_S0 (fun y => ref10_Xor_9 N y.1.1 y.1.2.1 y.1.2.2.1 y.1.2.2.2.1 y.1.2.2.2.2.1 y.1.2.2.2.2.2.1 y.1.2.2.2.2.2.2.1 y.2.1 y.2.2.1))) (NxOk.go hb (ref10_Xor_9_b N hb)) rfl (fun x => by kernel_rfl)
theorem ref10_Xor_10_b {E : Env} (N : Nat) (hb : Base Tryd.prog (ref10_Xor_C N) E 0) : Blk Tryd.prog (ref10_Xor_C N) E [0, 1, 2, 3, 10, 11] ref10_Xor_S2 (ref10_Xor_L3.drop 3) (fun y => ref10_Xor_10 N y.1.1 y.1.2.1 y.1.2.2.1 y.1.2.2.2.1 y.1.2.2.2.2.1 y.2.1) (ref10_Xor_K3 N) :=
  Blk.chunkAt hb 1 (X := (ref10_Xor_K3 N .normal)) (NxOk.end (by kernel_rfl)) rfl (fun x => by kernel_rfl)
theorem ref10_Xor_7_b {E : Env} (N : Nat) (hb : Base Tryd.prog (ref10_Xor_C N) E 0) : Blk Tryd.prog (ref10_Xor_C N) E [0, 1, 2, 3, 10, 11, 12, 14] ref10_Xor_S1 (ref10_Xor_L5b.drop 2) (fun y => ref10_Xor_7 N y.1.1 y.1.2.1 y.1.2.2.1 y.1.2.2.2.1 y.1.2.2.2.2.1 y.1.2.2.2.2.2.1 y.2.1 y.2.2.1) (ref10_Xor_K5 N) :=
  Blk.loopAt (Nf := N) (hns := [0, 1, 2, 3, 10, 11, 12, 14]) (ans := [0, 1, 2, 3, 10, 11]) (hc := ref10_Xor_S1) (ac := ref10_Xor_S2) (bid := 2) (step := (fun y => ref10_Xor_s8 N y.1.1 y.1.2.1 y.1.2.2.1 y.1.2.2.2.1 y.1.2.2.2.2.1 y.1.2.2.2.2.2.1 y.2.1 y.2.2.1)) (J := (fun e => (ref10_Xor_K5 N .normal) (ref10_Xor_S2.st [0, 1, 2, 3, 10, 11] e))) hb (by kernel_rfl) (Blk.into (X := (ref10_Xor_K5 N .normal)) (NxOk.end (by kernel_rfl)) (fun x => by kernel_rfl)) (ref10_Xor_s8_b N hb) (fun x => by kernel_rfl)
theorem ref10_Xor_6_b {E : Env} (N : Nat) (hb : Base Tryd.prog (ref10_Xor_C N) E 0) : Blk Tryd.prog (ref10_Xor_C N) E [0, 1, 2, 3, 10, 11] ref10_Xor_S2 (ref10_Xor_L5b.drop 0) (fun y => ref10_Xor_6 N y.1.1 y.1.2.1 y.1.2.2.1 y.1.2.2.2.1 y.1.2.2.2.2.1 y.2.1) (ref10_Xor_K5 N) :=
  Blk.chunkAt hb 2 (X := (goK 0 [0, 1, 2, 3, 10, 11, 12, 14] ref10_Xor_S1 (fun y => ref10_Xor_7 N y.1.1 y.1.2.1 y.1.2.2.1 y.1.2.2.2.1 y.1.2.2.2.2.1 y.1.2.2.2.2.2.1 y.2.1 y.2.2.1))) (NxOk.go hb (ref10_Xor_7_b N hb)) rfl (fun x => by kernel_rfl)
theorem ref10_Xor_4_b {E : Env} (N : Nat) (hb : Base Tryd.prog (ref10_Xor_C N) E 0) : Blk Tryd.prog (ref10_Xor_C N) E [0, 1, 2, 3, 10, 11] ref10_Xor_S2 (ref10_Xor_L3.drop 2) (fun y => ref10_Xor_4 N y.1.1 y.1.2.1 y.1.2.2.1 y.1.2.2.2.1 y.1.2.2.2.2.1 y.2.1) (ref10_Xor_K3 N) :=
  Blk.blockAt (bid := 1) (X := (goK 0 [0, 1, 2, 3, 10, 11] ref10_Xor_S2 (fun y => ref10_Xor_10 N y.1.1 y.1.2.1 y.1.2.2.1 y.1.2.2.2.1 y.1.2.2.2.2.1 y.2.1))) (Y := (goK 0 [0, 1, 2, 3, 10, 11] ref10_Xor_S2 (fun y => ref10_Xor_6 N y.1.1 y.1.2.1 y.1.2.2.1 y.1.2.2.2.1 y.1.2.2.2.2.1 y.2.1))) (by kernel_rfl) (NxOk.go hb (ref10_Xor_10_b N hb)) (NxOk.go hb (ref10_Xor_6_b N hb)) (fun x => by kernel_rfl)
theorem ref10_Xor_s3_b {E : Env} (N : Nat) (hb : Base Tryd.prog (ref10_Xor_C N) E 0) : Blk Tryd.prog (ref10_Xor_C N) E [0, 1, 2, 3, 10, 11] ref10_Xor_S2 (ref10_Xor_L3.drop 0) (fun y => ref10_Xor_s3 N y.1.1 y.1.2.1 y.1.2.2.1 y.1.2.2.2.1 y.1.2.2.2.2.1 y.2.1) (ref10_Xor_K3 N) :=
  Blk.chunkAt hb 2 (X := (goK 0 [0, 1, 2, 3, 10, 11] ref10_Xor_S2 (fun y => ref10_Xor_4 N y.1.1 y.1.2.1 y.1.2.2.1 y.1.2.2.2.1 y.1.2.2.2.2.1 y.2.1))) (NxOk.go hb (ref10_Xor_4_b N hb)) rfl (fun x => by kernel_rfl)
theorem ref10_Xor_11_b {E : Env} (N : Nat) (hb : Base Tryd.prog (ref10_Xor_C N) E 0) : Blk Tryd.prog (ref10_Xor_C N) E [10] ref10_Xor_S3 (ref10_Xor_L.drop 6) (fun y => ref10_Xor_11 N y.2.1) (ref10_Xor_K N) :=
  Blk.chunkAt hb 2 (X := (ref10_Xor_K N .normal)) (NxOk.end (by kernel_rfl)) rfl (fun x => by kernel_rfl)
theorem ref10_Xor_2_b {E : Env} (N : Nat) (hb : Base Tryd.prog (ref10_Xor_C N) E 0) : Blk Tryd.prog (ref10_Xor_C N) E [0, 1, 2, 3, 10, 11] ref10_Xor_S2 (ref10_Xor_L.drop 5) (fun y => ref10_Xor_2 N y.1.1 y.1.2.1 y.1.2.2.1 y.1.2.2.2.1 y.1.2.2.2.2.1 y.2.1) (ref10_Xor_K N) :=
  Blk.loopAt (Nf := N) (hns := [0, 1, 2, 3, 10, 11]) (ans := [10]) (hc := ref10_Xor_S2) (ac := ref10_Xor_S3) (bid := 0) (step := (fun y => ref10_Xor_s3 N y.1.1 y.1.2.1 y.1.2.2.1 y.1.2.2.2.1 y.1.2.2.2.2.1 y.2.1)) (J := (fun e => (goK 0 [10] ref10_Xor_S3 (fun y => ref10_Xor_11 N y.2.1)) (ref10_Xor_S3.st [10] e))) hb (by kernel_rfl) (Blk.into (X := (goK 0 [10] ref10_Xor_S3 (fun y => ref10_Xor_11 N y.2.1))) (NxOk.go hb (ref10_Xor_11_b N hb)) (fun x => by kernel_rfl)) (ref10_Xor_s3_b N hb) (fun x => by kernel_rfl)
theorem ref10_Xor_1_b {E : Env} (N : Nat) (hb : Base Tryd.prog (ref10_Xor_C N) E 0) : Blk Tryd.prog (ref10_Xor_C N) E [0, 1, 2, 3, 22] ref10_Xor_S4 (ref10_Xor_L.drop 2) (fun y => ref10_Xor_1 N y.1.1 y.1.2.1 y.1.2.2.1 y.1.2.2.2.1 y.1.2.2.2.2.1) (ref10_Xor_K N) :=
  Blk.chunkAt hb 3 (X := (goK 0 [0, 1, 2, 3, 10, 11] ref10_Xor_S2 (fun y => ref10_Xor_2 N y.1.1 y.1.2.1 y.1.2.2.1 y.1.2.2.2.1 y.1.2.2.2.2.1 y.2.1))) (NxOk.go hb (ref10_Xor_2_b N hb)) rfl (fun x => by kernel_rfl)
theorem ref10_Xor_b {E : Env} (N : Nat) (hb : Base Tryd.prog (ref10_Xor_C N) E 0) : Blk Tryd.prog (ref10_Xor_C N) E (List.range ref10_Xor_S5.ks.length) ref10_Xor_S5 (ref10_Xor_L.drop 0) (fun y => ref10_Xor N y.1.1 y.1.2.1 y.1.2.2.1 y.1.2.2.2.1) (ref10_Xor_K N) :=
  Blk.chunkAt hb 2 (X := (goK 0 [0, 1, 2, 3, 22] ref10_Xor_S4 (fun y => ref10_Xor_1 N y.1.1 y.1.2.1 y.1.2.2.1 y.1.2.2.2.1 y.1.2.2.2.2.1))) (NxOk.go hb (ref10_Xor_1_b N hb)) rfl (fun x => by kernel_rfl)
noncomputable def ref10_Xor_ctr (N : Nat) : Ctr := ⟨ref10_Xor_S5, ref10_Xor_S6.un [false, false], 0, (fun y => ref10_Xor N y.1.1 y.1.2.1 y.1.2.2.1 y.1.2.2.2.1)⟩
theorem ref10_Xor_ctrs (N : Nat) : CtrsOk Tryd.prog (ref10_Xor_C N) := ctrs_of (Γ := ref10_Xor_C N) (by
  intro p hp
  simp only [ref10_Xor_C, List.mem_cons, List.not_mem_nil, or_false] at hp
  rcases hp with rfl
  · exact ref10_Block_ok N)
theorem ref10_Xor_ok (N : Nat) : Ctr.ok Tryd.prog G_globs 159 (ref10_Xor_ctr N) :=
  ctr_fn (Γ := ref10_Xor_C N) (rfit := ref10_Xor_S6) (bs := [false, false]) (res := [8, 9]) (by kernel_rfl) (tys_ok G_tys_ok) (ref10_Xor_ctrs N) Tryd.func159 (by kernel_rfl) (by kernel_rfl) Tryd.ntmps159 (by kernel_rfl) (by kernel_rfl) (by kernel_rfl) (by kernel_rfl) (fun E hb => ref10_Xor_b N hb)
end Go.Proofs.YtofajgidjkjnpaaDoor
namespace Go.Proofs.YtofajgidjkjnpaaDoor
open Go
set_option maxRecDepth 100000
set_option linter.unusedVariables false
/-! ipsecgate/ipsecgateref12.pad -/
abbrev ref12_pad_R : Type := ((Unit) × ((List UInt8) × Unit))
noncomputable def ref12_pad_s2 (N : Nat) (out_3 : (List UInt8)) : Option (Lo ((Unit) × ((List UInt8) × Unit)) ((Unit) × ((List UInt8) × Unit)) ref12_pad_R) :=
  bif (!(decide (((out_3.length : Int).tmod (16 : Int)) = (0 : Int)))) then
    bif room (out_3.length + ([(0 : UInt8)] : List UInt8).length) 1 then
    some (.go ((()), ((out_3 ++ ([(0 : UInt8)] : List UInt8)), ())))
    else none
  else
    some (.br ((()), (out_3, ())))
noncomputable def ref12_pad_3 (N : Nat) (out_3 : (List UInt8)) : Option ref12_pad_R :=
  some ((()), (out_3, ()))
noncomputable def ref12_pad_1 (N : Nat) (out_3 : (List UInt8)) : Option ref12_pad_R :=
  loopK N (fun y => ref12_pad_s2 N y.2.1) (fun (e : ((Unit) × ((List UInt8) × Unit))) => ref12_pad_3 N e.2.1) ((()), (out_3, ()))
noncomputable def ref12_pad (N : Nat) (b_0 : (List UInt8)) : Option ref12_pad_R :=
  bif room (0 + b_0.length) 1 then
  ref12_pad_1 N b_0
  else none
noncomputable def ref12_pad_C (N : Nat) : Ctx := ⟨14, G_tys, [], G_globs⟩
noncomputable def ref12_pad_S0 : Spec := ⟨[.row 0], [(.row 5 .u8, .pos 0)]⟩
noncomputable def ref12_pad_S1 : Spec := ⟨[.val (.sl .u8)], []⟩
noncomputable def ref12_pad_K (_N : Nat) : XE → GS → Option ref12_pad_R := retK 0 [2] [false] ref12_pad_S0
noncomputable def ref12_pad_L : List Code := (bodyOf (some Tryd.f195))
noncomputable def ref12_pad_L2 : List Code := (loopOf (ref12_pad_L[2]?))
noncomputable def ref12_pad_K2 (N : Nat) : XE → GS → Option (Lo ((Unit) × ((List UInt8) × Unit)) ((Unit) × ((List UInt8) × Unit)) ref12_pad_R) := roundK (some 0) (fit 0 [3] ref12_pad_S0) (fit 0 [3] ref12_pad_S0) (ref12_pad_K N)
theorem ref12_pad_s2_b {E : Env} (N : Nat) (hb : Base Tryd.prog (ref12_pad_C N) E 0) : Blk Tryd.prog (ref12_pad_C N) E [3] ref12_pad_S0 (ref12_pad_L2.drop 0) (fun y => ref12_pad_s2 N y.2.1) (ref12_pad_K2 N) :=
  Blk.chunkAt hb 3 (X := (ref12_pad_K2 N .normal)) (NxOk.end (by kernel_rfl)) rfl (fun x => by kernel_rfl)
theorem ref12_pad_3_b {E : Env} (N : Nat) (hb : Base Tryd.prog (ref12_pad_C N) E 0) : Blk Tryd.prog (ref12_pad_C N) E [3] ref12_pad_S0 (ref12_pad_L.drop 3) (fun y => ref12_pad_3 N y.2.1) (ref12_pad_K N) :=
  Blk.chunkAt hb 2 (X := (ref12_pad_K N .normal)) (NxOk.end (by kernel_rfl)) rfl (fun x => by kernel_rfl)
theorem ref12_pad_1_b {E : Env} (N : Nat) (hb : Base Tryd.prog (ref12_pad_C N) E 0) : Blk Tryd.prog (ref12_pad_C N) E [3] ref12_pad_S0 (ref12_pad_L.drop 2) (fun y => ref12_pad_1 N y.2.1) (ref12_pad_K N) :=
  Blk.loopAt (Nf := N) (hns := [3]) (ans := [3]) (hc := ref12_pad_S0) (ac := ref12_pad_S0) (bid := 0) (step := (fun y => ref12_pad_s2 N y.2.1)) (J := (fun e => (goK 0 [3] ref12_pad_S0 (fun y => ref12_pad_3 N y.2.1)) (ref12_pad_S0.st [3] e))) hb (by kernel_rfl) (Blk.into (X := (goK 0 [3] ref12_pad_S0 (fun y => ref12_pad_3 N y.2.1))) (NxOk.go hb (ref12_pad_3_b N hb)) (fun x => by kernel_rfl)) (ref12_pad_s2_b N hb) (fun x => by kernel_rfl)
theorem ref12_pad_b {E : Env} (N : Nat) (hb : Base Tryd.prog (ref12_pad_C N) E 0) : Blk Tryd.prog (ref12_pad_C N) E (List.range ref12_pad_S1.ks.length) ref12_pad_S1 (ref12_pad_L.drop 0) (fun y => ref12_pad N y.1.1) (ref12_pad_K N) :=
  Blk.chunkAt hb 2 (X := (goK 0 [3] ref12_pad_S0 (fun y => ref12_pad_1 N y.2.1))) (NxOk.go hb (ref12_pad_1_b N hb)) rfl (fun x => by kernel_rfl)
noncomputable def ref12_pad_ctr (N : Nat) : Ctr := ⟨ref12_pad_S1, ref12_pad_S0.un [false], 0, (fun y => ref12_pad N y.1.1)⟩
theorem ref12_pad_ctrs (N : Nat) : CtrsOk Tryd.prog (ref12_pad_C N) := ctrs_nil rfl
theorem ref12_pad_ok (N : Nat) : Ctr.ok Tryd.prog G_globs 195 (ref12_pad_ctr N) :=
  ctr_fn (Γ := ref12_pad_C N) (rfit := ref12_pad_S0) (bs := [false]) (res := [2]) (by kernel_rfl) (tys_ok G_tys_ok) (ref12_pad_ctrs N) Tryd.func195 (by kernel_rfl) (by kernel_rfl) Tryd.ntmps195 (by kernel_rfl) (by kernel_rfl) (by kernel_rfl) (by kernel_rfl) (fun E hb => ref12_pad_b N hb)
end Go.Proofs.YtofajgidjkjnpaaDoor
namespace Go.Proofs.YtofajgidjkjnpaaDoor
open Go
set_option maxRecDepth 100000
set_option linter.unusedVariables false
/-! ipsecgate/ipsecgateref12.little -/
abbrev ref12_little_R : Type := ((Unit) × ((List UInt8) × Unit))
noncomputable def ref12_little_s2 (N : Nat) (v_1 : UInt64) (i_5 : Int) (b_0 : (List UInt8)) : Option (Lo ((UInt64 × Int × Unit) × ((List UInt8) × Unit)) ((Unit) × ((List UInt8) × Unit)) ref12_little_R) :=
  bif (decide (i_5 < (8 : Int))) then
    let x4 := shr64 v_1 (iu64 (w64 ((8 : Int) * i_5))).toNat
    bif room (b_0.length + ([x4.toUInt8] : List UInt8).length) 1 then
    some (.go ((v_1, (w64 (i_5 + (1 : Int))), ()), ((b_0 ++ ([x4.toUInt8] : List UInt8)), ())))
    else none
  else
    some (.br ((()), (b_0, ())))
noncomputable def ref12_little_3 (N : Nat) (b_0 : (List UInt8)) : Option ref12_little_R :=
  some ((()), (b_0, ()))
noncomputable def ref12_little_1 (N : Nat) (v_1 : UInt64) (i_5 : Int) (b_0 : (List UInt8)) : Option ref12_little_R :=
  loopK N (fun y => ref12_little_s2 N y.1.1 y.1.2.1 y.2.1) (fun (e : ((Unit) × ((List UInt8) × Unit))) => ref12_little_3 N e.2.1) ((v_1, i_5, ()), (b_0, ()))
noncomputable def ref12_little (N : Nat) (v_1 : UInt64) (b_0 : (List UInt8)) : Option ref12_little_R :=
  ref12_little_1 N v_1 (0 : Int) b_0
noncomputable def ref12_little_C (N : Nat) : Ctx := ⟨20, G_tys, [], G_globs⟩
noncomputable def ref12_little_S0 : Spec := ⟨[.row 0, .val .u64, .val .i64], [(.row 5 .u8, .pos 0)]⟩
noncomputable def ref12_little_S1 : Spec := ⟨[.row 0], [(.row 5 .u8, .pos 0)]⟩
noncomputable def ref12_little_S2 : Spec := ⟨[.row 0, .val .u64], [(.row 5 .u8, .pos 0)]⟩
noncomputable def ref12_little_K (_N : Nat) : XE → GS → Option ref12_little_R := retK 0 [4] [false] ref12_little_S1
noncomputable def ref12_little_L : List Code := (bodyOf (some Tryd.f196))
noncomputable def ref12_little_L2 : List Code := (loopOf (ref12_little_L[2]?))
noncomputable def ref12_little_K2 (N : Nat) : XE → GS → Option (Lo ((UInt64 × Int × Unit) × ((List UInt8) × Unit)) ((Unit) × ((List UInt8) × Unit)) ref12_little_R) := roundK (some 0) (fit 0 [0, 1, 5] ref12_little_S0) (fit 0 [0] ref12_little_S1) (ref12_little_K N)
theorem ref12_little_s2_b {E : Env} (N : Nat) (hb : Base Tryd.prog (ref12_little_C N) E 0) : Blk Tryd.prog (ref12_little_C N) E [0, 1, 5] ref12_little_S0 (ref12_little_L2.drop 0) (fun y => ref12_little_s2 N y.1.1 y.1.2.1 y.2.1) (ref12_little_K2 N) :=
  Blk.chunkAt hb 4 (X := (ref12_little_K2 N .normal)) (NxOk.end (by kernel_rfl)) rfl (fun x => by kernel_rfl)
theorem ref12_little_3_b {E : Env} (N : Nat) (hb : Base Tryd.prog (ref12_little_C N) E 0) : Blk Tryd.prog (ref12_little_C N) E [0] ref12_little_S1 (ref12_little_L.drop 3) (fun y => ref12_little_3 N y.2.1) (ref12_little_K N) :=
  Blk.chunkAt hb 2 (X := (ref12_little_K N .normal)) (NxOk.end (by kernel_rfl)) rfl (fun x => by kernel_rfl)
theorem ref12_little_1_b {E : Env} (N : Nat) (hb : Base Tryd.prog (ref12_little_C N) E 0) : Blk Tryd.prog (ref12_little_C N) E [0, 1, 5] ref12_little_S0 (ref12_little_L.drop 2) (fun y => ref12_little_1 N y.1.1 y.1.2.1 y.2.1) (ref12_little_K N) :=
  Blk.loopAt (Nf := N) (hns := [0, 1, 5]) (ans := [0]) (hc := ref12_little_S0) (ac := ref12_little_S1) (bid := 0) (step := (fun y => ref12_little_s2 N y.1.1 y.1.2.1 y.2.1)) (J := (fun e => (goK 0 [0] ref12_little_S1 (fun y => ref12_little_3 N y.2.1)) (ref12_little_S1.st [0] e))) hb (by kernel_rfl) (Blk.into (X := (goK 0 [0] ref12_little_S1 (fun y => ref12_little_3 N y.2.1))) (NxOk.go hb (ref12_little_3_b N hb)) (fun x => by kernel_rfl)) (ref12_little_s2_b N hb) (fun x => by kernel_rfl)
theorem ref12_little_b {E : Env} (N : Nat) (hb : Base Tryd.prog (ref12_little_C N) E 0) : Blk Tryd.prog (ref12_little_C N) E (List.range ref12_little_S2.ks.length) ref12_little_S2 (ref12_little_L.drop 0) (fun y => ref12_little N y.1.1 y.2.1) (ref12_little_K N) :=
  Blk.chunkAt hb 2 (X := (goK 0 [0, 1, 5] ref12_little_S0 (fun y => ref12_little_1 N y.1.1 y.1.2.1 y.2.1))) (NxOk.go hb (ref12_little_1_b N hb)) rfl (fun x => by kernel_rfl)
noncomputable def ref12_little_ctr (N : Nat) : Ctr := ⟨ref12_little_S2, ref12_little_S1.un [false], 0, (fun y => ref12_little N y.1.1 y.2.1)⟩
theorem ref12_little_ctrs (N : Nat) : CtrsOk Tryd.prog (ref12_little_C N) := ctrs_nil rfl
theorem ref12_little_ok (N : Nat) : Ctr.ok Tryd.prog G_globs 196 (ref12_little_ctr N) :=
  ctr_fn (Γ := ref12_little_C N) (rfit := ref12_little_S1) (bs := [false]) (res := [4]) (by kernel_rfl) (tys_ok G_tys_ok) (ref12_little_ctrs N) Tryd.func196 (by kernel_rfl) (by kernel_rfl) Tryd.ntmps196 (by kernel_rfl) (by kernel_rfl) (by kernel_rfl) (by kernel_rfl) (fun E hb => ref12_little_b N hb)
end Go.Proofs.YtofajgidjkjnpaaDoor
namespace Go.Proofs.YtofajgidjkjnpaaDoor
open Go
set_option maxRecDepth 100000
set_option linter.unusedVariables false
/-! ipsecgate/ipsecgateref11.clamp -/
abbrev ref11_clamp_R : Type := (((List UInt32) × Unit) × (Unit))
noncomputable def ref11_clamp_s2 (N : Nat) (key_0 : (List UInt8)) (i_4 : Int) (t_2 : (List UInt32)) (r_3 : (List UInt32)) : Option (Lo (((List UInt8) × Int × Unit) × ((List UInt32) × (List UInt32) × Unit)) ((Unit) × ((List UInt32) × (List UInt32) × Unit)) ref11_clamp_R) :=
  bif (decide (i_4 < (16 : Int))) then
    bif inR i_4 key_0.length then
    bif inR i_4 17 then
    let x3 := (r_3.set i_4.toNat (key_0.getD i_4.toNat (0 : UInt8)).toUInt32)
    bif (decide ((i_4.tmod (4 : Int)) = (3 : Int))) then
      bif inR i_4 17 then
      bif inR i_4 17 then
      let x8 := (x3.set i_4.toNat ((x3.getD i_4.toNat (0 : UInt32)) &&& (15 : UInt32)))
      bif (decide ((i_4.tmod (4 : Int)) = (0 : Int))) then
        bif (decide ((0 : Int) < i_4)) then
          bif inR i_4 17 then
          bif inR i_4 17 then
          some (.go ((key_0, (w64 (i_4 + (1 : Int))), ()), (t_2, (x8.set i_4.toNat ((x8.getD i_4.toNat (0 : UInt32)) &&& (252 : UInt32))), ())))
          else none
          else none
        else
          some (.go ((key_0, (w64 (i_4 + (1 : Int))), ()), (t_2, x8, ())))
      else
        some (.go ((key_0, (w64 (i_4 + (1 : Int))), ()), (t_2, x8, ())))
      else none
      else none
    else
      bif (decide ((i_4.tmod (4 : Int)) = (0 : Int))) then
        bif (decide ((0 : Int) < i_4)) then
          bif inR i_4 17 then
          bif inR i_4 17 then
          some (.go ((key_0, (w64 (i_4 + (1 : Int))), ()), (t_2, (x3.set i_4.toNat ((x3.getD i_4.toNat (0 : UInt32)) &&& (252 : UInt32))), ())))
          else none
          else none
        else
          some (.go ((key_0, (w64 (i_4 + (1 : Int))), ()), (t_2, x3, ())))
      else
        some (.go ((key_0, (w64 (i_4 + (1 : Int))), ()), (t_2, x3, ())))
    else none
    else none
  else
    some (.br ((()), (t_2, r_3, ())))
noncomputable def ref11_clamp_3 (N : Nat) (t_2 : (List UInt32)) (r_3 : (List UInt32)) : Option ref11_clamp_R :=
  some ((r_3, ()), (()))
noncomputable def ref11_clamp_1 (N : Nat) (key_0 : (List UInt8)) (i_4 : Int) (t_2 : (List UInt32)) (r_3 : (List UInt32)) : Option ref11_clamp_R :=
  loopK N (fun y => ref11_clamp_s2 N y.1.1 y.1.2.1 y.2.1 y.2.2.1) (fun (e : ((Unit) × ((List UInt32) × (List UInt32) × Unit))) => ref11_clamp_3 N e.2.1 e.2.2.1) ((key_0, i_4, ()), (t_2, r_3, ()))
noncomputable def ref11_clamp (N : Nat) (key_0 : (List UInt8)) : Option ref11_clamp_R :=
  ref11_clamp_1 N key_0 (0 : Int) (List.replicate 17 (0 : UInt32)) (List.replicate 17 (0 : UInt32))
noncomputable def ref11_clamp_C (N : Nat) : Ctx := ⟨37, G_tys, [], G_globs⟩
noncomputable def ref11_clamp_S0 : Spec := ⟨[.val (.sl .u8), .ref 0 (.arr 17 .u32), .ref 1 (.arr 17 .u32), .val .i64], [(.box 250 (.arr 17 .u32), .pos 1), (.box 250 (.arr 17 .u32), .pos 2)]⟩
noncomputable def ref11_clamp_S1 : Spec := ⟨[.ref 0 (.arr 17 .u32), .ref 1 (.arr 17 .u32)], [(.box 250 (.arr 17 .u32), .pos 0), (.box 250 (.arr 17 .u32), .pos 1)]⟩
noncomputable def ref11_clamp_S2 : Spec := ⟨[.val (.sl .u8)], []⟩
noncomputable def ref11_clamp_S3 : Spec := ⟨[.fp (.arr 17 .u32)], []⟩
noncomputable def ref11_clamp_K (_N : Nat) : XE → GS → Option ref11_clamp_R := retK 0 [2] [true] ref11_clamp_S3
noncomputable def ref11_clamp_L : List Code := (bodyOf (some Tryd.f219))
noncomputable def ref11_clamp_L2 : List Code := (loopOf (ref11_clamp_L[3]?))
noncomputable def ref11_clamp_K2 (N : Nat) : XE → GS → Option (Lo (((List UInt8) × Int × Unit) × ((List UInt32) × (List UInt32) × Unit)) ((Unit) × ((List UInt32) × (List UInt32) × Unit)) ref11_clamp_R) := roundK (some 0) (fit 0 [0, 2, 3, 4] ref11_clamp_S0) (fit 0 [2, 3] ref11_clamp_S1) (ref11_clamp_K N)
theorem ref11_clamp_s2_b {E : Env} (N : Nat) (hb : Base Tryd.prog (ref11_clamp_C N) E 0) : Blk Tryd.prog (ref11_clamp_C N) E [0, 2, 3, 4] ref11_clamp_S0 (ref11_clamp_L2.drop 0) (fun y => ref11_clamp_s2 N y.1.1 y.1.2.1 y.2.1 y.2.2.1) (ref11_clamp_K2 N) :=
  Blk.chunkAt hb 4 (X := (ref11_clamp_K2 N .normal)) (NxOk.end (by kernel_rfl)) rfl (fun x => by kernel_rfl)
theorem ref11_clamp_3_b {E : Env} (N : Nat) (hb : Base Tryd.prog (ref11_clamp_C N) E 0) : Blk Tryd.prog (ref11_clamp_C N) E [2, 3] ref11_clamp_S1 (ref11_clamp_L.drop 4) (fun y => ref11_clamp_3 N y.2.1 y.2.2.1) (ref11_clamp_K N) :=
  Blk.chunkAt hb 2 (X := (ref11_clamp_K N .normal)) (NxOk.end (by kernel_rfl)) rfl (fun x => by kernel_rfl)
theorem ref11_clamp_1_b {E : Env} (N : Nat) (hb : Base Tryd.prog (ref11_clamp_C N) E 0) : Blk Tryd.prog (ref11_clamp_C N) E [0, 2, 3, 4] ref11_clamp_S0 (ref11_clamp_L.drop 3) (fun y => ref11_clamp_1 N y.1.1 y.1.2.1 y.2.1 y.2.2.1) (ref11_clamp_K N) :=
  Blk.loopAt (Nf := N) (hns := [0, 2, 3, 4]) (ans := [2, 3]) (hc := ref11_clamp_S0) (ac := ref11_clamp_S1) (bid := 0) (step := (fun y => ref11_clamp_s2 N y.1.1 y.1.2.1 y.2.1 y.2.2.1)) (J := (fun e => (goK 0 [2, 3] ref11_clamp_S1 (fun y => ref11_clamp_3 N y.2.1 y.2.2.1)) (ref11_clamp_S1.st [2, 3] e))) hb (by kernel_rfl) (Blk.into (X := (goK 0 [2, 3] ref11_clamp_S1 (fun y => ref11_clamp_3 N y.2.1 y.2.2.1))) (NxOk.go hb (ref11_clamp_3_b N hb)) (fun x => by kernel_rfl)) (ref11_clamp_s2_b N hb) (fun x => by kernel_rfl)
theorem ref11_clamp_b {E : Env} (N : Nat) (hb : Base Tryd.prog (ref11_clamp_C N) E 0) : Blk Tryd.prog (ref11_clamp_C N) E (List.range ref11_clamp_S2.ks.length) ref11_clamp_S2 (ref11_clamp_L.drop 0) (fun y => ref11_clamp N y.1.1) (ref11_clamp_K N) :=
  Blk.chunkAt hb 3 (X := (goK 0 [0, 2, 3, 4] ref11_clamp_S0 (fun y => ref11_clamp_1 N y.1.1 y.1.2.1 y.2.1 y.2.2.1))) (NxOk.go hb (ref11_clamp_1_b N hb)) rfl (fun x => by kernel_rfl)
noncomputable def ref11_clamp_ctr (N : Nat) : Ctr := ⟨ref11_clamp_S2, ref11_clamp_S3.un [true], 0, (fun y => ref11_clamp N y.1.1)⟩
theorem ref11_clamp_ctrs (N : Nat) : CtrsOk Tryd.prog (ref11_clamp_C N) := ctrs_nil rfl
theorem ref11_clamp_ok (N : Nat) : Ctr.ok Tryd.prog G_globs 219 (ref11_clamp_ctr N) :=
  ctr_fn (Γ := ref11_clamp_C N) (rfit := ref11_clamp_S3) (bs := [true]) (res := [2]) (by kernel_rfl) (tys_ok G_tys_ok) (ref11_clamp_ctrs N) Tryd.func219 (by kernel_rfl) (by kernel_rfl) Tryd.ntmps219 (by kernel_rfl) (by kernel_rfl) (by kernel_rfl) (by kernel_rfl) (fun E hb => ref11_clamp_b N hb)
end Go.Proofs.YtofajgidjkjnpaaDoor
namespace Go.Proofs.YtofajgidjkjnpaaDoor
open Go
set_option maxRecDepth 100000
set_option linter.unusedVariables false
/-! ipsecgate/ipsecgateref11.carry -/
abbrev ref11_carry_R : Type := (((List UInt32) × Unit) × (Unit))
noncomputable def ref11_carry_s7 (N : Nat) (round_3 : Int) (u_4 : UInt32) (i_5 : Int) (h_1 : (List UInt32)) (t_2 : (List UInt32)) : Option (Lo ((Int × UInt32 × Int × Unit) × ((List UInt32) × (List UInt32) × Unit)) ((Int × UInt32 × Unit) × ((List UInt32) × (List UInt32) × Unit)) (Lo ((Int × Unit) × ((List UInt32) × (List UInt32) × Unit)) ((Unit) × ((List UInt32) × (List UInt32) × Unit)) ref11_carry_R)) :=
  bif (decide (i_5 < (17 : Int))) then
    bif inR i_5 17 then
    let x3 := (h_1.getD i_5.toNat (0 : UInt32))
    bif inR i_5 17 then
    let x6 := (h_1.set i_5.toNat ((u_4 + x3) &&& (255 : UInt32)))
    bif (decide (i_5 = (16 : Int))) then
      bif inR i_5 17 then
      some (.go ((round_3, ((5 : UInt32) * (shr32 (u_4 + x3) 2)), (w64 (i_5 + (1 : Int))), ()), ((x6.set i_5.toNat ((u_4 + x3) &&& (3 : UInt32))), t_2, ())))
      else none
    else
      some (.go ((round_3, (shr32 (u_4 + x3) 8), (w64 (i_5 + (1 : Int))), ()), (x6, t_2, ())))
    else none
    else none
  else
    some (.br ((round_3, u_4, ()), (h_1, t_2, ())))
noncomputable def ref11_carry_9 (N : Nat) (round_3 : Int) (h_1 : (List UInt32)) (t_2 : (List UInt32)) : Option (Lo ((Int × Unit) × ((List UInt32) × (List UInt32) × Unit)) ((Unit) × ((List UInt32) × (List UInt32) × Unit)) ref11_carry_R) :=
  some (.go (((w64 (round_3 + (1 : Int))), ()), (h_1, t_2, ())))
noncomputable def ref11_carry_8 (N : Nat) (round_3 : Int) (u_4 : UInt32) (h_1 : (List UInt32)) (t_2 : (List UInt32)) : Option (Lo ((Int × Unit) × ((List UInt32) × (List UInt32) × Unit)) ((Unit) × ((List UInt32) × (List UInt32) × Unit)) ref11_carry_R) :=
  ref11_carry_9 N round_3 (h_1.set 0 ((h_1.getD 0 (0 : UInt32)) + u_4)) t_2
noncomputable def ref11_carry_6 (N : Nat) (round_3 : Int) (u_4 : UInt32) (i_5 : Int) (h_1 : (List UInt32)) (t_2 : (List UInt32)) : Option (Lo ((Int × Unit) × ((List UInt32) × (List UInt32) × Unit)) ((Unit) × ((List UInt32) × (List UInt32) × Unit)) ref11_carry_R) :=
  loopK N (fun y => ref11_carry_s7 N y.1.1 y.1.2.1 y.1.2.2.1 y.2.1 y.2.2.1) (fun (e : ((Int × UInt32 × Unit) × ((List UInt32) × (List UInt32) × Unit))) => ref11_carry_8 N e.1.1 e.1.2.1 e.2.1 e.2.2.1) ((round_3, u_4, i_5, ()), (h_1, t_2, ()))
noncomputable def ref11_carry_5 (N : Nat) (round_3 : Int) (h_1 : (List UInt32)) (t_2 : (List UInt32)) : Option (Lo ((Int × Unit) × ((List UInt32) × (List UInt32) × Unit)) ((Unit) × ((List UInt32) × (List UInt32) × Unit)) ref11_carry_R) :=
  ref11_carry_6 N round_3 (0 : UInt32) (0 : Int) h_1 t_2
noncomputable def ref11_carry_3 (N : Nat) (round_3 : Int) (h_1 : (List UInt32)) (t_2 : (List UInt32)) : Option (Lo ((Int × Unit) × ((List UInt32) × (List UInt32) × Unit)) ((Unit) × ((List UInt32) × (List UInt32) × Unit)) ref11_carry_R) :=
  ref11_carry_5 N round_3 h_1 t_2
noncomputable def ref11_carry_s2 (N : Nat) (round_3 : Int) (h_1 : (List UInt32)) (t_2 : (List UInt32)) : Option (Lo ((Int × Unit) × ((List UInt32) × (List UInt32) × Unit)) ((Unit) × ((List UInt32) × (List UInt32) × Unit)) ref11_carry_R) :=
  bif (decide (round_3 < (3 : Int))) then
    ref11_carry_3 N round_3 h_1 t_2
  else
    some (.br ((()), (h_1, t_2, ())))
noncomputable def ref11_carry_10 (N : Nat) (h_1 : (List UInt32)) (t_2 : (List UInt32)) : Option ref11_carry_R :=
  some ((h_1, ()), (()))
noncomputable def ref11_carry_1 (N : Nat) (round_3 : Int) (h_1 : (List UInt32)) (t_2 : (List UInt32)) : Option ref11_carry_R :=
  loopK N (fun y => ref11_carry_s2 N y.1.1 y.2.1 y.2.2.1) (fun (e : ((Unit) × ((List UInt32) × (List UInt32) × Unit))) => ref11_carry_10 N e.2.1 e.2.2.1) ((round_3, ()), (h_1, t_2, ()))
noncomputable def ref11_carry (N : Nat) (h_0 : (List UInt32)) : Option ref11_carry_R :=
  ref11_carry_1 N (0 : Int) h_0 (List.replicate 17 (0 : UInt32))
noncomputable def ref11_carry_C (N : Nat) : Ctx := ⟨40, G_tys, [], G_globs⟩
noncomputable def ref11_carry_S0 : Spec := ⟨[.ref 0 (.arr 17 .u32), .ref 1 (.arr 17 .u32), .val .i64, .val .u32, .val .i64], [(.box 250 (.arr 17 .u32), .pos 0), (.box 250 (.arr 17 .u32), .pos 1)]⟩
noncomputable def ref11_carry_S1 : Spec := ⟨[.ref 0 (.arr 17 .u32), .ref 1 (.arr 17 .u32), .val .i64], [(.box 250 (.arr 17 .u32), .pos 0), (.box 250 (.arr 17 .u32), .pos 1)]⟩
noncomputable def ref11_carry_S2 : Spec := ⟨[.ref 0 (.arr 17 .u32), .ref 1 (.arr 17 .u32), .val .i64, .val .u32], [(.box 250 (.arr 17 .u32), .pos 0), (.box 250 (.arr 17 .u32), .pos 1)]⟩
noncomputable def ref11_carry_S3 : Spec := ⟨[.ref 0 (.arr 17 .u32), .ref 1 (.arr 17 .u32)], [(.box 250 (.arr 17 .u32), .pos 0), (.box 250 (.arr 17 .u32), .pos 1)]⟩
noncomputable def ref11_carry_S4 : Spec := ⟨[.val (.arr 17 .u32)], []⟩
noncomputable def ref11_carry_S5 : Spec := ⟨[.fp (.arr 17 .u32)], []⟩
noncomputable def ref11_carry_K (_N : Nat) : XE → GS → Option ref11_carry_R := retK 0 [2] [true] ref11_carry_S5
noncomputable def ref11_carry_L : List Code := (bodyOf (some Tryd.f221))
noncomputable def ref11_carry_L2 : List Code := (loopOf (ref11_carry_L[2]?))
noncomputable def ref11_carry_L4b : List Code := (blockOf (ref11_carry_L2[2]?))
noncomputable def ref11_carry_L7 : List Code := (loopOf (ref11_carry_L4b[2]?))
noncomputable def ref11_carry_K2 (N : Nat) : XE → GS → Option (Lo ((Int × Unit) × ((List UInt32) × (List UInt32) × Unit)) ((Unit) × ((List UInt32) × (List UInt32) × Unit)) ref11_carry_R) := roundK (some 0) (fit 0 [1, 2, 3] ref11_carry_S1) (fit 0 [1, 2] ref11_carry_S3) (ref11_carry_K N)
noncomputable def ref11_carry_K4 (N : Nat) : XE → GS → Option (Lo ((Int × Unit) × ((List UInt32) × (List UInt32) × Unit)) ((Unit) × ((List UInt32) × (List UInt32) × Unit)) ref11_carry_R) := blockK 1 (goK 0 [1, 2, 3] ref11_carry_S1 (fun y => ref11_carry_9 N y.1.1 y.2.1 y.2.2.1)) (ref11_carry_K2 N)
noncomputable def ref11_carry_K7 (N : Nat) : XE → GS → Option (Lo ((Int × UInt32 × Int × Unit) × ((List UInt32) × (List UInt32) × Unit)) ((Int × UInt32 × Unit) × ((List UInt32) × (List UInt32) × Unit)) (Lo ((Int × Unit) × ((List UInt32) × (List UInt32) × Unit)) ((Unit) × ((List UInt32) × (List UInt32) × Unit)) ref11_carry_R)) := roundK (some 2) (fit 0 [1, 2, 3, 4, 5] ref11_carry_S0) (fit 0 [1, 2, 3, 4] ref11_carry_S2) (ref11_carry_K4 N)
theorem ref11_carry_s7_b {E : Env} (N : Nat) (hb : Base Tryd.prog (ref11_carry_C N) E 0) : Blk Tryd.prog (ref11_carry_C N) E [1, 2, 3, 4, 5] ref11_carry_S0 (ref11_carry_L7.drop 0) (fun y => ref11_carry_s7 N y.1.1 y.1.2.1 y.1.2.2.1 y.2.1 y.2.2.1) (ref11_carry_K7 N) :=
  Blk.chunkAt hb 4 (X := (ref11_carry_K7 N .normal)) (NxOk.end (by kernel_rfl)) rfl (fun x => by kernel_rfl)
theorem ref11_carry_9_b {E : Env} (N : Nat) (hb : Base Tryd.prog (ref11_carry_C N) E 0) : Blk Tryd.prog (ref11_carry_C N) E [1, 2, 3] ref11_carry_S1 (ref11_carry_L2.drop 3) (fun y => ref11_carry_9 N y.1.1 y.2.1 y.2.2.1) (ref11_carry_K2 N) :=
  Blk.chunkAt hb 1 (X := (ref11_carry_K2 N .normal)) (NxOk.end (by kernel_rfl)) rfl (fun x => by kernel_rfl)
theorem ref11_carry_8_b {E : Env} (N : Nat) (hb : Base Tryd.prog (ref11_carry_C N) E 0) : Blk Tryd.prog (ref11_carry_C N) E [1, 2, 3, 4] ref11_carry_S2 (ref11_carry_L4b.drop 3) (fun y => ref11_carry_8 N y.1.1 y.1.2.1 y.2.1 y.2.2.1) (ref11_carry_K4 N) :=
  Blk.chunkAt hb 1 (X := (ref11_carry_K4 N .normal)) (NxOk.end (by kernel_rfl)) rfl (fun x => by kernel_rfl)
theorem ref11_carry_6_b {E : Env} (N : Nat) (hb : Base Tryd.prog (ref11_carry_C N) E 0) : Blk Tryd.prog (ref11_carry_C N) E [1, 2, 3, 4, 5] ref11_carry_S0 (ref11_carry_L4b.drop 2) (fun y => ref11_carry_6 N y.1.1 y.1.2.1 y.1.2.2.1 y.2.1 y.2.2.1) (ref11_carry_K4 N) :=
  Blk.loopAt (Nf := N) (hns := [1, 2, 3, 4, 5]) (ans := [1, 2, 3, 4]) (hc := ref11_carry_S0) (ac := ref11_carry_S2) (bid := 2) (step := (fun y => ref11_carry_s7 N y.1.1 y.1.2.1 y.1.2.2.1 y.2.1 y.2.2.1)) (J := (fun e => (goK 0 [1, 2, 3, 4] ref11_carry_S2 (fun y => ref11_carry_8 N y.1.1 y.1.2.1 y.2.1 y.2.2.1)) (ref11_carry_S2.st [1, 2, 3, 4] e))) hb (by kernel_rfl) (Blk.into (X := (goK 0 [1, 2, 3, 4] ref11_carry_S2 (fun y => ref11_carry_8 N y.1.1 y.1.2.1 y.2.1 y.2.2.1))) (NxOk.go hb (ref11_carry_8_b N hb)) (fun x => by kernel_rfl)) (ref11_carry_s7_b N hb) (fun x => by kernel_rfl)
theorem ref11_carry_5_b {E : Env} (N : Nat) (hb : Base Tryd.prog (ref11_carry_C N) E 0) : Blk Tryd.prog (ref11_carry_C N) E [1, 2, 3] ref11_carry_S1 (ref11_carry_L4b.drop 0) (fun y => ref11_carry_5 N y.1.1 y.2.1 y.2.2.1) (ref11_carry_K4 N) :=
  Blk.chunkAt hb 2 (X := (goK 0 [1, 2, 3, 4, 5] ref11_carry_S0 (fun y => ref11_carry_6 N y.1.1 y.1.2.1 y.1.2.2.1 y.2.1 y.2.2.1))) (NxOk.go hb (ref11_carry_6_b N hb)) rfl (fun x => by kernel_rfl)
theorem ref11_carry_3_b {E : Env} (N : Nat) (hb : Base Tryd.prog (ref11_carry_C N) E 0) : Blk Tryd.prog (ref11_carry_C N) E [1, 2, 3] ref11_carry_S1 (ref11_carry_L2.drop 2) (fun y => ref11_carry_3 N y.1.1 y.2.1 y.2.2.1) (ref11_carry_K2 N) :=
  Blk.blockAt (bid := 1) (X := (goK 0 [1, 2, 3] ref11_carry_S1 (fun y => ref11_carry_9 N y.1.1 y.2.1 y.2.2.1))) (Y := (goK 0 [1, 2, 3] ref11_carry_S1 (fun y => ref11_carry_5 N y.1.1 y.2.1 y.2.2.1))) (by kernel_rfl) (NxOk.go hb (ref11_carry_9_b N hb)) (NxOk.go hb (ref11_carry_5_b N hb)) (fun x => by kernel_rfl)
theorem ref11_carry_s2_b {E : Env} (N : Nat) (hb : Base Tryd.prog (ref11_carry_C N) E 0) : Blk Tryd.prog (ref11_carry_C N) E [1, 2, 3] ref11_carry_S1 (ref11_carry_L2.drop 0) (fun y => ref11_carry_s2 N y.1.1 y.2.1 y.2.2.1) (ref11_carry_K2 N) :=
  Blk.chunkAt hb 2 (X := (goK 0 [1, 2, 3] ref11_carry_S1 (fun y => ref11_carry_3 N y.1.1 y.2.1 y.2.2.1))) (NxOk.go hb (ref11_carry_3_b N hb)) rfl (fun x => by kernel_rfl)
theorem ref11_carry_10_b {E : Env} (N : Nat) (hb : Base Tryd.prog (ref11_carry_C N) E 0) : Blk Tryd.prog (ref11_carry_C N) E [1, 2] ref11_carry_S3 (ref11_carry_L.drop 3) (fun y => ref11_carry_10 N y.2.1 y.2.2.1) (ref11_carry_K N) :=
  Blk.chunkAt hb 2 (X := (ref11_carry_K N .normal)) (NxOk.end (by kernel_rfl)) rfl (fun x => by kernel_rfl)
theorem ref11_carry_1_b {E : Env} (N : Nat) (hb : Base Tryd.prog (ref11_carry_C N) E 0) : Blk Tryd.prog (ref11_carry_C N) E [1, 2, 3] ref11_carry_S1 (ref11_carry_L.drop 2) (fun y => ref11_carry_1 N y.1.1 y.2.1 y.2.2.1) (ref11_carry_K N) :=
  Blk.loopAt (Nf := N) (hns := [1, 2, 3]) (ans := [1, 2]) (hc := ref11_carry_S1) (ac := ref11_carry_S3) (bid := 0) (step := (fun y => ref11_carry_s2 N y.1.1 y.2.1 y.2.2.1)) (J := (fun e => (goK 0 [1, 2] ref11_carry_S3 (fun y => ref11_carry_10 N y.2.1 y.2.2.1)) (ref11_carry_S3.st [1, 2] e))) hb (by kernel_rfl) (Blk.into (X := (goK 0 [1, 2] ref11_carry_S3 (fun y => ref11_carry_10 N y.2.1 y.2.2.1))) (NxOk.go hb (ref11_carry_10_b N hb)) (fun x => by kernel_rfl)) (ref11_carry_s2_b N hb) (fun x => by kernel_rfl)
theorem ref11_carry_b {E : Env} (N : Nat) (hb : Base Tryd.prog (ref11_carry_C N) E 0) : Blk Tryd.prog (ref11_carry_C N) E (List.range ref11_carry_S4.ks.length) ref11_carry_S4 (ref11_carry_L.drop 0) (fun y => ref11_carry N y.1.1) (ref11_carry_K N) :=
  Blk.chunkAt hb 2 (X := (goK 0 [1, 2, 3] ref11_carry_S1 (fun y => ref11_carry_1 N y.1.1 y.2.1 y.2.2.1))) (NxOk.go hb (ref11_carry_1_b N hb)) rfl (fun x => by kernel_rfl)
noncomputable def ref11_carry_ctr (N : Nat) : Ctr := ⟨ref11_carry_S4, ref11_carry_S5.un [true], 0, (fun y => ref11_carry N y.1.1)⟩
theorem ref11_carry_ctrs (N : Nat) : CtrsOk Tryd.prog (ref11_carry_C N) := ctrs_nil rfl
theorem ref11_carry_ok (N : Nat) : Ctr.ok Tryd.prog G_globs 221 (ref11_carry_ctr N) :=
  ctr_fn (Γ := ref11_carry_C N) (rfit := ref11_carry_S5) (bs := [true]) (res := [2]) (by kernel_rfl) (tys_ok G_tys_ok) (ref11_carry_ctrs N) Tryd.func221 (by kernel_rfl) (by kernel_rfl) Tryd.ntmps221 (by kernel_rfl) (by kernel_rfl) (by kernel_rfl) (by kernel_rfl) (fun E hb => ref11_carry_b N hb)
end Go.Proofs.YtofajgidjkjnpaaDoor
namespace Go.Proofs.YtofajgidjkjnpaaDoor
open Go
set_option maxRecDepth 100000
set_option linter.unusedVariables false
/-! ipsecgate/ipsecgateref11.product -/
abbrev ref11_product_R : Type := (((List UInt32) × Unit) × (Unit))
noncomputable def ref11_product_s7 (N : Nat) (i_6 : Int) (u_7 : UInt32) (j_8 : Int) (a_2 : (List UInt32)) (b_3 : (List UInt32)) (t_4 : (List UInt32)) (out_5 : (List UInt32)) : Option (Lo ((Int × UInt32 × Int × Unit) × ((List UInt32) × (List UInt32) × (List UInt32) × (List UInt32) × Unit)) ((Int × UInt32 × Unit) × ((List UInt32) × (List UInt32) × (List UInt32) × (List UInt32) × Unit)) (Lo ((Int × Unit) × ((List UInt32) × (List UInt32) × (List UInt32) × (List UInt32) × Unit)) ((Unit) × ((List UInt32) × (List UInt32) × Unit)) ref11_product_R)) :=
  bif (decide (j_8 < (17 : Int))) then
    bif (decide (j_8 ≤ i_6)) then
      bif inR j_8 17 then
      let x5 := w64 (i_6 - j_8)
      bif inR x5 17 then
      some (.go ((i_6, (u_7 + ((a_2.getD j_8.toNat (0 : UInt32)) * (b_3.getD x5.toNat (0 : UInt32)))), (w64 (j_8 + (1 : Int))), ()), (a_2, b_3, t_4, out_5, ())))
      else none
      else none
    else
      bif inR j_8 17 then
      let x13 := w64 ((w64 ((17 : Int) + i_6)) - j_8)
      bif inR x13 17 then
      some (.go ((i_6, (u_7 + (((320 : UInt32) * (a_2.getD j_8.toNat (0 : UInt32))) * (b_3.getD x13.toNat (0 : UInt32)))), (w64 (j_8 + (1 : Int))), ()), (a_2, b_3, t_4, out_5, ())))
      else none
      else none
  else
    some (.br ((i_6, u_7, ()), (a_2, b_3, t_4, out_5, ())))
noncomputable def ref11_product_9 (N : Nat) (i_6 : Int) (a_2 : (List UInt32)) (b_3 : (List UInt32)) (t_4 : (List UInt32)) (out_5 : (List UInt32)) : Option (Lo ((Int × Unit) × ((List UInt32) × (List UInt32) × (List UInt32) × (List UInt32) × Unit)) ((Unit) × ((List UInt32) × (List UInt32) × Unit)) ref11_product_R) :=
  some (.go (((w64 (i_6 + (1 : Int))), ()), (a_2, b_3, t_4, out_5, ())))
noncomputable def ref11_product_8 (N : Nat) (i_6 : Int) (u_7 : UInt32) (a_2 : (List UInt32)) (b_3 : (List UInt32)) (t_4 : (List UInt32)) (out_5 : (List UInt32)) : Option (Lo ((Int × Unit) × ((List UInt32) × (List UInt32) × (List UInt32) × (List UInt32) × Unit)) ((Unit) × ((List UInt32) × (List UInt32) × Unit)) ref11_product_R) :=
  bif inR i_6 17 then
  ref11_product_9 N i_6 a_2 b_3 t_4 (out_5.set i_6.toNat u_7)
  else none
noncomputable def ref11_product_6 (N : Nat) (i_6 : Int) (u_7 : UInt32) (j_8 : Int) (a_2 : (List UInt32)) (b_3 : (List UInt32)) (t_4 : (List UInt32)) (out_5 : (List UInt32)) : Option (Lo ((Int × Unit) × ((List UInt32) × (List UInt32) × (List UInt32) × (List UInt32) × Unit)) ((Unit) × ((List UInt32) × (List UInt32) × Unit)) ref11_product_R) :=
  loopK N (fun y => ref11_product_s7 N y.1.1 y.1.2.1 y.1.2.2.1 y.2.1 y.2.2.1 y.2.2.2.1 y.2.2.2.2.1) (fun (e : ((Int × UInt32 × Unit) × ((List UInt32) × (List UInt32) × (List UInt32) × (List UInt32) × Unit))) => ref11_product_8 N e.1.1 e.1.2.1 e.2.1 e.2.2.1 e.2.2.2.1 e.2.2.2.2.1) ((i_6, u_7, j_8, ()), (a_2, b_3, t_4, out_5, ()))
noncomputable def ref11_product_5 (N : Nat) (i_6 : Int) (a_2 : (List UInt32)) (b_3 : (List UInt32)) (t_4 : (List UInt32)) (out_5 : (List UInt32)) : Option (Lo ((Int × Unit) × ((List UInt32) × (List UInt32) × (List UInt32) × (List UInt32) × Unit)) ((Unit) × ((List UInt32) × (List UInt32) × Unit)) ref11_product_R) :=
  ref11_product_6 N i_6 (0 : UInt32) (0 : Int) a_2 b_3 t_4 out_5
noncomputable def ref11_product_3 (N : Nat) (i_6 : Int) (a_2 : (List UInt32)) (b_3 : (List UInt32)) (t_4 : (List UInt32)) (out_5 : (List UInt32)) : Option (Lo ((Int × Unit) × ((List UInt32) × (List UInt32) × (List UInt32) × (List UInt32) × Unit)) ((Unit) × ((List UInt32) × (List UInt32) × Unit)) ref11_product_R) :=
  ref11_product_5 N i_6 a_2 b_3 t_4 out_5
noncomputable def ref11_product_s2 (N : Nat) (i_6 : Int) (a_2 : (List UInt32)) (b_3 : (List UInt32)) (t_4 : (List UInt32)) (out_5 : (List UInt32)) : Option (Lo ((Int × Unit) × ((List UInt32) × (List UInt32) × (List UInt32) × (List UInt32) × Unit)) ((Unit) × ((List UInt32) × (List UInt32) × Unit)) ref11_product_R) :=
  bif (decide (i_6 < (17 : Int))) then
    ref11_product_3 N i_6 a_2 b_3 t_4 out_5
  else
    some (.br ((()), (t_4, out_5, ())))
noncomputable def ref11_product_10 (N : Nat) (t_4 : (List UInt32)) (out_5 : (List UInt32)) : Option ref11_product_R :=
  Option.bind (ref11_carry N out_5) fun y20 =>
  some ((y20.1.1, ()), (()))
noncomputable def ref11_product_1 (N : Nat) (i_6 : Int) (a_2 : (List UInt32)) (b_3 : (List UInt32)) (t_4 : (List UInt32)) (out_5 : (List UInt32)) : Option ref11_product_R :=
  loopK N (fun y => ref11_product_s2 N y.1.1 y.2.1 y.2.2.1 y.2.2.2.1 y.2.2.2.2.1) (fun (e : ((Unit) × ((List UInt32) × (List UInt32) × Unit))) => ref11_product_10 N e.2.1 e.2.2.1) ((i_6, ()), (a_2, b_3, t_4, out_5, ()))
noncomputable def ref11_product (N : Nat) (a_0 : (List UInt32)) (b_1 : (List UInt32)) : Option ref11_product_R :=
  ref11_product_1 N (0 : Int) a_0 b_1 (List.replicate 17 (0 : UInt32)) (List.replicate 17 (0 : UInt32))
noncomputable def ref11_product_C (N : Nat) : Ctx := ⟨49, G_tys, [(221, ref11_carry_ctr N)], G_globs⟩
noncomputable def ref11_product_S0 : Spec := ⟨[.ref 0 (.arr 17 .u32), .ref 1 (.arr 17 .u32), .ref 2 (.arr 17 .u32), .ref 3 (.arr 17 .u32), .val .i64, .val .u32, .val .i64], [(.box 250 (.arr 17 .u32), .pos 0), (.box 250 (.arr 17 .u32), .pos 1), (.box 250 (.arr 17 .u32), .pos 2), (.box 250 (.arr 17 .u32), .pos 3)]⟩
noncomputable def ref11_product_S1 : Spec := ⟨[.ref 0 (.arr 17 .u32), .ref 1 (.arr 17 .u32), .ref 2 (.arr 17 .u32), .ref 3 (.arr 17 .u32), .val .i64], [(.box 250 (.arr 17 .u32), .pos 0), (.box 250 (.arr 17 .u32), .pos 1), (.box 250 (.arr 17 .u32), .pos 2), (.box 250 (.arr 17 .u32), .pos 3)]⟩
noncomputable def ref11_product_S2 : Spec := ⟨[.ref 0 (.arr 17 .u32), .ref 1 (.arr 17 .u32), .ref 2 (.arr 17 .u32), .ref 3 (.arr 17 .u32), .val .i64, .val .u32], [(.box 250 (.arr 17 .u32), .pos 0), (.box 250 (.arr 17 .u32), .pos 1), (.box 250 (.arr 17 .u32), .pos 2), (.box 250 (.arr 17 .u32), .pos 3)]⟩
noncomputable def ref11_product_S3 : Spec := ⟨[.ref 0 (.arr 17 .u32), .ref 1 (.arr 17 .u32)], [(.box 250 (.arr 17 .u32), .pos 0), (.box 250 (.arr 17 .u32), .pos 1)]⟩
noncomputable def ref11_product_S4 : Spec := ⟨[.val (.arr 17 .u32), .val (.arr 17 .u32)], []⟩
noncomputable def ref11_product_S5 : Spec := ⟨[.fp (.arr 17 .u32)], []⟩
noncomputable def ref11_product_K (_N : Nat) : XE → GS → Option ref11_product_R := retK 0 [4] [true] ref11_product_S5
noncomputable def ref11_product_L : List Code := (bodyOf (some Tryd.f220))
noncomputable def ref11_product_L2 : List Code := (loopOf (ref11_product_L[3]?))
noncomputable def ref11_product_L4b : List Code := (blockOf (ref11_product_L2[2]?))
noncomputable def ref11_product_L7 : List Code := (loopOf (ref11_product_L4b[2]?))
noncomputable def ref11_product_K2 (N : Nat) : XE → GS → Option (Lo ((Int × Unit) × ((List UInt32) × (List UInt32) × (List UInt32) × (List UInt32) × Unit)) ((Unit) × ((List UInt32) × (List UInt32) × Unit)) ref11_product_R) := roundK (some 0) (fit 0 [2, 3, 4, 5, 6] ref11_product_S1) (fit 0 [4, 5] ref11_product_S3) (ref11_product_K N)
noncomputable def ref11_product_K4 (N : Nat) : XE → GS → Option (Lo ((Int × Unit) × ((List UInt32) × (List UInt32) × (List UInt32) × (List UInt32) × Unit)) ((Unit) × ((List UInt32) × (List UInt32) × Unit)) ref11_product_R) := blockK 1 (goK 0 [2, 3, 4, 5, 6] ref11_product_S1 (fun y => ref11_product_9 N y.1.1 y.2.1 y.2.2.1 y.2.2.2.1 y.2.2.2.2.1)) (ref11_product_K2 N)
noncomputable def ref11_product_K7 (N : Nat) : XE → GS → Option (Lo ((Int × UInt32 × Int × Unit) × ((List UInt32) × (List UInt32) × (List UInt32) × (List UInt32) × Unit)) ((Int × UInt32 × Unit) × ((List UInt32) × (List UInt32) × (List UInt32) × (List UInt32) × Unit)) (Lo ((Int × Unit) × ((List UInt32) × (List UInt32) × (List UInt32) × (List UInt32) × Unit)) ((Unit) × ((List UInt32) × (List UInt32) × Unit)) ref11_product_R)) := roundK (some 2) (fit 0 [2, 3, 4, 5, 6, 7, 8] ref11_product_S0) (fit 0 [2, 3, 4, 5, 6, 7] ref11_product_S2) (ref11_product_K4 N)
theorem ref11_product_s7_b {E : Env} (N : Nat) (hb : Base Tryd.prog (ref11_product_C N) E 0) : Blk Tryd.prog (ref11_product_C N) E [2, 3, 4, 5, 6, 7, 8] ref11_product_S0 (ref11_product_L7.drop 0) (fun y => ref11_product_s7 N y.1.1 y.1.2.1 y.1.2.2.1 y.2.1 y.2.2.1 y.2.2.2.1 y.2.2.2.2.1) (ref11_product_K7 N) :=
  Blk.chunkAt hb 4 (X := (ref11_product_K7 N .normal)) (NxOk.end (by kernel_rfl)) rfl (fun x => by kernel_rfl)
theorem ref11_product_9_b {E : Env} (N : Nat) (hb : Base Tryd.prog (ref11_product_C N) E 0) : Blk Tryd.prog (ref11_product_C N) E [2, 3, 4, 5, 6] ref11_product_S1 (ref11_product_L2.drop 3) (fun y => ref11_product_9 N y.1.1 y.2.1 y.2.2.1 y.2.2.2.1 y.2.2.2.2.1) (ref11_product_K2 N) :=
  Blk.chunkAt hb 1 (X := (ref11_product_K2 N .normal)) (NxOk.end (by kernel_rfl)) rfl (fun x => by kernel_rfl)
theorem ref11_product_8_b {E : Env} (N : Nat) (hb : Base Tryd.prog (ref11_product_C N) E 0) : Blk Tryd.prog (ref11_product_C N) E [2, 3, 4, 5, 6, 7] ref11_product_S2 (ref11_product_L4b.drop 3) (fun y => ref11_product_8 N y.1.1 y.1.2.1 y.2.1 y.2.2.1 y.2.2.2.1 y.2.2.2.2.1) (ref11_product_K4 N) :=
  Blk.chunkAt hb 1 (X := (ref11_product_K4 N .normal)) (NxOk.end (by kernel_rfl)) rfl (fun x => by kernel_rfl)
theorem ref11_product_6_b {E : Env} (N : Nat) (hb : Base Tryd.prog (ref11_product_C N) E 0) : Blk Tryd.prog (ref11_product_C N) E [2, 3, 4, 5, 6, 7, 8] ref11_product_S0 (ref11_product_L4b.drop 2) (fun y => ref11_product_6 N y.1.1 y.1.2.1 y.1.2.2.1 y.2.1 y.2.2.1 y.2.2.2.1 y.2.2.2.2.1) (ref11_product_K4 N) :=
  Blk.loopAt (Nf := N) (hns := [2, 3, 4, 5, 6, 7, 8]) (ans := [2, 3, 4, 5, 6, 7]) (hc := ref11_product_S0) (ac := ref11_product_S2) (bid := 2) (step := (fun y => ref11_product_s7 N y.1.1 y.1.2.1 y.1.2.2.1 y.2.1 y.2.2.1 y.2.2.2.1 y.2.2.2.2.1)) (J := (fun e => (goK 0 [2, 3, 4, 5, 6, 7] ref11_product_S2 (fun y => ref11_product_8 N y.1.1 y.1.2.1 y.2.1 y.2.2.1 y.2.2.2.1 y.2.2.2.2.1)) (ref11_product_S2.st [2, 3, 4, 5, 6, 7] e))) hb (by kernel_rfl) (Blk.into (X := (goK 0 [2, 3, 4, 5, 6, 7] ref11_product_S2 (fun y => ref11_product_8 N y.1.1 y.1.2.1 y.2.1 y.2.2.1 y.2.2.2.1 y.2.2.2.2.1))) (NxOk.go hb (ref11_product_8_b N hb)) (fun x => by kernel_rfl)) (ref11_product_s7_b N hb) (fun x => by kernel_rfl)
theorem ref11_product_5_b {E : Env} (N : Nat) (hb : Base Tryd.prog (ref11_product_C N) E 0) : Blk Tryd.prog (ref11_product_C N) E [2, 3, 4, 5, 6] ref11_product_S1 (ref11_product_L4b.drop 0) (fun y => ref11_product_5 N y.1.1 y.2.1 y.2.2.1 y.2.2.2.1 y.2.2.2.2.1) (ref11_product_K4 N) :=
  Blk.chunkAt hb 2 (X := (goK 0 [2, 3, 4, 5, 6, 7, 8] ref11_product_S0 (fun y => ref11_product_6 N y.1.1 y.1.2.1 y.1.2.2.1 y.2.1 y.2.2.1 y.2.2.2.1 y.2.2.2.2.1))) (NxOk.go hb (ref11_product_6_b N hb)) rfl (fun x => by kernel_rfl)
theorem ref11_product_3_b {E : Env} (N : Nat) (hb : Base Tryd.prog (ref11_product_C N) E 0) : Blk Tryd.prog (ref11_product_C N) E [2, 3, 4, 5, 6] ref11_product_S1 (ref11_product_L2.drop 2) (fun y => ref11_product_3 N y.1.1 y.2.1 y.2.2.1 y.2.2.2.1 y.2.2.2.2.1) (ref11_product_K2 N) :=
  Blk.blockAt (bid := 1) (X := (goK 0 [2, 3, 4, 5, 6] ref11_product_S1 (fun y => ref11_product_9 N y.1.1 y.2.1 y.2.2.1 y.2.2.2.1 y.2.2.2.2.1))) (Y := (goK 0 [2, 3, 4, 5, 6] ref11_product_S1 (fun y => ref11_product_5 N y.1.1 y.2.1 y.2.2.1 y.2.2.2.1 y.2.2.2.2.1))) (by kernel_rfl) (NxOk.go hb (ref11_product_9_b N hb)) (NxOk.go hb (ref11_product_5_b N hb)) (fun x => by kernel_rfl)
theorem ref11_product_s2_b {E : Env} (N : Nat) (hb : Base Tryd.prog (ref11_product_C N) E 0) : Blk Tryd.prog (ref11_product_C N) E [2, 3, 4, 5, 6] ref11_product_S1 (ref11_product_L2.drop 0) (fun y => ref11_product_s2 N y.1.1 y.2.1 y.2.2.1 y.2.2.2.1 y.2.2.2.2.1) (ref11_product_K2 N) :=
  Blk.chunkAt hb 2 (X := (goK 0 [2, 3, 4, 5, 6] ref11_product_S1 (fun y => ref11_product_3 N y.1.1 y.2.1 y.2.2.1 y.2.2.2.1 y.2.2.2.2.1))) (NxOk.go hb (ref11_product_3_b N hb)) rfl (fun x => by kernel_rfl)
theorem ref11_product_10_b {E : Env} (N : Nat) (hb : Base Tryd.prog (ref11_product_C N) E 0) : Blk Tryd.prog (ref11_product_C N) E [4, 5] ref11_product_S3 (ref11_product_L.drop 4) (fun y => ref11_product_10 N y.2.1 y.2.2.1) (ref11_product_K N) :=
  Blk.chunkAt hb 2 (X := (ref11_product_K N .normal)) (NxOk.end (by kernel_rfl)) rfl (fun x => by kernel_rfl)
theorem ref11_product_1_b {E : Env} (N : Nat) (hb : Base Tryd.prog (ref11_product_C N) E 0) : Blk Tryd.prog (ref11_product_C N) E [2, 3, 4, 5, 6] ref11_product_S1 (ref11_product_L.drop 3) (fun y => ref11_product_1 N y.1.1 y.2.1 y.2.2.1 y.2.2.2.1 y.2.2.2.2.1) (ref11_product_K N) :=
  Blk.loopAt (Nf := N) (hns := [2, 3, 4, 5, 6]) (ans := [4, 5]) (hc := ref11_product_S1) (ac := ref11_product_S3) (bid := 0) (step := (fun y => ref11_product_s2 N y.1.1 y.2.1 y.2.2.1 y.2.2.2.1 y.2.2.2.2.1)) (J := (fun e => (goK 0 [4, 5] ref11_product_S3 (fun y => ref11_product_10 N y.2.1 y.2.2.1)) (ref11_product_S3.st [4, 5] e))) hb (by kernel_rfl) (Blk.into (X := (goK 0 [4, 5] ref11_product_S3 (fun y => ref11_product_10 N y.2.1 y.2.2.1))) (NxOk.go hb (ref11_product_10_b N hb)) (fun x => by kernel_rfl)) (ref11_product_s2_b N hb) (fun x => by kernel_rfl)
theorem ref11_product_b {E : Env} (N : Nat) (hb : Base Tryd.prog (ref11_product_C N) E 0) : Blk Tryd.prog (ref11_product_C N) E (List.range ref11_product_S4.ks.length) ref11_product_S4 (ref11_product_L.drop 0) (fun y => ref11_product N y.1.1 y.1.2.1) (ref11_product_K N) :=
  Blk.chunkAt hb 3 (X := (goK 0 [2, 3, 4, 5, 6] ref11_product_S1 (fun y => ref11_product_1 N y.1.1 y.2.1 y.2.2.1 y.2.2.2.1 y.2.2.2.2.1))) (NxOk.go hb (ref11_product_1_b N hb)) rfl (fun x => by kernel_rfl)
noncomputable def ref11_product_ctr (N : Nat) : Ctr := ⟨ref11_product_S4, ref11_product_S5.un [true], 0, (fun y => ref11_product N y.1.1 y.1.2.1)⟩
theorem ref11_product_ctrs (N : Nat) : CtrsOk Tryd.prog (ref11_product_C N) := ctrs_of (Γ := ref11_product_C N) (by
  intro p hp
  simp only [ref11_product_C, List.mem_cons, List.not_mem_nil, or_false] at hp
  rcases hp with rfl
  · exact ref11_carry_ok N)
theorem ref11_product_ok (N : Nat) : Ctr.ok Tryd.prog G_globs 220 (ref11_product_ctr N) :=
  ctr_fn (Γ := ref11_product_C N) (rfit := ref11_product_S5) (bs := [true]) (res := [4]) (by kernel_rfl) (tys_ok G_tys_ok) (ref11_product_ctrs N) Tryd.func220 (by kernel_rfl) (by kernel_rfl) Tryd.ntmps220 (by kernel_rfl) (by kernel_rfl) (by kernel_rfl) (by kernel_rfl) (fun E hb => ref11_product_b N hb)
end Go.Proofs.YtofajgidjkjnpaaDoor
namespace Go.Proofs.YtofajgidjkjnpaaDoor
open Go
set_option maxRecDepth 100000
set_option linter.unusedVariables false
/-! ipsecgate/ipsecgateref11.Sum -/
abbrev ref11_Sum_R : Type := ((Bool × Unit) × ((List UInt8) × Unit))
noncomputable def ref11_Sum_s7 (N : Nat) (key_0 : (List UInt8)) (b_1 : (List UInt8)) (at_8 : Int) (n_9 : Int) (i_10 : Int) (r_6 : (List UInt32)) (h_7 : (List UInt32)) : Option (Lo (((List UInt8) × (List UInt8) × Int × Int × Int × Unit) × ((List UInt32) × (List UInt32) × Unit)) (((List UInt8) × (List UInt8) × Int × Int × Unit) × ((List UInt32) × (List UInt32) × Unit)) (Lo (((List UInt8) × (List UInt8) × Int × Unit) × ((List UInt32) × (List UInt32) × Unit)) (((List UInt8) × Unit) × ((List UInt32) × Unit)) ref11_Sum_R)) :=
  bif (decide (i_10 < n_9)) then
    bif inR i_10 17 then
    let x11 := w64 (at_8 + i_10)
    bif inR x11 b_1.length then
    bif inR i_10 17 then
    some (.go ((key_0, b_1, at_8, n_9, (w64 (i_10 + (1 : Int))), ()), (r_6, (h_7.set i_10.toNat ((h_7.getD i_10.toNat (0 : UInt32)) + (b_1.getD x11.toNat (0 : UInt8)).toUInt32)), ())))
    else none
    else none
    else none
  else
    some (.br ((key_0, b_1, at_8, n_9, ()), (r_6, h_7, ())))
noncomputable def ref11_Sum_9 (N : Nat) (key_0 : (List UInt8)) (b_1 : (List UInt8)) (at_8 : Int) (r_6 : (List UInt32)) (h_7 : (List UInt32)) : Option (Lo (((List UInt8) × (List UInt8) × Int × Unit) × ((List UInt32) × (List UInt32) × Unit)) (((List UInt8) × Unit) × ((List UInt32) × Unit)) ref11_Sum_R) :=
  some (.go ((key_0, b_1, (w64 (at_8 + (16 : Int))), ()), (r_6, h_7, ())))
noncomputable def ref11_Sum_8 (N : Nat) (key_0 : (List UInt8)) (b_1 : (List UInt8)) (at_8 : Int) (n_9 : Int) (r_6 : (List UInt32)) (h_7 : (List UInt32)) : Option (Lo (((List UInt8) × (List UInt8) × Int × Unit) × ((List UInt32) × (List UInt32) × Unit)) (((List UInt8) × Unit) × ((List UInt32) × Unit)) ref11_Sum_R) :=
  bif inR n_9 17 then
  bif inR n_9 17 then
  Option.bind (ref11_carry N (h_7.set n_9.toNat ((h_7.getD n_9.toNat (0 : UInt32)) + (1 : UInt32)))) fun y19 =>
  Option.bind (ref11_product N y19.1.1 r_6) fun y20 =>
  ref11_Sum_9 N key_0 b_1 at_8 r_6 y20.1.1
  else none
  else none
noncomputable def ref11_Sum_6 (N : Nat) (key_0 : (List UInt8)) (b_1 : (List UInt8)) (at_8 : Int) (n_9 : Int) (i_10 : Int) (r_6 : (List UInt32)) (h_7 : (List UInt32)) : Option (Lo (((List UInt8) × (List UInt8) × Int × Unit) × ((List UInt32) × (List UInt32) × Unit)) (((List UInt8) × Unit) × ((List UInt32) × Unit)) ref11_Sum_R) :=
  loopK N (fun y => ref11_Sum_s7 N y.1.1 y.1.2.1 y.1.2.2.1 y.1.2.2.2.1 y.1.2.2.2.2.1 y.2.1 y.2.2.1) (fun (e : (((List UInt8) × (List UInt8) × Int × Int × Unit) × ((List UInt32) × (List UInt32) × Unit))) => ref11_Sum_8 N e.1.1 e.1.2.1 e.1.2.2.1 e.1.2.2.2.1 e.2.1 e.2.2.1) ((key_0, b_1, at_8, n_9, i_10, ()), (r_6, h_7, ()))
noncomputable def ref11_Sum_5 (N : Nat) (key_0 : (List UInt8)) (b_1 : (List UInt8)) (at_8 : Int) (r_6 : (List UInt32)) (h_7 : (List UInt32)) : Option (Lo (((List UInt8) × (List UInt8) × Int × Unit) × ((List UInt32) × (List UInt32) × Unit)) (((List UInt8) × Unit) × ((List UInt32) × Unit)) ref11_Sum_R) :=
  let x7 := w64 ((b_1.length : Int) - at_8)
  ref11_Sum_6 N key_0 b_1 at_8 (bif decide (x7 < (16 : Int)) then x7 else (16 : Int)) (0 : Int) r_6 h_7
noncomputable def ref11_Sum_3 (N : Nat) (key_0 : (List UInt8)) (b_1 : (List UInt8)) (at_8 : Int) (r_6 : (List UInt32)) (h_7 : (List UInt32)) : Option (Lo (((List UInt8) × (List UInt8) × Int × Unit) × ((List UInt32) × (List UInt32) × Unit)) (((List UInt8) × Unit) × ((List UInt32) × Unit)) ref11_Sum_R) :=
  ref11_Sum_5 N key_0 b_1 at_8 r_6 h_7
noncomputable def ref11_Sum_s2 (N : Nat) (key_0 : (List UInt8)) (b_1 : (List UInt8)) (at_8 : Int) (r_6 : (List UInt32)) (h_7 : (List UInt32)) : Option (Lo (((List UInt8) × (List UInt8) × Int × Unit) × ((List UInt32) × (List UInt32) × Unit)) (((List UInt8) × Unit) × ((List UInt32) × Unit)) ref11_Sum_R) :=
  bif (decide (at_8 < (b_1.length : Int))) then
    ref11_Sum_3 N key_0 b_1 at_8 r_6 h_7
  else
    some (.br ((key_0, ()), (h_7, ())))
noncomputable def ref11_Sum_s12 (N : Nat) (key_0 : (List UInt8)) (u_12 : UInt32) (i_13 : Int) (h_7 : (List UInt32)) (g_11 : (List UInt32)) : Option (Lo (((List UInt8) × UInt32 × Int × Unit) × ((List UInt32) × (List UInt32) × Unit)) (((List UInt8) × Unit) × ((List UInt32) × (List UInt32) × Unit)) ref11_Sum_R) :=
  bif (decide (i_13 < (17 : Int))) then
    bif inR i_13 17 then
    let x24 := (h_7.getD i_13.toNat (0 : UInt32))
    bif inR i_13 17 then
    some (.go ((key_0, (shr32 (u_12 + x24) 8), (w64 (i_13 + (1 : Int))), ()), (h_7, (g_11.set i_13.toNat ((u_12 + x24) &&& (255 : UInt32))), ())))
    else none
    else none
  else
    some (.br ((key_0, ()), (h_7, g_11, ())))
noncomputable def ref11_Sum_s16 (N : Nat) (key_0 : (List UInt8)) (u_12 : UInt32) (i_15 : Int) (h_7 : (List UInt32)) (out_14 : (List UInt8)) : Option (Lo (((List UInt8) × UInt32 × Int × Unit) × ((List UInt32) × (List UInt8) × Unit)) ((Unit) × ((List UInt8) × Unit)) ref11_Sum_R) :=
  bif (decide (i_15 < (16 : Int))) then
    bif inR i_15 17 then
    let x34 := w64 ((16 : Int) + i_15)
    bif inR x34 key_0.length then
    let x36 := (h_7.getD i_15.toNat (0 : UInt32)) + (key_0.getD x34.toNat (0 : UInt8)).toUInt32
    bif room (out_14.length + ([(u_12 + x36).toUInt8] : List UInt8).length) 1 then
    some (.go ((key_0, (shr32 (u_12 + x36) 8), (w64 (i_15 + (1 : Int))), ()), (h_7, (out_14 ++ ([(u_12 + x36).toUInt8] : List UInt8)), ())))
    else none
    else none
    else none
  else
    some (.br ((()), (out_14, ())))
noncomputable def ref11_Sum_17 (N : Nat) (out_14 : (List UInt8)) : Option ref11_Sum_R :=
  some ((true, ()), (out_14, ()))
noncomputable def ref11_Sum_15 (N : Nat) (key_0 : (List UInt8)) (u_12 : UInt32) (i_15 : Int) (h_7 : (List UInt32)) (out_14 : (List UInt8)) : Option ref11_Sum_R :=
  loopK N (fun y => ref11_Sum_s16 N y.1.1 y.1.2.1 y.1.2.2.1 y.2.1 y.2.2.1) (fun (e : ((Unit) × ((List UInt8) × Unit))) => ref11_Sum_17 N e.2.1) ((key_0, u_12, i_15, ()), (h_7, out_14, ()))
noncomputable def ref11_Sum_14 (N : Nat) (key_0 : (List UInt8)) (h_7 : (List UInt32)) : Option ref11_Sum_R :=
  ref11_Sum_15 N key_0 (0 : UInt32) (0 : Int) h_7 ([] : List UInt8)
noncomputable def ref11_Sum_13 (N : Nat) (key_0 : (List UInt8)) (h_7 : (List UInt32)) (g_11 : (List UInt32)) : Option ref11_Sum_R :=
  bif (decide ((4 : UInt32) ≤ (g_11.getD 16 (0 : UInt32)))) then
    ref11_Sum_14 N key_0 g_11
  else
    ref11_Sum_14 N key_0 h_7
noncomputable def ref11_Sum_11 (N : Nat) (key_0 : (List UInt8)) (u_12 : UInt32) (i_13 : Int) (h_7 : (List UInt32)) (g_11 : (List UInt32)) : Option ref11_Sum_R :=
  loopK N (fun y => ref11_Sum_s12 N y.1.1 y.1.2.1 y.1.2.2.1 y.2.1 y.2.2.1) (fun (e : (((List UInt8) × Unit) × ((List UInt32) × (List UInt32) × Unit))) => ref11_Sum_13 N e.1.1 e.2.1 e.2.2.1) ((key_0, u_12, i_13, ()), (h_7, g_11, ()))
noncomputable def ref11_Sum_10 (N : Nat) (key_0 : (List UInt8)) (h_7 : (List UInt32)) : Option ref11_Sum_R :=
  Option.bind (ref11_carry N h_7) fun y22 =>
  ref11_Sum_11 N key_0 (5 : UInt32) (0 : Int) y22.1.1 (List.replicate 17 (0 : UInt32))
noncomputable def ref11_Sum_1 (N : Nat) (key_0 : (List UInt8)) (b_1 : (List UInt8)) (at_8 : Int) (r_6 : (List UInt32)) (h_7 : (List UInt32)) : Option ref11_Sum_R :=
  loopK N (fun y => ref11_Sum_s2 N y.1.1 y.1.2.1 y.1.2.2.1 y.2.1 y.2.2.1) (fun (e : (((List UInt8) × Unit) × ((List UInt32) × Unit))) => ref11_Sum_10 N e.1.1 e.2.1) ((key_0, b_1, at_8, ()), (r_6, h_7, ()))
noncomputable def ref11_Sum (N : Nat) (key_0 : (List UInt8)) (b_1 : (List UInt8)) : Option ref11_Sum_R :=
  bif (!(decide ((key_0.length : Int) = (32 : Int)))) then
    some ((false, ()), (([] : List UInt8), ()))
  else
    Option.bind (ref11_clamp N key_0) fun y3 =>
    ref11_Sum_1 N key_0 b_1 (0 : Int) y3.1.1 (List.replicate 17 (0 : UInt32))
noncomputable def ref11_Sum_C (N : Nat) : Ctx := ⟨103, G_tys, [(219, ref11_clamp_ctr N), (221, ref11_carry_ctr N), (220, ref11_product_ctr N)], G_globs⟩
noncomputable def ref11_Sum_S0 : Spec := ⟨[.val (.sl .u8), .val (.sl .u8), .ref 0 (.arr 17 .u32), .ref 1 (.arr 17 .u32), .val .i64, .val .i64, .val .i64], [(.box 250 (.arr 17 .u32), .pos 2), (.box 250 (.arr 17 .u32), .pos 3)]⟩
noncomputable def ref11_Sum_S1 : Spec := ⟨[.val (.sl .u8), .val (.sl .u8), .ref 0 (.arr 17 .u32), .ref 1 (.arr 17 .u32), .val .i64], [(.box 250 (.arr 17 .u32), .pos 2), (.box 250 (.arr 17 .u32), .pos 3)]⟩
noncomputable def ref11_Sum_S2 : Spec := ⟨[.val (.sl .u8), .val (.sl .u8), .ref 0 (.arr 17 .u32), .ref 1 (.arr 17 .u32), .val .i64, .val .i64], [(.box 250 (.arr 17 .u32), .pos 2), (.box 250 (.arr 17 .u32), .pos 3)]⟩
noncomputable def ref11_Sum_S3 : Spec := ⟨[.val (.sl .u8), .ref 0 (.arr 17 .u32), .ref 1 (.arr 17 .u32), .val .u32, .val .i64], [(.box 250 (.arr 17 .u32), .pos 1), (.box 250 (.arr 17 .u32), .pos 2)]⟩
noncomputable def ref11_Sum_S4 : Spec := ⟨[.val (.sl .u8), .ref 0 (.arr 17 .u32), .val .u32, .row 1, .val .i64], [(.box 250 (.arr 17 .u32), .pos 1), (.row 5 .u8, .pos 3)]⟩
noncomputable def ref11_Sum_S5 : Spec := ⟨[.row 0], [(.row 5 .u8, .pos 0)]⟩
noncomputable def ref11_Sum_S6 : Spec := ⟨[.val (.sl .u8), .ref 0 (.arr 17 .u32)], [(.box 250 (.arr 17 .u32), .pos 1)]⟩
noncomputable def ref11_Sum_S7 : Spec := ⟨[.val (.sl .u8), .ref 0 (.arr 17 .u32), .ref 1 (.arr 17 .u32)], [(.box 250 (.arr 17 .u32), .pos 1), (.box 250 (.arr 17 .u32), .pos 2)]⟩
noncomputable def ref11_Sum_S8 : Spec := ⟨[.val (.sl .u8), .val (.sl .u8)], []⟩
noncomputable def ref11_Sum_S9 : Spec := ⟨[.row 0, .val .bool], [(.row 5 .u8, .pos 0)]⟩
noncomputable def ref11_Sum_K (_N : Nat) : XE → GS → Option ref11_Sum_R := retK 0 [4, 5] [false, false] ref11_Sum_S9
noncomputable def ref11_Sum_L : List Code := (bodyOf (some Tryd.f197))
noncomputable def ref11_Sum_L2 : List Code := (loopOf (ref11_Sum_L[6]?))
noncomputable def ref11_Sum_L4b : List Code := (blockOf (ref11_Sum_L2[2]?))
noncomputable def ref11_Sum_L7 : List Code := (loopOf (ref11_Sum_L4b[2]?))
noncomputable def ref11_Sum_L12 : List Code := (loopOf (ref11_Sum_L[11]?))
noncomputable def ref11_Sum_L16 : List Code := (loopOf (ref11_Sum_L[17]?))
noncomputable def ref11_Sum_K2 (N : Nat) : XE → GS → Option (Lo (((List UInt8) × (List UInt8) × Int × Unit) × ((List UInt32) × (List UInt32) × Unit)) (((List UInt8) × Unit) × ((List UInt32) × Unit)) ref11_Sum_R) := roundK (some 0) (fit 0 [0, 1, 6, 7, 8] ref11_Sum_S1) (fit 0 [0, 7] ref11_Sum_S6) (ref11_Sum_K N)
noncomputable def ref11_Sum_K12 (N : Nat) : XE → GS → Option (Lo (((List UInt8) × UInt32 × Int × Unit) × ((List UInt32) × (List UInt32) × Unit)) (((List UInt8) × Unit) × ((List UInt32) × (List UInt32) × Unit)) ref11_Sum_R) := roundK (some 4) (fit 0 [0, 7, 11, 12, 13] ref11_Sum_S3) (fit 0 [0, 7, 11] ref11_Sum_S7) (ref11_Sum_K N)
noncomputable def ref11_Sum_K16 (N : Nat) : XE → GS → Option (Lo (((List UInt8) × UInt32 × Int × Unit) × ((List UInt32) × (List UInt8) × Unit)) ((Unit) × ((List UInt8) × Unit)) ref11_Sum_R) := roundK (some 6) (fit 0 [0, 7, 12, 14, 15] ref11_Sum_S4) (fit 0 [14] ref11_Sum_S5) (ref11_Sum_K N)
noncomputable def ref11_Sum_K4 (N : Nat) : XE → GS → Option (Lo (((List UInt8) × (List UInt8) × Int × Unit) × ((List UInt32) × (List UInt32) × Unit)) (((List UInt8) × Unit) × ((List UInt32) × Unit)) ref11_Sum_R) := blockK 1 (goK 0 [0, 1, 6, 7, 8] ref11_Sum_S1 (fun y => ref11_Sum_9 N y.1.1 y.1.2.1 y.1.2.2.1 y.2.1 y.2.2.1)) (ref11_Sum_K2 N)
noncomputable def ref11_Sum_K7 (N : Nat) : XE → GS → Option (Lo (((List UInt8) × (List UInt8) × Int × Int × Int × Unit) × ((List UInt32) × (List UInt32) × Unit)) (((List UInt8) × (List UInt8) × Int × Int × Unit) × ((List UInt32) × (List UInt32) × Unit)) (Lo (((List UInt8) × (List UInt8) × Int × Unit) × ((List UInt32) × (List UInt32) × Unit)) (((List UInt8) × Unit) × ((List UInt32) × Unit)) ref11_Sum_R)) := roundK (some 2) (fit 0 [0, 1, 6, 7, 8, 9, 10] ref11_Sum_S0) (fit 0 [0, 1, 6, 7, 8, 9] ref11_Sum_S2) (ref11_Sum_K4 N)
theorem ref11_Sum_s7_b {E : Env} (N : Nat) (hb : Base Tryd.prog (ref11_Sum_C N) E 0) : Blk Tryd.prog (ref11_Sum_C N) E [0, 1, 6, 7, 8, 9, 10] ref11_Sum_S0 (ref11_Sum_L7.drop 0) (fun y => ref11_Sum_s7 N y.1.1 y.1.2.1 y.1.2.2.1 y.1.2.2.2.1 y.1.2.2.2.2.1 y.2.1 y.2.2.1) (ref11_Sum_K7 N) :=
  Blk.chunkAt hb 4 (X := (ref11_Sum_K7 N .normal)) (NxOk.end (by kernel_rfl)) rfl (fun x => by kernel_rfl)
theorem ref11_Sum_9_b {E : Env} (N : Nat) (hb : Base Tryd.prog (ref11_Sum_C N) E 0) : Blk Tryd.prog (ref11_Sum_C N) E [0, 1, 6, 7, 8] ref11_Sum_S1 (ref11_Sum_L2.drop 3) (fun y => ref11_Sum_9 N y.1.1 y.1.2.1 y.1.2.2.1 y.2.1 y.2.2.1) (ref11_Sum_K2 N) :=
  Blk.chunkAt hb 1 (X := (ref11_Sum_K2 N .normal)) (NxOk.end (by kernel_rfl)) rfl (fun x => by kernel_rfl)
theorem ref11_Sum_8_b {E : Env} (N : Nat) (hb : Base Tryd.prog (ref11_Sum_C N) E 0) : Blk Tryd.prog (ref11_Sum_C N) E [0, 1, 6, 7, 8, 9] ref11_Sum_S2 (ref11_Sum_L4b.drop 3) (fun y => ref11_Sum_8 N y.1.1 y.1.2.1 y.1.2.2.1 y.1.2.2.2.1 y.2.1 y.2.2.1) (ref11_Sum_K4 N) :=
  Blk.chunkAt hb 2 (X := (ref11_Sum_K4 N .normal)) (NxOk.end (by kernel_rfl)) rfl (fun x => by kernel_rfl)
theorem ref11_Sum_6_b {E : Env} (N : Nat) (hb : Base Tryd.prog (ref11_Sum_C N) E 0) : Blk Tryd.prog (ref11_Sum_C N) E [0, 1, 6, 7, 8, 9, 10] ref11_Sum_S0 (ref11_Sum_L4b.drop 2) (fun y => ref11_Sum_6 N y.1.1 y.1.2.1 y.1.2.2.1 y.1.2.2.2.1 y.1.2.2.2.2.1 y.2.1 y.2.2.1) (ref11_Sum_K4 N) :=
  Blk.loopAt (Nf := N) (hns := [0, 1, 6, 7, 8, 9, 10]) (ans := [0, 1, 6, 7, 8, 9]) (hc := ref11_Sum_S0) (ac := ref11_Sum_S2) (bid := 2) (step := (fun y => ref11_Sum_s7 N y.1.1 y.1.2.1 y.1.2.2.1 y.1.2.2.2.1 y.1.2.2.2.2.1 y.2.1 y.2.2.1)) (J := (fun e => (goK 0 [0, 1, 6, 7, 8, 9] ref11_Sum_S2 (fun y => ref11_Sum_8 N y.1.1 y.1.2.1 y.1.2.2.1 y.1.2.2.2.1 y.2.1 y.2.2.1)) (ref11_Sum_S2.st [0, 1, 6, 7, 8, 9] e))) hb (by kernel_rfl) (Blk.into (X := (goK 0 [0, 1, 6, 7, 8, 9] ref11_Sum_S2 (fun y => ref11_Sum_8 N y.1.1 y.1.2.1 y.1.2.2.1 y.1.2.2.2.1 y.2.1 y.2.2.1))) (NxOk.go hb (ref11_Sum_8_b N hb)) (fun x => by kernel_rfl)) (ref11_Sum_s7_b N hb) (fun x => by kernel_rfl)
theorem ref11_Sum_5_b {E : Env} (N : Nat) (hb : Base Tryd.prog (ref11_Sum_C N) E 0) : Blk Tryd.prog (ref11_Sum_C N) E [0, 1, 6, 7, 8] ref11_Sum_S1 (ref11_Sum_L4b.drop 0) (fun y => ref11_Sum_5 N y.1.1 y.1.2.1 y.1.2.2.1 y.2.1 y.2.2.1) (ref11_Sum_K4 N) :=
  Blk.chunkAt hb 2 (X := (goK 0 [0, 1, 6, 7, 8, 9, 10] ref11_Sum_S0 (fun y => ref11_Sum_6 N y.1.1 y.1.2.1 y.1.2.2.1 y.1.2.2.2.1 y.1.2.2.2.2.1 y.2.1 y.2.2.1))) (NxOk.go hb (ref11_Sum_6_b N hb)) rfl (fun x => by kernel_rfl)
theorem ref11_Sum_3_b {E : Env} (N : Nat) (hb : Base Tryd.prog (ref11_Sum_C N) E 0) : Blk Tryd.prog (ref11_Sum_C N) E [0, 1, 6, 7, 8] ref11_Sum_S1 (ref11_Sum_L2.drop 2) (fun y => ref11_Sum_3 N y.1.1 y.1.2.1 y.1.2.2.1 y.2.1 y.2.2.1) (ref11_Sum_K2 N) :=
  Blk.blockAt (bid := 1) (X := (goK 0 [0, 1, 6, 7, 8] ref11_Sum_S1 (fun y => ref11_Sum_9 N y.1.1 y.1.2.1 y.1.2.2.1 y.2.1 y.2.2.1))) (Y := (goK 0 [0, 1, 6, 7, 8] ref11_Sum_S1 (fun y => ref11_Sum_5 N y.1.1 y.1.2.1 y.1.2.2.1 y.2.1 y.2.2.1))) (by kernel_rfl) (NxOk.go hb (ref11_Sum_9_b N hb)) (NxOk.go hb (ref11_Sum_5_b N hb)) (fun x => by kernel_rfl)
theorem ref11_Sum_s2_b {E : Env} (N : Nat) (hb : Base Tryd.prog (ref11_Sum_C N) E 0) : Blk Tryd.prog (ref11_Sum_C N) E [0, 1, 6, 7, 8] ref11_Sum_S1 (ref11_Sum_L2.drop 0) (fun y => ref11_Sum_s2 N y.1.1 y.1.2.1 y.1.2.2.1 y.2.1 y.2.2.1) (ref11_Sum_K2 N) :=
  Blk.chunkAt hb 2 (X := (goK 0 [0, 1, 6, 7, 8] ref11_Sum_S1 (fun y => ref11_Sum_3 N y.1.1 y.1.2.1 y.1.2.2.1 y.2.1 y.2.2.1))) (NxOk.go hb (ref11_Sum_3_b N hb)) rfl (fun x => by kernel_rfl)
theorem ref11_Sum_s12_b {E : Env} (N : Nat) (hb : Base Tryd.prog (ref11_Sum_C N) E 0) : Blk Tryd.prog (ref11_Sum_C N) E [0, 7, 11, 12, 13] ref11_Sum_S3 (ref11_Sum_L12.drop 0) (fun y => ref11_Sum_s12 N y.1.1 y.1.2.1 y.1.2.2.1 y.2.1 y.2.2.1) (ref11_Sum_K12 N) :=
  Blk.chunkAt hb 4 (X := (ref11_Sum_K12 N .normal)) (NxOk.end (by kernel_rfl)) rfl (fun x => by kernel_rfl)
theorem ref11_Sum_s16_b {E : Env} (N : Nat) (hb : Base Tryd.prog (ref11_Sum_C N) E 0) : Blk Tryd.prog (ref11_Sum_C N) E [0, 7, 12, 14, 15] ref11_Sum_S4 (ref11_Sum_L16.drop 0) (fun y => ref11_Sum_s16 N y.1.1 y.1.2.1 y.1.2.2.1 y.2.1 y.2.2.1) (ref11_Sum_K16 N) :=
  Blk.chunkAt hb 4 (X := (ref11_Sum_K16 N .normal)) (NxOk.end (by kernel_rfl)) rfl (fun x => by kernel_rfl)
theorem ref11_Sum_17_b {E : Env} (N : Nat) (hb : Base Tryd.prog (ref11_Sum_C N) E 0) : Blk Tryd.prog (ref11_Sum_C N) E [14] ref11_Sum_S5 (ref11_Sum_L.drop 18) (fun y => ref11_Sum_17 N y.2.1) (ref11_Sum_K N) :=
  Blk.chunkAt hb 2 (X := (ref11_Sum_K N .normal)) (NxOk.end (by kernel_rfl)) rfl (fun x => by kernel_rfl)
theorem ref11_Sum_15_b {E : Env} (N : Nat) (hb : Base Tryd.prog (ref11_Sum_C N) E 0) : Blk Tryd.prog (ref11_Sum_C N) E [0, 7, 12, 14, 15] ref11_Sum_S4 (ref11_Sum_L.drop 17) (fun y => ref11_Sum_15 N y.1.1 y.1.2.1 y.1.2.2.1 y.2.1 y.2.2.1) (ref11_Sum_K N) :=
  Blk.loopAt (Nf := N) (hns := [0, 7, 12, 14, 15]) (ans := [14]) (hc := ref11_Sum_S4) (ac := ref11_Sum_S5) (bid := 6) (step := (fun y => ref11_Sum_s16 N y.1.1 y.1.2.1 y.1.2.2.1 y.2.1 y.2.2.1)) (J := (fun e => (goK 0 [14] ref11_Sum_S5 (fun y => ref11_Sum_17 N y.2.1)) (ref11_Sum_S5.st [14] e))) hb (by kernel_rfl) (Blk.into (X := (goK 0 [14] ref11_Sum_S5 (fun y => ref11_Sum_17 N y.2.1))) (NxOk.go hb (ref11_Sum_17_b N hb)) (fun x => by kernel_rfl)) (ref11_Sum_s16_b N hb) (fun x => by kernel_rfl)
theorem ref11_Sum_14_b {E : Env} (N : Nat) (hb : Base Tryd.prog (ref11_Sum_C N) E 0) : Blk Tryd.prog (ref11_Sum_C N) E [0, 7] ref11_Sum_S6 (ref11_Sum_L.drop 14) (fun y => ref11_Sum_14 N y.1.1 y.2.1) (ref11_Sum_K N) :=
  Blk.chunkAt hb 3 (X := (goK 0 [0, 7, 12, 14, 15] ref11_Sum_S4 (fun y => ref11_Sum_15 N y.1.1 y.1.2.1 y.1.2.2.1 y.2.1 y.2.2.1))) (NxOk.go hb (ref11_Sum_15_b N hb)) rfl (fun x => by kernel_rfl)
theorem ref11_Sum_13_b {E : Env} (N : Nat) (hb : Base Tryd.prog (ref11_Sum_C N) E 0) : Blk Tryd.prog (ref11_Sum_C N) E [0, 7, 11] ref11_Sum_S7 (ref11_Sum_L.drop 12) (fun y => ref11_Sum_13 N y.1.1 y.2.1 y.2.2.1) (ref11_Sum_K N) :=
  Blk.chunkAt hb 2 (X := (goK 0 [0, 7] ref11_Sum_S6 (fun y => ref11_Sum_14 N y.1.1 y.2.1))) (NxOk.go hb (ref11_Sum_14_b N hb)) rfl (fun x => by kernel_rfl)
theorem ref11_Sum_11_b {E : Env} (N : Nat) (hb : Base Tryd.prog (ref11_Sum_C N) E 0) : Blk Tryd.prog (ref11_Sum_C N) E [0, 7, 11, 12, 13] ref11_Sum_S3 (ref11_Sum_L.drop 11) (fun y => ref11_Sum_11 N y.1.1 y.1.2.1 y.1.2.2.1 y.2.1 y.2.2.1) (ref11_Sum_K N) :=
  Blk.loopAt (Nf := N) (hns := [0, 7, 11, 12, 13]) (ans := [0, 7, 11]) (hc := ref11_Sum_S3) (ac := ref11_Sum_S7) (bid := 4) (step := (fun y => ref11_Sum_s12 N y.1.1 y.1.2.1 y.1.2.2.1 y.2.1 y.2.2.1)) (J := (fun e => (goK 0 [0, 7, 11] ref11_Sum_S7 (fun y => ref11_Sum_13 N y.1.1 y.2.1 y.2.2.1)) (ref11_Sum_S7.st [0, 7, 11] e))) hb (by kernel_rfl) (Blk.into (X := (goK 0 [0, 7, 11] ref11_Sum_S7 (fun y => ref11_Sum_13 N y.1.1 y.2.1 y.2.2.1))) (NxOk.go hb (ref11_Sum_13_b N hb)) (fun x => by kernel_rfl)) (ref11_Sum_s12_b N hb) (fun x => by kernel_rfl)
theorem ref11_Sum_10_b {E : Env} (N : Nat) (hb : Base Tryd.prog (ref11_Sum_C N) E 0) : Blk Tryd.prog (ref11_Sum_C N) E [0, 7] ref11_Sum_S6 (ref11_Sum_L.drop 7) (fun y => ref11_Sum_10 N y.1.1 y.2.1) (ref11_Sum_K N) :=
  Blk.chunkAt hb 4 (X := (goK 0 [0, 7, 11, 12, 13] ref11_Sum_S3 (fun y => ref11_Sum_11 N y.1.1 y.1.2.1 y.1.2.2.1 y.2.1 y.2.2.1))) (NxOk.go hb (ref11_Sum_11_b N hb)) rfl (fun x => by kernel_rfl)
theorem ref11_Sum_1_b {E : Env} (N : Nat) (hb : Base Tryd.prog (ref11_Sum_C N) E 0) : Blk Tryd.prog (ref11_Sum_C N) E [0, 1, 6, 7, 8] ref11_Sum_S1 (ref11_Sum_L.drop 6) (fun y => ref11_Sum_1 N y.1.1 y.1.2.1 y.1.2.2.1 y.2.1 y.2.2.1) (ref11_Sum_K N) :=
  Blk.loopAt (Nf := N) (hns := [0, 1, 6, 7, 8]) (ans := [0, 7]) (hc := ref11_Sum_S1) (ac := ref11_Sum_S6) (bid := 0) (step := (fun y => ref11_Sum_s2 N y.1.1 y.1.2.1 y.1.2.2.1 y.2.1 y.2.2.1)) (J := (fun e => (goK 0 [0, 7] ref11_Sum_S6 (fun y => ref11_Sum_10 N y.1.1 y.2.1)) (ref11_Sum_S6.st [0, 7] e))) hb (by kernel_rfl) (Blk.into (X := (goK 0 [0, 7] ref11_Sum_S6 (fun y => ref11_Sum_10 N y.1.1 y.2.1))) (NxOk.go hb (ref11_Sum_10_b N hb)) (fun x => by kernel_rfl)) (ref11_Sum_s2_b N hb) (fun x => by kernel_rfl)
theorem ref11_Sum_b {E : Env} (N : Nat) (hb : Base Tryd.prog (ref11_Sum_C N) E 0) : Blk Tryd.prog (ref11_Sum_C N) E (List.range ref11_Sum_S8.ks.length) ref11_Sum_S8 (ref11_Sum_L.drop 0) (fun y => ref11_Sum N y.1.1 y.1.2.1) (ref11_Sum_K N) :=
  Blk.chunkAt hb 6 (X := (goK 0 [0, 1, 6, 7, 8] ref11_Sum_S1 (fun y => ref11_Sum_1 N y.1.1 y.1.2.1 y.1.2.2.1 y.2.1 y.2.2.1))) (NxOk.go hb (ref11_Sum_1_b N hb)) rfl (fun x => by kernel_rfl)
noncomputable def ref11_Sum_ctr (N : Nat) : Ctr := ⟨ref11_Sum_S8, ref11_Sum_S9.un [false, false], 0, (fun y => ref11_Sum N y.1.1 y.1.2.1)⟩
theorem ref11_Sum_ctrs (N : Nat) : CtrsOk Tryd.prog (ref11_Sum_C N) := ctrs_of (Γ := ref11_Sum_C N) (by
  intro p hp
  simp only [ref11_Sum_C, List.mem_cons, List.not_mem_nil, or_false] at hp
  rcases hp with rfl | rfl | rfl
  · exact ref11_clamp_ok N
  · exact ref11_carry_ok N
  · exact ref11_product_ok N)
theorem ref11_Sum_ok (N : Nat) : Ctr.ok Tryd.prog G_globs 197 (ref11_Sum_ctr N) :=
  ctr_fn (Γ := ref11_Sum_C N) (rfit := ref11_Sum_S9) (bs := [false, false]) (res := [4, 5]) (by kernel_rfl) (tys_ok G_tys_ok) (ref11_Sum_ctrs N) Tryd.func197 (by kernel_rfl) (by kernel_rfl) Tryd.ntmps197 (by kernel_rfl) (by kernel_rfl) (by kernel_rfl) (by kernel_rfl) (fun E hb => ref11_Sum_b N hb)
end Go.Proofs.YtofajgidjkjnpaaDoor
namespace Go.Proofs.YtofajgidjkjnpaaDoor
open Go
set_option maxRecDepth 100000
set_option linter.unusedVariables false
/-! ipsecgate/ipsecgateref12.Tag -/
abbrev ref12_Tag_R : Type := ((Bool × Unit) × ((List UInt8) × Unit))
noncomputable def ref12_Tag (N : Nat) (key_0 : (List UInt8)) (nonce_1 : (List UInt8)) (data_2 : (List UInt8)) (cipher_3 : (List UInt8)) : Option ref12_Tag_R :=
  Option.bind (ref10_Block N key_0 (0 : UInt32) nonce_1) fun y1 =>
  bif (!y1.1.1) then
    some ((false, ()), (([] : List UInt8), ()))
  else
    Option.bind (ref12_pad N data_2) fun y3 =>
    Option.bind (ref12_pad N cipher_3) fun y4 =>
    bif room (y3.2.1.length + y4.2.1.length) 1 then
    Option.bind (ref12_little N (iu64 (data_2.length : Int)) (y3.2.1 ++ y4.2.1)) fun y8 =>
    Option.bind (ref12_little N (iu64 (cipher_3.length : Int)) y8.2.1) fun y11 =>
    bif decide (0 ≤ (0 : Int)) && decide ((0 : Int) ≤ (32 : Int)) && decide ((32 : Int) ≤ (y1.2.1.length : Int)) && true then
    Option.bind (ref11_Sum N (cut y1.2.1 0 32) y11.2.1) fun y13 =>
    some ((y13.1.1, ()), (y13.2.1, ()))
    else none
    else none
noncomputable def ref12_Tag_C (N : Nat) : Ctx := ⟨41, G_tys, [(194, ref10_Block_ctr N), (195, ref12_pad_ctr N), (196, ref12_little_ctr N), (197, ref11_Sum_ctr N)], G_globs⟩
noncomputable def ref12_Tag_S0 : Spec := ⟨[.val (.sl .u8), .val (.sl .u8), .val (.sl .u8), .val (.sl .u8)], []⟩
noncomputable def ref12_Tag_S1 : Spec := ⟨[.row 0, .val .bool], [(.row 5 .u8, .pos 0)]⟩
noncomputable def ref12_Tag_K (_N : Nat) : XE → GS → Option ref12_Tag_R := retK 0 [8, 9] [false, false] ref12_Tag_S1
noncomputable def ref12_Tag_L : List Code := (bodyOf (some Tryd.f160))
theorem ref12_Tag_b {E : Env} (N : Nat) (hb : Base Tryd.prog (ref12_Tag_C N) E 0) : Blk Tryd.prog (ref12_Tag_C N) E (List.range ref12_Tag_S0.ks.length) ref12_Tag_S0 (ref12_Tag_L.drop 0) (fun y => ref12_Tag N y.1.1 y.1.2.1 y.1.2.2.1 y.1.2.2.2.1) (ref12_Tag_K N) :=
  Blk.chunkAt hb 8 (X := (ref12_Tag_K N .normal)) (NxOk.end (by kernel_rfl)) rfl (fun x => by kernel_rfl)
noncomputable def ref12_Tag_ctr (N : Nat) : Ctr := ⟨ref12_Tag_S0, ref12_Tag_S1.un [false, false], 0, (fun y => ref12_Tag N y.1.1 y.1.2.1 y.1.2.2.1 y.1.2.2.2.1)⟩
theorem ref12_Tag_ctrs (N : Nat) : CtrsOk Tryd.prog (ref12_Tag_C N) := ctrs_of (Γ := ref12_Tag_C N) (by
  intro p hp
  simp only [ref12_Tag_C, List.mem_cons, List.not_mem_nil, or_false] at hp
  rcases hp with rfl | rfl | rfl | rfl
  · exact ref10_Block_ok N
  · exact ref12_pad_ok N
  · exact ref12_little_ok N
  · exact ref11_Sum_ok N)
theorem ref12_Tag_ok (N : Nat) : Ctr.ok Tryd.prog G_globs 160 (ref12_Tag_ctr N) :=
  ctr_fn (Γ := ref12_Tag_C N) (rfit := ref12_Tag_S1) (bs := [false, false]) (res := [8, 9]) (by kernel_rfl) (tys_ok G_tys_ok) (ref12_Tag_ctrs N) Tryd.func160 (by kernel_rfl) (by kernel_rfl) Tryd.ntmps160 (by kernel_rfl) (by kernel_rfl) (by kernel_rfl) (by kernel_rfl) (fun E hb => ref12_Tag_b N hb)
end Go.Proofs.YtofajgidjkjnpaaDoor
namespace Go.Proofs.YtofajgidjkjnpaaDoor
open Go
set_option maxRecDepth 100000
set_option linter.unusedVariables false
/-! ipsecgate/ipsecgateref12.Seal -/
abbrev ref12_Seal_R : Type := ((Int × Unit) × ((List UInt8) × Unit))
noncomputable def ref12_Seal (N : Nat) (key_0 : (List UInt8)) (nonce_1 : (List UInt8)) (data_2 : (List UInt8)) (plain_3 : (List UInt8)) : Option ref12_Seal_R :=
  Option.bind (ref10_Xor N key_0 (1 : UInt32) nonce_1 plain_3) fun y1 =>
  bif (!y1.1.1) then
    some (((13 : Int), ()), (([] : List UInt8), ()))
  else
    Option.bind (ref12_Tag N key_0 nonce_1 data_2 y1.2.1) fun y3 =>
    bif room (y1.2.1.length + y3.2.1.length) 1 then
    some (((0 : Int), ()), ((y1.2.1 ++ y3.2.1), ()))
    else none
noncomputable def ref12_Seal_C (N : Nat) : Ctx := ⟨34, G_tys, [(159, ref10_Xor_ctr N), (160, ref12_Tag_ctr N)], G_globs⟩
noncomputable def ref12_Seal_S0 : Spec := ⟨[.val (.sl .u8), .val (.sl .u8), .val (.sl .u8), .val (.sl .u8)], []⟩
noncomputable def ref12_Seal_S1 : Spec := ⟨[.row 0, .val .i64], [(.row 5 .u8, .pos 0)]⟩
noncomputable def ref12_Seal_K (_N : Nat) : XE → GS → Option ref12_Seal_R := retK 0 [8, 9] [false, false] ref12_Seal_S1
noncomputable def ref12_Seal_L : List Code := (bodyOf (some Tryd.f102))
theorem ref12_Seal_b {E : Env} (N : Nat) (hb : Base Tryd.prog (ref12_Seal_C N) E 0) : Blk Tryd.prog (ref12_Seal_C N) E (List.range ref12_Seal_S0.ks.length) ref12_Seal_S0 (ref12_Seal_L.drop 0) (fun y => ref12_Seal N y.1.1 y.1.2.1 y.1.2.2.1 y.1.2.2.2.1) (ref12_Seal_K N) :=
  Blk.chunkAt hb 7 (X := (ref12_Seal_K N .normal)) (NxOk.end (by kernel_rfl)) rfl (fun x => by kernel_rfl)
noncomputable def ref12_Seal_ctr (N : Nat) : Ctr := ⟨ref12_Seal_S0, ref12_Seal_S1.un [false, false], 0, (fun y => ref12_Seal N y.1.1 y.1.2.1 y.1.2.2.1 y.1.2.2.2.1)⟩
theorem ref12_Seal_ctrs (N : Nat) : CtrsOk Tryd.prog (ref12_Seal_C N) := ctrs_of (Γ := ref12_Seal_C N) (by
  intro p hp
  simp only [ref12_Seal_C, List.mem_cons, List.not_mem_nil, or_false] at hp
  rcases hp with rfl | rfl
  · exact ref10_Xor_ok N
  · exact ref12_Tag_ok N)
theorem ref12_Seal_ok (N : Nat) : Ctr.ok Tryd.prog G_globs 102 (ref12_Seal_ctr N) :=
  ctr_fn (Γ := ref12_Seal_C N) (rfit := ref12_Seal_S1) (bs := [false, false]) (res := [8, 9]) (by kernel_rfl) (tys_ok G_tys_ok) (ref12_Seal_ctrs N) Tryd.func102 (by kernel_rfl) (by kernel_rfl) Tryd.ntmps102 (by kernel_rfl) (by kernel_rfl) (by kernel_rfl) (by kernel_rfl) (fun E hb => ref12_Seal_b N hb)
end Go.Proofs.YtofajgidjkjnpaaDoor
namespace Go.Proofs.YtofajgidjkjnpaaDoor
open Go
set_option maxRecDepth 100000
set_option linter.unusedVariables false
/-! ipsecgate/ipsecgateref24.Seal -/
abbrev ref24_Seal_R : Type := ((Int × Unit) × ((List UInt8) × Unit))
noncomputable def ref24_Seal_s3 (N : Nat) (key_0 : (List UInt8)) (spi_1 : UInt32) (number_2 : UInt64) (next_3 : Int) (payload_4 : (List UInt8)) (n_14 : Int) : Option (Lo (((List UInt8) × UInt32 × UInt64 × Int × (List UInt8) × Int × Unit) × (Unit)) (((List UInt8) × UInt32 × UInt64 × Int × (List UInt8) × Int × Unit) × (Unit)) ref24_Seal_R) :=
  bif (!(decide (((w64 ((w64 ((payload_4.length : Int) + n_14)) + (2 : Int))).tmod (4 : Int)) = (0 : Int)))) then
    some (.go ((key_0, spi_1, number_2, next_3, payload_4, (w64 (n_14 + (1 : Int))), ()), (())))
  else
    some (.br ((key_0, spi_1, number_2, next_3, payload_4, n_14, ()), (())))
noncomputable def ref24_Seal_s6 (N : Nat) (key_0 : (List UInt8)) (spi_1 : UInt32) (number_2 : UInt64) (next_3 : Int) (n_14 : Int) (k_16 : Int) (plain_15 : (List UInt8)) : Option (Lo (((List UInt8) × UInt32 × UInt64 × Int × Int × Int × Unit) × ((List UInt8) × Unit)) (((List UInt8) × UInt32 × UInt64 × Int × Int × Unit) × ((List UInt8) × Unit)) ref24_Seal_R) :=
  bif (decide (k_16 ≤ n_14)) then
    bif room (plain_15.length + ([(iu8 k_16)] : List UInt8).length) 1 then
    some (.go ((key_0, spi_1, number_2, next_3, n_14, (w64 (k_16 + (1 : Int))), ()), ((plain_15 ++ ([(iu8 k_16)] : List UInt8)), ())))
    else none
  else
    some (.br ((key_0, spi_1, number_2, next_3, n_14, ()), (plain_15, ())))
noncomputable def ref24_Seal_7 (N : Nat) (key_0 : (List UInt8)) (spi_1 : UInt32) (number_2 : UInt64) (next_3 : Int) (n_14 : Int) (plain_15 : (List UInt8)) : Option ref24_Seal_R :=
  bif room (plain_15.length + ([(iu8 n_14), (iu8 next_3)] : List UInt8).length) 1 then
  bif decide (0 ≤ (0 : Int)) && decide ((0 : Int) ≤ (32 : Int)) && decide ((32 : Int) ≤ (key_0.length : Int)) && true then
  bif decide (0 ≤ (32 : Int)) && decide ((32 : Int) ≤ (key_0.length : Int)) && decide ((key_0.length : Int) ≤ (key_0.length : Int)) && true then
  let x20 := cut key_0 32 key_0.length
  bif room (0 + x20.length) 1 then
  Option.bind (ref24_put N number_2 (8 : Int) x20) fun y21 =>
  Option.bind (ref24_put N spi_1.toUInt64 (4 : Int) ([] : List UInt8)) fun y22 =>
  Option.bind (ref24_put N number_2 (8 : Int) y22.2.1) fun y23 =>
  Option.bind (ref12_Seal N (cut key_0 0 32) y21.2.1 y23.2.1 (plain_15 ++ ([(iu8 n_14), (iu8 next_3)] : List UInt8))) fun y24 =>
  bif (!(decide (y24.1.1 = (0 : Int)))) then
    some ((y24.1.1, ()), (([] : List UInt8), ()))
  else
    Option.bind (ref24_put N spi_1.toUInt64 (4 : Int) ([] : List UInt8)) fun y26 =>
    Option.bind (ref24_put N number_2 (4 : Int) y26.2.1) fun y27 =>
    bif room (y27.2.1.length + y24.2.1.length) 1 then
    some (((0 : Int), ()), ((y27.2.1 ++ y24.2.1), ()))
    else none
  else none
  else none
  else none
  else none
noncomputable def ref24_Seal_5 (N : Nat) (key_0 : (List UInt8)) (spi_1 : UInt32) (number_2 : UInt64) (next_3 : Int) (n_14 : Int) (k_16 : Int) (plain_15 : (List UInt8)) : Option ref24_Seal_R :=
  loopK N (fun y => ref24_Seal_s6 N y.1.1 y.1.2.1 y.1.2.2.1 y.1.2.2.2.1 y.1.2.2.2.2.1 y.1.2.2.2.2.2.1 y.2.1) (fun (e : (((List UInt8) × UInt32 × UInt64 × Int × Int × Unit) × ((List UInt8) × Unit))) => ref24_Seal_7 N e.1.1 e.1.2.1 e.1.2.2.1 e.1.2.2.2.1 e.1.2.2.2.2.1 e.2.1) ((key_0, spi_1, number_2, next_3, n_14, k_16, ()), (plain_15, ()))
noncomputable def ref24_Seal_4 (N : Nat) (key_0 : (List UInt8)) (spi_1 : UInt32) (number_2 : UInt64) (next_3 : Int) (payload_4 : (List UInt8)) (n_14 : Int) : Option ref24_Seal_R :=
  bif room (0 + payload_4.length) 1 then
  ref24_Seal_5 N key_0 spi_1 number_2 next_3 n_14 (1 : Int) payload_4
  else none
noncomputable def ref24_Seal_2 (N : Nat) (key_0 : (List UInt8)) (spi_1 : UInt32) (number_2 : UInt64) (next_3 : Int) (payload_4 : (List UInt8)) (n_14 : Int) : Option ref24_Seal_R :=
  loopK N (fun y => ref24_Seal_s3 N y.1.1 y.1.2.1 y.1.2.2.1 y.1.2.2.2.1 y.1.2.2.2.2.1 y.1.2.2.2.2.2.1) (fun (e : (((List UInt8) × UInt32 × UInt64 × Int × (List UInt8) × Int × Unit) × (Unit))) => ref24_Seal_4 N e.1.1 e.1.2.1 e.1.2.2.1 e.1.2.2.2.1 e.1.2.2.2.2.1 e.1.2.2.2.2.2.1) ((key_0, spi_1, number_2, next_3, payload_4, n_14, ()), (()))
noncomputable def ref24_Seal_1 (N : Nat) (key_0 : (List UInt8)) (spi_1 : UInt32) (number_2 : UInt64) (next_3 : Int) (payload_4 : (List UInt8)) (extra_5 : Int) (t_39 : Bool) : Option ref24_Seal_R :=
  bif t_39 then
    some (((5 : Int), ()), (([] : List UInt8), ()))
  else
    bif (decide ((4096 : Int) < (payload_4.length : Int))) then
      some (((11 : Int), ()), (([] : List UInt8), ()))
    else
      ref24_Seal_2 N key_0 spi_1 number_2 next_3 payload_4 extra_5
noncomputable def ref24_Seal (N : Nat) (key_0 : (List UInt8)) (spi_1 : UInt32) (number_2 : UInt64) (next_3 : Int) (payload_4 : (List UInt8)) (extra_5 : Int) : Option ref24_Seal_R :=
  bif (!(decide ((key_0.length : Int) = (36 : Int)))) then
    some (((13 : Int), ()), (([] : List UInt8), ()))
  else
    bif (decide (next_3 < (0 : Int))) then
      ref24_Seal_1 N key_0 spi_1 number_2 next_3 payload_4 extra_5 true
    else
      bif (decide ((255 : Int) < next_3)) then
        ref24_Seal_1 N key_0 spi_1 number_2 next_3 payload_4 extra_5 true
      else
        bif (decide (extra_5 < (0 : Int))) then
          ref24_Seal_1 N key_0 spi_1 number_2 next_3 payload_4 extra_5 true
        else
          bif (decide ((250 : Int) < extra_5)) then
            ref24_Seal_1 N key_0 spi_1 number_2 next_3 payload_4 extra_5 true
          else
            ref24_Seal_1 N key_0 spi_1 number_2 next_3 payload_4 extra_5 (decide (number_2 = (0 : UInt64)))
noncomputable def ref24_Seal_C (N : Nat) : Ctx := ⟨99, G_tys, [(103, ref24_put_ctr N), (102, ref12_Seal_ctr N)], G_globs⟩
noncomputable def ref24_Seal_S0 : Spec := ⟨[.val (.sl .u8), .val .u32, .val .u64, .val .i64, .val (.sl .u8), .val .i64], []⟩
noncomputable def ref24_Seal_S1 : Spec := ⟨[.val (.sl .u8), .val .u32, .val .u64, .val .i64, .val .i64, .row 0, .val .i64], [(.row 5 .u8, .pos 5)]⟩
noncomputable def ref24_Seal_S2 : Spec := ⟨[.val (.sl .u8), .val .u32, .val .u64, .val .i64, .val .i64, .row 0], [(.row 5 .u8, .pos 5)]⟩
noncomputable def ref24_Seal_S3 : Spec := ⟨[.val (.sl .u8), .val .u32, .val .u64, .val .i64, .val (.sl .u8), .val .i64, .val .bool], []⟩
noncomputable def ref24_Seal_S4 : Spec := ⟨[.row 0, .val .i64], [(.row 5 .u8, .pos 0)]⟩
noncomputable def ref24_Seal_K (_N : Nat) : XE → GS → Option ref24_Seal_R := retK 0 [12, 13] [false, false] ref24_Seal_S4
noncomputable def ref24_Seal_L : List Code := (bodyOf (some Tryd.f30))
noncomputable def ref24_Seal_L3 : List Code := (loopOf (ref24_Seal_L[8]?))
noncomputable def ref24_Seal_L6 : List Code := (loopOf (ref24_Seal_L[11]?))
noncomputable def ref24_Seal_K3 (N : Nat) : XE → GS → Option (Lo (((List UInt8) × UInt32 × UInt64 × Int × (List UInt8) × Int × Unit) × (Unit)) (((List UInt8) × UInt32 × UInt64 × Int × (List UInt8) × Int × Unit) × (Unit)) ref24_Seal_R) := roundK (some 0) (fit 0 [0, 1, 2, 3, 4, 14] ref24_Seal_S0) (fit 0 [0, 1, 2, 3, 4, 14] ref24_Seal_S0) (ref24_Seal_K N)
noncomputable def ref24_Seal_K6 (N : Nat) : XE → GS → Option (Lo (((List UInt8) × UInt32 × UInt64 × Int × Int × Int × Unit) × ((List UInt8) × Unit)) (((List UInt8) × UInt32 × UInt64 × Int × Int × Unit) × ((List UInt8) × Unit)) ref24_Seal_R) := roundK (some 2) (fit 0 [0, 1, 2, 3, 14, 15, 16] ref24_Seal_S1) (fit 0 [0, 1, 2, 3, 14, 15] ref24_Seal_S2) (ref24_Seal_K N)
theorem ref24_Seal_s3_b {E : Env} (N : Nat) (hb : Base Tryd.prog (ref24_Seal_C N) E 0) : Blk Tryd.prog (ref24_Seal_C N) E [0, 1, 2, 3, 4, 14] ref24_Seal_S0 (ref24_Seal_L3.drop 0) (fun y => ref24_Seal_s3 N y.1.1 y.1.2.1 y.1.2.2.1 y.1.2.2.2.1 y.1.2.2.2.2.1 y.1.2.2.2.2.2.1) (ref24_Seal_K3 N) :=
  Blk.chunkAt hb 3 (X := (ref24_Seal_K3 N .normal)) (NxOk.end (by kernel_rfl)) rfl (fun x => by kernel_rfl)
theorem ref24_Seal_s6_b {E : Env} (N : Nat) (hb : Base Tryd.prog (ref24_Seal_C N) E 0) : Blk Tryd.prog (ref24_Seal_C N) E [0, 1, 2, 3, 14, 15, 16] ref24_Seal_S1 (ref24_Seal_L6.drop 0) (fun y => ref24_Seal_s6 N y.1.1 y.1.2.1 y.1.2.2.1 y.1.2.2.2.1 y.1.2.2.2.2.1 y.1.2.2.2.2.2.1 y.2.1) (ref24_Seal_K6 N) :=
  Blk.chunkAt hb 4 (X := (ref24_Seal_K6 N .normal)) (NxOk.end (by kernel_rfl)) rfl (fun x => by kernel_rfl)
theorem ref24_Seal_7_b {E : Env} (N : Nat) (hb : Base Tryd.prog (ref24_Seal_C N) E 0) : Blk Tryd.prog (ref24_Seal_C N) E [0, 1, 2, 3, 14, 15] ref24_Seal_S2 (ref24_Seal_L.drop 12) (fun y => ref24_Seal_7 N y.1.1 y.1.2.1 y.1.2.2.1 y.1.2.2.2.1 y.1.2.2.2.2.1 y.2.1) (ref24_Seal_K N) :=
  Blk.chunkAt hb 6 (X := (ref24_Seal_K N .normal)) (NxOk.end (by kernel_rfl)) rfl (fun x => by kernel_rfl)
theorem ref24_Seal_5_b {E : Env} (N : Nat) (hb : Base Tryd.prog (ref24_Seal_C N) E 0) : Blk Tryd.prog (ref24_Seal_C N) E [0, 1, 2, 3, 14, 15, 16] ref24_Seal_S1 (ref24_Seal_L.drop 11) (fun y => ref24_Seal_5 N y.1.1 y.1.2.1 y.1.2.2.1 y.1.2.2.2.1 y.1.2.2.2.2.1 y.1.2.2.2.2.2.1 y.2.1) (ref24_Seal_K N) :=
  Blk.loopAt (Nf := N) (hns := [0, 1, 2, 3, 14, 15, 16]) (ans := [0, 1, 2, 3, 14, 15]) (hc := ref24_Seal_S1) (ac := ref24_Seal_S2) (bid := 2) (step := (fun y => ref24_Seal_s6 N y.1.1 y.1.2.1 y.1.2.2.1 y.1.2.2.2.1 y.1.2.2.2.2.1 y.1.2.2.2.2.2.1 y.2.1)) (J := (fun e => (goK 0 [0, 1, 2, 3, 14, 15] ref24_Seal_S2 (fun y => ref24_Seal_7 N y.1.1 y.1.2.1 y.1.2.2.1 y.1.2.2.2.1 y.1.2.2.2.2.1 y.2.1)) (ref24_Seal_S2.st [0, 1, 2, 3, 14, 15] e))) hb (by kernel_rfl) (Blk.into (X := (goK 0 [0, 1, 2, 3, 14, 15] ref24_Seal_S2 (fun y => ref24_Seal_7 N y.1.1 y.1.2.1 y.1.2.2.1 y.1.2.2.2.1 y.1.2.2.2.2.1 y.2.1))) (NxOk.go hb (ref24_Seal_7_b N hb)) (fun x => by kernel_rfl)) (ref24_Seal_s6_b N hb) (fun x => by kernel_rfl)
theorem ref24_Seal_4_b {E : Env} (N : Nat) (hb : Base Tryd.prog (ref24_Seal_C N) E 0) : Blk Tryd.prog (ref24_Seal_C N) E [0, 1, 2, 3, 4, 14] ref24_Seal_S0 (ref24_Seal_L.drop 9) (fun y => ref24_Seal_4 N y.1.1 y.1.2.1 y.1.2.2.1 y.1.2.2.2.1 y.1.2.2.2.2.1 y.1.2.2.2.2.2.1) (ref24_Seal_K N) :=
  Blk.chunkAt hb 2 (X := (goK 0 [0, 1, 2, 3, 14, 15, 16] ref24_Seal_S1 (fun y => ref24_Seal_5 N y.1.1 y.1.2.1 y.1.2.2.1 y.1.2.2.2.1 y.1.2.2.2.2.1 y.1.2.2.2.2.2.1 y.2.1))) (NxOk.go hb (ref24_Seal_5_b N hb)) rfl (fun x => by kernel_rfl)
theorem ref24_Seal_2_b {E : Env} (N : Nat) (hb : Base Tryd.prog (ref24_Seal_C N) E 0) : Blk Tryd.prog (ref24_Seal_C N) E [0, 1, 2, 3, 4, 14] ref24_Seal_S0 (ref24_Seal_L.drop 8) (fun y => ref24_Seal_2 N y.1.1 y.1.2.1 y.1.2.2.1 y.1.2.2.2.1 y.1.2.2.2.2.1 y.1.2.2.2.2.2.1) (ref24_Seal_K N) :=
  Blk.loopAt (Nf := N) (hns := [0, 1, 2, 3, 4, 14]) (ans := [0, 1, 2, 3, 4, 14]) (hc := ref24_Seal_S0) (ac := ref24_Seal_S0) (bid := 0) (step := (fun y => ref24_Seal_s3 N y.1.1 y.1.2.1 y.1.2.2.1 y.1.2.2.2.1 y.1.2.2.2.2.1 y.1.2.2.2.2.2.1)) (J := (fun e => (goK 0 [0, 1, 2, 3, 4, 14] ref24_Seal_S0 (fun y => ref24_Seal_4 N y.1.1 y.1.2.1 y.1.2.2.1 y.1.2.2.2.1 y.1.2.2.2.2.1 y.1.2.2.2.2.2.1)) (ref24_Seal_S0.st [0, 1, 2, 3, 4, 14] e))) hb (by kernel_rfl) (Blk.into (X := (goK 0 [0, 1, 2, 3, 4, 14] ref24_Seal_S0 (fun y => ref24_Seal_4 N y.1.1 y.1.2.1 y.1.2.2.1 y.1.2.2.2.1 y.1.2.2.2.2.1 y.1.2.2.2.2.2.1))) (NxOk.go hb (ref24_Seal_4_b N hb)) (fun x => by kernel_rfl)) (ref24_Seal_s3_b N hb) (fun x => by kernel_rfl)
theorem ref24_Seal_1_b {E : Env} (N : Nat) (hb : Base Tryd.prog (ref24_Seal_C N) E 0) : Blk Tryd.prog (ref24_Seal_C N) E [0, 1, 2, 3, 4, 5, 39] ref24_Seal_S3 (ref24_Seal_L.drop 4) (fun y => ref24_Seal_1 N y.1.1 y.1.2.1 y.1.2.2.1 y.1.2.2.2.1 y.1.2.2.2.2.1 y.1.2.2.2.2.2.1 y.1.2.2.2.2.2.2.1) (ref24_Seal_K N) :=
  Blk.chunkAt hb 4 (X := (goK 0 [0, 1, 2, 3, 4, 14] ref24_Seal_S0 (fun y => ref24_Seal_2 N y.1.1 y.1.2.1 y.1.2.2.1 y.1.2.2.2.1 y.1.2.2.2.2.1 y.1.2.2.2.2.2.1))) (NxOk.go hb (ref24_Seal_2_b N hb)) rfl (fun x => by kernel_rfl)
theorem ref24_Seal_b {E : Env} (N : Nat) (hb : Base Tryd.prog (ref24_Seal_C N) E 0) : Blk Tryd.prog (ref24_Seal_C N) E (List.range ref24_Seal_S0.ks.length) ref24_Seal_S0 (ref24_Seal_L.drop 0) (fun y => ref24_Seal N y.1.1 y.1.2.1 y.1.2.2.1 y.1.2.2.2.1 y.1.2.2.2.2.1 y.1.2.2.2.2.2.1) (ref24_Seal_K N) :=
  Blk.chunkAt hb 4 (X := (goK 0 [0, 1, 2, 3, 4, 5, 39] ref24_Seal_S3 (fun y => ref24_Seal_1 N y.1.1 y.1.2.1 y.1.2.2.1 y.1.2.2.2.1 y.1.2.2.2.2.1 y.1.2.2.2.2.2.1 y.1.2.2.2.2.2.2.1))) (NxOk.go hb (ref24_Seal_1_b N hb)) rfl (fun x => by kernel_rfl)
noncomputable def ref24_Seal_ctr (N : Nat) : Ctr := ⟨ref24_Seal_S0, ref24_Seal_S4.un [false, false], 0, (fun y => ref24_Seal N y.1.1 y.1.2.1 y.1.2.2.1 y.1.2.2.2.1 y.1.2.2.2.2.1 y.1.2.2.2.2.2.1)⟩
theorem ref24_Seal_ctrs (N : Nat) : CtrsOk Tryd.prog (ref24_Seal_C N) := ctrs_of (Γ := ref24_Seal_C N) (by
  intro p hp
  simp only [ref24_Seal_C, List.mem_cons, List.not_mem_nil, or_false] at hp
  rcases hp with rfl | rfl
  · exact ref24_put_ok N
  · exact ref12_Seal_ok N)
theorem ref24_Seal_ok (N : Nat) : Ctr.ok Tryd.prog G_globs 30 (ref24_Seal_ctr N) :=
  ctr_fn (Γ := ref24_Seal_C N) (rfit := ref24_Seal_S4) (bs := [false, false]) (res := [12, 13]) (by kernel_rfl) (tys_ok G_tys_ok) (ref24_Seal_ctrs N) Tryd.func30 (by kernel_rfl) (by kernel_rfl) Tryd.ntmps30 (by kernel_rfl) (by kernel_rfl) (by kernel_rfl) (by kernel_rfl) (fun E hb => ref24_Seal_b N hb)
end Go.Proofs.YtofajgidjkjnpaaDoor
namespace Go.Proofs.YtofajgidjkjnpaaDoor
open Go
set_option maxRecDepth 100000
set_option linter.unusedVariables false
/-! ipsecgate/ipsecgatedraw.Mod -/
abbrev draw_Mod_R : Type := ((Int × Unit) × (Unit))
noncomputable def draw_Mod (N : Nat) (x_0 : Int) (n_1 : Int) : Option draw_Mod_R :=
  bif !(decide (n_1 = 0)) then
  bif (decide ((x_0.tmod n_1) < (0 : Int))) then
    some (((w64 ((x_0.tmod n_1) + n_1)), ()), (()))
  else
    some (((x_0.tmod n_1), ()), (()))
  else none
noncomputable def draw_Mod_C (N : Nat) : Ctx := ⟨14, G_tys, [], G_globs⟩
noncomputable def draw_Mod_S0 : Spec := ⟨[.val .i64, .val .i64], []⟩
noncomputable def draw_Mod_S1 : Spec := ⟨[.val .i64], []⟩
noncomputable def draw_Mod_K (_N : Nat) : XE → GS → Option draw_Mod_R := retK 0 [4] [false] draw_Mod_S1
noncomputable def draw_Mod_L : List Code := (bodyOf (some Tryd.f28))
theorem draw_Mod_b {E : Env} (N : Nat) (hb : Base Tryd.prog (draw_Mod_C N) E 0) : Blk Tryd.prog (draw_Mod_C N) E (List.range draw_Mod_S0.ks.length) draw_Mod_S0 (draw_Mod_L.drop 0) (fun y => draw_Mod N y.1.1 y.1.2.1) (draw_Mod_K N) :=
  Blk.chunkAt hb 6 (X := (draw_Mod_K N .normal)) (NxOk.end (by kernel_rfl)) rfl (fun x => by kernel_rfl)
noncomputable def draw_Mod_ctr (N : Nat) : Ctr := ⟨draw_Mod_S0, draw_Mod_S1.un [false], 0, (fun y => draw_Mod N y.1.1 y.1.2.1)⟩
theorem draw_Mod_ctrs (N : Nat) : CtrsOk Tryd.prog (draw_Mod_C N) := ctrs_nil rfl
theorem draw_Mod_ok (N : Nat) : Ctr.ok Tryd.prog G_globs 28 (draw_Mod_ctr N) :=
  ctr_fn (Γ := draw_Mod_C N) (rfit := draw_Mod_S1) (bs := [false]) (res := [4]) (by kernel_rfl) (tys_ok G_tys_ok) (draw_Mod_ctrs N) Tryd.func28 (by kernel_rfl) (by kernel_rfl) Tryd.ntmps28 (by kernel_rfl) (by kernel_rfl) (by kernel_rfl) (by kernel_rfl) (fun E hb => draw_Mod_b N hb)
end Go.Proofs.YtofajgidjkjnpaaDoor
namespace Go.Proofs.YtofajgidjkjnpaaDoor
open Go
set_option maxRecDepth 100000
set_option linter.unusedVariables false
/-! ipsecgate/ipsecgateref24.get -/
abbrev ref24_get_R : Type := ((UInt64 × Unit) × (Unit))
noncomputable def ref24_get_s2 (N : Nat) (b_0 : (List UInt8)) (v_3 : UInt64) (i_4 : Int) : Option (Lo (((List UInt8) × UInt64 × Int × Unit) × (Unit)) ((UInt64 × Unit) × (Unit)) ref24_get_R) :=
  bif (decide (i_4 < (b_0.length : Int))) then
    bif inR i_4 b_0.length then
    some (.go ((b_0, ((shl64 v_3 8) ||| (b_0.getD i_4.toNat (0 : UInt8)).toUInt64), (w64 (i_4 + (1 : Int))), ()), (())))
    else none
  else
    some (.br ((v_3, ()), (())))
noncomputable def ref24_get_3 (N : Nat) (v_3 : UInt64) : Option ref24_get_R :=
  some ((v_3, ()), (()))
noncomputable def ref24_get_1 (N : Nat) (b_0 : (List UInt8)) (v_3 : UInt64) (i_4 : Int) : Option ref24_get_R :=
  loopK N (fun y => ref24_get_s2 N y.1.1 y.1.2.1 y.1.2.2.1) (fun (e : ((UInt64 × Unit) × (Unit))) => ref24_get_3 N e.1.1) ((b_0, v_3, i_4, ()), (()))
noncomputable def ref24_get (N : Nat) (b_0 : (List UInt8)) : Option ref24_get_R :=
  ref24_get_1 N b_0 (0 : UInt64) (0 : Int)
noncomputable def ref24_get_C (N : Nat) : Ctx := ⟨20, G_tys, [], G_globs⟩
noncomputable def ref24_get_S0 : Spec := ⟨[.val (.sl .u8), .val .u64, .val .i64], []⟩
noncomputable def ref24_get_S1 : Spec := ⟨[.val .u64], []⟩
noncomputable def ref24_get_S2 : Spec := ⟨[.val (.sl .u8)], []⟩
noncomputable def ref24_get_K (_N : Nat) : XE → GS → Option ref24_get_R := retK 0 [2] [false] ref24_get_S1
noncomputable def ref24_get_L : List Code := (bodyOf (some Tryd.f105))
noncomputable def ref24_get_L2 : List Code := (loopOf (ref24_get_L[3]?))
noncomputable def ref24_get_K2 (N : Nat) : XE → GS → Option (Lo (((List UInt8) × UInt64 × Int × Unit) × (Unit)) ((UInt64 × Unit) × (Unit)) ref24_get_R) := roundK (some 0) (fit 0 [0, 3, 4] ref24_get_S0) (fit 0 [3] ref24_get_S1) (ref24_get_K N)
theorem ref24_get_s2_b {E : Env} (N : Nat) (hb : Base Tryd.prog (ref24_get_C N) E 0) : Blk Tryd.prog (ref24_get_C N) E [0, 3, 4] ref24_get_S0 (ref24_get_L2.drop 0) (fun y => ref24_get_s2 N y.1.1 y.1.2.1 y.1.2.2.1) (ref24_get_K2 N) :=
  Blk.chunkAt hb 4 (X := (ref24_get_K2 N .normal)) (NxOk.end (by kernel_rfl)) rfl (fun x => by kernel_rfl)
theorem ref24_get_3_b {E : Env} (N : Nat) (hb : Base Tryd.prog (ref24_get_C N) E 0) : Blk Tryd.prog (ref24_get_C N) E [3] ref24_get_S1 (ref24_get_L.drop 4) (fun y => ref24_get_3 N y.1.1) (ref24_get_K N) :=
  Blk.chunkAt hb 2 (X := (ref24_get_K N .normal)) (NxOk.end (by kernel_rfl)) rfl (fun x => by kernel_rfl)
theorem ref24_get_1_b {E : Env} (N : Nat) (hb : Base Tryd.prog (ref24_get_C N) E 0) : Blk Tryd.prog (ref24_get_C N) E [0, 3, 4] ref24_get_S0 (ref24_get_L.drop 3) (fun y => ref24_get_1 N y.1.1 y.1.2.1 y.1.2.2.1) (ref24_get_K N) :=
  Blk.loopAt (Nf := N) (hns := [0, 3, 4]) (ans := [3]) (hc := ref24_get_S0) (ac := ref24_get_S1) (bid := 0) (step := (fun y => ref24_get_s2 N y.1.1 y.1.2.1 y.1.2.2.1)) (J := (fun e => (goK 0 [3] ref24_get_S1 (fun y => ref24_get_3 N y.1.1)) (ref24_get_S1.st [3] e))) hb (by kernel_rfl) (Blk.into (X := (goK 0 [3] ref24_get_S1 (fun y => ref24_get_3 N y.1.1))) (NxOk.go hb (ref24_get_3_b N hb)) (fun x => by kernel_rfl)) (ref24_get_s2_b N hb) (fun x => by kernel_rfl)
theorem ref24_get_b {E : Env} (N : Nat) (hb : Base Tryd.prog (ref24_get_C N) E 0) : Blk Tryd.prog (ref24_get_C N) E (List.range ref24_get_S2.ks.length) ref24_get_S2 (ref24_get_L.drop 0) (fun y => ref24_get N y.1.1) (ref24_get_K N) :=
  Blk.chunkAt hb 3 (X := (goK 0 [0, 3, 4] ref24_get_S0 (fun y => ref24_get_1 N y.1.1 y.1.2.1 y.1.2.2.1))) (NxOk.go hb (ref24_get_1_b N hb)) rfl (fun x => by kernel_rfl)
noncomputable def ref24_get_ctr (N : Nat) : Ctr := ⟨ref24_get_S2, ref24_get_S1.un [false], 0, (fun y => ref24_get N y.1.1)⟩
theorem ref24_get_ctrs (N : Nat) : CtrsOk Tryd.prog (ref24_get_C N) := ctrs_nil rfl
theorem ref24_get_ok (N : Nat) : Ctr.ok Tryd.prog G_globs 105 (ref24_get_ctr N) :=
  ctr_fn (Γ := ref24_get_C N) (rfit := ref24_get_S1) (bs := [false]) (res := [2]) (by kernel_rfl) (tys_ok G_tys_ok) (ref24_get_ctrs N) Tryd.func105 (by kernel_rfl) (by kernel_rfl) Tryd.ntmps105 (by kernel_rfl) (by kernel_rfl) (by kernel_rfl) (by kernel_rfl) (fun E hb => ref24_get_b N hb)
end Go.Proofs.YtofajgidjkjnpaaDoor
namespace Go.Proofs.YtofajgidjkjnpaaDoor
open Go
set_option maxRecDepth 100000
set_option linter.unusedVariables false
/-! ipsecgate/ipsecgateref01.Compare -/
abbrev ref01_Compare_R : Type := ((Int × Unit) × (Unit))
noncomputable def ref01_Compare_3 (N : Nat) (a_0 : (List UInt8)) (b_1 : (List UInt8)) (i_5 : Int) (t_15 : Bool) : Option (Lo (((List UInt8) × (List UInt8) × Int × Unit) × (Unit)) (((List UInt8) × (List UInt8) × Unit) × (Unit)) ref01_Compare_R) :=
  bif t_15 then
    bif inR i_5 a_0.length then
    bif inR i_5 b_1.length then
    bif (decide ((a_0.getD i_5.toNat (0 : UInt8)) < (b_1.getD i_5.toNat (0 : UInt8)))) then
      some (.rt (((-1 : Int), ()), (())))
    else
      bif inR i_5 a_0.length then
      bif inR i_5 b_1.length then
      bif (decide ((b_1.getD i_5.toNat (0 : UInt8)) < (a_0.getD i_5.toNat (0 : UInt8)))) then
        some (.rt (((1 : Int), ()), (())))
      else
        some (.go ((a_0, b_1, (w64 (i_5 + (1 : Int))), ()), (())))
      else none
      else none
    else none
    else none
  else
    some (.br ((a_0, b_1, ()), (())))
noncomputable def ref01_Compare_s2 (N : Nat) (a_0 : (List UInt8)) (b_1 : (List UInt8)) (i_5 : Int) : Option (Lo (((List UInt8) × (List UInt8) × Int × Unit) × (Unit)) (((List UInt8) × (List UInt8) × Unit) × (Unit)) ref01_Compare_R) :=
  bif (decide (i_5 < (a_0.length : Int))) then
    ref01_Compare_3 N a_0 b_1 i_5 (decide (i_5 < (b_1.length : Int)))
  else
    ref01_Compare_3 N a_0 b_1 i_5 false
noncomputable def ref01_Compare_4 (N : Nat) (a_0 : (List UInt8)) (b_1 : (List UInt8)) : Option ref01_Compare_R :=
  bif (decide ((a_0.length : Int) < (b_1.length : Int))) then
    some (((-1 : Int), ()), (()))
  else
    bif (decide ((b_1.length : Int) < (a_0.length : Int))) then
      some (((1 : Int), ()), (()))
    else
      some (((0 : Int), ()), (()))
noncomputable def ref01_Compare_1 (N : Nat) (a_0 : (List UInt8)) (b_1 : (List UInt8)) (i_5 : Int) : Option ref01_Compare_R :=
  loopK N (fun y => ref01_Compare_s2 N y.1.1 y.1.2.1 y.1.2.2.1) (fun (e : (((List UInt8) × (List UInt8) × Unit) × (Unit))) => ref01_Compare_4 N e.1.1 e.1.2.1) ((a_0, b_1, i_5, ()), (()))
noncomputable def ref01_Compare (N : Nat) (a_0 : (List UInt8)) (b_1 : (List UInt8)) : Option ref01_Compare_R :=
  ref01_Compare_1 N a_0 b_1 (0 : Int)
noncomputable def ref01_Compare_C (N : Nat) : Ctx := ⟨48, G_tys, [], G_globs⟩
noncomputable def ref01_Compare_S0 : Spec := ⟨[.val (.sl .u8), .val (.sl .u8), .val .i64, .val .bool], []⟩
noncomputable def ref01_Compare_S1 : Spec := ⟨[.val (.sl .u8), .val (.sl .u8), .val .i64], []⟩
noncomputable def ref01_Compare_S2 : Spec := ⟨[.val (.sl .u8), .val (.sl .u8)], []⟩
noncomputable def ref01_Compare_S3 : Spec := ⟨[.val .i64], []⟩
noncomputable def ref01_Compare_K (_N : Nat) : XE → GS → Option ref01_Compare_R := retK 0 [4] [false] ref01_Compare_S3
noncomputable def ref01_Compare_L : List Code := (bodyOf (some Tryd.f95))
noncomputable def ref01_Compare_L2 : List Code := (loopOf (ref01_Compare_L[2]?))
noncomputable def ref01_Compare_K2 (N : Nat) : XE → GS → Option (Lo (((List UInt8) × (List UInt8) × Int × Unit) × (Unit)) (((List UInt8) × (List UInt8) × Unit) × (Unit)) ref01_Compare_R) := roundK (some 0) (fit 0 [0, 1, 5] ref01_Compare_S1) (fit 0 [0, 1] ref01_Compare_S2) (ref01_Compare_K N)
theorem ref01_Compare_3_b {E : Env} (N : Nat) (hb : Base Tryd.prog (ref01_Compare_C N) E 0) : Blk Tryd.prog (ref01_Compare_C N) E [0, 1, 5, 15] ref01_Compare_S0 (ref01_Compare_L2.drop 1) (fun y => ref01_Compare_3 N y.1.1 y.1.2.1 y.1.2.2.1 y.1.2.2.2.1) (ref01_Compare_K2 N) :=
  Blk.chunkAt hb 3 (X := (ref01_Compare_K2 N .normal)) (NxOk.end (by kernel_rfl)) rfl (fun x => by kernel_rfl)
theorem ref01_Compare_s2_b {E : Env} (N : Nat) (hb : Base Tryd.prog (ref01_Compare_C N) E 0) : Blk Tryd.prog (ref01_Compare_C N) E [0, 1, 5] ref01_Compare_S1 (ref01_Compare_L2.drop 0) (fun y => ref01_Compare_s2 N y.1.1 y.1.2.1 y.1.2.2.1) (ref01_Compare_K2 N) :=
  Blk.chunkAt hb 1 (X := (goK 0 [0, 1, 5, 15] ref01_Compare_S0 (fun y => ref01_Compare_3 N y.1.1 y.1.2.1 y.1.2.2.1 y.1.2.2.2.1))) (NxOk.go hb (ref01_Compare_3_b N hb)) rfl (fun x => by kernel_rfl)
theorem ref01_Compare_4_b {E : Env} (N : Nat) (hb : Base Tryd.prog (ref01_Compare_C N) E 0) : Blk Tryd.prog (ref01_Compare_C N) E [0, 1] ref01_Compare_S2 (ref01_Compare_L.drop 3) (fun y => ref01_Compare_4 N y.1.1 y.1.2.1) (ref01_Compare_K N) :=
  Blk.chunkAt hb 3 (X := (ref01_Compare_K N .normal)) (NxOk.end (by kernel_rfl)) rfl (fun x => by kernel_rfl)
theorem ref01_Compare_1_b {E : Env} (N : Nat) (hb : Base Tryd.prog (ref01_Compare_C N) E 0) : Blk Tryd.prog (ref01_Compare_C N) E [0, 1, 5] ref01_Compare_S1 (ref01_Compare_L.drop 2) (fun y => ref01_Compare_1 N y.1.1 y.1.2.1 y.1.2.2.1) (ref01_Compare_K N) :=
  Blk.loopAt (Nf := N) (hns := [0, 1, 5]) (ans := [0, 1]) (hc := ref01_Compare_S1) (ac := ref01_Compare_S2) (bid := 0) (step := (fun y => ref01_Compare_s2 N y.1.1 y.1.2.1 y.1.2.2.1)) (J := (fun e => (goK 0 [0, 1] ref01_Compare_S2 (fun y => ref01_Compare_4 N y.1.1 y.1.2.1)) (ref01_Compare_S2.st [0, 1] e))) hb (by kernel_rfl) (Blk.into (X := (goK 0 [0, 1] ref01_Compare_S2 (fun y => ref01_Compare_4 N y.1.1 y.1.2.1))) (NxOk.go hb (ref01_Compare_4_b N hb)) (fun x => by kernel_rfl)) (ref01_Compare_s2_b N hb) (fun x => by kernel_rfl)
theorem ref01_Compare_b {E : Env} (N : Nat) (hb : Base Tryd.prog (ref01_Compare_C N) E 0) : Blk Tryd.prog (ref01_Compare_C N) E (List.range ref01_Compare_S2.ks.length) ref01_Compare_S2 (ref01_Compare_L.drop 0) (fun y => ref01_Compare N y.1.1 y.1.2.1) (ref01_Compare_K N) :=
  Blk.chunkAt hb 2 (X := (goK 0 [0, 1, 5] ref01_Compare_S1 (fun y => ref01_Compare_1 N y.1.1 y.1.2.1 y.1.2.2.1))) (NxOk.go hb (ref01_Compare_1_b N hb)) rfl (fun x => by kernel_rfl)
noncomputable def ref01_Compare_ctr (N : Nat) : Ctr := ⟨ref01_Compare_S2, ref01_Compare_S3.un [false], 0, (fun y => ref01_Compare N y.1.1 y.1.2.1)⟩
theorem ref01_Compare_ctrs (N : Nat) : CtrsOk Tryd.prog (ref01_Compare_C N) := ctrs_nil rfl
theorem ref01_Compare_ok (N : Nat) : Ctr.ok Tryd.prog G_globs 95 (ref01_Compare_ctr N) :=
  ctr_fn (Γ := ref01_Compare_C N) (rfit := ref01_Compare_S3) (bs := [false]) (res := [4]) (by kernel_rfl) (tys_ok G_tys_ok) (ref01_Compare_ctrs N) Tryd.func95 (by kernel_rfl) (by kernel_rfl) Tryd.ntmps95 (by kernel_rfl) (by kernel_rfl) (by kernel_rfl) (by kernel_rfl) (fun E hb => ref01_Compare_b N hb)
end Go.Proofs.YtofajgidjkjnpaaDoor
namespace Go.Proofs.YtofajgidjkjnpaaDoor
open Go
set_option maxRecDepth 100000
set_option linter.unusedVariables false
/-! ipsecgate/ipsecgateref01.Equal -/
abbrev ref01_Equal_R : Type := ((Bool × Unit) × (Unit))
noncomputable def ref01_Equal (N : Nat) (a_0 : (List UInt8)) (b_1 : (List UInt8)) : Option ref01_Equal_R :=
  Option.bind (ref01_Compare N a_0 b_1) fun y1 =>
  some (((decide (y1.1.1 = (0 : Int))), ()), (()))
noncomputable def ref01_Equal_C (N : Nat) : Ctx := ⟨9, G_tys, [(95, ref01_Compare_ctr N)], G_globs⟩
noncomputable def ref01_Equal_S0 : Spec := ⟨[.val (.sl .u8), .val (.sl .u8)], []⟩
noncomputable def ref01_Equal_S1 : Spec := ⟨[.val .bool], []⟩
noncomputable def ref01_Equal_K (_N : Nat) : XE → GS → Option ref01_Equal_R := retK 0 [4] [false] ref01_Equal_S1
noncomputable def ref01_Equal_L : List Code := (bodyOf (some Tryd.f21))
theorem ref01_Equal_b {E : Env} (N : Nat) (hb : Base Tryd.prog (ref01_Equal_C N) E 0) : Blk Tryd.prog (ref01_Equal_C N) E (List.range ref01_Equal_S0.ks.length) ref01_Equal_S0 (ref01_Equal_L.drop 0) (fun y => ref01_Equal N y.1.1 y.1.2.1) (ref01_Equal_K N) :=
  Blk.chunkAt hb 3 (X := (ref01_Equal_K N .normal)) (NxOk.end (by kernel_rfl)) rfl (fun x => by kernel_rfl)
noncomputable def ref01_Equal_ctr (N : Nat) : Ctr := ⟨ref01_Equal_S0, ref01_Equal_S1.un [false], 0, (fun y => ref01_Equal N y.1.1 y.1.2.1)⟩
theorem ref01_Equal_ctrs (N : Nat) : CtrsOk Tryd.prog (ref01_Equal_C N) := ctrs_of (Γ := ref01_Equal_C N) (by
  intro p hp
  simp only [ref01_Equal_C, List.mem_cons, List.not_mem_nil, or_false] at hp
  rcases hp with rfl
  · exact ref01_Compare_ok N)
theorem ref01_Equal_ok (N : Nat) : Ctr.ok Tryd.prog G_globs 21 (ref01_Equal_ctr N) :=
  ctr_fn (Γ := ref01_Equal_C N) (rfit := ref01_Equal_S1) (bs := [false]) (res := [4]) (by kernel_rfl) (tys_ok G_tys_ok) (ref01_Equal_ctrs N) Tryd.func21 (by kernel_rfl) (by kernel_rfl) Tryd.ntmps21 (by kernel_rfl) (by kernel_rfl) (by kernel_rfl) (by kernel_rfl) (fun E hb => ref01_Equal_b N hb)
end Go.Proofs.YtofajgidjkjnpaaDoor
namespace Go.Proofs.YtofajgidjkjnpaaDoor
open Go
set_option maxRecDepth 100000
set_option linter.unusedVariables false
/-! ipsecgate/ipsecgateref12.Open -/
abbrev ref12_Open_R : Type := ((Int × Unit) × ((List UInt8) × Unit))
noncomputable def ref12_Open_1 (N : Nat) (key_0 : (List UInt8)) (nonce_1 : (List UInt8)) (data_2 : (List UInt8)) (sealed_3 : (List UInt8)) (t_22 : Bool) : Option ref12_Open_R :=
  bif t_22 then
    some (((13 : Int), ()), (([] : List UInt8), ()))
  else
    bif (decide ((sealed_3.length : Int) < (16 : Int))) then
      some (((1 : Int), ()), (([] : List UInt8), ()))
    else
      let x6 := w64 ((sealed_3.length : Int) - (16 : Int))
      bif decide (0 ≤ (0 : Int)) && decide ((0 : Int) ≤ x6) && decide (x6 ≤ (sealed_3.length : Int)) && true then
      Option.bind (ref12_Tag N key_0 nonce_1 data_2 (cut sealed_3 0 x6.toNat)) fun y8 =>
      bif decide (0 ≤ x6) && decide (x6 ≤ (sealed_3.length : Int)) && decide ((sealed_3.length : Int) ≤ (sealed_3.length : Int)) && true then
      Option.bind (ref01_Equal N y8.2.1 (cut sealed_3 x6.toNat sealed_3.length)) fun y10 =>
      bif (!y10.1.1) then
        some (((12 : Int), ()), (([] : List UInt8), ()))
      else
        bif decide (0 ≤ (0 : Int)) && decide ((0 : Int) ≤ x6) && decide (x6 ≤ (sealed_3.length : Int)) && true then
        Option.bind (ref10_Xor N key_0 (1 : UInt32) nonce_1 (cut sealed_3 0 x6.toNat)) fun y13 =>
        some (((0 : Int), ()), (y13.2.1, ()))
        else none
      else none
      else none
noncomputable def ref12_Open (N : Nat) (key_0 : (List UInt8)) (nonce_1 : (List UInt8)) (data_2 : (List UInt8)) (sealed_3 : (List UInt8)) : Option ref12_Open_R :=
  bif (!(decide ((key_0.length : Int) = (32 : Int)))) then
    ref12_Open_1 N key_0 nonce_1 data_2 sealed_3 true
  else
    ref12_Open_1 N key_0 nonce_1 data_2 sealed_3 (!(decide ((nonce_1.length : Int) = (12 : Int))))
noncomputable def ref12_Open_C (N : Nat) : Ctx := ⟨55, G_tys, [(160, ref12_Tag_ctr N), (21, ref01_Equal_ctr N), (159, ref10_Xor_ctr N)], G_globs⟩
noncomputable def ref12_Open_S0 : Spec := ⟨[.val (.sl .u8), .val (.sl .u8), .val (.sl .u8), .val (.sl .u8), .val .bool], []⟩
noncomputable def ref12_Open_S1 : Spec := ⟨[.val (.sl .u8), .val (.sl .u8), .val (.sl .u8), .val (.sl .u8)], []⟩
noncomputable def ref12_Open_S2 : Spec := ⟨[.row 0, .val .i64], [(.row 5 .u8, .pos 0)]⟩
noncomputable def ref12_Open_K (_N : Nat) : XE → GS → Option ref12_Open_R := retK 0 [8, 9] [false, false] ref12_Open_S2
noncomputable def ref12_Open_L : List Code := (bodyOf (some Tryd.f106))
theorem ref12_Open_1_b {E : Env} (N : Nat) (hb : Base Tryd.prog (ref12_Open_C N) E 0) : Blk Tryd.prog (ref12_Open_C N) E [0, 1, 2, 3, 22] ref12_Open_S0 (ref12_Open_L.drop 2) (fun y => ref12_Open_1 N y.1.1 y.1.2.1 y.1.2.2.1 y.1.2.2.2.1 y.1.2.2.2.2.1) (ref12_Open_K N) :=
  Blk.chunkAt hb 10 (X := (ref12_Open_K N .normal)) (NxOk.end (by kernel_rfl)) rfl (fun x => by kernel_rfl)
theorem ref12_Open_b {E : Env} (N : Nat) (hb : Base Tryd.prog (ref12_Open_C N) E 0) : Blk Tryd.prog (ref12_Open_C N) E (List.range ref12_Open_S1.ks.length) ref12_Open_S1 (ref12_Open_L.drop 0) (fun y => ref12_Open N y.1.1 y.1.2.1 y.1.2.2.1 y.1.2.2.2.1) (ref12_Open_K N) :=
  Blk.chunkAt hb 2 (X := (goK 0 [0, 1, 2, 3, 22] ref12_Open_S0 (fun y => ref12_Open_1 N y.1.1 y.1.2.1 y.1.2.2.1 y.1.2.2.2.1 y.1.2.2.2.2.1))) (NxOk.go hb (ref12_Open_1_b N hb)) rfl (fun x => by kernel_rfl)
noncomputable def ref12_Open_ctr (N : Nat) : Ctr := ⟨ref12_Open_S1, ref12_Open_S2.un [false, false], 0, (fun y => ref12_Open N y.1.1 y.1.2.1 y.1.2.2.1 y.1.2.2.2.1)⟩
theorem ref12_Open_ctrs (N : Nat) : CtrsOk Tryd.prog (ref12_Open_C N) := ctrs_of (Γ := ref12_Open_C N) (by
  intro p hp
  simp only [ref12_Open_C, List.mem_cons, List.not_mem_nil, or_false] at hp
  rcases hp with rfl | rfl | rfl
  · exact ref12_Tag_ok N
  · exact ref01_Equal_ok N
  · exact ref10_Xor_ok N)
theorem ref12_Open_ok (N : Nat) : Ctr.ok Tryd.prog G_globs 106 (ref12_Open_ctr N) :=
  ctr_fn (Γ := ref12_Open_C N) (rfit := ref12_Open_S2) (bs := [false, false]) (res := [8, 9]) (by kernel_rfl) (tys_ok G_tys_ok) (ref12_Open_ctrs N) Tryd.func106 (by kernel_rfl) (by kernel_rfl) Tryd.ntmps106 (by kernel_rfl) (by kernel_rfl) (by kernel_rfl) (by kernel_rfl) (fun E hb => ref12_Open_b N hb)
end Go.Proofs.YtofajgidjkjnpaaDoor
namespace Go.Proofs.YtofajgidjkjnpaaDoor
open Go
set_option maxRecDepth 100000
set_option linter.unusedVariables false
/-! ipsecgate/ipsecgateref24.Open -/
abbrev ref24_Open_R : Type := ((Int × Int × Unit) × ((List UInt8) × Unit))
noncomputable def ref24_Open_s3 (N : Nat) (plain_9 : (List UInt8)) (n_11 : Int) (end_12 : Int) (k_13 : Int) : Option (Lo (((List UInt8) × Int × Int × Int × Unit) × (Unit)) (((List UInt8) × Int × Unit) × (Unit)) ref24_Open_R) :=
  bif (decide (k_13 ≤ n_11)) then
    let x28 := w64 ((w64 (end_12 + k_13)) - (1 : Int))
    bif inR x28 plain_9.length then
    bif (!(decide ((plain_9.getD x28.toNat (0 : UInt8)) = (iu8 k_13)))) then
      some (.rt (((0 : Int), (4 : Int), ()), (([] : List UInt8), ())))
    else
      some (.go ((plain_9, n_11, end_12, (w64 (k_13 + (1 : Int))), ()), (())))
    else none
  else
    some (.br ((plain_9, end_12, ()), (())))
noncomputable def ref24_Open_4 (N : Nat) (plain_9 : (List UInt8)) (end_12 : Int) : Option ref24_Open_R :=
  bif decide (0 ≤ (0 : Int)) && decide ((0 : Int) ≤ end_12) && decide (end_12 ≤ (plain_9.length : Int)) && true then
  let x33 := cut plain_9 0 end_12.toNat
  bif room (0 + x33.length) 1 then
  let x35 := w64 ((plain_9.length : Int) - (1 : Int))
  bif inR x35 plain_9.length then
  some ((((plain_9.getD x35.toNat (0 : UInt8)).toNat : Int), (0 : Int), ()), (x33, ()))
  else none
  else none
  else none
noncomputable def ref24_Open_2 (N : Nat) (plain_9 : (List UInt8)) (n_11 : Int) (end_12 : Int) (k_13 : Int) : Option ref24_Open_R :=
  loopK N (fun y => ref24_Open_s3 N y.1.1 y.1.2.1 y.1.2.2.1 y.1.2.2.2.1) (fun (e : (((List UInt8) × Int × Unit) × (Unit))) => ref24_Open_4 N e.1.1 e.1.2.1) ((plain_9, n_11, end_12, k_13, ()), (()))
noncomputable def ref24_Open_1 (N : Nat) (plain_9 : (List UInt8)) (t_62 : Bool) : Option ref24_Open_R :=
  bif t_62 then
    some (((0 : Int), (2 : Int), ()), (([] : List UInt8), ()))
  else
    let x20 := w64 ((plain_9.length : Int) - (2 : Int))
    bif inR x20 plain_9.length then
    let x22 := ((plain_9.getD x20.toNat (0 : UInt8)).toNat : Int)
    ref24_Open_2 N plain_9 x22 (w64 ((w64 ((plain_9.length : Int) - (2 : Int))) - x22)) (1 : Int)
    else none
noncomputable def ref24_Open (N : Nat) (key_0 : (List UInt8)) (b_1 : (List UInt8)) (number_2 : UInt64) : Option ref24_Open_R :=
  bif (!(decide ((key_0.length : Int) = (36 : Int)))) then
    some (((0 : Int), (13 : Int), ()), (([] : List UInt8), ()))
  else
    bif (decide ((b_1.length : Int) < (24 : Int))) then
      some (((0 : Int), (1 : Int), ()), (([] : List UInt8), ()))
    else
      bif decide (0 ≤ (4 : Int)) && decide ((4 : Int) ≤ (8 : Int)) && decide ((8 : Int) ≤ (b_1.length : Int)) && true then
      Option.bind (ref24_get N (cut b_1 4 8)) fun y6 =>
      bif (!(decide (y6.1.1 = (number_2 &&& (4294967295 : UInt64))))) then
        some (((0 : Int), (22 : Int), ()), (([] : List UInt8), ()))
      else
        bif decide (0 ≤ (0 : Int)) && decide ((0 : Int) ≤ (32 : Int)) && decide ((32 : Int) ≤ (key_0.length : Int)) && true then
        bif decide (0 ≤ (32 : Int)) && decide ((32 : Int) ≤ (key_0.length : Int)) && decide ((key_0.length : Int) ≤ (key_0.length : Int)) && true then
        let x10 := cut key_0 32 key_0.length
        bif room (0 + x10.length) 1 then
        Option.bind (ref24_put N number_2 (8 : Int) x10) fun y11 =>
        bif decide (0 ≤ (0 : Int)) && decide ((0 : Int) ≤ (4 : Int)) && decide ((4 : Int) ≤ (b_1.length : Int)) && true then
        bif room (0 + (cut b_1 0 4).length) 1 then
        Option.bind (ref24_put N number_2 (8 : Int) (cut b_1 0 4)) fun y13 =>
        bif decide (0 ≤ (8 : Int)) && decide ((8 : Int) ≤ (b_1.length : Int)) && decide ((b_1.length : Int) ≤ (b_1.length : Int)) && true then
        Option.bind (ref12_Open N (cut key_0 0 32) y11.2.1 y13.2.1 (cut b_1 8 b_1.length)) fun y15 =>
        bif (!(decide (y15.1.1 = (0 : Int)))) then
          some (((0 : Int), y15.1.1, ()), (([] : List UInt8), ()))
        else
          bif (decide ((y15.2.1.length : Int) < (2 : Int))) then
            ref24_Open_1 N y15.2.1 true
          else
            let x39 := w64 ((y15.2.1.length : Int) - (2 : Int))
            bif inR x39 y15.2.1.length then
            ref24_Open_1 N y15.2.1 (decide ((w64 ((y15.2.1.length : Int) - (2 : Int))) < ((y15.2.1.getD x39.toNat (0 : UInt8)).toNat : Int)))
            else none
        else none
        else none
        else none
        else none
        else none
        else none
      else none
noncomputable def ref24_Open_C (N : Nat) : Ctx := ⟨101, G_tys, [(105, ref24_get_ctr N), (103, ref24_put_ctr N), (106, ref12_Open_ctr N)], G_globs⟩
noncomputable def ref24_Open_S0 : Spec := ⟨[.val (.sl .u8), .val .i64, .val .i64, .val .i64], []⟩
noncomputable def ref24_Open_S1 : Spec := ⟨[.val (.sl .u8), .val .i64], []⟩
noncomputable def ref24_Open_S2 : Spec := ⟨[.val (.sl .u8), .val .bool], []⟩
noncomputable def ref24_Open_S3 : Spec := ⟨[.val (.sl .u8), .val (.sl .u8), .val .u64], []⟩
noncomputable def ref24_Open_S4 : Spec := ⟨[.row 0, .val .i64, .val .i64], [(.row 5 .u8, .pos 0)]⟩
noncomputable def ref24_Open_K (_N : Nat) : XE → GS → Option ref24_Open_R := retK 0 [6, 7, 8] [false, false, false] ref24_Open_S4
noncomputable def ref24_Open_L : List Code := (bodyOf (some Tryd.f34))
noncomputable def ref24_Open_L3 : List Code := (loopOf (ref24_Open_L[15]?))
noncomputable def ref24_Open_K3 (N : Nat) : XE → GS → Option (Lo (((List UInt8) × Int × Int × Int × Unit) × (Unit)) (((List UInt8) × Int × Unit) × (Unit)) ref24_Open_R) := roundK (some 0) (fit 0 [9, 11, 12, 13] ref24_Open_S0) (fit 0 [9, 12] ref24_Open_S1) (ref24_Open_K N)
theorem ref24_Open_s3_b {E : Env} (N : Nat) (hb : Base Tryd.prog (ref24_Open_C N) E 0) : Blk Tryd.prog (ref24_Open_C N) E [9, 11, 12, 13] ref24_Open_S0 (ref24_Open_L3.drop 0) (fun y => ref24_Open_s3 N y.1.1 y.1.2.1 y.1.2.2.1 y.1.2.2.2.1) (ref24_Open_K3 N) :=
  Blk.chunkAt hb 4 (X := (ref24_Open_K3 N .normal)) (NxOk.end (by kernel_rfl)) rfl (fun x => by kernel_rfl)
theorem ref24_Open_4_b {E : Env} (N : Nat) (hb : Base Tryd.prog (ref24_Open_C N) E 0) : Blk Tryd.prog (ref24_Open_C N) E [9, 12] ref24_Open_S1 (ref24_Open_L.drop 16) (fun y => ref24_Open_4 N y.1.1 y.1.2.1) (ref24_Open_K N) :=
  Blk.chunkAt hb 2 (X := (ref24_Open_K N .normal)) (NxOk.end (by kernel_rfl)) rfl (fun x => by kernel_rfl)
theorem ref24_Open_2_b {E : Env} (N : Nat) (hb : Base Tryd.prog (ref24_Open_C N) E 0) : Blk Tryd.prog (ref24_Open_C N) E [9, 11, 12, 13] ref24_Open_S0 (ref24_Open_L.drop 15) (fun y => ref24_Open_2 N y.1.1 y.1.2.1 y.1.2.2.1 y.1.2.2.2.1) (ref24_Open_K N) :=
  Blk.loopAt (Nf := N) (hns := [9, 11, 12, 13]) (ans := [9, 12]) (hc := ref24_Open_S0) (ac := ref24_Open_S1) (bid := 0) (step := (fun y => ref24_Open_s3 N y.1.1 y.1.2.1 y.1.2.2.1 y.1.2.2.2.1)) (J := (fun e => (goK 0 [9, 12] ref24_Open_S1 (fun y => ref24_Open_4 N y.1.1 y.1.2.1)) (ref24_Open_S1.st [9, 12] e))) hb (by kernel_rfl) (Blk.into (X := (goK 0 [9, 12] ref24_Open_S1 (fun y => ref24_Open_4 N y.1.1 y.1.2.1))) (NxOk.go hb (ref24_Open_4_b N hb)) (fun x => by kernel_rfl)) (ref24_Open_s3_b N hb) (fun x => by kernel_rfl)
theorem ref24_Open_1_b {E : Env} (N : Nat) (hb : Base Tryd.prog (ref24_Open_C N) E 0) : Blk Tryd.prog (ref24_Open_C N) E [9, 62] ref24_Open_S2 (ref24_Open_L.drop 11) (fun y => ref24_Open_1 N y.1.1 y.1.2.1) (ref24_Open_K N) :=
  Blk.chunkAt hb 4 (X := (goK 0 [9, 11, 12, 13] ref24_Open_S0 (fun y => ref24_Open_2 N y.1.1 y.1.2.1 y.1.2.2.1 y.1.2.2.2.1))) (NxOk.go hb (ref24_Open_2_b N hb)) rfl (fun x => by kernel_rfl)
theorem ref24_Open_b {E : Env} (N : Nat) (hb : Base Tryd.prog (ref24_Open_C N) E 0) : Blk Tryd.prog (ref24_Open_C N) E (List.range ref24_Open_S3.ks.length) ref24_Open_S3 (ref24_Open_L.drop 0) (fun y => ref24_Open N y.1.1 y.1.2.1 y.1.2.2.1) (ref24_Open_K N) :=
  Blk.chunkAt hb 11 (X := (goK 0 [9, 62] ref24_Open_S2 (fun y => ref24_Open_1 N y.1.1 y.1.2.1))) (NxOk.go hb (ref24_Open_1_b N hb)) rfl (fun x => by kernel_rfl)
noncomputable def ref24_Open_ctr (N : Nat) : Ctr := ⟨ref24_Open_S3, ref24_Open_S4.un [false, false, false], 0, (fun y => ref24_Open N y.1.1 y.1.2.1 y.1.2.2.1)⟩
theorem ref24_Open_ctrs (N : Nat) : CtrsOk Tryd.prog (ref24_Open_C N) := ctrs_of (Γ := ref24_Open_C N) (by
  intro p hp
  simp only [ref24_Open_C, List.mem_cons, List.not_mem_nil, or_false] at hp
  rcases hp with rfl | rfl | rfl
  · exact ref24_get_ok N
  · exact ref24_put_ok N
  · exact ref12_Open_ok N)
theorem ref24_Open_ok (N : Nat) : Ctr.ok Tryd.prog G_globs 34 (ref24_Open_ctr N) :=
  ctr_fn (Γ := ref24_Open_C N) (rfit := ref24_Open_S4) (bs := [false, false, false]) (res := [6, 7, 8]) (by kernel_rfl) (tys_ok G_tys_ok) (ref24_Open_ctrs N) Tryd.func34 (by kernel_rfl) (by kernel_rfl) Tryd.ntmps34 (by kernel_rfl) (by kernel_rfl) (by kernel_rfl) (by kernel_rfl) (fun E hb => ref24_Open_b N hb)
end Go.Proofs.YtofajgidjkjnpaaDoor
namespace Go.Proofs.YtofajgidjkjnpaaDoor
open Go
set_option maxRecDepth 100000
set_option linter.unusedVariables false
/-! ipsecgate/ipsecgateref24.SameBytes -/
abbrev ref24_SameBytes_R : Type := ((Bool × Unit) × (Unit))
noncomputable def ref24_SameBytes_s2 (N : Nat) (a_0 : (List UInt8)) (b_1 : (List UInt8)) (i_5 : Int) : Option (Lo (((List UInt8) × (List UInt8) × Int × Unit) × (Unit)) ((Unit) × (Unit)) ref24_SameBytes_R) :=
  bif (decide (i_5 < (a_0.length : Int))) then
    bif inR i_5 a_0.length then
    bif inR i_5 b_1.length then
    bif (!(decide ((a_0.getD i_5.toNat (0 : UInt8)) = (b_1.getD i_5.toNat (0 : UInt8))))) then
      some (.rt ((false, ()), (())))
    else
      some (.go ((a_0, b_1, (w64 (i_5 + (1 : Int))), ()), (())))
    else none
    else none
  else
    some (.br ((()), (())))
noncomputable def ref24_SameBytes_3 (N : Nat) : Option ref24_SameBytes_R :=
  some ((true, ()), (()))
noncomputable def ref24_SameBytes_1 (N : Nat) (a_0 : (List UInt8)) (b_1 : (List UInt8)) (i_5 : Int) : Option ref24_SameBytes_R :=
  loopK N (fun y => ref24_SameBytes_s2 N y.1.1 y.1.2.1 y.1.2.2.1) (fun (e : ((Unit) × (Unit))) => ref24_SameBytes_3 N) ((a_0, b_1, i_5, ()), (()))
noncomputable def ref24_SameBytes (N : Nat) (a_0 : (List UInt8)) (b_1 : (List UInt8)) : Option ref24_SameBytes_R :=
  bif (!(decide ((a_0.length : Int) = (b_1.length : Int)))) then
    some ((false, ()), (()))
  else
    ref24_SameBytes_1 N a_0 b_1 (0 : Int)
noncomputable def ref24_SameBytes_C (N : Nat) : Ctx := ⟨26, G_tys, [], G_globs⟩
noncomputable def ref24_SameBytes_S0 : Spec := ⟨[.val (.sl .u8), .val (.sl .u8), .val .i64], []⟩
noncomputable def ref24_SameBytes_S1 : Spec := ⟨[], []⟩
noncomputable def ref24_SameBytes_S2 : Spec := ⟨[.val (.sl .u8), .val (.sl .u8)], []⟩
noncomputable def ref24_SameBytes_S3 : Spec := ⟨[.val .bool], []⟩
noncomputable def ref24_SameBytes_K (_N : Nat) : XE → GS → Option ref24_SameBytes_R := retK 0 [4] [false] ref24_SameBytes_S3
noncomputable def ref24_SameBytes_L : List Code := (bodyOf (some Tryd.f31))
noncomputable def ref24_SameBytes_L2 : List Code := (loopOf (ref24_SameBytes_L[4]?))
noncomputable def ref24_SameBytes_K2 (N : Nat) : XE → GS → Option (Lo (((List UInt8) × (List UInt8) × Int × Unit) × (Unit)) ((Unit) × (Unit)) ref24_SameBytes_R) := roundK (some 0) (fit 0 [0, 1, 5] ref24_SameBytes_S0) (fit 0 [] ref24_SameBytes_S1) (ref24_SameBytes_K N)
theorem ref24_SameBytes_s2_b {E : Env} (N : Nat) (hb : Base Tryd.prog (ref24_SameBytes_C N) E 0) : Blk Tryd.prog (ref24_SameBytes_C N) E [0, 1, 5] ref24_SameBytes_S0 (ref24_SameBytes_L2.drop 0) (fun y => ref24_SameBytes_s2 N y.1.1 y.1.2.1 y.1.2.2.1) (ref24_SameBytes_K2 N) :=
  Blk.chunkAt hb 4 (X := (ref24_SameBytes_K2 N .normal)) (NxOk.end (by kernel_rfl)) rfl (fun x => by kernel_rfl)
theorem ref24_SameBytes_3_b {E : Env} (N : Nat) (hb : Base Tryd.prog (ref24_SameBytes_C N) E 0) : Blk Tryd.prog (ref24_SameBytes_C N) E [] ref24_SameBytes_S1 (ref24_SameBytes_L.drop 5) (fun y => ref24_SameBytes_3 N) (ref24_SameBytes_K N) :=
  Blk.chunkAt hb 2 (X := (ref24_SameBytes_K N .normal)) (NxOk.end (by kernel_rfl)) rfl (fun x => by kernel_rfl)
theorem ref24_SameBytes_1_b {E : Env} (N : Nat) (hb : Base Tryd.prog (ref24_SameBytes_C N) E 0) : Blk Tryd.prog (ref24_SameBytes_C N) E [0, 1, 5] ref24_SameBytes_S0 (ref24_SameBytes_L.drop 4) (fun y => ref24_SameBytes_1 N y.1.1 y.1.2.1 y.1.2.2.1) (ref24_SameBytes_K N) :=
  Blk.loopAt (Nf := N) (hns := [0, 1, 5]) (ans := []) (hc := ref24_SameBytes_S0) (ac := ref24_SameBytes_S1) (bid := 0) (step := (fun y => ref24_SameBytes_s2 N y.1.1 y.1.2.1 y.1.2.2.1)) (J := (fun e => (goK 0 [] ref24_SameBytes_S1 (fun y => ref24_SameBytes_3 N)) (ref24_SameBytes_S1.st [] e))) hb (by kernel_rfl) (Blk.into (X := (goK 0 [] ref24_SameBytes_S1 (fun y => ref24_SameBytes_3 N))) (NxOk.go hb (ref24_SameBytes_3_b N hb)) (fun x => by kernel_rfl)) (ref24_SameBytes_s2_b N hb) (fun x => by kernel_rfl)
theorem ref24_SameBytes_b {E : Env} (N : Nat) (hb : Base Tryd.prog (ref24_SameBytes_C N) E 0) : Blk Tryd.prog (ref24_SameBytes_C N) E (List.range ref24_SameBytes_S2.ks.length) ref24_SameBytes_S2 (ref24_SameBytes_L.drop 0) (fun y => ref24_SameBytes N y.1.1 y.1.2.1) (ref24_SameBytes_K N) :=
  Blk.chunkAt hb 4 (X := (goK 0 [0, 1, 5] ref24_SameBytes_S0 (fun y => ref24_SameBytes_1 N y.1.1 y.1.2.1 y.1.2.2.1))) (NxOk.go hb (ref24_SameBytes_1_b N hb)) rfl (fun x => by kernel_rfl)
noncomputable def ref24_SameBytes_ctr (N : Nat) : Ctr := ⟨ref24_SameBytes_S2, ref24_SameBytes_S3.un [false], 0, (fun y => ref24_SameBytes N y.1.1 y.1.2.1)⟩
theorem ref24_SameBytes_ctrs (N : Nat) : CtrsOk Tryd.prog (ref24_SameBytes_C N) := ctrs_nil rfl
theorem ref24_SameBytes_ok (N : Nat) : Ctr.ok Tryd.prog G_globs 31 (ref24_SameBytes_ctr N) :=
  ctr_fn (Γ := ref24_SameBytes_C N) (rfit := ref24_SameBytes_S3) (bs := [false]) (res := [4]) (by kernel_rfl) (tys_ok G_tys_ok) (ref24_SameBytes_ctrs N) Tryd.func31 (by kernel_rfl) (by kernel_rfl) Tryd.ntmps31 (by kernel_rfl) (by kernel_rfl) (by kernel_rfl) (by kernel_rfl) (fun E hb => ref24_SameBytes_b N hb)
end Go.Proofs.YtofajgidjkjnpaaDoor
namespace Go.Proofs.YtofajgidjkjnpaaDoor
open Go
set_option maxRecDepth 100000
set_option linter.unusedVariables false
/-! ipsecgate/ipsecgateref24.Head -/
abbrev ref24_Head_R : Type := ((UInt32 × UInt32 × Int × Unit) × (Unit))
noncomputable def ref24_Head (N : Nat) (b_0 : (List UInt8)) : Option ref24_Head_R :=
  bif (decide ((b_0.length : Int) < (8 : Int))) then
    some (((0 : UInt32), (0 : UInt32), (1 : Int), ()), (()))
  else
    bif decide (0 ≤ (0 : Int)) && decide ((0 : Int) ≤ (4 : Int)) && decide ((4 : Int) ≤ (b_0.length : Int)) && true then
    Option.bind (ref24_get N (cut b_0 0 4)) fun y4 =>
    bif decide (0 ≤ (4 : Int)) && decide ((4 : Int) ≤ (8 : Int)) && decide ((8 : Int) ≤ (b_0.length : Int)) && true then
    Option.bind (ref24_get N (cut b_0 4 8)) fun y6 =>
    some ((y4.1.1.toUInt32, y6.1.1.toUInt32, (0 : Int), ()), (()))
    else none
    else none
noncomputable def ref24_Head_C (N : Nat) : Ctx := ⟨16, G_tys, [(105, ref24_get_ctr N)], G_globs⟩
noncomputable def ref24_Head_S0 : Spec := ⟨[.val (.sl .u8)], []⟩
noncomputable def ref24_Head_S1 : Spec := ⟨[.val .u32, .val .u32, .val .i64], []⟩
noncomputable def ref24_Head_K (_N : Nat) : XE → GS → Option ref24_Head_R := retK 0 [2, 3, 4] [false, false, false] ref24_Head_S1
noncomputable def ref24_Head_L : List Code := (bodyOf (some Tryd.f36))
theorem ref24_Head_b {E : Env} (N : Nat) (hb : Base Tryd.prog (ref24_Head_C N) E 0) : Blk Tryd.prog (ref24_Head_C N) E (List.range ref24_Head_S0.ks.length) ref24_Head_S0 (ref24_Head_L.drop 0) (fun y => ref24_Head N y.1.1) (ref24_Head_K N) :=
  Blk.chunkAt hb 5 (X := (ref24_Head_K N .normal)) (NxOk.end (by kernel_rfl)) rfl (fun x => by kernel_rfl)
noncomputable def ref24_Head_ctr (N : Nat) : Ctr := ⟨ref24_Head_S0, ref24_Head_S1.un [false, false, false], 0, (fun y => ref24_Head N y.1.1)⟩
theorem ref24_Head_ctrs (N : Nat) : CtrsOk Tryd.prog (ref24_Head_C N) := ctrs_of (Γ := ref24_Head_C N) (by
  intro p hp
  simp only [ref24_Head_C, List.mem_cons, List.not_mem_nil, or_false] at hp
  rcases hp with rfl
  · exact ref24_get_ok N)
theorem ref24_Head_ok (N : Nat) : Ctr.ok Tryd.prog G_globs 36 (ref24_Head_ctr N) :=
  ctr_fn (Γ := ref24_Head_C N) (rfit := ref24_Head_S1) (bs := [false, false, false]) (res := [2, 3, 4]) (by kernel_rfl) (tys_ok G_tys_ok) (ref24_Head_ctrs N) Tryd.func36 (by kernel_rfl) (by kernel_rfl) Tryd.ntmps36 (by kernel_rfl) (by kernel_rfl) (by kernel_rfl) (by kernel_rfl) (fun E hb => ref24_Head_b N hb)
end Go.Proofs.YtofajgidjkjnpaaDoor
namespace Go.Proofs.YtofajgidjkjnpaaDoor
open Go
set_option maxRecDepth 100000
set_option linter.unusedVariables false
/-! ipsecgate/ipsecgatelaw24.EspOpens -/
abbrev law24_EspOpens_R : Type := ((Bool × Unit) × (Unit))
noncomputable def law24_EspOpens_s9 (N : Nat) (k_14 : (List UInt8)) (n_15 : UInt64) (x_20 : (List UInt8)) (t_99 : Int) (t_100 : Int) (t_110 : Int) (t_111 : Int) (t_98 : (List (List UInt8))) (t_109 : (List UInt64)) : Option (Lo (((List UInt8) × UInt64 × (List UInt8) × Int × Int × Int × Int × Unit) × ((List (List UInt8)) × (List UInt64) × Unit)) (((List UInt8) × UInt64 × (List UInt8) × Int × Int × Unit) × ((List (List UInt8)) × Unit)) (Lo (((List UInt8) × UInt64 × Int × Int × Unit) × ((List (List UInt8)) × Unit)) ((Unit) × (Unit)) law24_EspOpens_R)) :=
  bif (decide (t_111 < t_110)) then
    bif inR t_111 t_109.length then
    let x32 := (t_109.getD t_111.toNat (0 : UInt64))
    Option.bind (esp_Open N k_14 x_20 x32) fun y33 =>
    Option.bind (ref24_Open N k_14 x_20 x32) fun y34 =>
    bif (!(decide (y33.1.2.2.1 = y34.1.2.1))) then
      some (.rt (.rt ((false, ()), (()))))
    else
      bif (!(decide (y33.1.2.1 = y34.1.1))) then
        some (.rt (.rt ((false, ()), (()))))
      else
        Option.bind (ref24_SameBytes N y33.1.1 y34.2.1) fun y37 =>
        bif (!y37.1.1) then
          some (.rt (.rt ((false, ()), (()))))
        else
          some (.go ((k_14, n_15, x_20, t_99, t_100, t_110, (w64 (t_111 + (1 : Int))), ()), (t_98, t_109, ())))
    else none
  else
    some (.br ((k_14, n_15, x_20, t_99, t_100, ()), (t_98, ())))
noncomputable def law24_EspOpens_11 (N : Nat) (k_14 : (List UInt8)) (n_15 : UInt64) (t_99 : Int) (t_100 : Int) (t_98 : (List (List UInt8))) : Option (Lo (((List UInt8) × UInt64 × Int × Int × Unit) × ((List (List UInt8)) × Unit)) ((Unit) × (Unit)) law24_EspOpens_R) :=
  some (.go ((k_14, n_15, t_99, (w64 (t_100 + (1 : Int))), ()), (t_98, ())))
noncomputable def law24_EspOpens_10 (N : Nat) (k_14 : (List UInt8)) (n_15 : UInt64) (x_20 : (List UInt8)) (t_99 : Int) (t_100 : Int) (t_98 : (List (List UInt8))) : Option (Lo (((List UInt8) × UInt64 × Int × Int × Unit) × ((List (List UInt8)) × Unit)) ((Unit) × (Unit)) law24_EspOpens_R) :=
  Option.bind (esp_Head N x_20) fun y40 =>
  Option.bind (ref24_Head N x_20) fun y41 =>
  bif (!(decide (y40.1.1 = y41.1.1))) then
    some (.rt ((false, ()), (())))
  else
    bif (!(decide (y40.1.2.1 = y41.1.2.1))) then
      some (.rt ((false, ()), (())))
    else
      bif (!(decide (y40.1.2.2.1 = y41.1.2.2.1))) then
        some (.rt ((false, ()), (())))
      else
        law24_EspOpens_11 N k_14 n_15 t_99 t_100 t_98
noncomputable def law24_EspOpens_8 (N : Nat) (k_14 : (List UInt8)) (n_15 : UInt64) (x_20 : (List UInt8)) (t_99 : Int) (t_100 : Int) (t_110 : Int) (t_111 : Int) (t_98 : (List (List UInt8))) (t_109 : (List UInt64)) : Option (Lo (((List UInt8) × UInt64 × Int × Int × Unit) × ((List (List UInt8)) × Unit)) ((Unit) × (Unit)) law24_EspOpens_R) :=
  loopK N (fun y => law24_EspOpens_s9 N y.1.1 y.1.2.1 y.1.2.2.1 y.1.2.2.2.1 y.1.2.2.2.2.1 y.1.2.2.2.2.2.1 y.1.2.2.2.2.2.2.1 y.2.1 y.2.2.1) (fun (e : (((List UInt8) × UInt64 × (List UInt8) × Int × Int × Unit) × ((List (List UInt8)) × Unit))) => law24_EspOpens_10 N e.1.1 e.1.2.1 e.1.2.2.1 e.1.2.2.2.1 e.1.2.2.2.2.1 e.2.1) ((k_14, n_15, x_20, t_99, t_100, t_110, t_111, ()), (t_98, t_109, ()))
noncomputable def law24_EspOpens_7 (N : Nat) (k_14 : (List UInt8)) (n_15 : UInt64) (t_99 : Int) (t_100 : Int) (t_98 : (List (List UInt8))) : Option (Lo (((List UInt8) × UInt64 × Int × Int × Unit) × ((List (List UInt8)) × Unit)) ((Unit) × (Unit)) law24_EspOpens_R) :=
  bif inR t_100 t_98.length then
  let x28 := n_15 + (4294967296 : UInt64)
  let x29 := n_15 + (1 : UInt64)
  law24_EspOpens_8 N k_14 n_15 (t_98.getD t_100.toNat ([] : List UInt8)) t_99 t_100 (([n_15, x28, x29] : List UInt64).length : Int) (0 : Int) t_98 ([n_15, x28, x29] : List UInt64)
  else none
noncomputable def law24_EspOpens_5 (N : Nat) (k_14 : (List UInt8)) (n_15 : UInt64) (t_99 : Int) (t_100 : Int) (t_98 : (List (List UInt8))) : Option (Lo (((List UInt8) × UInt64 × Int × Int × Unit) × ((List (List UInt8)) × Unit)) ((Unit) × (Unit)) law24_EspOpens_R) :=
  law24_EspOpens_7 N k_14 n_15 t_99 t_100 t_98
noncomputable def law24_EspOpens_s4 (N : Nat) (k_14 : (List UInt8)) (n_15 : UInt64) (t_99 : Int) (t_100 : Int) (t_98 : (List (List UInt8))) : Option (Lo (((List UInt8) × UInt64 × Int × Int × Unit) × ((List (List UInt8)) × Unit)) ((Unit) × (Unit)) law24_EspOpens_R) :=
  bif (decide (t_100 < t_99)) then
    law24_EspOpens_5 N k_14 n_15 t_99 t_100 t_98
  else
    some (.br ((()), (())))
noncomputable def law24_EspOpens_12 (N : Nat) : Option law24_EspOpens_R :=
  some ((true, ()), (()))
noncomputable def law24_EspOpens_3 (N : Nat) (n_15 : UInt64) (t_99 : Int) (t_100 : Int) (k_14 : (List UInt8)) (t_98 : (List (List UInt8))) : Option law24_EspOpens_R :=
  loopK N (fun y => law24_EspOpens_s4 N y.1.1 y.1.2.1 y.1.2.2.1 y.1.2.2.2.1 y.2.1) (fun (e : ((Unit) × (Unit))) => law24_EspOpens_12 N) ((k_14, n_15, t_99, t_100, ()), (t_98, ()))
noncomputable def law24_EspOpens_2 (N : Nat) (raw_1 : (List UInt8)) (at_4 : Int) (n_15 : UInt64) (k_14 : (List UInt8)) (b_16 : (List UInt8)) (odd_18 : (List UInt8)) : Option law24_EspOpens_R :=
  Option.bind (draw_Mod N at_4 (w64 ((b_16.length : Int) + (1 : Int)))) fun y23 =>
  bif decide (0 ≤ (0 : Int)) && decide ((0 : Int) ≤ y23.1.1) && decide (y23.1.1 ≤ (b_16.length : Int)) && true then
  let x24 := cut b_16 0 y23.1.1.toNat
  law24_EspOpens_3 N n_15 (([raw_1, b_16, odd_18, x24] : List (List UInt8)).length : Int) (0 : Int) k_14 ([raw_1, b_16, odd_18, x24] : List (List UInt8))
  else none
noncomputable def law24_EspOpens_1 (N : Nat) (codes_0 : (List UInt8)) (raw_1 : (List UInt8)) (payload_2 : (List UInt8)) (number_3 : UInt64) (at_4 : Int) (by_5 : UInt8) (t_46 : Bool) : Option law24_EspOpens_R :=
  bif t_46 then
    bif (decide ((200 : Int) < (raw_1.length : Int))) then
      some ((true, ()), (()))
    else
      some (((decide ((200 : Int) < (payload_2.length : Int))), ()), (()))
  else
    Option.bind (draw_New N codes_0 (30 : Int)) fun y7 =>
    Option.bind (law24_key N y7.2.1) fun y8 =>
    let x10 := (1 : UInt64) + (number_3 % (1099511627776 : UInt64))
    Option.bind (draw_Codes_Next N (256 : Int) y8.2.1) fun y11 =>
    Option.bind (draw_Codes_Next N (9 : Int) y11.2.1) fun y12 =>
    Option.bind (ref24_Seal N y8.2.2.1 (9 : UInt32) x10 y11.1.1 payload_2 y12.1.1) fun y13 =>
    bif room (0 + y13.2.1.length) 1 then
    bif (decide ((0 : Int) < (y13.2.1.length : Int))) then
      Option.bind (draw_Mod N at_4 (y13.2.1.length : Int)) fun y17 =>
      bif inR y17.1.1 y13.2.1.length then
      bif inR y17.1.1 y13.2.1.length then
      law24_EspOpens_2 N raw_1 at_4 x10 y8.2.2.1 y13.2.1 (y13.2.1.set y17.1.1.toNat ((y13.2.1.getD y17.1.1.toNat (0 : UInt8)) ^^^ by_5))
      else none
      else none
    else
      law24_EspOpens_2 N raw_1 at_4 x10 y8.2.2.1 y13.2.1 y13.2.1
    else none
noncomputable def law24_EspOpens (N : Nat) (codes_0 : (List UInt8)) (raw_1 : (List UInt8)) (payload_2 : (List UInt8)) (number_3 : UInt64) (at_4 : Int) (by_5 : UInt8) : Option law24_EspOpens_R :=
  Option.bind (law24_awake N) fun y1 =>
  bif (!y1.1.1) then
    law24_EspOpens_1 N codes_0 raw_1 payload_2 number_3 at_4 by_5 true
  else
    bif (decide ((200 : Int) < (raw_1.length : Int))) then
      law24_EspOpens_1 N codes_0 raw_1 payload_2 number_3 at_4 by_5 true
    else
      law24_EspOpens_1 N codes_0 raw_1 payload_2 number_3 at_4 by_5 (decide ((200 : Int) < (payload_2.length : Int)))
noncomputable def law24_EspOpens_C (N : Nat) : Ctx := ⟨172, G_tys, [(25, law24_awake_ctr N), (26, draw_New_ctr N), (27, law24_key_ctr N), (32, draw_Codes_Next_ctr N), (30, ref24_Seal_ctr N), (28, draw_Mod_ctr N), (33, esp_Open_ctr N), (34, ref24_Open_ctr N), (31, ref24_SameBytes_ctr N), (35, esp_Head_ctr N), (36, ref24_Head_ctr N)], G_globs⟩
noncomputable def law24_EspOpens_S0 : Spec := ⟨[.val (.sl .u8), .val .u64, .val (.sl .u8), .row 0, .val .i64, .val .i64, .row 1, .val .i64, .val .i64], [(.row 22 (.sl .u8), .pos 3), (.row 23 .u64, .pos 6)]⟩
noncomputable def law24_EspOpens_S1 : Spec := ⟨[.val (.sl .u8), .val .u64, .row 0, .val .i64, .val .i64], [(.row 22 (.sl .u8), .pos 2)]⟩
noncomputable def law24_EspOpens_S2 : Spec := ⟨[.val (.sl .u8), .val .u64, .val (.sl .u8), .row 0, .val .i64, .val .i64], [(.row 22 (.sl .u8), .pos 3)]⟩
noncomputable def law24_EspOpens_S3 : Spec := ⟨[], []⟩
noncomputable def law24_EspOpens_S4 : Spec := ⟨[.row 0, .val .u64, .row 1, .val .i64, .val .i64], [(.row 5 .u8, .pos 0), (.row 22 (.sl .u8), .pos 2)]⟩
noncomputable def law24_EspOpens_S5 : Spec := ⟨[.val (.sl .u8), .val .i64, .row 0, .val .u64, .row 1, .row 2], [(.row 5 .u8, .pos 2), (.row 5 .u8, .pos 4), (.row 5 .u8, .pos 5)]⟩
noncomputable def law24_EspOpens_S6 : Spec := ⟨[.val (.sl .u8), .val (.sl .u8), .val (.sl .u8), .val .u64, .val .i64, .val .u8, .val .bool], []⟩
noncomputable def law24_EspOpens_S7 : Spec := ⟨[.val (.sl .u8), .val (.sl .u8), .val (.sl .u8), .val .u64, .val .i64, .val .u8], []⟩
noncomputable def law24_EspOpens_S8 : Spec := ⟨[.val .bool], []⟩
noncomputable def law24_EspOpens_K (_N : Nat) : XE → GS → Option law24_EspOpens_R := retK 0 [12] [false] law24_EspOpens_S8
noncomputable def law24_EspOpens_L : List Code := (bodyOf (some Tryd.f5))
noncomputable def law24_EspOpens_L4 : List Code := (loopOf (law24_EspOpens_L[10]?))
noncomputable def law24_EspOpens_L6b : List Code := (blockOf (law24_EspOpens_L4[2]?))
noncomputable def law24_EspOpens_L9 : List Code := (loopOf (law24_EspOpens_L6b[2]?))
noncomputable def law24_EspOpens_K4 (N : Nat) : XE → GS → Option (Lo (((List UInt8) × UInt64 × Int × Int × Unit) × ((List (List UInt8)) × Unit)) ((Unit) × (Unit)) law24_EspOpens_R) := roundK (some 0) (fit 0 [14, 15, 98, 99, 100] law24_EspOpens_S1) (fit 0 [] law24_EspOpens_S3) (law24_EspOpens_K N)
noncomputable def law24_EspOpens_K6 (N : Nat) : XE → GS → Option (Lo (((List UInt8) × UInt64 × Int × Int × Unit) × ((List (List UInt8)) × Unit)) ((Unit) × (Unit)) law24_EspOpens_R) := blockK 1 (goK 0 [14, 15, 98, 99, 100] law24_EspOpens_S1 (fun y => law24_EspOpens_11 N y.1.1 y.1.2.1 y.1.2.2.1 y.1.2.2.2.1 y.2.1)) (law24_EspOpens_K4 N)
noncomputable def law24_EspOpens_K9 (N : Nat) : XE → GS → Option (Lo (((List UInt8) × UInt64 × (List UInt8) × Int × Int × Int × Int × Unit) × ((List (List UInt8)) × (List UInt64) × Unit)) (((List UInt8) × UInt64 × (List UInt8) × Int × Int × Unit) × ((List (List UInt8)) × Unit)) (Lo (((List UInt8) × UInt64 × Int × Int × Unit) × ((List (List UInt8)) × Unit)) ((Unit) × (Unit)) law24_EspOpens_R)) := roundK (some 2) (fit 0 [14, 15, 20, 98, 99, 100, 109, 110, 111] law24_EspOpens_S0) (fit 0 [14, 15, 20, 98, 99, 100] law24_EspOpens_S2) (law24_EspOpens_K6 N)
theorem law24_EspOpens_s9_b {E : Env} (N : Nat) (hb : Base Tryd.prog (law24_EspOpens_C N) E 0) : Blk Tryd.prog (law24_EspOpens_C N) E [14, 15, 20, 98, 99, 100, 109, 110, 111] law24_EspOpens_S0 (law24_EspOpens_L9.drop 0) (fun y => law24_EspOpens_s9 N y.1.1 y.1.2.1 y.1.2.2.1 y.1.2.2.2.1 y.1.2.2.2.2.1 y.1.2.2.2.2.2.1 y.1.2.2.2.2.2.2.1 y.2.1 y.2.2.1) (law24_EspOpens_K9 N) :=
  Blk.chunkAt hb 4 (X := (law24_EspOpens_K9 N .normal)) (NxOk.end (by kernel_rfl)) rfl (fun x => by kernel_rfl)
theorem law24_EspOpens_11_b {E : Env} (N : Nat) (hb : Base Tryd.prog (law24_EspOpens_C N) E 0) : Blk Tryd.prog (law24_EspOpens_C N) E [14, 15, 98, 99, 100] law24_EspOpens_S1 (law24_EspOpens_L4.drop 3) (fun y => law24_EspOpens_11 N y.1.1 y.1.2.1 y.1.2.2.1 y.1.2.2.2.1 y.2.1) (law24_EspOpens_K4 N) :=
  Blk.chunkAt hb 1 (X := (law24_EspOpens_K4 N .normal)) (NxOk.end (by kernel_rfl)) rfl (fun x => by kernel_rfl)
theorem law24_EspOpens_10_b {E : Env} (N : Nat) (hb : Base Tryd.prog (law24_EspOpens_C N) E 0) : Blk Tryd.prog (law24_EspOpens_C N) E [14, 15, 20, 98, 99, 100] law24_EspOpens_S2 (law24_EspOpens_L6b.drop 3) (fun y => law24_EspOpens_10 N y.1.1 y.1.2.1 y.1.2.2.1 y.1.2.2.2.1 y.1.2.2.2.2.1 y.2.1) (law24_EspOpens_K6 N) :=
  Blk.chunkAt hb 4 (X := (law24_EspOpens_K6 N .normal)) (NxOk.end (by kernel_rfl)) rfl (fun x => by kernel_rfl)
theorem law24_EspOpens_8_b {E : Env} (N : Nat) (hb : Base Tryd.prog (law24_EspOpens_C N) E 0) : Blk Tryd.prog (law24_EspOpens_C N) E [14, 15, 20, 98, 99, 100, 109, 110, 111] law24_EspOpens_S0 (law24_EspOpens_L6b.drop 2) (fun y => law24_EspOpens_8 N y.1.1 y.1.2.1 y.1.2.2.1 y.1.2.2.2.1 y.1.2.2.2.2.1 y.1.2.2.2.2.2.1 y.1.2.2.2.2.2.2.1 y.2.1 y.2.2.1) (law24_EspOpens_K6 N) :=
  Blk.loopAt (Nf := N) (hns := [14, 15, 20, 98, 99, 100, 109, 110, 111]) (ans := [14, 15, 20, 98, 99, 100]) (hc := law24_EspOpens_S0) (ac := law24_EspOpens_S2) (bid := 2) (step := (fun y => law24_EspOpens_s9 N y.1.1 y.1.2.1 y.1.2.2.1 y.1.2.2.2.1 y.1.2.2.2.2.1 y.1.2.2.2.2.2.1 y.1.2.2.2.2.2.2.1 y.2.1 y.2.2.1)) (J := (fun e => (goK 0 [14, 15, 20, 98, 99, 100] law24_EspOpens_S2 (fun y => law24_EspOpens_10 N y.1.1 y.1.2.1 y.1.2.2.1 y.1.2.2.2.1 y.1.2.2.2.2.1 y.2.1)) (law24_EspOpens_S2.st [14, 15, 20, 98, 99, 100] e))) hb (by kernel_rfl) (Blk.into (X := (goK 0 [14, 15, 20, 98, 99, 100] law24_EspOpens_S2 (fun y => law24_EspOpens_10 N y.1.1 y.1.2.1 y.1.2.2.1 y.1.2.2.2.1 y.1.2.2.2.2.1 y.2.1))) (NxOk.go hb (law24_EspOpens_10_b N hb)) (fun x => by kernel_rfl)) (law24_EspOpens_s9_b N hb) (fun x => by kernel_rfl)
theorem law24_EspOpens_7_b {E : Env} (N : Nat) (hb : Base Tryd.prog (law24_EspOpens_C N) E 0) : Blk Tryd.prog (law24_EspOpens_C N) E [14, 15, 98, 99, 100] law24_EspOpens_S1 (law24_EspOpens_L6b.drop 0) (fun y => law24_EspOpens_7 N y.1.1 y.1.2.1 y.1.2.2.1 y.1.2.2.2.1 y.2.1) (law24_EspOpens_K6 N) :=
  Blk.chunkAt hb 2 (X := (goK 0 [14, 15, 20, 98, 99, 100, 109, 110, 111] law24_EspOpens_S0 (fun y => law24_EspOpens_8 N y.1.1 y.1.2.1 y.1.2.2.1 y.1.2.2.2.1 y.1.2.2.2.2.1 y.1.2.2.2.2.2.1 y.1.2.2.2.2.2.2.1 y.2.1 y.2.2.1))) (NxOk.go hb (law24_EspOpens_8_b N hb)) rfl (fun x => by kernel_rfl)
theorem law24_EspOpens_5_b {E : Env} (N : Nat) (hb : Base Tryd.prog (law24_EspOpens_C N) E 0) : Blk Tryd.prog (law24_EspOpens_C N) E [14, 15, 98, 99, 100] law24_EspOpens_S1 (law24_EspOpens_L4.drop 2) (fun y => law24_EspOpens_5 N y.1.1 y.1.2.1 y.1.2.2.1 y.1.2.2.2.1 y.2.1) (law24_EspOpens_K4 N) :=
  Blk.blockAt (bid := 1) (X := (goK 0 [14, 15, 98, 99, 100] law24_EspOpens_S1 (fun y => law24_EspOpens_11 N y.1.1 y.1.2.1 y.1.2.2.1 y.1.2.2.2.1 y.2.1))) (Y := (goK 0 [14, 15, 98, 99, 100] law24_EspOpens_S1 (fun y => law24_EspOpens_7 N y.1.1 y.1.2.1 y.1.2.2.1 y.1.2.2.2.1 y.2.1))) (by kernel_rfl) (NxOk.go hb (law24_EspOpens_11_b N hb)) (NxOk.go hb (law24_EspOpens_7_b N hb)) (fun x => by kernel_rfl)
theorem law24_EspOpens_s4_b {E : Env} (N : Nat) (hb : Base Tryd.prog (law24_EspOpens_C N) E 0) : Blk Tryd.prog (law24_EspOpens_C N) E [14, 15, 98, 99, 100] law24_EspOpens_S1 (law24_EspOpens_L4.drop 0) (fun y => law24_EspOpens_s4 N y.1.1 y.1.2.1 y.1.2.2.1 y.1.2.2.2.1 y.2.1) (law24_EspOpens_K4 N) :=
  Blk.chunkAt hb 2 (X := (goK 0 [14, 15, 98, 99, 100] law24_EspOpens_S1 (fun y => law24_EspOpens_5 N y.1.1 y.1.2.1 y.1.2.2.1 y.1.2.2.2.1 y.2.1))) (NxOk.go hb (law24_EspOpens_5_b N hb)) rfl (fun x => by kernel_rfl)
theorem law24_EspOpens_12_b {E : Env} (N : Nat) (hb : Base Tryd.prog (law24_EspOpens_C N) E 0) : Blk Tryd.prog (law24_EspOpens_C N) E [] law24_EspOpens_S3 (law24_EspOpens_L.drop 11) (fun y => law24_EspOpens_12 N) (law24_EspOpens_K N) :=
  Blk.chunkAt hb 2 (X := (law24_EspOpens_K N .normal)) (NxOk.end (by kernel_rfl)) rfl (fun x => by kernel_rfl)
theorem law24_EspOpens_3_b {E : Env} (N : Nat) (hb : Base Tryd.prog (law24_EspOpens_C N) E 0) : Blk Tryd.prog (law24_EspOpens_C N) E [14, 15, 98, 99, 100] law24_EspOpens_S4 (law24_EspOpens_L.drop 10) (fun y => law24_EspOpens_3 N y.1.1 y.1.2.1 y.1.2.2.1 y.2.1 y.2.2.1) (law24_EspOpens_K N) :=
  Blk.loopAt (Nf := N) (hns := [14, 15, 98, 99, 100]) (ans := []) (hc := law24_EspOpens_S1) (ac := law24_EspOpens_S3) (bid := 0) (step := (fun y => law24_EspOpens_s4 N y.1.1 y.1.2.1 y.1.2.2.1 y.1.2.2.2.1 y.2.1)) (J := (fun e => (goK 0 [] law24_EspOpens_S3 (fun y => law24_EspOpens_12 N)) (law24_EspOpens_S3.st [] e))) hb (by kernel_rfl) (Blk.into (X := (goK 0 [] law24_EspOpens_S3 (fun y => law24_EspOpens_12 N))) (NxOk.go hb (law24_EspOpens_12_b N hb)) (fun x => by kernel_rfl)) (law24_EspOpens_s4_b N hb) (fun x => by kernel_rfl)
theorem law24_EspOpens_2_b {E : Env} (N : Nat) (hb : Base Tryd.prog (law24_EspOpens_C N) E 0) : Blk Tryd.prog (law24_EspOpens_C N) E [1, 4, 14, 15, 16, 18] law24_EspOpens_S5 (law24_EspOpens_L.drop 9) (fun y => law24_EspOpens_2 N y.1.1 y.1.2.1 y.1.2.2.1 y.2.1 y.2.2.1 y.2.2.2.1) (law24_EspOpens_K N) :=
  Blk.chunkAt hb 1 (X := (goK 0 [14, 15, 98, 99, 100] law24_EspOpens_S4 (fun y => law24_EspOpens_3 N y.1.1 y.1.2.1 y.1.2.2.1 y.2.1 y.2.2.1))) (NxOk.go hb (law24_EspOpens_3_b N hb)) rfl (fun x => by kernel_rfl)
theorem law24_EspOpens_1_b {E : Env} (N : Nat) (hb : Base Tryd.prog (law24_EspOpens_C N) E 0) : Blk Tryd.prog (law24_EspOpens_C N) E [0, 1, 2, 3, 4, 5, 46] law24_EspOpens_S6 (law24_EspOpens_L.drop 2) (fun y => law24_EspOpens_1 N y.1.1 y.1.2.1 y.1.2.2.1 y.1.2.2.2.1 y.1.2.2.2.2.1 y.1.2.2.2.2.2.1 y.1.2.2.2.2.2.2.1) (law24_EspOpens_K N) :=
  Blk.chunkAt hb 7 (X := (goK 0 [1, 4, 14, 15, 16, 18] law24_EspOpens_S5 (fun y => law24_EspOpens_2 N y.1.1 y.1.2.1 y.1.2.2.1 y.2.1 y.2.2.1 y.2.2.2.1))) (NxOk.go hb (law24_EspOpens_2_b N hb)) rfl (fun x => by kernel_rfl)
theorem law24_EspOpens_b {E : Env} (N : Nat) (hb : Base Tryd.prog (law24_EspOpens_C N) E 0) : Blk Tryd.prog (law24_EspOpens_C N) E (List.range law24_EspOpens_S7.ks.length) law24_EspOpens_S7 (law24_EspOpens_L.drop 0) (fun y => law24_EspOpens N y.1.1 y.1.2.1 y.1.2.2.1 y.1.2.2.2.1 y.1.2.2.2.2.1 y.1.2.2.2.2.2.1) (law24_EspOpens_K N) :=
  Blk.chunkAt hb 2 (X := (goK 0 [0, 1, 2, 3, 4, 5, 46] law24_EspOpens_S6 (fun y => law24_EspOpens_1 N y.1.1 y.1.2.1 y.1.2.2.1 y.1.2.2.2.1 y.1.2.2.2.2.1 y.1.2.2.2.2.2.1 y.1.2.2.2.2.2.2.1))) (NxOk.go hb (law24_EspOpens_1_b N hb)) rfl (fun x => by kernel_rfl)
noncomputable def law24_EspOpens_ctr (N : Nat) : Ctr := ⟨law24_EspOpens_S7, law24_EspOpens_S8.un [false], 0, (fun y => law24_EspOpens N y.1.1 y.1.2.1 y.1.2.2.1 y.1.2.2.2.1 y.1.2.2.2.2.1 y.1.2.2.2.2.2.1)⟩
theorem law24_EspOpens_ctrs (N : Nat) : CtrsOk Tryd.prog (law24_EspOpens_C N) := ctrs_of (Γ := law24_EspOpens_C N) (by
  intro p hp
  simp only [law24_EspOpens_C, List.mem_cons, List.not_mem_nil, or_false] at hp
  rcases hp with rfl | rfl | rfl | rfl | rfl | rfl | rfl | rfl | rfl | rfl | rfl
  · exact law24_awake_ok N
  · exact draw_New_ok N
  · exact law24_key_ok N
  · exact draw_Codes_Next_ok N
  · exact ref24_Seal_ok N
  · exact draw_Mod_ok N
  · exact esp_Open_ok N
  · exact ref24_Open_ok N
  · exact ref24_SameBytes_ok N
  · exact esp_Head_ok N
  · exact ref24_Head_ok N)
theorem law24_EspOpens_ok (N : Nat) : Ctr.ok Tryd.prog G_globs 5 (law24_EspOpens_ctr N) :=
  ctr_fn (Γ := law24_EspOpens_C N) (rfit := law24_EspOpens_S8) (bs := [false]) (res := [12]) (by kernel_rfl) (tys_ok G_tys_ok) (law24_EspOpens_ctrs N) Tryd.func5 (by kernel_rfl) (by kernel_rfl) Tryd.ntmps5 (by kernel_rfl) (by kernel_rfl) (by kernel_rfl) (by kernel_rfl) (fun E hb => law24_EspOpens_b N hb)
end Go.Proofs.YtofajgidjkjnpaaDoor
namespace Go.Proofs.YtofajgidjkjnpaaDoor
open Go
set_option maxRecDepth 100000
set_option linter.unusedVariables false
/-! ipsecgate/ipsecgateref01.Number -/
abbrev ref01_Number_R : Type := ((UInt64 × Bool × Unit) × (Unit))
noncomputable def ref01_Number_s3 (N : Nat) (b_0 : (List UInt8)) (at_1 : Int) (width_2 : Int) (v_8 : UInt64) (i_9 : Int) : Option (Lo (((List UInt8) × Int × Int × UInt64 × Int × Unit) × (Unit)) ((UInt64 × Unit) × (Unit)) ref01_Number_R) :=
  bif (decide (i_9 < (w64 (at_1 + width_2)))) then
    bif inR i_9 b_0.length then
    some (.go ((b_0, at_1, width_2, ((shl64 v_8 8) ||| (b_0.getD i_9.toNat (0 : UInt8)).toUInt64), (w64 (i_9 + (1 : Int))), ()), (())))
    else none
  else
    some (.br ((v_8, ()), (())))
noncomputable def ref01_Number_4 (N : Nat) (v_8 : UInt64) : Option ref01_Number_R :=
  some ((v_8, true, ()), (()))
noncomputable def ref01_Number_2 (N : Nat) (b_0 : (List UInt8)) (at_1 : Int) (width_2 : Int) (v_8 : UInt64) (i_9 : Int) : Option ref01_Number_R :=
  loopK N (fun y => ref01_Number_s3 N y.1.1 y.1.2.1 y.1.2.2.1 y.1.2.2.2.1 y.1.2.2.2.2.1) (fun (e : ((UInt64 × Unit) × (Unit))) => ref01_Number_4 N e.1.1) ((b_0, at_1, width_2, v_8, i_9, ()), (()))
noncomputable def ref01_Number_1 (N : Nat) (b_0 : (List UInt8)) (at_1 : Int) (width_2 : Int) (t_33 : Bool) : Option ref01_Number_R :=
  bif t_33 then
    some (((0 : UInt64), false, ()), (()))
  else
    ref01_Number_2 N b_0 at_1 width_2 (0 : UInt64) at_1
noncomputable def ref01_Number (N : Nat) (b_0 : (List UInt8)) (at_1 : Int) (width_2 : Int) : Option ref01_Number_R :=
  bif (decide (width_2 < (1 : Int))) then
    ref01_Number_1 N b_0 at_1 width_2 true
  else
    bif (decide ((8 : Int) < width_2)) then
      ref01_Number_1 N b_0 at_1 width_2 true
    else
      bif (decide (at_1 < (0 : Int))) then
        ref01_Number_1 N b_0 at_1 width_2 true
      else
        bif (decide ((b_0.length : Int) < at_1)) then
          ref01_Number_1 N b_0 at_1 width_2 true
        else
          ref01_Number_1 N b_0 at_1 width_2 (decide ((w64 ((b_0.length : Int) - at_1)) < width_2))
noncomputable def ref01_Number_C (N : Nat) : Ctx := ⟨51, G_tys, [], G_globs⟩
noncomputable def ref01_Number_S0 : Spec := ⟨[.val (.sl .u8), .val .i64, .val .i64, .val .u64, .val .i64], []⟩
noncomputable def ref01_Number_S1 : Spec := ⟨[.val .u64], []⟩
noncomputable def ref01_Number_S2 : Spec := ⟨[.val (.sl .u8), .val .i64, .val .i64, .val .bool], []⟩
noncomputable def ref01_Number_S3 : Spec := ⟨[.val (.sl .u8), .val .i64, .val .i64], []⟩
noncomputable def ref01_Number_S4 : Spec := ⟨[.val .u64, .val .bool], []⟩
noncomputable def ref01_Number_K (_N : Nat) : XE → GS → Option ref01_Number_R := retK 0 [6, 7] [false, false] ref01_Number_S4
noncomputable def ref01_Number_L : List Code := (bodyOf (some Tryd.f58))
noncomputable def ref01_Number_L3 : List Code := (loopOf (ref01_Number_L[5]?))
noncomputable def ref01_Number_K3 (N : Nat) : XE → GS → Option (Lo (((List UInt8) × Int × Int × UInt64 × Int × Unit) × (Unit)) ((UInt64 × Unit) × (Unit)) ref01_Number_R) := roundK (some 0) (fit 0 [0, 1, 2, 8, 9] ref01_Number_S0) (fit 0 [8] ref01_Number_S1) (ref01_Number_K N)
theorem ref01_Number_s3_b {E : Env} (N : Nat) (hb : Base Tryd.prog (ref01_Number_C N) E 0) : Blk Tryd.prog (ref01_Number_C N) E [0, 1, 2, 8, 9] ref01_Number_S0 (ref01_Number_L3.drop 0) (fun y => ref01_Number_s3 N y.1.1 y.1.2.1 y.1.2.2.1 y.1.2.2.2.1 y.1.2.2.2.2.1) (ref01_Number_K3 N) :=
  Blk.chunkAt hb 4 (X := (ref01_Number_K3 N .normal)) (NxOk.end (by kernel_rfl)) rfl (fun x => by kernel_rfl)
theorem ref01_Number_4_b {E : Env} (N : Nat) (hb : Base Tryd.prog (ref01_Number_C N) E 0) : Blk Tryd.prog (ref01_Number_C N) E [8] ref01_Number_S1 (ref01_Number_L.drop 6) (fun y => ref01_Number_4 N y.1.1) (ref01_Number_K N) :=
  Blk.chunkAt hb 2 (X := (ref01_Number_K N .normal)) (NxOk.end (by kernel_rfl)) rfl (fun x => by kernel_rfl)
theorem ref01_Number_2_b {E : Env} (N : Nat) (hb : Base Tryd.prog (ref01_Number_C N) E 0) : Blk Tryd.prog (ref01_Number_C N) E [0, 1, 2, 8, 9] ref01_Number_S0 (ref01_Number_L.drop 5) (fun y => ref01_Number_2 N y.1.1 y.1.2.1 y.1.2.2.1 y.1.2.2.2.1 y.1.2.2.2.2.1) (ref01_Number_K N) :=
  Blk.loopAt (Nf := N) (hns := [0, 1, 2, 8, 9]) (ans := [8]) (hc := ref01_Number_S0) (ac := ref01_Number_S1) (bid := 0) (step := (fun y => ref01_Number_s3 N y.1.1 y.1.2.1 y.1.2.2.1 y.1.2.2.2.1 y.1.2.2.2.2.1)) (J := (fun e => (goK 0 [8] ref01_Number_S1 (fun y => ref01_Number_4 N y.1.1)) (ref01_Number_S1.st [8] e))) hb (by kernel_rfl) (Blk.into (X := (goK 0 [8] ref01_Number_S1 (fun y => ref01_Number_4 N y.1.1))) (NxOk.go hb (ref01_Number_4_b N hb)) (fun x => by kernel_rfl)) (ref01_Number_s3_b N hb) (fun x => by kernel_rfl)
theorem ref01_Number_1_b {E : Env} (N : Nat) (hb : Base Tryd.prog (ref01_Number_C N) E 0) : Blk Tryd.prog (ref01_Number_C N) E [0, 1, 2, 33] ref01_Number_S2 (ref01_Number_L.drop 2) (fun y => ref01_Number_1 N y.1.1 y.1.2.1 y.1.2.2.1 y.1.2.2.2.1) (ref01_Number_K N) :=
  Blk.chunkAt hb 3 (X := (goK 0 [0, 1, 2, 8, 9] ref01_Number_S0 (fun y => ref01_Number_2 N y.1.1 y.1.2.1 y.1.2.2.1 y.1.2.2.2.1 y.1.2.2.2.2.1))) (NxOk.go hb (ref01_Number_2_b N hb)) rfl (fun x => by kernel_rfl)
theorem ref01_Number_b {E : Env} (N : Nat) (hb : Base Tryd.prog (ref01_Number_C N) E 0) : Blk Tryd.prog (ref01_Number_C N) E (List.range ref01_Number_S3.ks.length) ref01_Number_S3 (ref01_Number_L.drop 0) (fun y => ref01_Number N y.1.1 y.1.2.1 y.1.2.2.1) (ref01_Number_K N) :=
  Blk.chunkAt hb 2 (X := (goK 0 [0, 1, 2, 33] ref01_Number_S2 (fun y => ref01_Number_1 N y.1.1 y.1.2.1 y.1.2.2.1 y.1.2.2.2.1))) (NxOk.go hb (ref01_Number_1_b N hb)) rfl (fun x => by kernel_rfl)
noncomputable def ref01_Number_ctr (N : Nat) : Ctr := ⟨ref01_Number_S3, ref01_Number_S4.un [false, false], 0, (fun y => ref01_Number N y.1.1 y.1.2.1 y.1.2.2.1)⟩
theorem ref01_Number_ctrs (N : Nat) : CtrsOk Tryd.prog (ref01_Number_C N) := ctrs_nil rfl
theorem ref01_Number_ok (N : Nat) : Ctr.ok Tryd.prog G_globs 58 (ref01_Number_ctr N) :=
  ctr_fn (Γ := ref01_Number_C N) (rfit := ref01_Number_S4) (bs := [false, false]) (res := [6, 7]) (by kernel_rfl) (tys_ok G_tys_ok) (ref01_Number_ctrs N) Tryd.func58 (by kernel_rfl) (by kernel_rfl) Tryd.ntmps58 (by kernel_rfl) (by kernel_rfl) (by kernel_rfl) (by kernel_rfl) (fun E hb => ref01_Number_b N hb)
end Go.Proofs.YtofajgidjkjnpaaDoor
namespace Go.Proofs.YtofajgidjkjnpaaDoor
open Go
set_option maxRecDepth 100000
set_option linter.unusedVariables false
/-! ipsecgate/ipsecgateref01.Put -/
abbrev ref01_Put_R : Type := ((Unit) × ((List UInt8) × Unit))
noncomputable def ref01_Put_s3 (N : Nat) (v_1 : UInt64) (i_8 : Int) (out_7 : (List UInt8)) : Option (Lo ((UInt64 × Int × Unit) × ((List UInt8) × Unit)) ((Unit) × ((List UInt8) × Unit)) ref01_Put_R) :=
  bif (decide ((0 : Int) ≤ i_8)) then
    let x6 := shr64 v_1 (iu64 (w64 ((8 : Int) * i_8))).toNat
    bif room (out_7.length + ([x6.toUInt8] : List UInt8).length) 1 then
    some (.go ((v_1, (w64 (i_8 - (1 : Int))), ()), ((out_7 ++ ([x6.toUInt8] : List UInt8)), ())))
    else none
  else
    some (.br ((()), (out_7, ())))
noncomputable def ref01_Put_4 (N : Nat) (out_7 : (List UInt8)) : Option ref01_Put_R :=
  some ((()), (out_7, ()))
noncomputable def ref01_Put_2 (N : Nat) (v_1 : UInt64) (i_8 : Int) (out_7 : (List UInt8)) : Option ref01_Put_R :=
  loopK N (fun y => ref01_Put_s3 N y.1.1 y.1.2.1 y.2.1) (fun (e : ((Unit) × ((List UInt8) × Unit))) => ref01_Put_4 N e.2.1) ((v_1, i_8, ()), (out_7, ()))
noncomputable def ref01_Put_1 (N : Nat) (v_1 : UInt64) (width_2 : Int) (t_16 : Bool) (out_7 : (List UInt8)) : Option ref01_Put_R :=
  bif t_16 then
    some ((()), (out_7, ()))
  else
    ref01_Put_2 N v_1 (w64 (width_2 - (1 : Int))) out_7
noncomputable def ref01_Put (N : Nat) (b_0 : (List UInt8)) (v_1 : UInt64) (width_2 : Int) : Option ref01_Put_R :=
  bif room (0 + b_0.length) 1 then
  bif (decide (width_2 < (1 : Int))) then
    ref01_Put_1 N v_1 width_2 true b_0
  else
    ref01_Put_1 N v_1 width_2 (decide ((8 : Int) < width_2)) b_0
  else none
noncomputable def ref01_Put_C (N : Nat) : Ctx := ⟨34, G_tys, [], G_globs⟩
noncomputable def ref01_Put_S0 : Spec := ⟨[.val .u64, .row 0, .val .i64], [(.row 5 .u8, .pos 1)]⟩
noncomputable def ref01_Put_S1 : Spec := ⟨[.row 0], [(.row 5 .u8, .pos 0)]⟩
noncomputable def ref01_Put_S2 : Spec := ⟨[.val .u64, .val .i64, .row 0, .val .bool], [(.row 5 .u8, .pos 2)]⟩
noncomputable def ref01_Put_S3 : Spec := ⟨[.val (.sl .u8), .val .u64, .val .i64], []⟩
noncomputable def ref01_Put_K (_N : Nat) : XE → GS → Option ref01_Put_R := retK 0 [6] [false] ref01_Put_S1
noncomputable def ref01_Put_L : List Code := (bodyOf (some Tryd.f113))
noncomputable def ref01_Put_L3 : List Code := (loopOf (ref01_Put_L[5]?))
noncomputable def ref01_Put_K3 (N : Nat) : XE → GS → Option (Lo ((UInt64 × Int × Unit) × ((List UInt8) × Unit)) ((Unit) × ((List UInt8) × Unit)) ref01_Put_R) := roundK (some 0) (fit 0 [1, 7, 8] ref01_Put_S0) (fit 0 [7] ref01_Put_S1) (ref01_Put_K N)
theorem ref01_Put_s3_b {E : Env} (N : Nat) (hb : Base Tryd.prog (ref01_Put_C N) E 0) : Blk Tryd.prog (ref01_Put_C N) E [1, 7, 8] ref01_Put_S0 (ref01_Put_L3.drop 0) (fun y => ref01_Put_s3 N y.1.1 y.1.2.1 y.2.1) (ref01_Put_K3 N) :=
  Blk.chunkAt hb 4 (X := (ref01_Put_K3 N .normal)) (NxOk.end (by kernel_rfl)) rfl (fun x => by kernel_rfl)
theorem ref01_Put_4_b {E : Env} (N : Nat) (hb : Base Tryd.prog (ref01_Put_C N) E 0) : Blk Tryd.prog (ref01_Put_C N) E [7] ref01_Put_S1 (ref01_Put_L.drop 6) (fun y => ref01_Put_4 N y.2.1) (ref01_Put_K N) :=
  Blk.chunkAt hb 2 (X := (ref01_Put_K N .normal)) (NxOk.end (by kernel_rfl)) rfl (fun x => by kernel_rfl)
theorem ref01_Put_2_b {E : Env} (N : Nat) (hb : Base Tryd.prog (ref01_Put_C N) E 0) : Blk Tryd.prog (ref01_Put_C N) E [1, 7, 8] ref01_Put_S0 (ref01_Put_L.drop 5) (fun y => ref01_Put_2 N y.1.1 y.1.2.1 y.2.1) (ref01_Put_K N) :=
  Blk.loopAt (Nf := N) (hns := [1, 7, 8]) (ans := [7]) (hc := ref01_Put_S0) (ac := ref01_Put_S1) (bid := 0) (step := (fun y => ref01_Put_s3 N y.1.1 y.1.2.1 y.2.1)) (J := (fun e => (goK 0 [7] ref01_Put_S1 (fun y => ref01_Put_4 N y.2.1)) (ref01_Put_S1.st [7] e))) hb (by kernel_rfl) (Blk.into (X := (goK 0 [7] ref01_Put_S1 (fun y => ref01_Put_4 N y.2.1))) (NxOk.go hb (ref01_Put_4_b N hb)) (fun x => by kernel_rfl)) (ref01_Put_s3_b N hb) (fun x => by kernel_rfl)
theorem ref01_Put_1_b {E : Env} (N : Nat) (hb : Base Tryd.prog (ref01_Put_C N) E 0) : Blk Tryd.prog (ref01_Put_C N) E [1, 2, 7, 16] ref01_Put_S2 (ref01_Put_L.drop 3) (fun y => ref01_Put_1 N y.1.1 y.1.2.1 y.1.2.2.1 y.2.1) (ref01_Put_K N) :=
  Blk.chunkAt hb 2 (X := (goK 0 [1, 7, 8] ref01_Put_S0 (fun y => ref01_Put_2 N y.1.1 y.1.2.1 y.2.1))) (NxOk.go hb (ref01_Put_2_b N hb)) rfl (fun x => by kernel_rfl)
theorem ref01_Put_b {E : Env} (N : Nat) (hb : Base Tryd.prog (ref01_Put_C N) E 0) : Blk Tryd.prog (ref01_Put_C N) E (List.range ref01_Put_S3.ks.length) ref01_Put_S3 (ref01_Put_L.drop 0) (fun y => ref01_Put N y.1.1 y.1.2.1 y.1.2.2.1) (ref01_Put_K N) :=
  Blk.chunkAt hb 3 (X := (goK 0 [1, 2, 7, 16] ref01_Put_S2 (fun y => ref01_Put_1 N y.1.1 y.1.2.1 y.1.2.2.1 y.2.1))) (NxOk.go hb (ref01_Put_1_b N hb)) rfl (fun x => by kernel_rfl)
noncomputable def ref01_Put_ctr (N : Nat) : Ctr := ⟨ref01_Put_S3, ref01_Put_S1.un [false], 0, (fun y => ref01_Put N y.1.1 y.1.2.1 y.1.2.2.1)⟩
theorem ref01_Put_ctrs (N : Nat) : CtrsOk Tryd.prog (ref01_Put_C N) := ctrs_nil rfl
theorem ref01_Put_ok (N : Nat) : Ctr.ok Tryd.prog G_globs 113 (ref01_Put_ctr N) :=
  ctr_fn (Γ := ref01_Put_C N) (rfit := ref01_Put_S1) (bs := [false]) (res := [6]) (by kernel_rfl) (tys_ok G_tys_ok) (ref01_Put_ctrs N) Tryd.func113 (by kernel_rfl) (by kernel_rfl) Tryd.ntmps113 (by kernel_rfl) (by kernel_rfl) (by kernel_rfl) (by kernel_rfl) (fun E hb => ref01_Put_b N hb)
end Go.Proofs.YtofajgidjkjnpaaDoor
namespace Go.Proofs.YtofajgidjkjnpaaDoor
open Go
set_option maxRecDepth 100000
set_option linter.unusedVariables false
/-! ipsecgate/ipsecgatelaw24.EspSeals -/
abbrev law24_EspSeals_R : Type := ((Bool × Unit) × (Unit))
noncomputable def law24_EspSeals_s3 (N : Nat) (payload_1 : (List UInt8)) (spi_2 : UInt32) (number_3 : UInt64) (t_45 : Int) (t_46 : Int) (k_14 : (List UInt8)) (t_44 : (List (List Int))) : Option (Lo (((List UInt8) × UInt32 × UInt64 × Int × Int × Unit) × ((List UInt8) × (List (List Int)) × Unit)) ((Unit) × (Unit)) law24_EspSeals_R) :=
  bif (decide (t_46 < t_45)) then
    bif inR t_46 t_44.length then
    let x14 := (t_44.getD t_46.toNat (List.replicate 2 (0 : Int)))
    Option.bind (esp_Seal N k_14 spi_2 number_3 (x14.getD 0 (0 : Int)) payload_1 (x14.getD 1 (0 : Int))) fun y17 =>
    Option.bind (ref24_Seal N k_14 spi_2 number_3 (x14.getD 0 (0 : Int)) payload_1 (x14.getD 1 (0 : Int))) fun y20 =>
    bif (!(decide (y17.1.1 = y20.1.1))) then
      some (.rt ((false, ()), (())))
    else
      Option.bind (ref24_SameBytes N y17.2.1 y20.2.1) fun y22 =>
      bif (!y22.1.1) then
        some (.rt ((false, ()), (())))
      else
        some (.go ((payload_1, spi_2, number_3, t_45, (w64 (t_46 + (1 : Int))), ()), (k_14, t_44, ())))
    else none
  else
    some (.br ((()), (())))
noncomputable def law24_EspSeals_4 (N : Nat) : Option law24_EspSeals_R :=
  some ((true, ()), (()))
noncomputable def law24_EspSeals_2 (N : Nat) (payload_1 : (List UInt8)) (spi_2 : UInt32) (number_3 : UInt64) (t_45 : Int) (t_46 : Int) (k_14 : (List UInt8)) (t_44 : (List (List Int))) : Option law24_EspSeals_R :=
  loopK N (fun y => law24_EspSeals_s3 N y.1.1 y.1.2.1 y.1.2.2.1 y.1.2.2.2.1 y.1.2.2.2.2.1 y.2.1 y.2.2.1) (fun (e : ((Unit) × (Unit))) => law24_EspSeals_4 N) ((payload_1, spi_2, number_3, t_45, t_46, ()), (k_14, t_44, ()))
noncomputable def law24_EspSeals_1 (N : Nat) (codes_0 : (List UInt8)) (payload_1 : (List UInt8)) (spi_2 : UInt32) (number_3 : UInt64) (next_4 : Int) (extra_5 : Int) (t_27 : Bool) : Option law24_EspSeals_R :=
  bif t_27 then
    some (((decide ((200 : Int) < (payload_1.length : Int))), ()), (()))
  else
    Option.bind (draw_New N codes_0 (30 : Int)) fun y5 =>
    Option.bind (law24_key N y5.2.1) fun y6 =>
    let x7 := ([next_4, extra_5] : List Int)
    Option.bind (draw_Mod N next_4 (256 : Int)) fun y8 =>
    Option.bind (draw_Mod N extra_5 (260 : Int)) fun y9 =>
    let x10 := ([y8.1.1, y9.1.1] : List Int)
    let x11 := ([(50 : Int), (0 : Int)] : List Int)
    law24_EspSeals_2 N payload_1 spi_2 number_3 (([x7, x10, x11] : List (List Int)).length : Int) (0 : Int) y6.2.2.1 ([x7, x10, x11] : List (List Int))
noncomputable def law24_EspSeals (N : Nat) (codes_0 : (List UInt8)) (payload_1 : (List UInt8)) (spi_2 : UInt32) (number_3 : UInt64) (next_4 : Int) (extra_5 : Int) : Option law24_EspSeals_R :=
  Option.bind (law24_awake N) fun y1 =>
  bif (!y1.1.1) then
    law24_EspSeals_1 N codes_0 payload_1 spi_2 number_3 next_4 extra_5 true
  else
    law24_EspSeals_1 N codes_0 payload_1 spi_2 number_3 next_4 extra_5 (decide ((200 : Int) < (payload_1.length : Int)))
noncomputable def law24_EspSeals_C (N : Nat) : Ctx := ⟨84, G_tys, [(25, law24_awake_ctr N), (26, draw_New_ctr N), (27, law24_key_ctr N), (28, draw_Mod_ctr N), (29, esp_Seal_ctr N), (30, ref24_Seal_ctr N), (31, ref24_SameBytes_ctr N)], G_globs⟩
noncomputable def law24_EspSeals_S0 : Spec := ⟨[.val (.sl .u8), .val .u32, .val .u64, .row 0, .row 1, .val .i64, .val .i64], [(.row 5 .u8, .pos 3), (.row 44 (.arr 2 .i64), .pos 4)]⟩
noncomputable def law24_EspSeals_S1 : Spec := ⟨[], []⟩
noncomputable def law24_EspSeals_S2 : Spec := ⟨[.val (.sl .u8), .val (.sl .u8), .val .u32, .val .u64, .val .i64, .val .i64, .val .bool], []⟩
noncomputable def law24_EspSeals_S3 : Spec := ⟨[.val (.sl .u8), .val (.sl .u8), .val .u32, .val .u64, .val .i64, .val .i64], []⟩
noncomputable def law24_EspSeals_S4 : Spec := ⟨[.val .bool], []⟩
noncomputable def law24_EspSeals_K (_N : Nat) : XE → GS → Option law24_EspSeals_R := retK 0 [12] [false] law24_EspSeals_S4
noncomputable def law24_EspSeals_L : List Code := (bodyOf (some Tryd.f4))
noncomputable def law24_EspSeals_L3 : List Code := (loopOf (law24_EspSeals_L[6]?))
noncomputable def law24_EspSeals_K3 (N : Nat) : XE → GS → Option (Lo (((List UInt8) × UInt32 × UInt64 × Int × Int × Unit) × ((List UInt8) × (List (List Int)) × Unit)) ((Unit) × (Unit)) law24_EspSeals_R) := roundK (some 0) (fit 0 [1, 2, 3, 14, 44, 45, 46] law24_EspSeals_S0) (fit 0 [] law24_EspSeals_S1) (law24_EspSeals_K N)
theorem law24_EspSeals_s3_b {E : Env} (N : Nat) (hb : Base Tryd.prog (law24_EspSeals_C N) E 0) : Blk Tryd.prog (law24_EspSeals_C N) E [1, 2, 3, 14, 44, 45, 46] law24_EspSeals_S0 (law24_EspSeals_L3.drop 0) (fun y => law24_EspSeals_s3 N y.1.1 y.1.2.1 y.1.2.2.1 y.1.2.2.2.1 y.1.2.2.2.2.1 y.2.1 y.2.2.1) (law24_EspSeals_K3 N) :=
  Blk.chunkAt hb 4 (X := (law24_EspSeals_K3 N .normal)) (NxOk.end (by kernel_rfl)) rfl (fun x => by kernel_rfl)
theorem law24_EspSeals_4_b {E : Env} (N : Nat) (hb : Base Tryd.prog (law24_EspSeals_C N) E 0) : Blk Tryd.prog (law24_EspSeals_C N) E [] law24_EspSeals_S1 (law24_EspSeals_L.drop 7) (fun y => law24_EspSeals_4 N) (law24_EspSeals_K N) :=
  Blk.chunkAt hb 2 (X := (law24_EspSeals_K N .normal)) (NxOk.end (by kernel_rfl)) rfl (fun x => by kernel_rfl)
theorem law24_EspSeals_2_b {E : Env} (N : Nat) (hb : Base Tryd.prog (law24_EspSeals_C N) E 0) : Blk Tryd.prog (law24_EspSeals_C N) E [1, 2, 3, 14, 44, 45, 46] law24_EspSeals_S0 (law24_EspSeals_L.drop 6) (fun y => law24_EspSeals_2 N y.1.1 y.1.2.1 y.1.2.2.1 y.1.2.2.2.1 y.1.2.2.2.2.1 y.2.1 y.2.2.1) (law24_EspSeals_K N) :=
  Blk.loopAt (Nf := N) (hns := [1, 2, 3, 14, 44, 45, 46]) (ans := []) (hc := law24_EspSeals_S0) (ac := law24_EspSeals_S1) (bid := 0) (step := (fun y => law24_EspSeals_s3 N y.1.1 y.1.2.1 y.1.2.2.1 y.1.2.2.2.1 y.1.2.2.2.2.1 y.2.1 y.2.2.1)) (J := (fun e => (goK 0 [] law24_EspSeals_S1 (fun y => law24_EspSeals_4 N)) (law24_EspSeals_S1.st [] e))) hb (by kernel_rfl) (Blk.into (X := (goK 0 [] law24_EspSeals_S1 (fun y => law24_EspSeals_4 N))) (NxOk.go hb (law24_EspSeals_4_b N hb)) (fun x => by kernel_rfl)) (law24_EspSeals_s3_b N hb) (fun x => by kernel_rfl)
theorem law24_EspSeals_1_b {E : Env} (N : Nat) (hb : Base Tryd.prog (law24_EspSeals_C N) E 0) : Blk Tryd.prog (law24_EspSeals_C N) E [0, 1, 2, 3, 4, 5, 27] law24_EspSeals_S2 (law24_EspSeals_L.drop 2) (fun y => law24_EspSeals_1 N y.1.1 y.1.2.1 y.1.2.2.1 y.1.2.2.2.1 y.1.2.2.2.2.1 y.1.2.2.2.2.2.1 y.1.2.2.2.2.2.2.1) (law24_EspSeals_K N) :=
  Blk.chunkAt hb 4 (X := (goK 0 [1, 2, 3, 14, 44, 45, 46] law24_EspSeals_S0 (fun y => law24_EspSeals_2 N y.1.1 y.1.2.1 y.1.2.2.1 y.1.2.2.2.1 y.1.2.2.2.2.1 y.2.1 y.2.2.1))) (NxOk.go hb (law24_EspSeals_2_b N hb)) rfl (fun x => by kernel_rfl)
theorem law24_EspSeals_b {E : Env} (N : Nat) (hb : Base Tryd.prog (law24_EspSeals_C N) E 0) : Blk Tryd.prog (law24_EspSeals_C N) E (List.range law24_EspSeals_S3.ks.length) law24_EspSeals_S3 (law24_EspSeals_L.drop 0) (fun y => law24_EspSeals N y.1.1 y.1.2.1 y.1.2.2.1 y.1.2.2.2.1 y.1.2.2.2.2.1 y.1.2.2.2.2.2.1) (law24_EspSeals_K N) :=
  Blk.chunkAt hb 2 (X := (goK 0 [0, 1, 2, 3, 4, 5, 27] law24_EspSeals_S2 (fun y => law24_EspSeals_1 N y.1.1 y.1.2.1 y.1.2.2.1 y.1.2.2.2.1 y.1.2.2.2.2.1 y.1.2.2.2.2.2.1 y.1.2.2.2.2.2.2.1))) (NxOk.go hb (law24_EspSeals_1_b N hb)) rfl (fun x => by kernel_rfl)
noncomputable def law24_EspSeals_ctr (N : Nat) : Ctr := ⟨law24_EspSeals_S3, law24_EspSeals_S4.un [false], 0, (fun y => law24_EspSeals N y.1.1 y.1.2.1 y.1.2.2.1 y.1.2.2.2.1 y.1.2.2.2.2.1 y.1.2.2.2.2.2.1)⟩
theorem law24_EspSeals_ctrs (N : Nat) : CtrsOk Tryd.prog (law24_EspSeals_C N) := ctrs_of (Γ := law24_EspSeals_C N) (by
  intro p hp
  simp only [law24_EspSeals_C, List.mem_cons, List.not_mem_nil, or_false] at hp
  rcases hp with rfl | rfl | rfl | rfl | rfl | rfl | rfl
  · exact law24_awake_ok N
  · exact draw_New_ok N
  · exact law24_key_ok N
  · exact draw_Mod_ok N
  · exact esp_Seal_ok N
  · exact ref24_Seal_ok N
  · exact ref24_SameBytes_ok N)
theorem law24_EspSeals_ok (N : Nat) : Ctr.ok Tryd.prog G_globs 4 (law24_EspSeals_ctr N) :=
  ctr_fn (Γ := law24_EspSeals_C N) (rfit := law24_EspSeals_S4) (bs := [false]) (res := [12]) (by kernel_rfl) (tys_ok G_tys_ok) (law24_EspSeals_ctrs N) Tryd.func4 (by kernel_rfl) (by kernel_rfl) Tryd.ntmps4 (by kernel_rfl) (by kernel_rfl) (by kernel_rfl) (by kernel_rfl) (fun E hb => law24_EspSeals_b N hb)
end Go.Proofs.YtofajgidjkjnpaaDoor
namespace Go.Proofs.YtofajgidjkjnpaaDoor
open Go
set_option maxRecDepth 100000
set_option linter.unusedVariables false
/-! ipsecgate/ipsecgatelaw24.EspPads -/
abbrev law24_EspPads_R : Type := ((Bool × Unit) × (Unit))
noncomputable def law24_EspPads_1 (N : Nat) (payload_0 : (List UInt8)) (extra_1 : Int) (next_2 : UInt8) (t_17 : Bool) : Option law24_EspPads_R :=
  bif t_17 then
    some (((decide ((300 : Int) < (payload_0.length : Int))), ()), (()))
  else
    Option.bind (draw_Mod N extra_1 (251 : Int)) fun y5 =>
    Option.bind (esp_Seal N (List.replicate 36 (0 : UInt8)) (1 : UInt32) (1 : UInt64) (next_2.toNat : Int) payload_0 y5.1.1) fun y7 =>
    let x12 := w64 ((w64 ((w64 ((y7.2.1.length : Int) - (24 : Int))) - (payload_0.length : Int))) - (2 : Int))
    bif (decide (y7.1.1 = (0 : Int))) then
      bif (decide (y5.1.1 ≤ x12)) then
        bif (decide (x12 ≤ (w64 (y5.1.1 + (3 : Int))))) then
          some (((decide (((w64 ((w64 ((payload_0.length : Int) + x12)) + (2 : Int))).tmod (4 : Int)) = (0 : Int))), ()), (()))
        else
          some ((false, ()), (()))
      else
        some ((false, ()), (()))
    else
      some ((false, ()), (()))
noncomputable def law24_EspPads (N : Nat) (payload_0 : (List UInt8)) (extra_1 : Int) (next_2 : UInt8) : Option law24_EspPads_R :=
  Option.bind (law24_awake N) fun y1 =>
  bif (!y1.1.1) then
    law24_EspPads_1 N payload_0 extra_1 next_2 true
  else
    law24_EspPads_1 N payload_0 extra_1 next_2 (decide ((300 : Int) < (payload_0.length : Int)))
noncomputable def law24_EspPads_C (N : Nat) : Ctx := ⟨61, G_tys, [(25, law24_awake_ctr N), (28, draw_Mod_ctr N), (29, esp_Seal_ctr N)], G_globs⟩
noncomputable def law24_EspPads_S0 : Spec := ⟨[.val (.sl .u8), .val .i64, .val .u8, .val .bool], []⟩
noncomputable def law24_EspPads_S1 : Spec := ⟨[.val (.sl .u8), .val .i64, .val .u8], []⟩
noncomputable def law24_EspPads_S2 : Spec := ⟨[.val .bool], []⟩
noncomputable def law24_EspPads_K (_N : Nat) : XE → GS → Option law24_EspPads_R := retK 0 [6] [false] law24_EspPads_S2
noncomputable def law24_EspPads_L : List Code := (bodyOf (some Tryd.f6))
theorem law24_EspPads_1_b {E : Env} (N : Nat) (hb : Base Tryd.prog (law24_EspPads_C N) E 0) : Blk Tryd.prog (law24_EspPads_C N) E [0, 1, 2, 17] law24_EspPads_S0 (law24_EspPads_L.drop 2) (fun y => law24_EspPads_1 N y.1.1 y.1.2.1 y.1.2.2.1 y.1.2.2.2.1) (law24_EspPads_K N) :=
  Blk.chunkAt hb 6 (X := (law24_EspPads_K N .normal)) (NxOk.end (by kernel_rfl)) rfl (fun x => by kernel_rfl)
theorem law24_EspPads_b {E : Env} (N : Nat) (hb : Base Tryd.prog (law24_EspPads_C N) E 0) : Blk Tryd.prog (law24_EspPads_C N) E (List.range law24_EspPads_S1.ks.length) law24_EspPads_S1 (law24_EspPads_L.drop 0) (fun y => law24_EspPads N y.1.1 y.1.2.1 y.1.2.2.1) (law24_EspPads_K N) :=
  Blk.chunkAt hb 2 (X := (goK 0 [0, 1, 2, 17] law24_EspPads_S0 (fun y => law24_EspPads_1 N y.1.1 y.1.2.1 y.1.2.2.1 y.1.2.2.2.1))) (NxOk.go hb (law24_EspPads_1_b N hb)) rfl (fun x => by kernel_rfl)
noncomputable def law24_EspPads_ctr (N : Nat) : Ctr := ⟨law24_EspPads_S1, law24_EspPads_S2.un [false], 0, (fun y => law24_EspPads N y.1.1 y.1.2.1 y.1.2.2.1)⟩
theorem law24_EspPads_ctrs (N : Nat) : CtrsOk Tryd.prog (law24_EspPads_C N) := ctrs_of (Γ := law24_EspPads_C N) (by
  intro p hp
  simp only [law24_EspPads_C, List.mem_cons, List.not_mem_nil, or_false] at hp
  rcases hp with rfl | rfl | rfl
  · exact law24_awake_ok N
  · exact draw_Mod_ok N
  · exact esp_Seal_ok N)
theorem law24_EspPads_ok (N : Nat) : Ctr.ok Tryd.prog G_globs 6 (law24_EspPads_ctr N) :=
  ctr_fn (Γ := law24_EspPads_C N) (rfit := law24_EspPads_S2) (bs := [false]) (res := [6]) (by kernel_rfl) (tys_ok G_tys_ok) (law24_EspPads_ctrs N) Tryd.func6 (by kernel_rfl) (by kernel_rfl) Tryd.ntmps6 (by kernel_rfl) (by kernel_rfl) (by kernel_rfl) (by kernel_rfl) (fun E hb => law24_EspPads_b N hb)
end Go.Proofs.YtofajgidjkjnpaaDoor