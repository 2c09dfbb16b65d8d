/- Functions of the program as plain functions, each with the proof that the text computes it. -/
import Derived.Test.YtlamdneheilahaaDoorFnsAeadJoinsA
set_option linter.unusedVariables false
set_option linter.unusedSimpArgs false
namespace Go.Proofs.YtlamdneheilahaaDoor
open Go
set_option maxRecDepth 100000
set_option linter.unusedVariables false
/-! ipsecgate/ipsecgateref11.carry -/
abbrev ref11_carry_R : Type := (((List UInt32) × Unit) × (Unit))
noncomputable def ref11_carry_s7 (N : Nat) (round_3 : Int) (u_4 : UInt32) (i_5 : Int) (h_1 : (List UInt32)) (t_2 : (List UInt32)) : Option (Lo ((Int × UInt32 × Int × Unit) × ((List UInt32) × (List UInt32) × Unit)) ((Int × UInt32 × Unit) × ((List UInt32) × (List UInt32) × Unit)) (Lo ((Int × Unit) × ((List UInt32) × (List UInt32) × Unit)) ((Unit) × ((List UInt32) × (List UInt32) × Unit)) ref11_carry_R)) :=
  bif (decide (i_5 < (17 : Int))) then
    bif inR i_5 17 then
    let x3 := (h_1.getD i_5.toNat (0 : UInt32))
    bif inR i_5 17 then
    let x6 := (h_1.set i_5.toNat ((u_4 + x3) &&& (255 : UInt32)))
    bif (decide (i_5 = (16 : Int))) then
      bif inR i_5 17 then
      some (.go ((round_3, ((5 : UInt32) * (shr32 (u_4 + x3) 2)), (w64 (i_5 + (1 : Int))), ()), ((x6.set i_5.toNat ((u_4 + x3) &&& (3 : UInt32))), t_2, ())))
      else none
    else
      some (.go ((round_3, (shr32 (u_4 + x3) 8), (w64 (i_5 + (1 : Int))), ()), (x6, t_2, ())))
    else none
    else none
  else
    some (.br ((round_3, u_4, ()), (h_1, t_2, ())))
noncomputable def ref11_carry_9 (N : Nat) (round_3 : Int) (h_1 : (List UInt32)) (t_2 : (List UInt32)) : Option (Lo ((Int × Unit) × ((List UInt32) × (List UInt32) × Unit)) ((Unit) × ((List UInt32) × (List UInt32) × Unit)) ref11_carry_R) :=
  some (.go (((w64 (round_3 + (1 : Int))), ()), (h_1, t_2, ())))
noncomputable def ref11_carry_8 (N : Nat) (round_3 : Int) (u_4 : UInt32) (h_1 : (List UInt32)) (t_2 : (List UInt32)) : Option (Lo ((Int × Unit) × ((List UInt32) × (List UInt32) × Unit)) ((Unit) × ((List UInt32) × (List UInt32) × Unit)) ref11_carry_R) :=
  ref11_carry_9 N round_3 (h_1.set 0 ((h_1.getD 0 (0 : UInt32)) + u_4)) t_2
noncomputable def ref11_carry_6 (N : Nat) (round_3 : Int) (u_4 : UInt32) (i_5 : Int) (h_1 : (List UInt32)) (t_2 : (List UInt32)) : Option (Lo ((Int × Unit) × ((List UInt32) × (List UInt32) × Unit)) ((Unit) × ((List UInt32) × (List UInt32) × Unit)) ref11_carry_R) :=
  loopK N (fun y => ref11_carry_s7 N y.1.1 y.1.2.1 y.1.2.2.1 y.2.1 y.2.2.1) (fun (e : ((Int × UInt32 × Unit) × ((List UInt32) × (List UInt32) × Unit))) => ref11_carry_8 N e.1.1 e.1.2.1 e.2.1 e.2.2.1) ((round_3, u_4, i_5, ()), (h_1, t_2, ()))
noncomputable def ref11_carry_5 (N : Nat) (round_3 : Int) (h_1 : (List UInt32)) (t_2 : (List UInt32)) : Option (Lo ((Int × Unit) × ((List UInt32) × (List UInt32) × Unit)) ((Unit) × ((List UInt32) × (List UInt32) × Unit)) ref11_carry_R) :=
  ref11_carry_6 N round_3 (0 : UInt32) (0 : Int) h_1 t_2
noncomputable def ref11_carry_3 (N : Nat) (round_3 : Int) (h_1 : (List UInt32)) (t_2 : (List UInt32)) : Option (Lo ((Int × Unit) × ((List UInt32) × (List UInt32) × Unit)) ((Unit) × ((List UInt32) × (List UInt32) × Unit)) ref11_carry_R) :=
  ref11_carry_5 N round_3 h_1 t_2
noncomputable def ref11_carry_s2 (N : Nat) (round_3 : Int) (h_1 : (List UInt32)) (t_2 : (List UInt32)) : Option (Lo ((Int × Unit) × ((List UInt32) × (List UInt32) × Unit)) ((Unit) × ((List UInt32) × (List UInt32) × Unit)) ref11_carry_R) :=
  bif (decide (round_3 < (3 : Int))) then
    ref11_carry_3 N round_3 h_1 t_2
  else
    some (.br ((()), (h_1, t_2, ())))
noncomputable def ref11_carry_10 (N : Nat) (h_1 : (List UInt32)) (t_2 : (List UInt32)) : Option ref11_carry_R :=
  some ((h_1, ()), (()))
noncomputable def ref11_carry_1 (N : Nat) (round_3 : Int) (h_1 : (List UInt32)) (t_2 : (List UInt32)) : Option ref11_carry_R :=
  loopK N (fun y => ref11_carry_s2 N y.1.1 y.2.1 y.2.2.1) (fun (e : ((Unit) × ((List UInt32) × (List UInt32) × Unit))) => ref11_carry_10 N e.2.1 e.2.2.1) ((round_3, ()), (h_1, t_2, ()))
noncomputable def ref11_carry (N : Nat) (h_0 : (List UInt32)) : Option ref11_carry_R :=
  ref11_carry_1 N (0 : Int) h_0 (List.replicate 17 (0 : UInt32))
noncomputable def ref11_carry_C (N : Nat) : Ctx := ⟨40, G_tys, [], G_globs⟩
noncomputable def ref11_carry_S0 : Spec := ⟨[.ref 0 (.arr 17 .u32), .ref 1 (.arr 17 .u32), .val .i64, .val .u32, .val .i64], [(.box 124 (.arr 17 .u32), .pos 0), (.box 124 (.arr 17 .u32), .pos 1)]⟩
noncomputable def ref11_carry_S1 : Spec := ⟨[.ref 0 (.arr 17 .u32), .ref 1 (.arr 17 .u32), .val .i64], [(.box 124 (.arr 17 .u32), .pos 0), (.box 124 (.arr 17 .u32), .pos 1)]⟩
noncomputable def ref11_carry_S2 : Spec := ⟨[.ref 0 (.arr 17 .u32), .ref 1 (.arr 17 .u32), .val .i64, .val .u32], [(.box 124 (.arr 17 .u32), .pos 0), (.box 124 (.arr 17 .u32), .pos 1)]⟩
noncomputable def ref11_carry_S3 : Spec := ⟨[.ref 0 (.arr 17 .u32), .ref 1 (.arr 17 .u32)], [(.box 124 (.arr 17 .u32), .pos 0), (.box 124 (.arr 17 .u32), .pos 1)]⟩
noncomputable def ref11_carry_S4 : Spec := ⟨[.val (.arr 17 .u32)], []⟩
noncomputable def ref11_carry_S5 : Spec := ⟨[.fp (.arr 17 .u32)], []⟩
noncomputable def ref11_carry_K (_N : Nat) : XE → GS → Option ref11_carry_R := retK 0 [2] [true] ref11_carry_S5
noncomputable def ref11_carry_L : List Code := (bodyOf (some Tryd.f113))
noncomputable def ref11_carry_L2 : List Code := (loopOf (ref11_carry_L[2]?))
noncomputable def ref11_carry_L4b : List Code := (blockOf (ref11_carry_L2[2]?))
noncomputable def ref11_carry_L7 : List Code := (loopOf (ref11_carry_L4b[2]?))
noncomputable def ref11_carry_K2 (N : Nat) : XE → GS → Option (Lo ((Int × Unit) × ((List UInt32) × (List UInt32) × Unit)) ((Unit) × ((List UInt32) × (List UInt32) × Unit)) ref11_carry_R) := roundK (some 0) (fit 0 [1, 2, 3] ref11_carry_S1) (fit 0 [1, 2] ref11_carry_S3) (ref11_carry_K N)
noncomputable def ref11_carry_K4 (N : Nat) : XE → GS → Option (Lo ((Int × Unit) × ((List UInt32) × (List UInt32) × Unit)) ((Unit) × ((List UInt32) × (List UInt32) × Unit)) ref11_carry_R) := blockK 1 (goK 0 [1, 2, 3] ref11_carry_S1 (fun y => ref11_carry_9 N y.1.1 y.2.1 y.2.2.1)) (ref11_carry_K2 N)
noncomputable def ref11_carry_K7 (N : Nat) : XE → GS → Option (Lo ((Int × UInt32 × Int × Unit) × ((List UInt32) × (List UInt32) × Unit)) ((Int × UInt32 × Unit) × ((List UInt32) × (List UInt32) × Unit)) (Lo ((Int × Unit) × ((List UInt32) × (List UInt32) × Unit)) ((Unit) × ((List UInt32) × (List UInt32) × Unit)) ref11_carry_R)) := roundK (some 2) (fit 0 [1, 2, 3, 4, 5] ref11_carry_S0) (fit 0 [1, 2, 3, 4] ref11_carry_S2) (ref11_carry_K4 N)
theorem ref11_carry_s7_b {E : Env} (N : Nat) (hb : Base Tryd.prog (ref11_carry_C N) E 0) : Blk Tryd.prog (ref11_carry_C N) E [1, 2, 3, 4, 5] ref11_carry_S0 (ref11_carry_L7.drop 0) (fun y => ref11_carry_s7 N y.1.1 y.1.2.1 y.1.2.2.1 y.2.1 y.2.2.1) (ref11_carry_K7 N) :=
  Blk.chunkAt hb 4 (X := (ref11_carry_K7 N .normal)) (NxOk.end (by kernel_rfl)) rfl (fun x => by kernel_rfl)
theorem ref11_carry_9_b {E : Env} (N : Nat) (hb : Base Tryd.prog (ref11_carry_C N) E 0) : Blk Tryd.prog (ref11_carry_C N) E [1, 2, 3] ref11_carry_S1 (ref11_carry_L2.drop 3) (fun y => ref11_carry_9 N y.1.1 y.2.1 y.2.2.1) (ref11_carry_K2 N) :=
  Blk.chunkAt hb 1 (X := (ref11_carry_K2 N .normal)) (NxOk.end (by kernel_rfl)) rfl (fun x => by kernel_rfl)
theorem ref11_carry_8_b {E : Env} (N : Nat) (hb : Base Tryd.prog (ref11_carry_C N) E 0) : Blk Tryd.prog (ref11_carry_C N) E [1, 2, 3, 4] ref11_carry_S2 (ref11_carry_L4b.drop 3) (fun y => ref11_carry_8 N y.1.1 y.1.2.1 y.2.1 y.2.2.1) (ref11_carry_K4 N) :=
  Blk.chunkAt hb 1 (X := (ref11_carry_K4 N .normal)) (NxOk.end (by kernel_rfl)) rfl (fun x => by kernel_rfl)
theorem ref11_carry_6_b {E : Env} (N : Nat) (hb : Base Tryd.prog (ref11_carry_C N) E 0) : Blk Tryd.prog (ref11_carry_C N) E [1, 2, 3, 4, 5] ref11_carry_S0 (ref11_carry_L4b.drop 2) (fun y => ref11_carry_6 N y.1.1 y.1.2.1 y.1.2.2.1 y.2.1 y.2.2.1) (ref11_carry_K4 N) :=
  Blk.loopAt (Nf := N) (hns := [1, 2, 3, 4, 5]) (ans := [1, 2, 3, 4]) (hc := ref11_carry_S0) (ac := ref11_carry_S2) (bid := 2) (step := (fun y => ref11_carry_s7 N y.1.1 y.1.2.1 y.1.2.2.1 y.2.1 y.2.2.1)) (J := (fun e => (goK 0 [1, 2, 3, 4] ref11_carry_S2 (fun y => ref11_carry_8 N y.1.1 y.1.2.1 y.2.1 y.2.2.1)) (ref11_carry_S2.st [1, 2, 3, 4] e))) hb (by kernel_rfl) (Blk.into (X := (goK 0 [1, 2, 3, 4] ref11_carry_S2 (fun y => ref11_carry_8 N y.1.1 y.1.2.1 y.2.1 y.2.2.1))) (NxOk.go hb (ref11_carry_8_b N hb)) (fun x => by kernel_rfl)) (ref11_carry_s7_b N hb) (fun x => by kernel_rfl)
theorem ref11_carry_5_b {E : Env} (N : Nat) (hb : Base Tryd.prog (ref11_carry_C N) E 0) : Blk Tryd.prog (ref11_carry_C N) E [1, 2, 3] ref11_carry_S1 (ref11_carry_L4b.drop 0) (fun y => ref11_carry_5 N y.1.1 y.2.1 y.2.2.1) (ref11_carry_K4 N) :=
  Blk.chunkAt hb 2 (X := (goK 0 [1, 2, 3, 4, 5] ref11_carry_S0 (fun y => ref11_carry_6 N y.1.1 y.1.2.1 y.1.2.2.1 y.2.1 y.2.2.1))) (NxOk.go hb (ref11_carry_6_b N hb)) rfl (fun x => by kernel_rfl)
theorem ref11_carry_3_b {E : Env} (N : Nat) (hb : Base Tryd.prog (ref11_carry_C N) E 0) : Blk Tryd.prog (ref11_carry_C N) E [1, 2, 3] ref11_carry_S1 (ref11_carry_L2.drop 2) (fun y => ref11_carry_3 N y.1.1 y.2.1 y.2.2.1) (ref11_carry_K2 N) :=
  Blk.blockAt (bid := 1) (X := (goK 0 [1, 2, 3] ref11_carry_S1 (fun y => ref11_carry_9 N y.1.1 y.2.1 y.2.2.1))) (Y := (goK 0 [1, 2, 3] ref11_carry_S1 (fun y => ref11_carry_5 N y.1.1 y.2.1 y.2.2.1))) (by kernel_rfl) (NxOk.go hb (ref11_carry_9_b N hb)) (NxOk.go hb (ref11_carry_5_b N hb)) (fun x => by kernel_rfl)
theorem ref11_carry_s2_b {E : Env} (N : Nat) (hb : Base Tryd.prog (ref11_carry_C N) E 0) : Blk Tryd.prog (ref11_carry_C N) E [1, 2, 3] ref11_carry_S1 (ref11_carry_L2.drop 0) (fun y => ref11_carry_s2 N y.1.1 y.2.1 y.2.2.1) (ref11_carry_K2 N) :=
  Blk.chunkAt hb 2 (X := (goK 0 [1, 2, 3] ref11_carry_S1 (fun y => ref11_carry_3 N y.1.1 y.2.1 y.2.2.1))) (NxOk.go hb (ref11_carry_3_b N hb)) rfl (fun x => by kernel_rfl)
theorem ref11_carry_10_b {E : Env} (N : Nat) (hb : Base Tryd.prog (ref11_carry_C N) E 0) : Blk Tryd.prog (ref11_carry_C N) E [1, 2] ref11_carry_S3 (ref11_carry_L.drop 3) (fun y => ref11_carry_10 N y.2.1 y.2.2.1) (ref11_carry_K N) :=
  Blk.chunkAt hb 2 (X := (ref11_carry_K N .normal)) (NxOk.end (by kernel_rfl)) rfl (fun x => by kernel_rfl)
theorem ref11_carry_1_b {E : Env} (N : Nat) (hb : Base Tryd.prog (ref11_carry_C N) E 0) : Blk Tryd.prog (ref11_carry_C N) E [1, 2, 3] ref11_carry_S1 (ref11_carry_L.drop 2) (fun y => ref11_carry_1 N y.1.1 y.2.1 y.2.2.1) (ref11_carry_K N) :=
  Blk.loopAt (Nf := N) (hns := [1, 2, 3]) (ans := [1, 2]) (hc := ref11_carry_S1) (ac := ref11_carry_S3) (bid := 0) (step := (fun y => ref11_carry_s2 N y.1.1 y.2.1 y.2.2.1)) (J := (fun e => (goK 0 [1, 2] ref11_carry_S3 (fun y => ref11_carry_10 N y.2.1 y.2.2.1)) (ref11_carry_S3.st [1, 2] e))) hb (by kernel_rfl) (Blk.into (X := (goK 0 [1, 2] ref11_carry_S3 (fun y => ref11_carry_10 N y.2.1 y.2.2.1))) (NxOk.go hb (ref11_carry_10_b N hb)) (fun x => by kernel_rfl)) (ref11_carry_s2_b N hb) (fun x => by kernel_rfl)
theorem ref11_carry_b {E : Env} (N : Nat) (hb : Base Tryd.prog (ref11_carry_C N) E 0) : Blk Tryd.prog (ref11_carry_C N) E (List.range ref11_carry_S4.ks.length) ref11_carry_S4 (ref11_carry_L.drop 0) (fun y => ref11_carry N y.1.1) (ref11_carry_K N) :=
  Blk.chunkAt hb 2 (X := (goK 0 [1, 2, 3] ref11_carry_S1 (fun y => ref11_carry_1 N y.1.1 y.2.1 y.2.2.1))) (NxOk.go hb (ref11_carry_1_b N hb)) rfl (fun x => by kernel_rfl)
noncomputable def ref11_carry_ctr (N : Nat) : Ctr := ⟨ref11_carry_S4, ref11_carry_S5.un [true], 0, (fun y => ref11_carry N y.1.1)⟩
theorem ref11_carry_ctrs (N : Nat) : CtrsOk Tryd.prog (ref11_carry_C N) := ctrs_nil rfl
theorem ref11_carry_ok (N : Nat) : Ctr.ok Tryd.prog G_globs 113 (ref11_carry_ctr N) :=
  ctr_fn (Γ := ref11_carry_C N) (rfit := ref11_carry_S5) (bs := [true]) (res := [2]) (by kernel_rfl) (tys_ok G_tys_ok) (ref11_carry_ctrs N) Tryd.func113 (by kernel_rfl) (by kernel_rfl) Tryd.ntmps113 (by kernel_rfl) (by kernel_rfl) (by kernel_rfl) (by kernel_rfl) (fun E hb => ref11_carry_b N hb)
end Go.Proofs.YtlamdneheilahaaDoor
namespace Go.Proofs.YtlamdneheilahaaDoor
open Go
set_option maxRecDepth 100000
set_option linter.unusedVariables false
/-! ipsecgate/ipsecgateref11.product -/
abbrev ref11_product_R : Type := (((List UInt32) × Unit) × (Unit))
noncomputable def ref11_product_s7 (N : Nat) (i_6 : Int) (u_7 : UInt32) (j_8 : Int) (a_2 : (List UInt32)) (b_3 : (List UInt32)) (t_4 : (List UInt32)) (out_5 : (List UInt32)) : Option (Lo ((Int × UInt32 × Int × Unit) × ((List UInt32) × (List UInt32) × (List UInt32) × (List UInt32) × Unit)) ((Int × UInt32 × Unit) × ((List UInt32) × (List UInt32) × (List UInt32) × (List UInt32) × Unit)) (Lo ((Int × Unit) × ((List UInt32) × (List UInt32) × (List UInt32) × (List UInt32) × Unit)) ((Unit) × ((List UInt32) × (List UInt32) × Unit)) ref11_product_R)) :=
  bif (decide (j_8 < (17 : Int))) then
    bif (decide (j_8 ≤ i_6)) then
      bif inR j_8 17 then
      let x5 := w64 (i_6 - j_8)
      bif inR x5 17 then
      some (.go ((i_6, (u_7 + ((a_2.getD j_8.toNat (0 : UInt32)) * (b_3.getD x5.toNat (0 : UInt32)))), (w64 (j_8 + (1 : Int))), ()), (a_2, b_3, t_4, out_5, ())))
      else none
      else none
    else
      bif inR j_8 17 then
      let x13 := w64 ((w64 ((17 : Int) + i_6)) - j_8)
      bif inR x13 17 then
      some (.go ((i_6, (u_7 + (((320 : UInt32) * (a_2.getD j_8.toNat (0 : UInt32))) * (b_3.getD x13.toNat (0 : UInt32)))), (w64 (j_8 + (1 : Int))), ()), (a_2, b_3, t_4, out_5, ())))
      else none
      else none
  else
    some (.br ((i_6, u_7, ()), (a_2, b_3, t_4, out_5, ())))
noncomputable def ref11_product_9 (N : Nat) (i_6 : Int) (a_2 : (List UInt32)) (b_3 : (List UInt32)) (t_4 : (List UInt32)) (out_5 : (List UInt32)) : Option (Lo ((Int × Unit) × ((List UInt32) × (List UInt32) × (List UInt32) × (List UInt32) × Unit)) ((Unit) × ((List UInt32) × (List UInt32) × Unit)) ref11_product_R) :=
  some (.go (((w64 (i_6 + (1 : Int))), ()), (a_2, b_3, t_4, out_5, ())))
noncomputable def ref11_product_8 (N : Nat) (i_6 : Int) (u_7 : UInt32) (a_2 : (List UInt32)) (b_3 : (List UInt32)) (t_4 : (List UInt32)) (out_5 : (List UInt32)) : Option (Lo ((Int × Unit) × ((List UInt32) × (List UInt32) × (List UInt32) × (List UInt32) × Unit)) ((Unit) × ((List UInt32) × (List UInt32) × Unit)) ref11_product_R) :=
  bif inR i_6 17 then
  ref11_product_9 N i_6 a_2 b_3 t_4 (out_5.set i_6.toNat u_7)
  else none
noncomputable def ref11_product_6 (N : Nat) (i_6 : Int) (u_7 : UInt32) (j_8 : Int) (a_2 : (List UInt32)) (b_3 : (List UInt32)) (t_4 : (List UInt32)) (out_5 : (List UInt32)) : Option (Lo ((Int × Unit) × ((List UInt32) × (List UInt32) × (List UInt32) × (List UInt32) × Unit)) ((Unit) × ((List UInt32) × (List UInt32) × Unit)) ref11_product_R) :=
  loopK N (fun y => ref11_product_s7 N y.1.1 y.1.2.1 y.1.2.2.1 y.2.1 y.2.2.1 y.2.2.2.1 y.2.2.2.2.1) (fun (e : ((Int × UInt32 × Unit) × ((List UInt32) × (List UInt32) × (List UInt32) × (List UInt32) × Unit))) => ref11_product_8 N e.1.1 e.1.2.1 e.2.1 e.2.2.1 e.2.2.2.1 e.2.2.2.2.1) ((i_6, u_7, j_8, ()), (a_2, b_3, t_4, out_5, ()))
noncomputable def ref11_product_5 (N : Nat) (i_6 : Int) (a_2 : (List UInt32)) (b_3 : (List UInt32)) (t_4 : (List UInt32)) (out_5 : (List UInt32)) : Option (Lo ((Int × Unit) × ((List UInt32) × (List UInt32) × (List UInt32) × (List UInt32) × Unit)) ((Unit) × ((List UInt32) × (List UInt32) × Unit)) ref11_product_R) :=
  ref11_product_6 N i_6 (0 : UInt32) (0 : Int) a_2 b_3 t_4 out_5
noncomputable def ref11_product_3 (N : Nat) (i_6 : Int) (a_2 : (List UInt32)) (b_3 : (List UInt32)) (t_4 : (List UInt32)) (out_5 : (List UInt32)) : Option (Lo ((Int × Unit) × ((List UInt32) × (List UInt32) × (List UInt32) × (List UInt32) × Unit)) ((Unit) × ((List UInt32) × (List UInt32) × Unit)) ref11_product_R) :=
  ref11_product_5 N i_6 a_2 b_3 t_4 out_5
noncomputable def ref11_product_s2 (N : Nat) (i_6 : Int) (a_2 : (List UInt32)) (b_3 : (List UInt32)) (t_4 : (List UInt32)) (out_5 : (List UInt32)) : Option (Lo ((Int × Unit) × ((List UInt32) × (List UInt32) × (List UInt32) × (List UInt32) × Unit)) ((Unit) × ((List UInt32) × (List UInt32) × Unit)) ref11_product_R) :=
  bif (decide (i_6 < (17 : Int))) then
    ref11_product_3 N i_6 a_2 b_3 t_4 out_5
  else
    some (.br ((()), (t_4, out_5, ())))
noncomputable def ref11_product_10 (N : Nat) (t_4 : (List UInt32)) (out_5 : (List UInt32)) : Option ref11_product_R :=
  Option.bind (ref11_carry N out_5) fun y20 =>
  some ((y20.1.1, ()), (()))
noncomputable def ref11_product_1 (N : Nat) (i_6 : Int) (a_2 : (List UInt32)) (b_3 : (List UInt32)) (t_4 : (List UInt32)) (out_5 : (List UInt32)) : Option ref11_product_R :=
  loopK N (fun y => ref11_product_s2 N y.1.1 y.2.1 y.2.2.1 y.2.2.2.1 y.2.2.2.2.1) (fun (e : ((Unit) × ((List UInt32) × (List UInt32) × Unit))) => ref11_product_10 N e.2.1 e.2.2.1) ((i_6, ()), (a_2, b_3, t_4, out_5, ()))
noncomputable def ref11_product (N : Nat) (a_0 : (List UInt32)) (b_1 : (List UInt32)) : Option ref11_product_R :=
  ref11_product_1 N (0 : Int) a_0 b_1 (List.replicate 17 (0 : UInt32)) (List.replicate 17 (0 : UInt32))
noncomputable def ref11_product_C (N : Nat) : Ctx := ⟨49, G_tys, [(113, ref11_carry_ctr N)], G_globs⟩
noncomputable def ref11_product_S0 : Spec := ⟨[.ref 0 (.arr 17 .u32), .ref 1 (.arr 17 .u32), .ref 2 (.arr 17 .u32), .ref 3 (.arr 17 .u32), .val .i64, .val .u32, .val .i64], [(.box 124 (.arr 17 .u32), .pos 0), (.box 124 (.arr 17 .u32), .pos 1), (.box 124 (.arr 17 .u32), .pos 2), (.box 124 (.arr 17 .u32), .pos 3)]⟩
noncomputable def ref11_product_S1 : Spec := ⟨[.ref 0 (.arr 17 .u32), .ref 1 (.arr 17 .u32), .ref 2 (.arr 17 .u32), .ref 3 (.arr 17 .u32), .val .i64], [(.box 124 (.arr 17 .u32), .pos 0), (.box 124 (.arr 17 .u32), .pos 1), (.box 124 (.arr 17 .u32), .pos 2), (.box 124 (.arr 17 .u32), .pos 3)]⟩
noncomputable def ref11_product_S2 : Spec := ⟨[.ref 0 (.arr 17 .u32), .ref 1 (.arr 17 .u32), .ref 2 (.arr 17 .u32), .ref 3 (.arr 17 .u32), .val .i64, .val .u32], [(.box 124 (.arr 17 .u32), .pos 0), (.box 124 (.arr 17 .u32), .pos 1), (.box 124 (.arr 17 .u32), .pos 2), (.box 124 (.arr 17 .u32), .pos 3)]⟩
noncomputable def ref11_product_S3 : Spec := ⟨[.ref 0 (.arr 17 .u32), .ref 1 (.arr 17 .u32)], [(.box 124 (.arr 17 .u32), .pos 0), (.box 124 (.arr 17 .u32), .pos 1)]⟩
noncomputable def ref11_product_S4 : Spec := ⟨[.val (.arr 17 .u32), .val (.arr 17 .u32)], []⟩
noncomputable def ref11_product_S5 : Spec := ⟨[.fp (.arr 17 .u32)], []⟩
noncomputable def ref11_product_K (_N : Nat) : XE → GS → Option ref11_product_R := retK 0 [4] [true] ref11_product_S5
noncomputable def ref11_product_L : List Code := (bodyOf (some Tryd.f112))
noncomputable def ref11_product_L2 : List Code := (loopOf (ref11_product_L[3]?))
noncomputable def ref11_product_L4b : List Code := (blockOf (ref11_product_L2[2]?))
noncomputable def ref11_product_L7 : List Code := (loopOf (ref11_product_L4b[2]?))
noncomputable def ref11_product_K2 (N : Nat) : XE → GS → Option (Lo ((Int × Unit) × ((List UInt32) × (List UInt32) × (List UInt32) × (List UInt32) × Unit)) ((Unit) × ((List UInt32) × (List UInt32) × Unit)) ref11_product_R) := roundK (some 0) (fit 0 [2, 3, 4, 5, 6] ref11_product_S1) (fit 0 [4, 5] ref11_product_S3) (ref11_product_K N)
noncomputable def ref11_product_K4 (N : Nat) : XE → GS → Option (Lo ((Int × Unit) × ((List UInt32) × (List UInt32) × (List UInt32) × (List UInt32) × Unit)) ((Unit) × ((List UInt32) × (List UInt32) × Unit)) ref11_product_R) := blockK 1 (goK 0 [2, 3, 4, 5, 6] ref11_product_S1 (fun y => ref11_product_9 N y.1.1 y.2.1 y.2.2.1 y.2.2.2.1 y.2.2.2.2.1)) (ref11_product_K2 N)
noncomputable def ref11_product_K7 (N : Nat) : XE → GS → Option (Lo ((Int × UInt32 × Int × Unit) × ((List UInt32) × (List UInt32) × (List UInt32) × (List UInt32) × Unit)) ((Int × UInt32 × Unit) × ((List UInt32) × (List UInt32) × (List UInt32) × (List UInt32) × Unit)) (Lo ((Int × Unit) × ((List UInt32) × (List UInt32) × (List UInt32) × (List UInt32) × Unit)) ((Unit) × ((List UInt32) × (List UInt32) × Unit)) ref11_product_R)) := roundK (some 2) (fit 0 [2, 3, 4, 5, 6, 7, 8] ref11_product_S0) (fit 0 [2, 3, 4, 5, 6, 7] ref11_product_S2) (ref11_product_K4 N)
theorem ref11_product_s7_b {E : Env} (N : Nat) (hb : Base Tryd.prog (ref11_product_C N) E 0) : Blk Tryd.prog (ref11_product_C N) E [2, 3, 4, 5, 6, 7, 8] ref11_product_S0 (ref11_product_L7.drop 0) (fun y => ref11_product_s7 N y.1.1 y.1.2.1 y.1.2.2.1 y.2.1 y.2.2.1 y.2.2.2.1 y.2.2.2.2.1) (ref11_product_K7 N) :=
  Blk.chunkAt hb 4 (X := (ref11_product_K7 N .normal)) (NxOk.end (by kernel_rfl)) rfl (fun x => by kernel_rfl)
theorem ref11_product_9_b {E : Env} (N : Nat) (hb : Base Tryd.prog (ref11_product_C N) E 0) : Blk Tryd.prog (ref11_product_C N) E [2, 3, 4, 5, 6] ref11_product_S1 (ref11_product_L2.drop 3) (fun y => ref11_product_9 N y.1.1 y.2.1 y.2.2.1 y.2.2.2.1 y.2.2.2.2.1) (ref11_product_K2 N) :=
  Blk.chunkAt hb 1 (X := (ref11_product_K2 N .normal)) (NxOk.end (by kernel_rfl)) rfl (fun x => by kernel_rfl)
theorem ref11_product_8_b {E : Env} (N : Nat) (hb : Base Tryd.prog (ref11_product_C N) E 0) : Blk Tryd.prog (ref11_product_C N) E [2, 3, 4, 5, 6, 7] ref11_product_S2 (ref11_product_L4b.drop 3) (fun y => ref11_product_8 N y.1.1 y.1.2.1 y.2.1 y.2.2.1 y.2.2.2.1 y.2.2.2.2.1) (ref11_product_K4 N) :=
  Blk.chunkAt hb 1 (X := (ref11_product_K4 N .normal)) (NxOk.end (by kernel_rfl)) rfl (fun x => by kernel_rfl)
theorem ref11_product_6_b {E : Env} (N : Nat) (hb : Base Tryd.prog (ref11_product_C N) E 0) : Blk Tryd.prog (ref11_product_C N) E [2, 3, 4, 5, 6, 7, 8] ref11_product_S0 (ref11_product_L4b.drop 2) (fun y => ref11_product_6 N y.1.1 y.1.2.1 y.1.2.2.1 y.2.1 y.2.2.1 y.2.2.2.1 y.2.2.2.2.1) (ref11_product_K4 N) :=
  Blk.loopAt (Nf := N) (hns := [2, 3, 4, 5, 6, 7, 8]) (ans := [2, 3, 4, 5, 6, 7]) (hc := ref11_product_S0) (ac := ref11_product_S2) (bid := 2) (step := (fun y => ref11_product_s7 N y.1.1 y.1.2.1 y.1.2.2.1 y.2.1 y.2.2.1 y.2.2.2.1 y.2.2.2.2.1)) (J := (fun e => (goK 0 [2, 3, 4, 5, 6, 7] ref11_product_S2 (fun y => ref11_product_8 N y.1.1 y.1.2.1 y.2.1 y.2.2.1 y.2.2.2.1 y.2.2.2.2.1)) (ref11_product_S2.st [2, 3, 4, 5, 6, 7] e))) hb (by kernel_rfl) (Blk.into (X := (goK 0 [2, 3, 4, 5, 6, 7] ref11_product_S2 (fun y => ref11_product_8 N y.1.1 y.1.2.1 y.2.1 y.2.2.1 y.2.2.2.1 y.2.2.2.2.1))) (NxOk.go hb (ref11_product_8_b N hb)) (fun x => by kernel_rfl)) (ref11_product_s7_b N hb) (fun x => by kernel_rfl)
theorem ref11_product_5_b {E : Env} (N : Nat) (hb : Base Tryd.prog (ref11_product_C N) E 0) : Blk Tryd.prog (ref11_product_C N) E [2, 3, 4, 5, 6] ref11_product_S1 (ref11_product_L4b.drop 0) (fun y => ref11_product_5 N y.1.1 y.2.1 y.2.2.1 y.2.2.2.1 y.2.2.2.2.1) (ref11_product_K4 N) :=
  Blk.chunkAt hb 2 (X := (goK 0 [2, 3, 4, 5, 6, 7, 8] ref11_product_S0 (fun y => ref11_product_6 N y.1.1 y.1.2.1 y.1.2.2.1 y.2.1 y.2.2.1 y.2.2.2.1 y.2.2.2.2.1))) (NxOk.go hb (ref11_product_6_b N hb)) rfl (fun x => by kernel_rfl)
theorem ref11_product_3_b {E : Env} (N : Nat) (hb : Base Tryd.prog (ref11_product_C N) E 0) : Blk Tryd.prog (ref11_product_C N) E [2, 3, 4, 5, 6] ref11_product_S1 (ref11_product_L2.drop 2) (fun y => ref11_product_3 N y.1.1 y.2.1 y.2.2.1 y.2.2.2.1 y.2.2.2.2.1) (ref11_product_K2 N) :=
  Blk.blockAt (bid := 1) (X := (goK 0 [2, 3, 4, 5, 6] ref11_product_S1 (fun y => ref11_product_9 N y.1.1 y.2.1 y.2.2.1 y.2.2.2.1 y.2.2.2.2.1))) (Y := (goK 0 [2, 3, 4, 5, 6] ref11_product_S1 (fun y => ref11_product_5 N y.1.1 y.2.1 y.2.2.1 y.2.2.2.1 y.2.2.2.2.1))) (by kernel_rfl) (NxOk.go hb (ref11_product_9_b N hb)) (NxOk.go hb (ref11_product_5_b N hb)) (fun x => by kernel_rfl)
theorem ref11_product_s2_b {E : Env} (N : Nat) (hb : Base Tryd.prog (ref11_product_C N) E 0) : Blk Tryd.prog (ref11_product_C N) E [2, 3, 4, 5, 6] ref11_product_S1 (ref11_product_L2.drop 0) (fun y => ref11_product_s2 N y.1.1 y.2.1 y.2.2.1 y.2.2.2.1 y.2.2.2.2.1) (ref11_product_K2 N) :=
  Blk.chunkAt hb 2 (X := (goK 0 [2, 3, 4, 5, 6] ref11_product_S1 (fun y => ref11_product_3 N y.1.1 y.2.1 y.2.2.1 y.2.2.2.1 y.2.2.2.2.1))) (NxOk.go hb (ref11_product_3_b N hb)) rfl (fun x => by kernel_rfl)
theorem ref11_product_10_b {E : Env} (N : Nat) (hb : Base Tryd.prog (ref11_product_C N) E 0) : Blk Tryd.prog (ref11_product_C N) E [4, 5] ref11_product_S3 (ref11_product_L.drop 4) (fun y => ref11_product_10 N y.2.1 y.2.2.1) (ref11_product_K N) :=
  Blk.chunkAt hb 2 (X := (ref11_product_K N .normal)) (NxOk.end (by kernel_rfl)) rfl (fun x => by kernel_rfl)
theorem ref11_product_1_b {E : Env} (N : Nat) (hb : Base Tryd.prog (ref11_product_C N) E 0) : Blk Tryd.prog (ref11_product_C N) E [2, 3, 4, 5, 6] ref11_product_S1 (ref11_product_L.drop 3) (fun y => ref11_product_1 N y.1.1 y.2.1 y.2.2.1 y.2.2.2.1 y.2.2.2.2.1) (ref11_product_K N) :=
  Blk.loopAt (Nf := N) (hns := [2, 3, 4, 5, 6]) (ans := [4, 5]) (hc := ref11_product_S1) (ac := ref11_product_S3) (bid := 0) (step := (fun y => ref11_product_s2 N y.1.1 y.2.1 y.2.2.1 y.2.2.2.1 y.2.2.2.2.1)) (J := (fun e => (goK 0 [4, 5] ref11_product_S3 (fun y => ref11_product_10 N y.2.1 y.2.2.1)) (ref11_product_S3.st [4, 5] e))) hb (by kernel_rfl) (Blk.into (X := (goK 0 [4, 5] ref11_product_S3 (fun y => ref11_product_10 N y.2.1 y.2.2.1))) (NxOk.go hb (ref11_product_10_b N hb)) (fun x => by kernel_rfl)) (ref11_product_s2_b N hb) (fun x => by kernel_rfl)
theorem ref11_product_b {E : Env} (N : Nat) (hb : Base Tryd.prog (ref11_product_C N) E 0) : Blk Tryd.prog (ref11_product_C N) E (List.range ref11_product_S4.ks.length) ref11_product_S4 (ref11_product_L.drop 0) (fun y => ref11_product N y.1.1 y.1.2.1) (ref11_product_K N) :=
  Blk.chunkAt hb 3 (X := (goK 0 [2, 3, 4, 5, 6] ref11_product_S1 (fun y => ref11_product_1 N y.1.1 y.2.1 y.2.2.1 y.2.2.2.1 y.2.2.2.2.1))) (NxOk.go hb (ref11_product_1_b N hb)) rfl (fun x => by kernel_rfl)
noncomputable def ref11_product_ctr (N : Nat) : Ctr := ⟨ref11_product_S4, ref11_product_S5.un [true], 0, (fun y => ref11_product N y.1.1 y.1.2.1)⟩
theorem ref11_product_ctrs (N : Nat) : CtrsOk Tryd.prog (ref11_product_C N) := ctrs_of (Γ := ref11_product_C N) (by
  intro p hp
  simp only [ref11_product_C, List.mem_cons, List.not_mem_nil, or_false] at hp
  rcases hp with rfl
  · exact ref11_carry_ok N)
theorem ref11_product_ok (N : Nat) : Ctr.ok Tryd.prog G_globs 112 (ref11_product_ctr N) :=
  ctr_fn (Γ := ref11_product_C N) (rfit := ref11_product_S5) (bs := [true]) (res := [4]) (by kernel_rfl) (tys_ok G_tys_ok) (ref11_product_ctrs N) Tryd.func112 (by kernel_rfl) (by kernel_rfl) Tryd.ntmps112 (by kernel_rfl) (by kernel_rfl) (by kernel_rfl) (by kernel_rfl) (fun E hb => ref11_product_b N hb)
end Go.Proofs.YtlamdneheilahaaDoor
namespace Go.Proofs.YtlamdneheilahaaDoor
open Go
set_option maxRecDepth 100000
set_option linter.unusedVariables false
/-! ipsecgate/ipsecgateref11.Sum -/
abbrev ref11_Sum_R : Type := ((Bool × Unit) × ((List UInt8) × Unit))
noncomputable def ref11_Sum_s7 (N : Nat) (key_0 : (List UInt8)) (b_1 : (List UInt8)) (at_8 : Int) (n_9 : Int) (i_10 : Int) (r_6 : (List UInt32)) (h_7 : (List UInt32)) : Option (Lo (((List UInt8) × (List UInt8) × Int × Int × Int × Unit) × ((List UInt32) × (List UInt32) × Unit)) (((List UInt8) × (List UInt8) × Int × Int × Unit) × ((List UInt32) × (List UInt32) × Unit)) (Lo (((List UInt8) × (List UInt8) × Int × Unit) × ((List UInt32) × (List UInt32) × Unit)) (((List UInt8) × Unit) × ((List UInt32) × Unit)) ref11_Sum_R)) :=
  bif (decide (i_10 < n_9)) then
    bif inR i_10 17 then
    let x11 := w64 (at_8 + i_10)
    bif inR x11 b_1.length then
    bif inR i_10 17 then
    some (.go ((key_0, b_1, at_8, n_9, (w64 (i_10 + (1 : Int))), ()), (r_6, (h_7.set i_10.toNat ((h_7.getD i_10.toNat (0 : UInt32)) + (b_1.getD x11.toNat (0 : UInt8)).toUInt32)), ())))
    else none
    else none
    else none
  else
    some (.br ((key_0, b_1, at_8, n_9, ()), (r_6, h_7, ())))
noncomputable def ref11_Sum_9 (N : Nat) (key_0 : (List UInt8)) (b_1 : (List UInt8)) (at_8 : Int) (r_6 : (List UInt32)) (h_7 : (List UInt32)) : Option (Lo (((List UInt8) × (List UInt8) × Int × Unit) × ((List UInt32) × (List UInt32) × Unit)) (((List UInt8) × Unit) × ((List UInt32) × Unit)) ref11_Sum_R) :=
  some (.go ((key_0, b_1, (w64 (at_8 + (16 : Int))), ()), (r_6, h_7, ())))
noncomputable def ref11_Sum_8 (N : Nat) (key_0 : (List UInt8)) (b_1 : (List UInt8)) (at_8 : Int) (n_9 : Int) (r_6 : (List UInt32)) (h_7 : (List UInt32)) : Option (Lo (((List UInt8) × (List UInt8) × Int × Unit) × ((List UInt32) × (List UInt32) × Unit)) (((List UInt8) × Unit) × ((List UInt32) × Unit)) ref11_Sum_R) :=
  bif inR n_9 17 then
  bif inR n_9 17 then
  Option.bind (ref11_carry N (h_7.set n_9.toNat ((h_7.getD n_9.toNat (0 : UInt32)) + (1 : UInt32)))) fun y19 =>
  Option.bind (ref11_product N y19.1.1 r_6) fun y20 =>
  ref11_Sum_9 N key_0 b_1 at_8 r_6 y20.1.1
  else none
  else none
noncomputable def ref11_Sum_6 (N : Nat) (key_0 : (List UInt8)) (b_1 : (List UInt8)) (at_8 : Int) (n_9 : Int) (i_10 : Int) (r_6 : (List UInt32)) (h_7 : (List UInt32)) : Option (Lo (((List UInt8) × (List UInt8) × Int × Unit) × ((List UInt32) × (List UInt32) × Unit)) (((List UInt8) × Unit) × ((List UInt32) × Unit)) ref11_Sum_R) :=
  loopK N (fun y => ref11_Sum_s7 N y.1.1 y.1.2.1 y.1.2.2.1 y.1.2.2.2.1 y.1.2.2.2.2.1 y.2.1 y.2.2.1) (fun (e : (((List UInt8) × (List UInt8) × Int × Int × Unit) × ((List UInt32) × (List UInt32) × Unit))) => ref11_Sum_8 N e.1.1 e.1.2.1 e.1.2.2.1 e.1.2.2.2.1 e.2.1 e.2.2.1) ((key_0, b_1, at_8, n_9, i_10, ()), (r_6, h_7, ()))
noncomputable def ref11_Sum_5 (N : Nat) (key_0 : (List UInt8)) (b_1 : (List UInt8)) (at_8 : Int) (r_6 : (List UInt32)) (h_7 : (List UInt32)) : Option (Lo (((List UInt8) × (List UInt8) × Int × Unit) × ((List UInt32) × (List UInt32) × Unit)) (((List UInt8) × Unit) × ((List UInt32) × Unit)) ref11_Sum_R) :=
  let x7 := w64 ((b_1.length : Int) - at_8)
  ref11_Sum_6 N key_0 b_1 at_8 (bif decide (x7 < (16 : Int)) then x7 else (16 : Int)) (0 : Int) r_6 h_7
noncomputable def ref11_Sum_3 (N : Nat) (key_0 : (List UInt8)) (b_1 : (List UInt8)) (at_8 : Int) (r_6 : (List UInt32)) (h_7 : (List UInt32)) : Option (Lo (((List UInt8) × (List UInt8) × Int × Unit) × ((List UInt32) × (List UInt32) × Unit)) (((List UInt8) × Unit) × ((List UInt32) × Unit)) ref11_Sum_R) :=
  ref11_Sum_5 N key_0 b_1 at_8 r_6 h_7
noncomputable def ref11_Sum_s2 (N : Nat) (key_0 : (List UInt8)) (b_1 : (List UInt8)) (at_8 : Int) (r_6 : (List UInt32)) (h_7 : (List UInt32)) : Option (Lo (((List UInt8) × (List UInt8) × Int × Unit) × ((List UInt32) × (List UInt32) × Unit)) (((List UInt8) × Unit) × ((List UInt32) × Unit)) ref11_Sum_R) :=
  bif (decide (at_8 < (b_1.length : Int))) then
    ref11_Sum_3 N key_0 b_1 at_8 r_6 h_7
  else
    some (.br ((key_0, ()), (h_7, ())))
noncomputable def ref11_Sum_s12 (N : Nat) (key_0 : (List UInt8)) (u_12 : UInt32) (i_13 : Int) (h_7 : (List UInt32)) (g_11 : (List UInt32)) : Option (Lo (((List UInt8) × UInt32 × Int × Unit) × ((List UInt32) × (List UInt32) × Unit)) (((List UInt8) × Unit) × ((List UInt32) × (List UInt32) × Unit)) ref11_Sum_R) :=
  bif (decide (i_13 < (17 : Int))) then
    bif inR i_13 17 then
    let x24 := (h_7.getD i_13.toNat (0 : UInt32))
    bif inR i_13 17 then
    some (.go ((key_0, (shr32 (u_12 + x24) 8), (w64 (i_13 + (1 : Int))), ()), (h_7, (g_11.set i_13.toNat ((u_12 + x24) &&& (255 : UInt32))), ())))
    else none
    else none
  else
    some (.br ((key_0, ()), (h_7, g_11, ())))
noncomputable def ref11_Sum_s16 (N : Nat) (key_0 : (List UInt8)) (u_12 : UInt32) (i_15 : Int) (h_7 : (List UInt32)) (out_14 : (List UInt8)) : Option (Lo (((List UInt8) × UInt32 × Int × Unit) × ((List UInt32) × (List UInt8) × Unit)) ((Unit) × ((List UInt8) × Unit)) ref11_Sum_R) :=
  bif (decide (i_15 < (16 : Int))) then
    bif inR i_15 17 then
    let x34 := w64 ((16 : Int) + i_15)
    bif inR x34 key_0.length then
    let x36 := (h_7.getD i_15.toNat (0 : UInt32)) + (key_0.getD x34.toNat (0 : UInt8)).toUInt32
    bif room (out_14.length + ([(u_12 + x36).toUInt8] : List UInt8).length) 1 then
    some (.go ((key_0, (shr32 (u_12 + x36) 8), (w64 (i_15 + (1 : Int))), ()), (h_7, (out_14 ++ ([(u_12 + x36).toUInt8] : List UInt8)), ())))
    else none
    else none
    else none
  else
    some (.br ((()), (out_14, ())))
noncomputable def ref11_Sum_17 (N : Nat) (out_14 : (List UInt8)) : Option ref11_Sum_R :=
  some ((true, ()), (out_14, ()))
noncomputable def ref11_Sum_15 (N : Nat) (key_0 : (List UInt8)) (u_12 : UInt32) (i_15 : Int) (h_7 : (List UInt32)) (out_14 : (List UInt8)) : Option ref11_Sum_R :=
  loopK N (fun y => ref11_Sum_s16 N y.1.1 y.1.2.1 y.1.2.2.1 y.2.1 y.2.2.1) (fun (e : ((Unit) × ((List UInt8) × Unit))) => ref11_Sum_17 N e.2.1) ((key_0, u_12, i_15, ()), (h_7, out_14, ()))
noncomputable def ref11_Sum_14 (N : Nat) (key_0 : (List UInt8)) (h_7 : (List UInt32)) : Option ref11_Sum_R :=
  ref11_Sum_15 N key_0 (0 : UInt32) (0 : Int) h_7 ([] : List UInt8)
noncomputable def ref11_Sum_13 (N : Nat) (key_0 : (List UInt8)) (h_7 : (List UInt32)) (g_11 : (List UInt32)) : Option ref11_Sum_R :=
  bif (decide ((4 : UInt32) ≤ (g_11.getD 16 (0 : UInt32)))) then
    ref11_Sum_14 N key_0 g_11
  else
    ref11_Sum_14 N key_0 h_7
noncomputable def ref11_Sum_11 (N : Nat) (key_0 : (List UInt8)) (u_12 : UInt32) (i_13 : Int) (h_7 : (List UInt32)) (g_11 : (List UInt32)) : Option ref11_Sum_R :=
  loopK N (fun y => ref11_Sum_s12 N y.1.1 y.1.2.1 y.1.2.2.1 y.2.1 y.2.2.1) (fun (e : (((List UInt8) × Unit) × ((List UInt32) × (List UInt32) × Unit))) => ref11_Sum_13 N e.1.1 e.2.1 e.2.2.1) ((key_0, u_12, i_13, ()), (h_7, g_11, ()))
noncomputable def ref11_Sum_10 (N : Nat) (key_0 : (List UInt8)) (h_7 : (List UInt32)) : Option ref11_Sum_R :=
  Option.bind (ref11_carry N h_7) fun y22 =>
  ref11_Sum_11 N key_0 (5 : UInt32) (0 : Int) y22.1.1 (List.replicate 17 (0 : UInt32))
noncomputable def ref11_Sum_1 (N : Nat) (key_0 : (List UInt8)) (b_1 : (List UInt8)) (at_8 : Int) (r_6 : (List UInt32)) (h_7 : (List UInt32)) : Option ref11_Sum_R :=
  loopK N (fun y => ref11_Sum_s2 N y.1.1 y.1.2.1 y.1.2.2.1 y.2.1 y.2.2.1) (fun (e : (((List UInt8) × Unit) × ((List UInt32) × Unit))) => ref11_Sum_10 N e.1.1 e.2.1) ((key_0, b_1, at_8, ()), (r_6, h_7, ()))
noncomputable def ref11_Sum (N : Nat) (key_0 : (List UInt8)) (b_1 : (List UInt8)) : Option ref11_Sum_R :=
  bif (!(decide ((key_0.length : Int) = (32 : Int)))) then
    some ((false, ()), (([] : List UInt8), ()))
  else
    Option.bind (ref11_clamp N key_0) fun y3 =>
    ref11_Sum_1 N key_0 b_1 (0 : Int) y3.1.1 (List.replicate 17 (0 : UInt32))
noncomputable def ref11_Sum_C (N : Nat) : Ctx := ⟨103, G_tys, [(111, ref11_clamp_ctr N), (113, ref11_carry_ctr N), (112, ref11_product_ctr N)], G_globs⟩
noncomputable def ref11_Sum_S0 : Spec := ⟨[.val (.sl .u8), .val (.sl .u8), .ref 0 (.arr 17 .u32), .ref 1 (.arr 17 .u32), .val .i64, .val .i64, .val .i64], [(.box 124 (.arr 17 .u32), .pos 2), (.box 124 (.arr 17 .u32), .pos 3)]⟩
noncomputable def ref11_Sum_S1 : Spec := ⟨[.val (.sl .u8), .val (.sl .u8), .ref 0 (.arr 17 .u32), .ref 1 (.arr 17 .u32), .val .i64], [(.box 124 (.arr 17 .u32), .pos 2), (.box 124 (.arr 17 .u32), .pos 3)]⟩
noncomputable def ref11_Sum_S2 : Spec := ⟨[.val (.sl .u8), .val (.sl .u8), .ref 0 (.arr 17 .u32), .ref 1 (.arr 17 .u32), .val .i64, .val .i64], [(.box 124 (.arr 17 .u32), .pos 2), (.box 124 (.arr 17 .u32), .pos 3)]⟩
noncomputable def ref11_Sum_S3 : Spec := ⟨[.val (.sl .u8), .ref 0 (.arr 17 .u32), .ref 1 (.arr 17 .u32), .val .u32, .val .i64], [(.box 124 (.arr 17 .u32), .pos 1), (.box 124 (.arr 17 .u32), .pos 2)]⟩
noncomputable def ref11_Sum_S4 : Spec := ⟨[.val (.sl .u8), .ref 0 (.arr 17 .u32), .val .u32, .row 1, .val .i64], [(.box 124 (.arr 17 .u32), .pos 1), (.row 5 .u8, .pos 3)]⟩
noncomputable def ref11_Sum_S5 : Spec := ⟨[.row 0], [(.row 5 .u8, .pos 0)]⟩
noncomputable def ref11_Sum_S6 : Spec := ⟨[.val (.sl .u8), .ref 0 (.arr 17 .u32)], [(.box 124 (.arr 17 .u32), .pos 1)]⟩
noncomputable def ref11_Sum_S7 : Spec := ⟨[.val (.sl .u8), .ref 0 (.arr 17 .u32), .ref 1 (.arr 17 .u32)], [(.box 124 (.arr 17 .u32), .pos 1), (.box 124 (.arr 17 .u32), .pos 2)]⟩
noncomputable def ref11_Sum_S8 : Spec := ⟨[.val (.sl .u8), .val (.sl .u8)], []⟩
noncomputable def ref11_Sum_S9 : Spec := ⟨[.row 0, .val .bool], [(.row 5 .u8, .pos 0)]⟩
noncomputable def ref11_Sum_K (_N : Nat) : XE → GS → Option ref11_Sum_R := retK 0 [4, 5] [false, false] ref11_Sum_S9
noncomputable def ref11_Sum_L : List Code := (bodyOf (some Tryd.f91))
noncomputable def ref11_Sum_L2 : List Code := (loopOf (ref11_Sum_L[6]?))
noncomputable def ref11_Sum_L4b : List Code := (blockOf (ref11_Sum_L2[2]?))
noncomputable def ref11_Sum_L7 : List Code := (loopOf (ref11_Sum_L4b[2]?))
noncomputable def ref11_Sum_L12 : List Code := (loopOf (ref11_Sum_L[11]?))
noncomputable def ref11_Sum_L16 : List Code := (loopOf (ref11_Sum_L[17]?))
noncomputable def ref11_Sum_K2 (N : Nat) : XE → GS → Option (Lo (((List UInt8) × (List UInt8) × Int × Unit) × ((List UInt32) × (List UInt32) × Unit)) (((List UInt8) × Unit) × ((List UInt32) × Unit)) ref11_Sum_R) := roundK (some 0) (fit 0 [0, 1, 6, 7, 8] ref11_Sum_S1) (fit 0 [0, 7] ref11_Sum_S6) (ref11_Sum_K N)
noncomputable def ref11_Sum_K12 (N : Nat) : XE → GS → Option (Lo (((List UInt8) × UInt32 × Int × Unit) × ((List UInt32) × (List UInt32) × Unit)) (((List UInt8) × Unit) × ((List UInt32) × (List UInt32) × Unit)) ref11_Sum_R) := roundK (some 4) (fit 0 [0, 7, 11, 12, 13] ref11_Sum_S3) (fit 0 [0, 7, 11] ref11_Sum_S7) (ref11_Sum_K N)
noncomputable def ref11_Sum_K16 (N : Nat) : XE → GS → Option (Lo (((List UInt8) × UInt32 × Int × Unit) × ((List UInt32) × (List UInt8) × Unit)) ((Unit) × ((List UInt8) × Unit)) ref11_Sum_R) := roundK (some 6) (fit 0 [0, 7, 12, 14, 15] ref11_Sum_S4) (fit 0 [14] ref11_Sum_S5) (ref11_Sum_K N)
noncomputable def ref11_Sum_K4 (N : Nat) : XE → GS → Option (Lo (((List UInt8) × (List UInt8) × Int × Unit) × ((List UInt32) × (List UInt32) × Unit)) (((List UInt8) × Unit) × ((List UInt32) × Unit)) ref11_Sum_R) := blockK 1 (goK 0 [0, 1, 6, 7, 8] ref11_Sum_S1 (fun y => ref11_Sum_9 N y.1.1 y.1.2.1 y.1.2.2.1 y.2.1 y.2.2.1)) (ref11_Sum_K2 N)
noncomputable def ref11_Sum_K7 (N : Nat) : XE → GS → Option (Lo (((List UInt8) × (List UInt8) × Int × Int × Int × Unit) × ((List UInt32) × (List UInt32) × Unit)) (((List UInt8) × (List UInt8) × Int × Int × Unit) × ((List UInt32) × (List UInt32) × Unit)) (Lo (((List UInt8) × (List UInt8) × Int × Unit) × ((List UInt32) × (List UInt32) × Unit)) (((List UInt8) × Unit) × ((List UInt32) × Unit)) ref11_Sum_R)) := roundK (some 2) (fit 0 [0, 1, 6, 7, 8, 9, 10] ref11_Sum_S0) (fit 0 [0, 1, 6, 7, 8, 9] ref11_Sum_S2) (ref11_Sum_K4 N)
theorem ref11_Sum_s7_b {E : Env} (N : Nat) (hb : Base Tryd.prog (ref11_Sum_C N) E 0) : Blk Tryd.prog (ref11_Sum_C N) E [0, 1, 6, 7, 8, 9, 10] ref11_Sum_S0 (ref11_Sum_L7.drop 0) (fun y => ref11_Sum_s7 N y.1.1 y.1.2.1 y.1.2.2.1 y.1.2.2.2.1 y.1.2.2.2.2.1 y.2.1 y.2.2.1) (ref11_Sum_K7 N) :=
  Blk.chunkAt hb 4 (X := (ref11_Sum_K7 N .normal)) (NxOk.end (by kernel_rfl)) rfl (fun x => by kernel_rfl)
theorem ref11_Sum_9_b {E : Env} (N : Nat) (hb : Base Tryd.prog (ref11_Sum_C N) E 0) : Blk Tryd.prog (ref11_Sum_C N) E [0, 1, 6, 7, 8] ref11_Sum_S1 (ref11_Sum_L2.drop 3) (fun y => ref11_Sum_9 N y.1.1 y.1.2.1 y.1.2.2.1 y.2.1 y.2.2.1) (ref11_Sum_K2 N) :=
  Blk.chunkAt hb 1 (X := (ref11_Sum_K2 N .normal)) (NxOk.end (by kernel_rfl)) rfl (fun x => by kernel_rfl)
theorem ref11_Sum_8_b {E : Env} (N : Nat) (hb : Base Tryd.prog (ref11_Sum_C N) E 0) : Blk Tryd.prog (ref11_Sum_C N) E [0, 1, 6, 7, 8, 9] ref11_Sum_S2 (ref11_Sum_L4b.drop 3) (fun y => ref11_Sum_8 N y.1.1 y.1.2.1 y.1.2.2.1 y.1.2.2.2.1 y.2.1 y.2.2.1) (ref11_Sum_K4 N) :=
  Blk.chunkAt hb 2 (X := (ref11_Sum_K4 N .normal)) (NxOk.end (by kernel_rfl)) rfl (fun x => by kernel_rfl)
theorem ref11_Sum_6_b {E : Env} (N : Nat) (hb : Base Tryd.prog (ref11_Sum_C N) E 0) : Blk Tryd.prog (ref11_Sum_C N) E [0, 1, 6, 7, 8, 9, 10] ref11_Sum_S0 (ref11_Sum_L4b.drop 2) (fun y => ref11_Sum_6 N y.1.1 y.1.2.1 y.1.2.2.1 y.1.2.2.2.1 y.1.2.2.2.2.1 y.2.1 y.2.2.1) (ref11_Sum_K4 N) :=
  Blk.loopAt (Nf := N) (hns := [0, 1, 6, 7, 8, 9, 10]) (ans := [0, 1, 6, 7, 8, 9]) (hc := ref11_Sum_S0) (ac := ref11_Sum_S2) (bid := 2) (step := (fun y => ref11_Sum_s7 N y.1.1 y.1.2.1 y.1.2.2.1 y.1.2.2.2.1 y.1.2.2.2.2.1 y.2.1 y.2.2.1)) (J := (fun e => (goK 0 [0, 1, 6, 7, 8, 9] ref11_Sum_S2 (fun y => ref11_Sum_8 N y.1.1 y.1.2.1 y.1.2.2.1 y.1.2.2.2.1 y.2.1 y.2.2.1)) (ref11_Sum_S2.st [0, 1, 6, 7, 8, 9] e))) hb (by kernel_rfl) (Blk.into (X := (goK 0 [0, 1, 6, 7, 8, 9] ref11_Sum_S2 (fun y => ref11_Sum_8 N y.1.1 y.1.2.1 y.1.2.2.1 y.1.2.2.2.1 y.2.1 y.2.2.1))) (NxOk.go hb (ref11_Sum_8_b N hb)) (fun x => by kernel_rfl)) (ref11_Sum_s7_b N hb) (fun x => by kernel_rfl)
theorem ref11_Sum_5_b {E : Env} (N : Nat) (hb : Base Tryd.prog (ref11_Sum_C N) E 0) : Blk Tryd.prog (ref11_Sum_C N) E [0, 1, 6, 7, 8] ref11_Sum_S1 (ref11_Sum_L4b.drop 0) (fun y => ref11_Sum_5 N y.1.1 y.1.2.1 y.1.2.2.1 y.2.1 y.2.2.1) (ref11_Sum_K4 N) :=
  Blk.chunkAt hb 2 (X := (goK 0 [0, 1, 6, 7, 8, 9, 10] ref11_Sum_S0 (fun y => ref11_Sum_6 N y.1.1 y.1.2.1 y.1.2.2.1 y.1.2.2.2.1 y.1.2.2.2.2.1 y.2.1 y.2.2.1))) (NxOk.go hb (ref11_Sum_6_b N hb)) rfl (fun x => by kernel_rfl)
theorem ref11_Sum_3_b {E : Env} (N : Nat) (hb : Base Tryd.prog (ref11_Sum_C N) E 0) : Blk Tryd.prog (ref11_Sum_C N) E [0, 1, 6, 7, 8] ref11_Sum_S1 (ref11_Sum_L2.drop 2) (fun y => ref11_Sum_3 N y.1.1 y.1.2.1 y.1.2.2.1 y.2.1 y.2.2.1) (ref11_Sum_K2 N) :=
  Blk.blockAt (bid := 1) (X := (goK 0 [0, 1, 6, 7, 8] ref11_Sum_S1 (fun y => ref11_Sum_9 N y.1.1 y.1.2.1 y.1.2.2.1 y.2.1 y.2.2.1))) (Y := (goK 0 [0, 1, 6, 7, 8] ref11_Sum_S1 (fun y => ref11_Sum_5 N y.1.1 y.1.2.1 y.1.2.2.1 y.2.1 y.2.2.1))) (by kernel_rfl) (NxOk.go hb (ref11_Sum_9_b N hb)) (NxOk.go hb (ref11_Sum_5_b N hb)) (fun x => by kernel_rfl)
theorem ref11_Sum_s2_b {E : Env} (N : Nat) (hb : Base Tryd.prog (ref11_Sum_C N) E 0) : Blk Tryd.prog (ref11_Sum_C N) E [0, 1, 6, 7, 8] ref11_Sum_S1 (ref11_Sum_L2.drop 0) (fun y => ref11_Sum_s2 N y.1.1 y.1.2.1 y.1.2.2.1 y.2.1 y.2.2.1) (ref11_Sum_K2 N) :=
  Blk.chunkAt hb 2 (X := (goK 0 [0, 1, 6, 7, 8] ref11_Sum_S1 (fun y => ref11_Sum_3 N y.1.1 y.1.2.1 y.1.2.2.1 y.2.1 y.2.2.1))) (NxOk.go hb (ref11_Sum_3_b N hb)) rfl (fun x => by kernel_rfl)
theorem ref11_Sum_s12_b {E : Env} (N : Nat) (hb : Base Tryd.prog (ref11_Sum_C N) E 0) : Blk Tryd.prog (ref11_Sum_C N) E [0, 7, 11, 12, 13] ref11_Sum_S3 (ref11_Sum_L12.drop 0) (fun y => ref11_Sum_s12 N y.1.1 y.1.2.1 y.1.2.2.1 y.2.1 y.2.2.1) (ref11_Sum_K12 N) :=
  Blk.chunkAt hb 4 (X := (ref11_Sum_K12 N .normal)) (NxOk.end (by kernel_rfl)) rfl (fun x => by kernel_rfl)
theorem ref11_Sum_s16_b {E : Env} (N : Nat) (hb : Base Tryd.prog (ref11_Sum_C N) E 0) : Blk Tryd.prog (ref11_Sum_C N) E [0, 7, 12, 14, 15] ref11_Sum_S4 (ref11_Sum_L16.drop 0) (fun y => ref11_Sum_s16 N y.1.1 y.1.2.1 y.1.2.2.1 y.2.1 y.2.2.1) (ref11_Sum_K16 N) :=
  Blk.chunkAt hb 4 (X := (ref11_Sum_K16 N .normal)) (NxOk.end (by kernel_rfl)) rfl (fun x => by kernel_rfl)
theorem ref11_Sum_17_b {E : Env} (N : Nat) (hb : Base Tryd.prog (ref11_Sum_C N) E 0) : Blk Tryd.prog (ref11_Sum_C N) E [14] ref11_Sum_S5 (ref11_Sum_L.drop 18) (fun y => ref11_Sum_17 N y.2.1) (ref11_Sum_K N) :=
  Blk.chunkAt hb 2 (X := (ref11_Sum_K N .normal)) (NxOk.end (by kernel_rfl)) rfl (fun x => by kernel_rfl)
theorem ref11_Sum_15_b {E : Env} (N : Nat) (hb : Base Tryd.prog (ref11_Sum_C N) E 0) : Blk Tryd.prog (ref11_Sum_C N) E [0, 7, 12, 14, 15] ref11_Sum_S4 (ref11_Sum_L.drop 17) (fun y => ref11_Sum_15 N y.1.1 y.1.2.1 y.1.2.2.1 y.2.1 y.2.2.1) (ref11_Sum_K N) :=
  Blk.loopAt (Nf := N) (hns := [0, 7, 12, 14, 15]) (ans := [14]) (hc := ref11_Sum_S4) (ac := ref11_Sum_S5) (bid := 6) (step := (fun y => ref11_Sum_s16 N y.1.1 y.1.2.1 y.1.2.2.1 y.2.1 y.2.2.1)) (J := (fun e => (goK 0 [14] ref11_Sum_S5 (fun y => ref11_Sum_17 N y.2.1)) (ref11_Sum_S5.st [14] e))) hb (by kernel_rfl) (Blk.into (X := (goK 0 [14] ref11_Sum_S5 (fun y => ref11_Sum_17 N y.2.1))) (NxOk.go hb (ref11_Sum_17_b N hb)) (fun x => by kernel_rfl)) (ref11_Sum_s16_b N hb) (fun x => by kernel_rfl)
theorem ref11_Sum_14_b {E : Env} (N : Nat) (hb : Base Tryd.prog (ref11_Sum_C N) E 0) : Blk Tryd.prog (ref11_Sum_C N) E [0, 7] ref11_Sum_S6 (ref11_Sum_L.drop 14) (fun y => ref11_Sum_14 N y.1.1 y.2.1) (ref11_Sum_K N) :=
  Blk.chunkAt hb 3 (X := (goK 0 [0, 7, 12, 14, 15] ref11_Sum_S4 (fun y => ref11_Sum_15 N y.1.1 y.1.2.1 y.1.2.2.1 y.2.1 y.2.2.1))) (NxOk.go hb (ref11_Sum_15_b N hb)) rfl (fun x => by kernel_rfl)
theorem ref11_Sum_13_b {E : Env} (N : Nat) (hb : Base Tryd.prog (ref11_Sum_C N) E 0) : Blk Tryd.prog (ref11_Sum_C N) E [0, 7, 11] ref11_Sum_S7 (ref11_Sum_L.drop 12) (fun y => ref11_Sum_13 N y.1.1 y.2.1 y.2.2.1) (ref11_Sum_K N) :=
  Blk.chunkAt hb 2 (X := (goK 0 [0, 7] ref11_Sum_S6 (fun y => ref11_Sum_14 N y.1.1 y.2.1))) (NxOk.go hb (ref11_Sum_14_b N hb)) rfl (fun x => by kernel_rfl)
theorem ref11_Sum_11_b {E : Env} (N : Nat) (hb : Base Tryd.prog (ref11_Sum_C N) E 0) : Blk Tryd.prog (ref11_Sum_C N) E [0, 7, 11, 12, 13] ref11_Sum_S3 (ref11_Sum_L.drop 11) (fun y => ref11_Sum_11 N y.1.1 y.1.2.1 y.1.2.2.1 y.2.1 y.2.2.1) (ref11_Sum_K N) :=
  Blk.loopAt (Nf := N) (hns := [0, 7, 11, 12, 13]) (ans := [0, 7, 11]) (hc := ref11_Sum_S3) (ac := ref11_Sum_S7) (bid := 4) (step := (fun y => ref11_Sum_s12 N y.1.1 y.1.2.1 y.1.2.2.1 y.2.1 y.2.2.1)) (J := (fun e => (goK 0 [0, 7, 11] ref11_Sum_S7 (fun y => ref11_Sum_13 N y.1.1 y.2.1 y.2.2.1)) (ref11_Sum_S7.st [0, 7, 11] e))) hb (by kernel_rfl) (Blk.into (X := (goK 0 [0, 7, 11] ref11_Sum_S7 (fun y => ref11_Sum_13 N y.1.1 y.2.1 y.2.2.1))) (NxOk.go hb (ref11_Sum_13_b N hb)) (fun x => by kernel_rfl)) (ref11_Sum_s12_b N hb) (fun x => by kernel_rfl)
theorem ref11_Sum_10_b {E : Env} (N : Nat) (hb : Base Tryd.prog (ref11_Sum_C N) E 0) : Blk Tryd.prog (ref11_Sum_C N) E [0, 7] ref11_Sum_S6 (ref11_Sum_L.drop 7) (fun y => ref11_Sum_10 N y.1.1 y.2.1) (ref11_Sum_K N) :=
  Blk.chunkAt hb 4 (X := (goK 0 [0, 7, 11, 12, 13] ref11_Sum_S3 (fun y => ref11_Sum_11 N y.1.1 y.1.2.1 y.1.2.2.1 y.2.1 y.2.2.1))) (NxOk.go hb (ref11_Sum_11_b N hb)) rfl (fun x => by kernel_rfl)
theorem ref11_Sum_1_b {E : Env} (N : Nat) (hb : Base Tryd.prog (ref11_Sum_C N) E 0) : Blk Tryd.prog (ref11_Sum_C N) E [0, 1, 6, 7, 8] ref11_Sum_S1 (ref11_Sum_L.drop 6) (fun y => ref11_Sum_1 N y.1.1 y.1.2.1 y.1.2.2.1 y.2.1 y.2.2.1) (ref11_Sum_K N) :=
  Blk.loopAt (Nf := N) (hns := [0, 1, 6, 7, 8]) (ans := [0, 7]) (hc := ref11_Sum_S1) (ac := ref11_Sum_S6) (bid := 0) (step := (fun y => ref11_Sum_s2 N y.1.1 y.1.2.1 y.1.2.2.1 y.2.1 y.2.2.1)) (J := (fun e => (goK 0 [0, 7] ref11_Sum_S6 (fun y => ref11_Sum_10 N y.1.1 y.2.1)) (ref11_Sum_S6.st [0, 7] e))) hb (by kernel_rfl) (Blk.into (X := (goK 0 [0, 7] ref11_Sum_S6 (fun y => ref11_Sum_10 N y.1.1 y.2.1))) (NxOk.go hb (ref11_Sum_10_b N hb)) (fun x => by kernel_rfl)) (ref11_Sum_s2_b N hb) (fun x => by kernel_rfl)
theorem ref11_Sum_b {E : Env} (N : Nat) (hb : Base Tryd.prog (ref11_Sum_C N) E 0) : Blk Tryd.prog (ref11_Sum_C N) E (List.range ref11_Sum_S8.ks.length) ref11_Sum_S8 (ref11_Sum_L.drop 0) (fun y => ref11_Sum N y.1.1 y.1.2.1) (ref11_Sum_K N) :=
  Blk.chunkAt hb 6 (X := (goK 0 [0, 1, 6, 7, 8] ref11_Sum_S1 (fun y => ref11_Sum_1 N y.1.1 y.1.2.1 y.1.2.2.1 y.2.1 y.2.2.1))) (NxOk.go hb (ref11_Sum_1_b N hb)) rfl (fun x => by kernel_rfl)
noncomputable def ref11_Sum_ctr (N : Nat) : Ctr := ⟨ref11_Sum_S8, ref11_Sum_S9.un [false, false], 0, (fun y => ref11_Sum N y.1.1 y.1.2.1)⟩
theorem ref11_Sum_ctrs (N : Nat) : CtrsOk Tryd.prog (ref11_Sum_C N) := ctrs_of (Γ := ref11_Sum_C N) (by
  intro p hp
  simp only [ref11_Sum_C, List.mem_cons, List.not_mem_nil, or_false] at hp
  rcases hp with rfl | rfl | rfl
  · exact ref11_clamp_ok N
  · exact ref11_carry_ok N
  · exact ref11_product_ok N)
theorem ref11_Sum_ok (N : Nat) : Ctr.ok Tryd.prog G_globs 91 (ref11_Sum_ctr N) :=
  ctr_fn (Γ := ref11_Sum_C N) (rfit := ref11_Sum_S9) (bs := [false, false]) (res := [4, 5]) (by kernel_rfl) (tys_ok G_tys_ok) (ref11_Sum_ctrs N) Tryd.func91 (by kernel_rfl) (by kernel_rfl) Tryd.ntmps91 (by kernel_rfl) (by kernel_rfl) (by kernel_rfl) (by kernel_rfl) (fun E hb => ref11_Sum_b N hb)
end Go.Proofs.YtlamdneheilahaaDoor
namespace Go.Proofs.YtlamdneheilahaaDoor
open Go
set_option maxRecDepth 100000
set_option linter.unusedVariables false
/-! ipsecgate/ipsecgateref12.pad -/
abbrev ref12_pad_R : Type := ((Unit) × ((List UInt8) × Unit))
noncomputable def ref12_pad_s2 (N : Nat) (out_3 : (List UInt8)) : Option (Lo ((Unit) × ((List UInt8) × Unit)) ((Unit) × ((List UInt8) × Unit)) ref12_pad_R) :=
  bif (!(decide (((out_3.length : Int).tmod (16 : Int)) = (0 : Int)))) then
    bif room (out_3.length + ([(0 : UInt8)] : List UInt8).length) 1 then
    some (.go ((()), ((out_3 ++ ([(0 : UInt8)] : List UInt8)), ())))
    else none
  else
    some (.br ((()), (out_3, ())))
noncomputable def ref12_pad_3 (N : Nat) (out_3 : (List UInt8)) : Option ref12_pad_R :=
  some ((()), (out_3, ()))
noncomputable def ref12_pad_1 (N : Nat) (out_3 : (List UInt8)) : Option ref12_pad_R :=
  loopK N (fun y => ref12_pad_s2 N y.2.1) (fun (e : ((Unit) × ((List UInt8) × Unit))) => ref12_pad_3 N e.2.1) ((()), (out_3, ()))
noncomputable def ref12_pad (N : Nat) (b_0 : (List UInt8)) : Option ref12_pad_R :=
  bif room (0 + b_0.length) 1 then
  ref12_pad_1 N b_0
  else none
noncomputable def ref12_pad_C (N : Nat) : Ctx := ⟨14, G_tys, [], G_globs⟩
noncomputable def ref12_pad_S0 : Spec := ⟨[.row 0], [(.row 5 .u8, .pos 0)]⟩
noncomputable def ref12_pad_S1 : Spec := ⟨[.val (.sl .u8)], []⟩
noncomputable def ref12_pad_K (_N : Nat) : XE → GS → Option ref12_pad_R := retK 0 [2] [false] ref12_pad_S0
noncomputable def ref12_pad_L : List Code := (bodyOf (some Tryd.f89))
noncomputable def ref12_pad_L2 : List Code := (loopOf (ref12_pad_L[2]?))
noncomputable def ref12_pad_K2 (N : Nat) : XE → GS → Option (Lo ((Unit) × ((List UInt8) × Unit)) ((Unit) × ((List UInt8) × Unit)) ref12_pad_R) := roundK (some 0) (fit 0 [3] ref12_pad_S0) (fit 0 [3] ref12_pad_S0) (ref12_pad_K N)
theorem ref12_pad_s2_b {E : Env} (N : Nat) (hb : Base Tryd.prog (ref12_pad_C N) E 0) : Blk Tryd.prog (ref12_pad_C N) E [3] ref12_pad_S0 (ref12_pad_L2.drop 0) (fun y => ref12_pad_s2 N y.2.1) (ref12_pad_K2 N) :=
  Blk.chunkAt hb 3 (X := (ref12_pad_K2 N .normal)) (NxOk.end (by kernel_rfl)) rfl (fun x => by kernel_rfl)
theorem ref12_pad_3_b {E : Env} (N : Nat) (hb : Base Tryd.prog (ref12_pad_C N) E 0) : Blk Tryd.prog (ref12_pad_C N) E [3] ref12_pad_S0 (ref12_pad_L.drop 3) (fun y => ref12_pad_3 N y.2.1) (ref12_pad_K N) :=
  Blk.chunkAt hb 2 (X := (ref12_pad_K N .normal)) (NxOk.end (by kernel_rfl)) rfl (fun x => by kernel_rfl)
theorem ref12_pad_1_b {E : Env} (N : Nat) (hb : Base Tryd.prog (ref12_pad_C N) E 0) : Blk Tryd.prog (ref12_pad_C N) E [3] ref12_pad_S0 (ref12_pad_L.drop 2) (fun y => ref12_pad_1 N y.2.1) (ref12_pad_K N) :=
  Blk.loopAt (Nf := N) (hns := [3]) (ans := [3]) (hc := ref12_pad_S0) (ac := ref12_pad_S0) (bid := 0) (step := (fun y => ref12_pad_s2 N y.2.1)) (J := (fun e => (goK 0 [3] ref12_pad_S0 (fun y => ref12_pad_3 N y.2.1)) (ref12_pad_S0.st [3] e))) hb (by kernel_rfl) (Blk.into (X := (goK 0 [3] ref12_pad_S0 (fun y => ref12_pad_3 N y.2.1))) (NxOk.go hb (ref12_pad_3_b N hb)) (fun x => by kernel_rfl)) (ref12_pad_s2_b N hb) (fun x => by kernel_rfl)
theorem ref12_pad_b {E : Env} (N : Nat) (hb : Base Tryd.prog (ref12_pad_C N) E 0) : Blk Tryd.prog (ref12_pad_C N) E (List.range ref12_pad_S1.ks.length) ref12_pad_S1 (ref12_pad_L.drop 0) (fun y => ref12_pad N y.1.1) (ref12_pad_K N) :=
  Blk.chunkAt hb 2 (X := (goK 0 [3] ref12_pad_S0 (fun y => ref12_pad_1 N y.2.1))) (NxOk.go hb (ref12_pad_1_b N hb)) rfl (fun x => by kernel_rfl)
noncomputable def ref12_pad_ctr (N : Nat) : Ctr := ⟨ref12_pad_S1, ref12_pad_S0.un [false], 0, (fun y => ref12_pad N y.1.1)⟩
theorem ref12_pad_ctrs (N : Nat) : CtrsOk Tryd.prog (ref12_pad_C N) := ctrs_nil rfl
theorem ref12_pad_ok (N : Nat) : Ctr.ok Tryd.prog G_globs 89 (ref12_pad_ctr N) :=
  ctr_fn (Γ := ref12_pad_C N) (rfit := ref12_pad_S0) (bs := [false]) (res := [2]) (by kernel_rfl) (tys_ok G_tys_ok) (ref12_pad_ctrs N) Tryd.func89 (by kernel_rfl) (by kernel_rfl) Tryd.ntmps89 (by kernel_rfl) (by kernel_rfl) (by kernel_rfl) (by kernel_rfl) (fun E hb => ref12_pad_b N hb)
end Go.Proofs.YtlamdneheilahaaDoor
namespace Go.Proofs.YtlamdneheilahaaDoor
open Go
set_option maxRecDepth 100000
set_option linter.unusedVariables false
/-! ipsecgate/ipsecgateref12.little -/
abbrev ref12_little_R : Type := ((Unit) × ((List UInt8) × Unit))
noncomputable def ref12_little_s2 (N : Nat) (v_1 : UInt64) (i_5 : Int) (b_0 : (List UInt8)) : Option (Lo ((UInt64 × Int × Unit) × ((List UInt8) × Unit)) ((Unit) × ((List UInt8) × Unit)) ref12_little_R) :=
  bif (decide (i_5 < (8 : Int))) then
    let x4 := shr64 v_1 (iu64 (w64 ((8 : Int) * i_5))).toNat
    bif room (b_0.length + ([x4.toUInt8] : List UInt8).length) 1 then
    some (.go ((v_1, (w64 (i_5 + (1 : Int))), ()), ((b_0 ++ ([x4.toUInt8] : List UInt8)), ())))
    else none
  else
    some (.br ((()), (b_0, ())))
noncomputable def ref12_little_3 (N : Nat) (b_0 : (List UInt8)) : Option ref12_little_R :=
  some ((()), (b_0, ()))
noncomputable def ref12_little_1 (N : Nat) (v_1 : UInt64) (i_5 : Int) (b_0 : (List UInt8)) : Option ref12_little_R :=
  loopK N (fun y => ref12_little_s2 N y.1.1 y.1.2.1 y.2.1) (fun (e : ((Unit) × ((List UInt8) × Unit))) => ref12_little_3 N e.2.1) ((v_1, i_5, ()), (b_0, ()))
noncomputable def ref12_little (N : Nat) (v_1 : UInt64) (b_0 : (List UInt8)) : Option ref12_little_R :=
  ref12_little_1 N v_1 (0 : Int) b_0
noncomputable def ref12_little_C (N : Nat) : Ctx := ⟨20, G_tys, [], G_globs⟩
noncomputable def ref12_little_S0 : Spec := ⟨[.row 0, .val .u64, .val .i64], [(.row 5 .u8, .pos 0)]⟩
noncomputable def ref12_little_S1 : Spec := ⟨[.row 0], [(.row 5 .u8, .pos 0)]⟩
noncomputable def ref12_little_S2 : Spec := ⟨[.row 0, .val .u64], [(.row 5 .u8, .pos 0)]⟩
noncomputable def ref12_little_K (_N : Nat) : XE → GS → Option ref12_little_R := retK 0 [4] [false] ref12_little_S1
noncomputable def ref12_little_L : List Code := (bodyOf (some Tryd.f90))
noncomputable def ref12_little_L2 : List Code := (loopOf (ref12_little_L[2]?))
noncomputable def ref12_little_K2 (N : Nat) : XE → GS → Option (Lo ((UInt64 × Int × Unit) × ((List UInt8) × Unit)) ((Unit) × ((List UInt8) × Unit)) ref12_little_R) := roundK (some 0) (fit 0 [0, 1, 5] ref12_little_S0) (fit 0 [0] ref12_little_S1) (ref12_little_K N)
theorem ref12_little_s2_b {E : Env} (N : Nat) (hb : Base Tryd.prog (ref12_little_C N) E 0) : Blk Tryd.prog (ref12_little_C N) E [0, 1, 5] ref12_little_S0 (ref12_little_L2.drop 0) (fun y => ref12_little_s2 N y.1.1 y.1.2.1 y.2.1) (ref12_little_K2 N) :=
  Blk.chunkAt hb 4 (X := (ref12_little_K2 N .normal)) (NxOk.end (by kernel_rfl)) rfl (fun x => by kernel_rfl)
theorem ref12_little_3_b {E : Env} (N : Nat) (hb : Base Tryd.prog (ref12_little_C N) E 0) : Blk Tryd.prog (ref12_little_C N) E [0] ref12_little_S1 (ref12_little_L.drop 3) (fun y => ref12_little_3 N y.2.1) (ref12_little_K N) :=
  Blk.chunkAt hb 2 (X := (ref12_little_K N .normal)) (NxOk.end (by kernel_rfl)) rfl (fun x => by kernel_rfl)
theorem ref12_little_1_b {E : Env} (N : Nat) (hb : Base Tryd.prog (ref12_little_C N) E 0) : Blk Tryd.prog (ref12_little_C N) E [0, 1, 5] ref12_little_S0 (ref12_little_L.drop 2) (fun y => ref12_little_1 N y.1.1 y.1.2.1 y.2.1) (ref12_little_K N) :=
  Blk.loopAt (Nf := N) (hns := [0, 1, 5]) (ans := [0]) (hc := ref12_little_S0) (ac := ref12_little_S1) (bid := 0) (step := (fun y => ref12_little_s2 N y.1.1 y.1.2.1 y.2.1)) (J := (fun e => (goK 0 [0] ref12_little_S1 (fun y => ref12_little_3 N y.2.1)) (ref12_little_S1.st [0] e))) hb (by kernel_rfl) (Blk.into (X := (goK 0 [0] ref12_little_S1 (fun y => ref12_little_3 N y.2.1))) (NxOk.go hb (ref12_little_3_b N hb)) (fun x => by kernel_rfl)) (ref12_little_s2_b N hb) (fun x => by kernel_rfl)
theorem ref12_little_b {E : Env} (N : Nat) (hb : Base Tryd.prog (ref12_little_C N) E 0) : Blk Tryd.prog (ref12_little_C N) E (List.range ref12_little_S2.ks.length) ref12_little_S2 (ref12_little_L.drop 0) (fun y => ref12_little N y.1.1 y.2.1) (ref12_little_K N) :=
  Blk.chunkAt hb 2 (X := (goK 0 [0, 1, 5] ref12_little_S0 (fun y => ref12_little_1 N y.1.1 y.1.2.1 y.2.1))) (NxOk.go hb (ref12_little_1_b N hb)) rfl (fun x => by kernel_rfl)
noncomputable def ref12_little_ctr (N : Nat) : Ctr := ⟨ref12_little_S2, ref12_little_S1.un [false], 0, (fun y => ref12_little N y.1.1 y.2.1)⟩
theorem ref12_little_ctrs (N : Nat) : CtrsOk Tryd.prog (ref12_little_C N) := ctrs_nil rfl
theorem ref12_little_ok (N : Nat) : Ctr.ok Tryd.prog G_globs 90 (ref12_little_ctr N) :=
  ctr_fn (Γ := ref12_little_C N) (rfit := ref12_little_S1) (bs := [false]) (res := [4]) (by kernel_rfl) (tys_ok G_tys_ok) (ref12_little_ctrs N) Tryd.func90 (by kernel_rfl) (by kernel_rfl) Tryd.ntmps90 (by kernel_rfl) (by kernel_rfl) (by kernel_rfl) (by kernel_rfl) (fun E hb => ref12_little_b N hb)
end Go.Proofs.YtlamdneheilahaaDoor
namespace Go.Proofs.YtlamdneheilahaaDoor
open Go
set_option maxRecDepth 100000
set_option linter.unusedVariables false
/-! ipsecgate/ipsecgateref12.Tag -/
abbrev ref12_Tag_R : Type := ((Bool × Unit) × ((List UInt8) × Unit))
noncomputable def ref12_Tag (N : Nat) (key_0 : (List UInt8)) (nonce_1 : (List UInt8)) (data_2 : (List UInt8)) (cipher_3 : (List UInt8)) : Option ref12_Tag_R :=
  Option.bind (ref10_Block N key_0 (0 : UInt32) nonce_1) fun y1 =>
  bif (!y1.1.1) then
    some ((false, ()), (([] : List UInt8), ()))
  else
    Option.bind (ref12_pad N data_2) fun y3 =>
    Option.bind (ref12_pad N cipher_3) fun y4 =>
    bif room (y3.2.1.length + y4.2.1.length) 1 then
    Option.bind (ref12_little N (iu64 (data_2.length : Int)) (y3.2.1 ++ y4.2.1)) fun y8 =>
    Option.bind (ref12_little N (iu64 (cipher_3.length : Int)) y8.2.1) fun y11 =>
    bif decide (0 ≤ (0 : Int)) && decide ((0 : Int) ≤ (32 : Int)) && decide ((32 : Int) ≤ (y1.2.1.length : Int)) && true then
    Option.bind (ref11_Sum N (cut y1.2.1 0 32) y11.2.1) fun y13 =>
    some ((y13.1.1, ()), (y13.2.1, ()))
    else none
    else none
noncomputable def ref12_Tag_C (N : Nat) : Ctx := ⟨41, G_tys, [(88, ref10_Block_ctr N), (89, ref12_pad_ctr N), (90, ref12_little_ctr N), (91, ref11_Sum_ctr N)], G_globs⟩
noncomputable def ref12_Tag_S0 : Spec := ⟨[.val (.sl .u8), .val (.sl .u8), .val (.sl .u8), .val (.sl .u8)], []⟩
noncomputable def ref12_Tag_S1 : Spec := ⟨[.row 0, .val .bool], [(.row 5 .u8, .pos 0)]⟩
noncomputable def ref12_Tag_K (_N : Nat) : XE → GS → Option ref12_Tag_R := retK 0 [8, 9] [false, false] ref12_Tag_S1
noncomputable def ref12_Tag_L : List Code := (bodyOf (some Tryd.f59))
theorem ref12_Tag_b {E : Env} (N : Nat) (hb : Base Tryd.prog (ref12_Tag_C N) E 0) : Blk Tryd.prog (ref12_Tag_C N) E (List.range ref12_Tag_S0.ks.length) ref12_Tag_S0 (ref12_Tag_L.drop 0) (fun y => ref12_Tag N y.1.1 y.1.2.1 y.1.2.2.1 y.1.2.2.2.1) (ref12_Tag_K N) :=
  Blk.chunkAt hb 8 (X := (ref12_Tag_K N .normal)) (NxOk.end (by kernel_rfl)) rfl (fun x => by kernel_rfl)
noncomputable def ref12_Tag_ctr (N : Nat) : Ctr := ⟨ref12_Tag_S0, ref12_Tag_S1.un [false, false], 0, (fun y => ref12_Tag N y.1.1 y.1.2.1 y.1.2.2.1 y.1.2.2.2.1)⟩
theorem ref12_Tag_ctrs (N : Nat) : CtrsOk Tryd.prog (ref12_Tag_C N) := ctrs_of (Γ := ref12_Tag_C N) (by
  intro p hp
  simp only [ref12_Tag_C, List.mem_cons, List.not_mem_nil, or_false] at hp
  rcases hp with rfl | rfl | rfl | rfl
  · exact ref10_Block_ok N
  · exact ref12_pad_ok N
  · exact ref12_little_ok N
  · exact ref11_Sum_ok N)
theorem ref12_Tag_ok (N : Nat) : Ctr.ok Tryd.prog G_globs 59 (ref12_Tag_ctr N) :=
  ctr_fn (Γ := ref12_Tag_C N) (rfit := ref12_Tag_S1) (bs := [false, false]) (res := [8, 9]) (by kernel_rfl) (tys_ok G_tys_ok) (ref12_Tag_ctrs N) Tryd.func59 (by kernel_rfl) (by kernel_rfl) Tryd.ntmps59 (by kernel_rfl) (by kernel_rfl) (by kernel_rfl) (by kernel_rfl) (fun E hb => ref12_Tag_b N hb)
end Go.Proofs.YtlamdneheilahaaDoor
namespace Go.Proofs.YtlamdneheilahaaDoor
open Go
set_option maxRecDepth 100000
set_option linter.unusedVariables false
/-! ipsecgate/ipsecgateref12.Seal -/
abbrev ref12_Seal_R : Type := ((Int × Unit) × ((List UInt8) × Unit))
noncomputable def ref12_Seal (N : Nat) (key_0 : (List UInt8)) (nonce_1 : (List UInt8)) (data_2 : (List UInt8)) (plain_3 : (List UInt8)) : Option ref12_Seal_R :=
  Option.bind (ref10_Xor N key_0 (1 : UInt32) nonce_1 plain_3) fun y1 =>
  bif (!y1.1.1) then
    some (((13 : Int), ()), (([] : List UInt8), ()))
  else
    Option.bind (ref12_Tag N key_0 nonce_1 data_2 y1.2.1) fun y3 =>
    bif room (y1.2.1.length + y3.2.1.length) 1 then
    some (((0 : Int), ()), ((y1.2.1 ++ y3.2.1), ()))
    else none
noncomputable def ref12_Seal_C (N : Nat) : Ctx := ⟨34, G_tys, [(85, ref10_Xor_ctr N), (59, ref12_Tag_ctr N)], G_globs⟩
noncomputable def ref12_Seal_S0 : Spec := ⟨[.val (.sl .u8), .val (.sl .u8), .val (.sl .u8), .val (.sl .u8)], []⟩
noncomputable def ref12_Seal_S1 : Spec := ⟨[.row 0, .val .i64], [(.row 5 .u8, .pos 0)]⟩
noncomputable def ref12_Seal_K (_N : Nat) : XE → GS → Option ref12_Seal_R := retK 0 [8, 9] [false, false] ref12_Seal_S1
noncomputable def ref12_Seal_L : List Code := (bodyOf (some Tryd.f57))
theorem ref12_Seal_b {E : Env} (N : Nat) (hb : Base Tryd.prog (ref12_Seal_C N) E 0) : Blk Tryd.prog (ref12_Seal_C N) E (List.range ref12_Seal_S0.ks.length) ref12_Seal_S0 (ref12_Seal_L.drop 0) (fun y => ref12_Seal N y.1.1 y.1.2.1 y.1.2.2.1 y.1.2.2.2.1) (ref12_Seal_K N) :=
  Blk.chunkAt hb 7 (X := (ref12_Seal_K N .normal)) (NxOk.end (by kernel_rfl)) rfl (fun x => by kernel_rfl)
noncomputable def ref12_Seal_ctr (N : Nat) : Ctr := ⟨ref12_Seal_S0, ref12_Seal_S1.un [false, false], 0, (fun y => ref12_Seal N y.1.1 y.1.2.1 y.1.2.2.1 y.1.2.2.2.1)⟩
theorem ref12_Seal_ctrs (N : Nat) : CtrsOk Tryd.prog (ref12_Seal_C N) := ctrs_of (Γ := ref12_Seal_C N) (by
  intro p hp
  simp only [ref12_Seal_C, List.mem_cons, List.not_mem_nil, or_false] at hp
  rcases hp with rfl | rfl
  · exact ref10_Xor_ok N
  · exact ref12_Tag_ok N)
theorem ref12_Seal_ok (N : Nat) : Ctr.ok Tryd.prog G_globs 57 (ref12_Seal_ctr N) :=
  ctr_fn (Γ := ref12_Seal_C N) (rfit := ref12_Seal_S1) (bs := [false, false]) (res := [8, 9]) (by kernel_rfl) (tys_ok G_tys_ok) (ref12_Seal_ctrs N) Tryd.func57 (by kernel_rfl) (by kernel_rfl) Tryd.ntmps57 (by kernel_rfl) (by kernel_rfl) (by kernel_rfl) (by kernel_rfl) (fun E hb => ref12_Seal_b N hb)
end Go.Proofs.YtlamdneheilahaaDoor
namespace Go.Proofs.YtlamdneheilahaaDoor
open Go
set_option maxRecDepth 100000
set_option linter.unusedVariables false
/-! ipsecgate/ipsecgateref12.Open -/
abbrev ref12_Open_R : Type := ((Int × Unit) × ((List UInt8) × Unit))
noncomputable def ref12_Open_1 (N : Nat) (key_0 : (List UInt8)) (nonce_1 : (List UInt8)) (data_2 : (List UInt8)) (sealed_3 : (List UInt8)) (t_22 : Bool) : Option ref12_Open_R :=
  bif t_22 then
    some (((13 : Int), ()), (([] : List UInt8), ()))
  else
    bif (decide ((sealed_3.length : Int) < (16 : Int))) then
      some (((1 : Int), ()), (([] : List UInt8), ()))
    else
      let x6 := w64 ((sealed_3.length : Int) - (16 : Int))
      bif decide (0 ≤ (0 : Int)) && decide ((0 : Int) ≤ x6) && decide (x6 ≤ (sealed_3.length : Int)) && true then
      Option.bind (ref12_Tag N key_0 nonce_1 data_2 (cut sealed_3 0 x6.toNat)) fun y8 =>
      bif decide (0 ≤ x6) && decide (x6 ≤ (sealed_3.length : Int)) && decide ((sealed_3.length : Int) ≤ (sealed_3.length : Int)) && true then
      Option.bind (ref01_Equal N y8.2.1 (cut sealed_3 x6.toNat sealed_3.length)) fun y10 =>
      bif (!y10.1.1) then
        some (((12 : Int), ()), (([] : List UInt8), ()))
      else
        bif decide (0 ≤ (0 : Int)) && decide ((0 : Int) ≤ x6) && decide (x6 ≤ (sealed_3.length : Int)) && true then
        Option.bind (ref10_Xor N key_0 (1 : UInt32) nonce_1 (cut sealed_3 0 x6.toNat)) fun y13 =>
        some (((0 : Int), ()), (y13.2.1, ()))
        else none
      else none
      else none
noncomputable def ref12_Open (N : Nat) (key_0 : (List UInt8)) (nonce_1 : (List UInt8)) (data_2 : (List UInt8)) (sealed_3 : (List UInt8)) : Option ref12_Open_R :=
  bif (!(decide ((key_0.length : Int) = (32 : Int)))) then
    ref12_Open_1 N key_0 nonce_1 data_2 sealed_3 true
  else
    ref12_Open_1 N key_0 nonce_1 data_2 sealed_3 (!(decide ((nonce_1.length : Int) = (12 : Int))))
noncomputable def ref12_Open_C (N : Nat) : Ctx := ⟨55, G_tys, [(59, ref12_Tag_ctr N), (19, ref01_Equal_ctr N), (85, ref10_Xor_ctr N)], G_globs⟩
noncomputable def ref12_Open_S0 : Spec := ⟨[.val (.sl .u8), .val (.sl .u8), .val (.sl .u8), .val (.sl .u8), .val .bool], []⟩
noncomputable def ref12_Open_S1 : Spec := ⟨[.val (.sl .u8), .val (.sl .u8), .val (.sl .u8), .val (.sl .u8)], []⟩
noncomputable def ref12_Open_S2 : Spec := ⟨[.row 0, .val .i64], [(.row 5 .u8, .pos 0)]⟩
noncomputable def ref12_Open_K (_N : Nat) : XE → GS → Option ref12_Open_R := retK 0 [8, 9] [false, false] ref12_Open_S2
noncomputable def ref12_Open_L : List Code := (bodyOf (some Tryd.f62))
theorem ref12_Open_1_b {E : Env} (N : Nat) (hb : Base Tryd.prog (ref12_Open_C N) E 0) : Blk Tryd.prog (ref12_Open_C N) E [0, 1, 2, 3, 22] ref12_Open_S0 (ref12_Open_L.drop 2) (fun y => ref12_Open_1 N y.1.1 y.1.2.1 y.1.2.2.1 y.1.2.2.2.1 y.1.2.2.2.2.1) (ref12_Open_K N) :=
  Blk.chunkAt hb 10 (X := (ref12_Open_K N .normal)) (NxOk.end (by kernel_rfl)) rfl (fun x => by kernel_rfl)
theorem ref12_Open_b {E : Env} (N : Nat) (hb : Base Tryd.prog (ref12_Open_C N) E 0) : Blk Tryd.prog (ref12_Open_C N) E (List.range ref12_Open_S1.ks.length) ref12_Open_S1 (ref12_Open_L.drop 0) (fun y => ref12_Open N y.1.1 y.1.2.1 y.1.2.2.1 y.1.2.2.2.1) (ref12_Open_K N) :=
  Blk.chunkAt hb 2 (X := (goK 0 [0, 1, 2, 3, 22] ref12_Open_S0 (fun y => ref12_Open_1 N y.1.1 y.1.2.1 y.1.2.2.1 y.1.2.2.2.1 y.1.2.2.2.2.1))) (NxOk.go hb (ref12_Open_1_b N hb)) rfl (fun x => by kernel_rfl)
noncomputable def ref12_Open_ctr (N : Nat) : Ctr := ⟨ref12_Open_S1, ref12_Open_S2.un [false, false], 0, (fun y => ref12_Open N y.1.1 y.1.2.1 y.1.2.2.1 y.1.2.2.2.1)⟩
theorem ref12_Open_ctrs (N : Nat) : CtrsOk Tryd.prog (ref12_Open_C N) := ctrs_of (Γ := ref12_Open_C N) (by
  intro p hp
  simp only [ref12_Open_C, List.mem_cons, List.not_mem_nil, or_false] at hp
  rcases hp with rfl | rfl | rfl
  · exact ref12_Tag_ok N
  · exact ref01_Equal_ok N
  · exact ref10_Xor_ok N)
theorem ref12_Open_ok (N : Nat) : Ctr.ok Tryd.prog G_globs 62 (ref12_Open_ctr N) :=
  ctr_fn (Γ := ref12_Open_C N) (rfit := ref12_Open_S2) (bs := [false, false]) (res := [8, 9]) (by kernel_rfl) (tys_ok G_tys_ok) (ref12_Open_ctrs N) Tryd.func62 (by kernel_rfl) (by kernel_rfl) Tryd.ntmps62 (by kernel_rfl) (by kernel_rfl) (by kernel_rfl) (by kernel_rfl) (fun E hb => ref12_Open_b N hb)
end Go.Proofs.YtlamdneheilahaaDoor
namespace Go.Proofs.YtlamdneheilahaaDoor
open Go
set_option maxRecDepth 100000
set_option linter.unusedVariables false
/-! ipsecgate/ipsecgatelaw12.AeadSeals -/
abbrev law12_AeadSeals_R : Type := ((Bool × Unit) × (Unit))
noncomputable def law12_AeadSeals_s3 (N : Nat) (data_2 : (List UInt8)) (b_3 : (List UInt8)) (t_53 : Int) (t_54 : Int) (t_52 : (List (List (List UInt8)))) : Option (Lo (((List UInt8) × (List UInt8) × Int × Int × Unit) × ((List (List (List UInt8))) × Unit)) ((Unit) × (Unit)) law12_AeadSeals_R) :=
  bif (decide (t_54 < t_53)) then
    bif inR t_54 t_52.length then
    let x14 := (t_52.getD t_54.toNat (List.replicate 2 ([] : List UInt8)))
    Option.bind (aead_Seal N (x14.getD 0 ([] : List UInt8)) (x14.getD 1 ([] : List UInt8)) data_2 b_3) fun y17 =>
    Option.bind (ref12_Seal N (x14.getD 0 ([] : List UInt8)) (x14.getD 1 ([] : List UInt8)) data_2 b_3) fun y20 =>
    Option.bind (aead_Tag N (x14.getD 0 ([] : List UInt8)) (x14.getD 1 ([] : List UInt8)) data_2 b_3) fun y23 =>
    Option.bind (ref12_Tag N (x14.getD 0 ([] : List UInt8)) (x14.getD 1 ([] : List UInt8)) data_2 b_3) fun y26 =>
    bif (!(decide (y17.1.1 = y20.1.1))) then
      some (.rt ((false, ()), (())))
    else
      bif (!(decide (y23.1.1 = y26.1.1))) then
        some (.rt ((false, ()), (())))
      else
        Option.bind (ref01_Equal N y17.2.1 y20.2.1) fun y29 =>
        bif (!y29.1.1) then
          some (.rt ((false, ()), (())))
        else
          Option.bind (ref01_Equal N y23.2.1 y26.2.1) fun y31 =>
          bif (!y31.1.1) then
            some (.rt ((false, ()), (())))
          else
            some (.go ((data_2, b_3, t_53, (w64 (t_54 + (1 : Int))), ()), (t_52, ())))
    else none
  else
    some (.br ((()), (())))
noncomputable def law12_AeadSeals_4 (N : Nat) : Option law12_AeadSeals_R :=
  some ((true, ()), (()))
noncomputable def law12_AeadSeals_2 (N : Nat) (data_2 : (List UInt8)) (b_3 : (List UInt8)) (t_53 : Int) (t_54 : Int) (t_52 : (List (List (List UInt8)))) : Option law12_AeadSeals_R :=
  loopK N (fun y => law12_AeadSeals_s3 N y.1.1 y.1.2.1 y.1.2.2.1 y.1.2.2.2.1 y.2.1) (fun (e : ((Unit) × (Unit))) => law12_AeadSeals_4 N) ((data_2, b_3, t_53, t_54, ()), (t_52, ()))
noncomputable def law12_AeadSeals_1 (N : Nat) (key_0 : (List UInt8)) (nonce_1 : (List UInt8)) (data_2 : (List UInt8)) (b_3 : (List UInt8)) (codes_4 : (List UInt8)) (t_33 : Bool) : Option law12_AeadSeals_R :=
  bif t_33 then
    some ((true, ()), (()))
  else
    Option.bind (make_New N codes_4 (60 : Int)) fun y5 =>
    Option.bind (make_Codes_Bytes N (32 : Int) y5.2.1) fun y6 =>
    Option.bind (make_Codes_Bytes N (12 : Int) y6.2.1) fun y7 =>
    let x8 := ([key_0, nonce_1] : List (List UInt8))
    let x9 := ([y6.2.2.1, y7.2.2.1] : List (List UInt8))
    let x10 := ([y6.2.2.1, nonce_1] : List (List UInt8))
    let x11 := ([key_0, y7.2.2.1] : List (List UInt8))
    law12_AeadSeals_2 N data_2 b_3 (([x8, x9, x10, x11] : List (List (List UInt8))).length : Int) (0 : Int) ([x8, x9, x10, x11] : List (List (List UInt8)))
noncomputable def law12_AeadSeals (N : Nat) (key_0 : (List UInt8)) (nonce_1 : (List UInt8)) (data_2 : (List UInt8)) (b_3 : (List UInt8)) (codes_4 : (List UInt8)) : Option law12_AeadSeals_R :=
  Option.bind (law12_awake N) fun y1 =>
  bif (!y1.1.1) then
    some ((false, ()), (()))
  else
    bif (decide ((300 : Int) < (b_3.length : Int))) then
      law12_AeadSeals_1 N key_0 nonce_1 data_2 b_3 codes_4 true
    else
      law12_AeadSeals_1 N key_0 nonce_1 data_2 b_3 codes_4 (decide ((300 : Int) < (data_2.length : Int)))
noncomputable def law12_AeadSeals_C (N : Nat) : Ctx := ⟨119, G_tys, [(55, law12_awake_ctr N), (41, make_New_ctr N), (42, make_Codes_Bytes_ctr N), (56, aead_Seal_ctr N), (57, ref12_Seal_ctr N), (58, aead_Tag_ctr N), (59, ref12_Tag_ctr N), (19, ref01_Equal_ctr N)], G_globs⟩
noncomputable def law12_AeadSeals_S0 : Spec := ⟨[.val (.sl .u8), .val (.sl .u8), .row 0, .val .i64, .val .i64], [(.row 73 (.arr 2 (.sl .u8)), .pos 2)]⟩
noncomputable def law12_AeadSeals_S1 : Spec := ⟨[], []⟩
noncomputable def law12_AeadSeals_S2 : Spec := ⟨[.val (.sl .u8), .val (.sl .u8), .val (.sl .u8), .val (.sl .u8), .val (.sl .u8), .val .bool], []⟩
noncomputable def law12_AeadSeals_S3 : Spec := ⟨[.val (.sl .u8), .val (.sl .u8), .val (.sl .u8), .val (.sl .u8), .val (.sl .u8)], []⟩
noncomputable def law12_AeadSeals_S4 : Spec := ⟨[.val .bool], []⟩
noncomputable def law12_AeadSeals_K (_N : Nat) : XE → GS → Option law12_AeadSeals_R := retK 0 [10] [false] law12_AeadSeals_S4
noncomputable def law12_AeadSeals_L : List Code := (bodyOf (some Tryd.f13))
noncomputable def law12_AeadSeals_L3 : List Code := (loopOf (law12_AeadSeals_L[8]?))
noncomputable def law12_AeadSeals_K3 (N : Nat) : XE → GS → Option (Lo (((List UInt8) × (List UInt8) × Int × Int × Unit) × ((List (List (List UInt8))) × Unit)) ((Unit) × (Unit)) law12_AeadSeals_R) := roundK (some 0) (fit 0 [2, 3, 52, 53, 54] law12_AeadSeals_S0) (fit 0 [] law12_AeadSeals_S1) (law12_AeadSeals_K N)
theorem law12_AeadSeals_s3_b {E : Env} (N : Nat) (hb : Base Tryd.prog (law12_AeadSeals_C N) E 0) : Blk Tryd.prog (law12_AeadSeals_C N) E [2, 3, 52, 53, 54] law12_AeadSeals_S0 (law12_AeadSeals_L3.drop 0) (fun y => law12_AeadSeals_s3 N y.1.1 y.1.2.1 y.1.2.2.1 y.1.2.2.2.1 y.2.1) (law12_AeadSeals_K3 N) :=
  Blk.chunkAt hb 4 (X := (law12_AeadSeals_K3 N .normal)) (NxOk.end (by kernel_rfl)) rfl (fun x => by kernel_rfl)
theorem law12_AeadSeals_4_b {E : Env} (N : Nat) (hb : Base Tryd.prog (law12_AeadSeals_C N) E 0) : Blk Tryd.prog (law12_AeadSeals_C N) E [] law12_AeadSeals_S1 (law12_AeadSeals_L.drop 9) (fun y => law12_AeadSeals_4 N) (law12_AeadSeals_K N) :=
  Blk.chunkAt hb 2 (X := (law12_AeadSeals_K N .normal)) (NxOk.end (by kernel_rfl)) rfl (fun x => by kernel_rfl)
theorem law12_AeadSeals_2_b {E : Env} (N : Nat) (hb : Base Tryd.prog (law12_AeadSeals_C N) E 0) : Blk Tryd.prog (law12_AeadSeals_C N) E [2, 3, 52, 53, 54] law12_AeadSeals_S0 (law12_AeadSeals_L.drop 8) (fun y => law12_AeadSeals_2 N y.1.1 y.1.2.1 y.1.2.2.1 y.1.2.2.2.1 y.2.1) (law12_AeadSeals_K N) :=
  Blk.loopAt (Nf := N) (hns := [2, 3, 52, 53, 54]) (ans := []) (hc := law12_AeadSeals_S0) (ac := law12_AeadSeals_S1) (bid := 0) (step := (fun y => law12_AeadSeals_s3 N y.1.1 y.1.2.1 y.1.2.2.1 y.1.2.2.2.1 y.2.1)) (J := (fun e => (goK 0 [] law12_AeadSeals_S1 (fun y => law12_AeadSeals_4 N)) (law12_AeadSeals_S1.st [] e))) hb (by kernel_rfl) (Blk.into (X := (goK 0 [] law12_AeadSeals_S1 (fun y => law12_AeadSeals_4 N))) (NxOk.go hb (law12_AeadSeals_4_b N hb)) (fun x => by kernel_rfl)) (law12_AeadSeals_s3_b N hb) (fun x => by kernel_rfl)
theorem law12_AeadSeals_1_b {E : Env} (N : Nat) (hb : Base Tryd.prog (law12_AeadSeals_C N) E 0) : Blk Tryd.prog (law12_AeadSeals_C N) E [0, 1, 2, 3, 4, 33] law12_AeadSeals_S2 (law12_AeadSeals_L.drop 4) (fun y => law12_AeadSeals_1 N y.1.1 y.1.2.1 y.1.2.2.1 y.1.2.2.2.1 y.1.2.2.2.2.1 y.1.2.2.2.2.2.1) (law12_AeadSeals_K N) :=
  Blk.chunkAt hb 4 (X := (goK 0 [2, 3, 52, 53, 54] law12_AeadSeals_S0 (fun y => law12_AeadSeals_2 N y.1.1 y.1.2.1 y.1.2.2.1 y.1.2.2.2.1 y.2.1))) (NxOk.go hb (law12_AeadSeals_2_b N hb)) rfl (fun x => by kernel_rfl)
theorem law12_AeadSeals_b {E : Env} (N : Nat) (hb : Base Tryd.prog (law12_AeadSeals_C N) E 0) : Blk Tryd.prog (law12_AeadSeals_C N) E (List.range law12_AeadSeals_S3.ks.length) law12_AeadSeals_S3 (law12_AeadSeals_L.drop 0) (fun y => law12_AeadSeals N y.1.1 y.1.2.1 y.1.2.2.1 y.1.2.2.2.1 y.1.2.2.2.2.1) (law12_AeadSeals_K N) :=
  Blk.chunkAt hb 4 (X := (goK 0 [0, 1, 2, 3, 4, 33] law12_AeadSeals_S2 (fun y => law12_AeadSeals_1 N y.1.1 y.1.2.1 y.1.2.2.1 y.1.2.2.2.1 y.1.2.2.2.2.1 y.1.2.2.2.2.2.1))) (NxOk.go hb (law12_AeadSeals_1_b N hb)) rfl (fun x => by kernel_rfl)
noncomputable def law12_AeadSeals_ctr (N : Nat) : Ctr := ⟨law12_AeadSeals_S3, law12_AeadSeals_S4.un [false], 0, (fun y => law12_AeadSeals N y.1.1 y.1.2.1 y.1.2.2.1 y.1.2.2.2.1 y.1.2.2.2.2.1)⟩
theorem law12_AeadSeals_ctrs (N : Nat) : CtrsOk Tryd.prog (law12_AeadSeals_C N) := ctrs_of (Γ := law12_AeadSeals_C N) (by
  intro p hp
  simp only [law12_AeadSeals_C, List.mem_cons, List.not_mem_nil, or_false] at hp
  rcases hp with rfl | rfl | rfl | rfl | rfl | rfl | rfl | rfl
  · exact law12_awake_ok N
  · exact make_New_ok N
  · exact make_Codes_Bytes_ok N
  · exact aead_Seal_ok N
  · exact ref12_Seal_ok N
  · exact aead_Tag_ok N
  · exact ref12_Tag_ok N
  · exact ref01_Equal_ok N)
theorem law12_AeadSeals_ok (N : Nat) : Ctr.ok Tryd.prog G_globs 13 (law12_AeadSeals_ctr N) :=
  ctr_fn (Γ := law12_AeadSeals_C N) (rfit := law12_AeadSeals_S4) (bs := [false]) (res := [10]) (by kernel_rfl) (tys_ok G_tys_ok) (law12_AeadSeals_ctrs N) Tryd.func13 (by kernel_rfl) (by kernel_rfl) Tryd.ntmps13 (by kernel_rfl) (by kernel_rfl) (by kernel_rfl) (by kernel_rfl) (fun E hb => law12_AeadSeals_b N hb)
end Go.Proofs.YtlamdneheilahaaDoor
namespace Go.Proofs.YtlamdneheilahaaDoor
open Go
set_option maxRecDepth 100000
set_option linter.unusedVariables false
/-! ipsecgate/ipsecgatelaw12.AeadReturns -/
abbrev law12_AeadReturns_R : Type := ((Bool × Unit) × (Unit))
noncomputable def law12_AeadReturns_3 (N : Nat) (data_0 : (List UInt8)) (b_1 : (List UInt8)) (at_3 : UInt8) (by_4 : UInt8) (k_12 : (List UInt8)) (n_13 : (List UInt8)) (s_14 : (List UInt8)) : Option law12_AeadReturns_R :=
  bif room (0 + s_14.length) 1 then
  let x15 := w64 ((b_1.length : Int) + ((at_3.toNat : Int).tmod (16 : Int)))
  bif inR x15 s_14.length then
  bif inR x15 s_14.length then
  Option.bind (aead_Open N k_12 n_13 data_0 (s_14.set x15.toNat ((s_14.getD x15.toNat (0 : UInt8)) ^^^ by_4))) fun y19 =>
  bif (decide (y19.1.1 = (12 : Int))) then
    some (((decide ((y19.2.1.length : Int) = (0 : Int))), ()), (()))
  else
    some ((false, ()), (()))
  else none
  else none
  else none
noncomputable def law12_AeadReturns_2 (N : Nat) (data_0 : (List UInt8)) (b_1 : (List UInt8)) (at_3 : UInt8) (by_4 : UInt8) (t_72 : Bool) (k_12 : (List UInt8)) (n_13 : (List UInt8)) (s_14 : (List UInt8)) : Option law12_AeadReturns_R :=
  bif t_72 then
    some ((false, ()), (()))
  else
    bif (decide (by_4 = (0 : UInt8))) then
      law12_AeadReturns_3 N data_0 b_1 at_3 (1 : UInt8) k_12 n_13 s_14
    else
      law12_AeadReturns_3 N data_0 b_1 at_3 by_4 k_12 n_13 s_14
noncomputable def law12_AeadReturns_1 (N : Nat) (data_0 : (List UInt8)) (b_1 : (List UInt8)) (codes_2 : (List UInt8)) (at_3 : UInt8) (by_4 : UInt8) (t_30 : Bool) : Option law12_AeadReturns_R :=
  bif t_30 then
    some ((true, ()), (()))
  else
    Option.bind (make_New N codes_2 (60 : Int)) fun y5 =>
    Option.bind (make_Codes_Bytes N (32 : Int) y5.2.1) fun y6 =>
    Option.bind (make_Codes_Bytes N (12 : Int) y6.2.1) fun y7 =>
    Option.bind (aead_Seal N y6.2.2.1 y7.2.2.1 data_0 b_1) fun y8 =>
    Option.bind (aead_Open N y6.2.2.1 y7.2.2.1 data_0 y8.2.1) fun y9 =>
    bif (!(decide (y8.1.1 = (0 : Int)))) then
      law12_AeadReturns_2 N data_0 b_1 at_3 by_4 true y6.2.2.1 y7.2.2.1 y8.2.1
    else
      bif (!(decide (y9.1.1 = (0 : Int)))) then
        law12_AeadReturns_2 N data_0 b_1 at_3 by_4 true y6.2.2.1 y7.2.2.1 y8.2.1
      else
        bif (!(decide ((y8.2.1.length : Int) = (w64 ((b_1.length : Int) + (16 : Int)))))) then
          law12_AeadReturns_2 N data_0 b_1 at_3 by_4 true y6.2.2.1 y7.2.2.1 y8.2.1
        else
          Option.bind (ref01_Equal N y9.2.1 b_1) fun y28 =>
          law12_AeadReturns_2 N data_0 b_1 at_3 by_4 (!y28.1.1) y6.2.2.1 y7.2.2.1 y8.2.1
noncomputable def law12_AeadReturns (N : Nat) (data_0 : (List UInt8)) (b_1 : (List UInt8)) (codes_2 : (List UInt8)) (at_3 : UInt8) (by_4 : UInt8) : Option law12_AeadReturns_R :=
  Option.bind (law12_awake N) fun y1 =>
  bif (!y1.1.1) then
    some ((false, ()), (()))
  else
    bif (decide ((300 : Int) < (b_1.length : Int))) then
      law12_AeadReturns_1 N data_0 b_1 codes_2 at_3 by_4 true
    else
      law12_AeadReturns_1 N data_0 b_1 codes_2 at_3 by_4 (decide ((300 : Int) < (data_0.length : Int)))
noncomputable def law12_AeadReturns_C (N : Nat) : Ctx := ⟨104, G_tys, [(55, law12_awake_ctr N), (41, make_New_ctr N), (42, make_Codes_Bytes_ctr N), (56, aead_Seal_ctr N), (61, aead_Open_ctr N), (19, ref01_Equal_ctr N)], G_globs⟩
noncomputable def law12_AeadReturns_S0 : Spec := ⟨[.val (.sl .u8), .val (.sl .u8), .val .u8, .val .u8, .row 0, .row 1, .row 2], [(.row 5 .u8, .pos 4), (.row 5 .u8, .pos 5), (.row 5 .u8, .pos 6)]⟩
noncomputable def law12_AeadReturns_S1 : Spec := ⟨[.val (.sl .u8), .val (.sl .u8), .val .u8, .val .u8, .row 0, .row 1, .row 2, .val .bool], [(.row 5 .u8, .pos 4), (.row 5 .u8, .pos 5), (.row 5 .u8, .pos 6)]⟩
noncomputable def law12_AeadReturns_S2 : Spec := ⟨[.val (.sl .u8), .val (.sl .u8), .val (.sl .u8), .val .u8, .val .u8, .val .bool], []⟩
noncomputable def law12_AeadReturns_S3 : Spec := ⟨[.val (.sl .u8), .val (.sl .u8), .val (.sl .u8), .val .u8, .val .u8], []⟩
noncomputable def law12_AeadReturns_S4 : Spec := ⟨[.val .bool], []⟩
noncomputable def law12_AeadReturns_K (_N : Nat) : XE → GS → Option law12_AeadReturns_R := retK 0 [10] [false] law12_AeadReturns_S4
noncomputable def law12_AeadReturns_L : List Code := (bodyOf (some Tryd.f15))
theorem law12_AeadReturns_3_b {E : Env} (N : Nat) (hb : Base Tryd.prog (law12_AeadReturns_C N) E 0) : Blk Tryd.prog (law12_AeadReturns_C N) E [0, 1, 3, 4, 12, 13, 14] law12_AeadReturns_S0 (law12_AeadReturns_L.drop 13) (fun y => law12_AeadReturns_3 N y.1.1 y.1.2.1 y.1.2.2.1 y.1.2.2.2.1 y.2.1 y.2.2.1 y.2.2.2.1) (law12_AeadReturns_K N) :=
  Blk.chunkAt hb 5 (X := (law12_AeadReturns_K N .normal)) (NxOk.end (by kernel_rfl)) rfl (fun x => by kernel_rfl)
theorem law12_AeadReturns_2_b {E : Env} (N : Nat) (hb : Base Tryd.prog (law12_AeadReturns_C N) E 0) : Blk Tryd.prog (law12_AeadReturns_C N) E [0, 1, 3, 4, 12, 13, 14, 72] law12_AeadReturns_S1 (law12_AeadReturns_L.drop 10) (fun y => law12_AeadReturns_2 N y.1.1 y.1.2.1 y.1.2.2.1 y.1.2.2.2.1 y.1.2.2.2.2.1 y.2.1 y.2.2.1 y.2.2.2.1) (law12_AeadReturns_K N) :=
  Blk.chunkAt hb 3 (X := (goK 0 [0, 1, 3, 4, 12, 13, 14] law12_AeadReturns_S0 (fun y => law12_AeadReturns_3 N y.1.1 y.1.2.1 y.1.2.2.1 y.1.2.2.2.1 y.2.1 y.2.2.1 y.2.2.2.1))) (NxOk.go hb (law12_AeadReturns_3_b N hb)) rfl (fun x => by kernel_rfl)
theorem law12_AeadReturns_1_b {E : Env} (N : Nat) (hb : Base Tryd.prog (law12_AeadReturns_C N) E 0) : Blk Tryd.prog (law12_AeadReturns_C N) E [0, 1, 2, 3, 4, 30] law12_AeadReturns_S2 (law12_AeadReturns_L.drop 4) (fun y => law12_AeadReturns_1 N y.1.1 y.1.2.1 y.1.2.2.1 y.1.2.2.2.1 y.1.2.2.2.2.1 y.1.2.2.2.2.2.1) (law12_AeadReturns_K N) :=
  Blk.chunkAt hb 6 (X := (goK 0 [0, 1, 3, 4, 12, 13, 14, 72] law12_AeadReturns_S1 (fun y => law12_AeadReturns_2 N y.1.1 y.1.2.1 y.1.2.2.1 y.1.2.2.2.1 y.1.2.2.2.2.1 y.2.1 y.2.2.1 y.2.2.2.1))) (NxOk.go hb (law12_AeadReturns_2_b N hb)) rfl (fun x => by kernel_rfl)
theorem law12_AeadReturns_b {E : Env} (N : Nat) (hb : Base Tryd.prog (law12_AeadReturns_C N) E 0) : Blk Tryd.prog (law12_AeadReturns_C N) E (List.range law12_AeadReturns_S3.ks.length) law12_AeadReturns_S3 (law12_AeadReturns_L.drop 0) (fun y => law12_AeadReturns N y.1.1 y.1.2.1 y.1.2.2.1 y.1.2.2.2.1 y.1.2.2.2.2.1) (law12_AeadReturns_K N) :=
  Blk.chunkAt hb 4 (X := (goK 0 [0, 1, 2, 3, 4, 30] law12_AeadReturns_S2 (fun y => law12_AeadReturns_1 N y.1.1 y.1.2.1 y.1.2.2.1 y.1.2.2.2.1 y.1.2.2.2.2.1 y.1.2.2.2.2.2.1))) (NxOk.go hb (law12_AeadReturns_1_b N hb)) rfl (fun x => by kernel_rfl)
noncomputable def law12_AeadReturns_ctr (N : Nat) : Ctr := ⟨law12_AeadReturns_S3, law12_AeadReturns_S4.un [false], 0, (fun y => law12_AeadReturns N y.1.1 y.1.2.1 y.1.2.2.1 y.1.2.2.2.1 y.1.2.2.2.2.1)⟩
theorem law12_AeadReturns_ctrs (N : Nat) : CtrsOk Tryd.prog (law12_AeadReturns_C N) := ctrs_of (Γ := law12_AeadReturns_C N) (by
  intro p hp
  simp only [law12_AeadReturns_C, List.mem_cons, List.not_mem_nil, or_false] at hp
  rcases hp with rfl | rfl | rfl | rfl | rfl | rfl
  · exact law12_awake_ok N
  · exact make_New_ok N
  · exact make_Codes_Bytes_ok N
  · exact aead_Seal_ok N
  · exact aead_Open_ok N
  · exact ref01_Equal_ok N)
theorem law12_AeadReturns_ok (N : Nat) : Ctr.ok Tryd.prog G_globs 15 (law12_AeadReturns_ctr N) :=
  ctr_fn (Γ := law12_AeadReturns_C N) (rfit := law12_AeadReturns_S4) (bs := [false]) (res := [10]) (by kernel_rfl) (tys_ok G_tys_ok) (law12_AeadReturns_ctrs N) Tryd.func15 (by kernel_rfl) (by kernel_rfl) Tryd.ntmps15 (by kernel_rfl) (by kernel_rfl) (by kernel_rfl) (by kernel_rfl) (fun E hb => law12_AeadReturns_b N hb)
end Go.Proofs.YtlamdneheilahaaDoor
namespace Go.Proofs.YtlamdneheilahaaDoor
open Go
set_option maxRecDepth 100000
set_option linter.unusedVariables false
/-! (*ipsecgate/ipsecgatemake.Codes).Change -/
abbrev make_Codes_Change_R : Type := (((List UInt8) × Unit) × (((List UInt8) × (Int × Unit)) × Unit))
noncomputable def make_Codes_Change (N : Nat) (b_1 : (List UInt8)) (c_0 : ((List UInt8) × (Int × Unit))) : Option make_Codes_Change_R :=
  bif room (0 + b_1.length) 1 then
  Option.bind (make_Codes_Next N (5 : Int) c_0) fun y1 =>
  bif (decide (y1.1.1 = (0 : Int))) then
    Option.bind (make_Codes_Next N (256 : Int) y1.2.1) fun y3 =>
    bif room (b_1.length + ([(iu8 y3.1.1)] : List UInt8).length) 1 then
    some (((b_1 ++ ([(iu8 y3.1.1)] : List UInt8)), ()), (y3.2.1, ()))
    else none
  else
    bif (decide (y1.1.1 = (1 : Int))) then
      Option.bind (make_Codes_Next N (9 : Int) y1.2.1) fun y8 =>
      let x10 := w64 ((w64 ((b_1.length : Int) * y8.1.1)).tdiv (9 : Int))
      bif decide (0 ≤ (0 : Int)) && decide ((0 : Int) ≤ x10) && decide (x10 ≤ (b_1.length : Int)) && true then
      some (((cut b_1 0 x10.toNat), ()), (y8.2.1, ()))
      else none
    else
      bif (decide ((0 : Int) < (b_1.length : Int))) then
        Option.bind (make_Codes_Next N (256 : Int) y1.2.1) fun y14 =>
        Option.bind (make_Codes_Next N (256 : Int) y14.2.1) fun y16 =>
        let x17 := or64 (shlI y14.1.1 8) y16.1.1
        let x18 := (b_1.length : Int)
        bif !(decide (x18 = 0)) then
        bif inR (x17.tmod x18) b_1.length then
        Option.bind (make_Codes_Next N (255 : Int) y16.2.1) fun y21 =>
        bif inR (x17.tmod x18) b_1.length then
        some (((b_1.set (x17.tmod x18).toNat ((b_1.getD (x17.tmod x18).toNat (0 : UInt8)) ^^^ (iu8 (w64 ((1 : Int) + y21.1.1))))), ()), (y21.2.1, ()))
        else none
        else none
        else none
      else
        some ((b_1, ()), (y1.2.1, ()))
  else none
noncomputable def make_Codes_Change_C (N : Nat) : Ctx := ⟨51, G_tys, [(43, make_Codes_Next_ctr N)], G_globs⟩
noncomputable def make_Codes_Change_S0 : Spec := ⟨[.ref 0 (.pair (.sl .u8) (.pair .i64 .unit)), .val (.sl .u8)], [(.box 100 (.pair (.sl .u8) (.pair .i64 .unit)), .pos 0)]⟩
noncomputable def make_Codes_Change_S1 : Spec := ⟨[.val (.sl .u8)], [(.box 100 (.pair (.sl .u8) (.pair .i64 .unit)), .fix 0)]⟩
noncomputable def make_Codes_Change_K (_N : Nat) : XE → GS → Option make_Codes_Change_R := retK 1 [4] [false] make_Codes_Change_S1
noncomputable def make_Codes_Change_L : List Code := (bodyOf (some Tryd.f60))
theorem make_Codes_Change_b {E : Env} (N : Nat) (hb : Base Tryd.prog (make_Codes_Change_C N) E 1) : Blk Tryd.prog (make_Codes_Change_C N) E (List.range make_Codes_Change_S0.ks.length) make_Codes_Change_S0 (make_Codes_Change_L.drop 0) (fun y => make_Codes_Change N y.1.1 y.2.1) (make_Codes_Change_K N) :=
  Blk.chunkAt hb 8 (X := (make_Codes_Change_K N .normal)) (NxOk.end (by kernel_rfl)) rfl (fun x => by kernel_rfl)
noncomputable def make_Codes_Change_ctr (N : Nat) : Ctr := ⟨make_Codes_Change_S0, make_Codes_Change_S1.un [false], 1, (fun y => make_Codes_Change N y.1.1 y.2.1)⟩
theorem make_Codes_Change_ctrs (N : Nat) : CtrsOk Tryd.prog (make_Codes_Change_C N) := ctrs_of (Γ := make_Codes_Change_C N) (by
  intro p hp
  simp only [make_Codes_Change_C, List.mem_cons, List.not_mem_nil, or_false] at hp
  rcases hp with rfl
  · exact make_Codes_Next_ok N)
theorem make_Codes_Change_ok (N : Nat) : Ctr.ok Tryd.prog G_globs 60 (make_Codes_Change_ctr N) :=
  ctr_fn (Γ := make_Codes_Change_C N) (rfit := make_Codes_Change_S1) (bs := [false]) (res := [4]) (by kernel_rfl) (tys_ok G_tys_ok) (make_Codes_Change_ctrs N) Tryd.func60 (by kernel_rfl) (by kernel_rfl) Tryd.ntmps60 (by kernel_rfl) (by kernel_rfl) (by kernel_rfl) (by kernel_rfl) (fun E hb => make_Codes_Change_b N hb)
end Go.Proofs.YtlamdneheilahaaDoor
namespace Go.Proofs.YtlamdneheilahaaDoor
open Go
set_option maxRecDepth 100000
set_option linter.unusedVariables false
/-! ipsecgate/ipsecgatelaw12.AeadOpens -/
abbrev law12_AeadOpens_R : Type := ((Bool × Unit) × (Unit))
noncomputable def law12_AeadOpens_s3 (N : Nat) (data_0 : (List UInt8)) (s_10 : (List UInt8)) (t_61 : Int) (t_62 : Int) (k_8 : (List UInt8)) (n_9 : (List UInt8)) (t_60 : (List (List (List UInt8)))) : Option (Lo (((List UInt8) × (List UInt8) × Int × Int × Unit) × ((List UInt8) × (List UInt8) × (List (List (List UInt8))) × Unit)) (((List UInt8) × (List UInt8) × Unit) × ((List UInt8) × (List UInt8) × Unit)) law12_AeadOpens_R) :=
  bif (decide (t_62 < t_61)) then
    bif inR t_62 t_60.length then
    let x17 := (t_60.getD t_62.toNat (List.replicate 2 ([] : List UInt8)))
    Option.bind (aead_Open N k_8 n_9 (x17.getD 0 ([] : List UInt8)) (x17.getD 1 ([] : List UInt8))) fun y20 =>
    Option.bind (ref12_Open N k_8 n_9 (x17.getD 0 ([] : List UInt8)) (x17.getD 1 ([] : List UInt8))) fun y23 =>
    bif (!(decide (y20.1.1 = y23.1.1))) then
      some (.rt ((false, ()), (())))
    else
      Option.bind (ref01_Equal N y20.2.1 y23.2.1) fun y25 =>
      bif (!y25.1.1) then
        some (.rt ((false, ()), (())))
      else
        some (.go ((data_0, s_10, t_61, (w64 (t_62 + (1 : Int))), ()), (k_8, n_9, t_60, ())))
    else none
  else
    some (.br ((data_0, s_10, ()), (k_8, n_9, ())))
noncomputable def law12_AeadOpens_4 (N : Nat) (data_0 : (List UInt8)) (s_10 : (List UInt8)) (k_8 : (List UInt8)) (n_9 : (List UInt8)) : Option law12_AeadOpens_R :=
  bif decide (0 ≤ (1 : Int)) && decide ((1 : Int) ≤ (k_8.length : Int)) && decide ((k_8.length : Int) ≤ (k_8.length : Int)) && true then
  Option.bind (aead_Open N (cut k_8 1 k_8.length) n_9 data_0 s_10) fun y29 =>
  some (((decide (y29.1.1 = (13 : Int))), ()), (()))
  else none
noncomputable def law12_AeadOpens_2 (N : Nat) (data_0 : (List UInt8)) (s_10 : (List UInt8)) (t_61 : Int) (t_62 : Int) (k_8 : (List UInt8)) (n_9 : (List UInt8)) (t_60 : (List (List (List UInt8)))) : Option law12_AeadOpens_R :=
  loopK N (fun y => law12_AeadOpens_s3 N y.1.1 y.1.2.1 y.1.2.2.1 y.1.2.2.2.1 y.2.1 y.2.2.1 y.2.2.2.1) (fun (e : (((List UInt8) × (List UInt8) × Unit) × ((List UInt8) × (List UInt8) × Unit))) => law12_AeadOpens_4 N e.1.1 e.1.2.1 e.2.1 e.2.2.1) ((data_0, s_10, t_61, t_62, ()), (k_8, n_9, t_60, ()))
noncomputable def law12_AeadOpens_1 (N : Nat) (data_0 : (List UInt8)) (b_1 : (List UInt8)) (codes_2 : (List UInt8)) (t_29 : Bool) : Option law12_AeadOpens_R :=
  bif t_29 then
    some ((true, ()), (()))
  else
    Option.bind (make_New N codes_2 (80 : Int)) fun y5 =>
    Option.bind (make_Codes_Bytes N (32 : Int) y5.2.1) fun y6 =>
    Option.bind (make_Codes_Bytes N (12 : Int) y6.2.1) fun y7 =>
    Option.bind (ref12_Seal N y6.2.2.1 y7.2.2.1 data_0 b_1) fun y8 =>
    let x9 := ([data_0, y8.2.1] : List (List UInt8))
    Option.bind (make_Codes_Change N y8.2.1 y7.2.1) fun y10 =>
    let x11 := ([data_0, y10.1.1] : List (List UInt8))
    Option.bind (make_Codes_Change N data_0 y10.2.1) fun y12 =>
    let x13 := ([y12.1.1, y8.2.1] : List (List UInt8))
    let x14 := ([data_0, b_1] : List (List UInt8))
    law12_AeadOpens_2 N data_0 y8.2.1 (([x9, x11, x13, x14] : List (List (List UInt8))).length : Int) (0 : Int) y6.2.2.1 y7.2.2.1 ([x9, x11, x13, x14] : List (List (List UInt8)))
noncomputable def law12_AeadOpens (N : Nat) (data_0 : (List UInt8)) (b_1 : (List UInt8)) (codes_2 : (List UInt8)) : Option law12_AeadOpens_R :=
  Option.bind (law12_awake N) fun y1 =>
  bif (!y1.1.1) then
    some ((false, ()), (()))
  else
    bif (decide ((300 : Int) < (b_1.length : Int))) then
      law12_AeadOpens_1 N data_0 b_1 codes_2 true
    else
      law12_AeadOpens_1 N data_0 b_1 codes_2 (decide ((300 : Int) < (data_0.length : Int)))
noncomputable def law12_AeadOpens_C (N : Nat) : Ctx := ⟨107, G_tys, [(55, law12_awake_ctr N), (41, make_New_ctr N), (42, make_Codes_Bytes_ctr N), (57, ref12_Seal_ctr N), (60, make_Codes_Change_ctr N), (61, aead_Open_ctr N), (62, ref12_Open_ctr N), (19, ref01_Equal_ctr N)], G_globs⟩
noncomputable def law12_AeadOpens_S0 : Spec := ⟨[.val (.sl .u8), .row 0, .row 1, .val (.sl .u8), .row 2, .val .i64, .val .i64], [(.row 5 .u8, .pos 1), (.row 5 .u8, .pos 2), (.row 73 (.arr 2 (.sl .u8)), .pos 4)]⟩
noncomputable def law12_AeadOpens_S1 : Spec := ⟨[.val (.sl .u8), .row 0, .row 1, .val (.sl .u8)], [(.row 5 .u8, .pos 1), (.row 5 .u8, .pos 2)]⟩
noncomputable def law12_AeadOpens_S2 : Spec := ⟨[.val (.sl .u8), .val (.sl .u8), .val (.sl .u8), .val .bool], []⟩
noncomputable def law12_AeadOpens_S3 : Spec := ⟨[.val (.sl .u8), .val (.sl .u8), .val (.sl .u8)], []⟩
noncomputable def law12_AeadOpens_S4 : Spec := ⟨[.val .bool], []⟩
noncomputable def law12_AeadOpens_K (_N : Nat) : XE → GS → Option law12_AeadOpens_R := retK 0 [6] [false] law12_AeadOpens_S4
noncomputable def law12_AeadOpens_L : List Code := (bodyOf (some Tryd.f14))
noncomputable def law12_AeadOpens_L3 : List Code := (loopOf (law12_AeadOpens_L[9]?))
noncomputable def law12_AeadOpens_K3 (N : Nat) : XE → GS → Option (Lo (((List UInt8) × (List UInt8) × Int × Int × Unit) × ((List UInt8) × (List UInt8) × (List (List (List UInt8))) × Unit)) (((List UInt8) × (List UInt8) × Unit) × ((List UInt8) × (List UInt8) × Unit)) law12_AeadOpens_R) := roundK (some 0) (fit 0 [0, 8, 9, 10, 60, 61, 62] law12_AeadOpens_S0) (fit 0 [0, 8, 9, 10] law12_AeadOpens_S1) (law12_AeadOpens_K N)
theorem law12_AeadOpens_s3_b {E : Env} (N : Nat) (hb : Base Tryd.prog (law12_AeadOpens_C N) E 0) : Blk Tryd.prog (law12_AeadOpens_C N) E [0, 8, 9, 10, 60, 61, 62] law12_AeadOpens_S0 (law12_AeadOpens_L3.drop 0) (fun y => law12_AeadOpens_s3 N y.1.1 y.1.2.1 y.1.2.2.1 y.1.2.2.2.1 y.2.1 y.2.2.1 y.2.2.2.1) (law12_AeadOpens_K3 N) :=
  Blk.chunkAt hb 4 (X := (law12_AeadOpens_K3 N .normal)) (NxOk.end (by kernel_rfl)) rfl (fun x => by kernel_rfl)
theorem law12_AeadOpens_4_b {E : Env} (N : Nat) (hb : Base Tryd.prog (law12_AeadOpens_C N) E 0) : Blk Tryd.prog (law12_AeadOpens_C N) E [0, 8, 9, 10] law12_AeadOpens_S1 (law12_AeadOpens_L.drop 10) (fun y => law12_AeadOpens_4 N y.1.1 y.1.2.1 y.2.1 y.2.2.1) (law12_AeadOpens_K N) :=
  Blk.chunkAt hb 3 (X := (law12_AeadOpens_K N .normal)) (NxOk.end (by kernel_rfl)) rfl (fun x => by kernel_rfl)
theorem law12_AeadOpens_2_b {E : Env} (N : Nat) (hb : Base Tryd.prog (law12_AeadOpens_C N) E 0) : Blk Tryd.prog (law12_AeadOpens_C N) E [0, 8, 9, 10, 60, 61, 62] law12_AeadOpens_S0 (law12_AeadOpens_L.drop 9) (fun y => law12_AeadOpens_2 N y.1.1 y.1.2.1 y.1.2.2.1 y.1.2.2.2.1 y.2.1 y.2.2.1 y.2.2.2.1) (law12_AeadOpens_K N) :=
  Blk.loopAt (Nf := N) (hns := [0, 8, 9, 10, 60, 61, 62]) (ans := [0, 8, 9, 10]) (hc := law12_AeadOpens_S0) (ac := law12_AeadOpens_S1) (bid := 0) (step := (fun y => law12_AeadOpens_s3 N y.1.1 y.1.2.1 y.1.2.2.1 y.1.2.2.2.1 y.2.1 y.2.2.1 y.2.2.2.1)) (J := (fun e => (goK 0 [0, 8, 9, 10] law12_AeadOpens_S1 (fun y => law12_AeadOpens_4 N y.1.1 y.1.2.1 y.2.1 y.2.2.1)) (law12_AeadOpens_S1.st [0, 8, 9, 10] e))) hb (by kernel_rfl) (Blk.into (X := (goK 0 [0, 8, 9, 10] law12_AeadOpens_S1 (fun y => law12_AeadOpens_4 N y.1.1 y.1.2.1 y.2.1 y.2.2.1))) (NxOk.go hb (law12_AeadOpens_4_b N hb)) (fun x => by kernel_rfl)) (law12_AeadOpens_s3_b N hb) (fun x => by kernel_rfl)
theorem law12_AeadOpens_1_b {E : Env} (N : Nat) (hb : Base Tryd.prog (law12_AeadOpens_C N) E 0) : Blk Tryd.prog (law12_AeadOpens_C N) E [0, 1, 2, 29] law12_AeadOpens_S2 (law12_AeadOpens_L.drop 4) (fun y => law12_AeadOpens_1 N y.1.1 y.1.2.1 y.1.2.2.1 y.1.2.2.2.1) (law12_AeadOpens_K N) :=
  Blk.chunkAt hb 5 (X := (goK 0 [0, 8, 9, 10, 60, 61, 62] law12_AeadOpens_S0 (fun y => law12_AeadOpens_2 N y.1.1 y.1.2.1 y.1.2.2.1 y.1.2.2.2.1 y.2.1 y.2.2.1 y.2.2.2.1))) (NxOk.go hb (law12_AeadOpens_2_b N hb)) rfl (fun x => by kernel_rfl)
theorem law12_AeadOpens_b {E : Env} (N : Nat) (hb : Base Tryd.prog (law12_AeadOpens_C N) E 0) : Blk Tryd.prog (law12_AeadOpens_C N) E (List.range law12_AeadOpens_S3.ks.length) law12_AeadOpens_S3 (law12_AeadOpens_L.drop 0) (fun y => law12_AeadOpens N y.1.1 y.1.2.1 y.1.2.2.1) (law12_AeadOpens_K N) :=
  Blk.chunkAt hb 4 (X := (goK 0 [0, 1, 2, 29] law12_AeadOpens_S2 (fun y => law12_AeadOpens_1 N y.1.1 y.1.2.1 y.1.2.2.1 y.1.2.2.2.1))) (NxOk.go hb (law12_AeadOpens_1_b N hb)) rfl (fun x => by kernel_rfl)
noncomputable def law12_AeadOpens_ctr (N : Nat) : Ctr := ⟨law12_AeadOpens_S3, law12_AeadOpens_S4.un [false], 0, (fun y => law12_AeadOpens N y.1.1 y.1.2.1 y.1.2.2.1)⟩
theorem law12_AeadOpens_ctrs (N : Nat) : CtrsOk Tryd.prog (law12_AeadOpens_C N) := ctrs_of (Γ := law12_AeadOpens_C N) (by
  intro p hp
  simp only [law12_AeadOpens_C, List.mem_cons, List.not_mem_nil, or_false] at hp
  rcases hp with rfl | rfl | rfl | rfl | rfl | rfl | rfl | rfl
  · exact law12_awake_ok N
  · exact make_New_ok N
  · exact make_Codes_Bytes_ok N
  · exact ref12_Seal_ok N
  · exact make_Codes_Change_ok N
  · exact aead_Open_ok N
  · exact ref12_Open_ok N
  · exact ref01_Equal_ok N)
theorem law12_AeadOpens_ok (N : Nat) : Ctr.ok Tryd.prog G_globs 14 (law12_AeadOpens_ctr N) :=
  ctr_fn (Γ := law12_AeadOpens_C N) (rfit := law12_AeadOpens_S4) (bs := [false]) (res := [6]) (by kernel_rfl) (tys_ok G_tys_ok) (law12_AeadOpens_ctrs N) Tryd.func14 (by kernel_rfl) (by kernel_rfl) Tryd.ntmps14 (by kernel_rfl) (by kernel_rfl) (by kernel_rfl) (by kernel_rfl) (fun E hb => law12_AeadOpens_b N hb)
end Go.Proofs.YtlamdneheilahaaDoor