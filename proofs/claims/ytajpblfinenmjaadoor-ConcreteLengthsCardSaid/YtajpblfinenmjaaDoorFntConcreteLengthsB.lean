/- Functions of the program as plain functions, each with the proof that the text computes it. -/
import Derived.Test.YtajpblfinenmjaaDoorFnsConcreteLengthsA
import Derived.Test.YtajpblfinenmjaaDoorFntConcreteLengthsA
set_option linter.unusedVariables false
set_option linter.unusedSimpArgs false
namespace Go.Proofs.YtajpblfinenmjaaDoor
open Go
set_option maxRecDepth 100000
set_option linter.unusedVariables false
noncomputable section
/-! ipsecgate/poly1305.Sum -/
abbrev poly1305_Sum_R : Type := ((Bool × Unit) × ((List UInt8) × Unit))
def poly1305_Sum_s2 (N : Nat) (key_0 : (List UInt8)) (b_1 : (List UInt8)) (r_6 : (List UInt64)) (v_7 : (List UInt64)) : Option (Lo (((List UInt8) × (List UInt8) × Unit) × ((List UInt64) × (List UInt64) × Unit)) (((List UInt8) × Unit) × ((List UInt64) × Unit)) poly1305_Sum_R) :=
 bif (decide ((0 : Int) < (b_1.length : Int))) then
 let x8 := (b_1.length : Int)
 let x9 := bif decide (x8 < (16 : Int)) then x8 else (16 : Int)
 bif decide (0 ≤ (0 : Int)) && decide ((0 : Int) ≤ x9) && decide (x9 ≤ (b_1.length : Int)) && true then
 let x10 := cut b_1 0 x9.toNat
 bif room (0 + x10.length) 1 then
 bif room (x10.length + ([(1 : UInt8)] : List UInt8).length) 1 then
 Option.bind (poly1305_number N (x10 ++ ([(1 : UInt8)] : List UInt8))) fun y12 =>
 Option.bind (poly1305_limbs_add N v_7 y12.1.1) fun y13 =>
 Option.bind (poly1305_limbs_mul N y13.1.1 r_6) fun y14 =>
 bif decide (0 ≤ x9) && decide (x9 ≤ (b_1.length : Int)) && decide ((b_1.length : Int) ≤ (b_1.length : Int)) && true then
 some (.go ((key_0, (cut b_1 x9.toNat b_1.length), ()), (r_6, y14.1.1, ())))
 else none
 else none
 else none
 else none
 else
 some (.br ((key_0, ()), (v_7, ())))
def poly1305_Sum_s5 (N : Nat) (t_50 : Int) (v_7 : (List UInt64)) (s_10 : (List UInt64)) : Option (Lo ((Int × Unit) × ((List UInt64) × (List UInt64) × Unit)) ((Unit) × ((List UInt64) × Unit)) poly1305_Sum_R) :=
 bif (decide (t_50 < (5 : Int))) then
 bif inR t_50 5 then
 bif inR t_50 5 then
 bif inR t_50 5 then
 some (.go (((w64 (t_50 + (1 : Int))), ()), ((v_7.set t_50.toNat ((v_7.getD t_50.toNat (0 : UInt64)) + (s_10.getD t_50.toNat (0 : UInt64)))), s_10, ())))
 else none
 else none
 else none
 else
 some (.br ((()), (v_7, ())))
def poly1305_Sum_s8 (N : Nat) (t_62 : Int) (v_7 : (List UInt64)) : Option (Lo ((Int × Unit) × ((List UInt64) × Unit)) ((Unit) × ((List UInt64) × Unit)) poly1305_Sum_R) :=
 bif (decide (t_62 < (4 : Int))) then
 let x26 := w64 (t_62 + (1 : Int))
 bif inR x26 5 then
 bif inR t_62 5 then
 bif inR x26 5 then
 let x31 := (v_7.set x26.toNat ((v_7.getD x26.toNat (0 : UInt64)) + (shr64 (v_7.getD t_62.toNat (0 : UInt64)) 26)))
 bif inR t_62 5 then
 bif inR t_62 5 then
 some (.go (((w64 (t_62 + (1 : Int))), ()), ((x31.set t_62.toNat ((x31.getD t_62.toNat (0 : UInt64)) &&& (67108863 : UInt64))), ())))
 else none
 else none
 else none
 else none
 else none
 else
 some (.br ((()), (v_7, ())))
def poly1305_Sum_s11 (N : Nat) (t_81 : Int) (v_7 : (List UInt64)) (out_13 : (List UInt8)) : Option (Lo ((Int × Unit) × ((List UInt64) × (List UInt8) × Unit)) ((Unit) × ((List UInt8) × Unit)) poly1305_Sum_R) :=
 bif (decide (t_81 < (16 : Int))) then
 let x37 := w64 ((8 : Int) * t_81)
 let x38 := w64 (x37.tdiv (26 : Int))
 bif inR x38 5 then
 let x40 := x37.tmod (26 : Int)
 bif decide (0 ≤ x40) then
 let x41 := shr64 (v_7.getD x38.toNat (0 : UInt64)) x40.toNat
 bif (decide ((18 : Int) < (x37.tmod (26 : Int)))) then
 let x45 := w64 ((w64 (x37.tdiv (26 : Int))) + (1 : Int))
 bif inR x45 5 then
 let x48 := w64 ((26 : Int) - (x37.tmod (26 : Int)))
 bif decide (0 ≤ x48) then
 let x49 := shl64 (v_7.getD x45.toNat (0 : UInt64)) x48.toNat
 bif room (out_13.length + ([(x41 ||| x49).toUInt8] : List UInt8).length) 1 then
 some (.go (((w64 (t_81 + (1 : Int))), ()), (v_7, (out_13 ++ ([(x41 ||| x49).toUInt8] : List UInt8)), ())))
 else none
 else none
 else none
 else
 bif room (out_13.length + ([x41.toUInt8] : List UInt8).length) 1 then
 some (.go (((w64 (t_81 + (1 : Int))), ()), (v_7, (out_13 ++ ([x41.toUInt8] : List UInt8)), ())))
 else none
 else none
 else none
 else
 some (.br ((()), (out_13, ())))
def poly1305_Sum_12 (N : Nat) (out_13 : (List UInt8)) : Option poly1305_Sum_R :=
 some ((true, ()), (out_13, ()))
def poly1305_Sum_10 (N : Nat) (t_81 : Int) (v_7 : (List UInt64)) (out_13 : (List UInt8)) : Option poly1305_Sum_R :=
 loopK N (fun y => poly1305_Sum_s11 N y.1.1 y.2.1 y.2.2.1) (fun (e : ((Unit) × ((List UInt8) × Unit))) => poly1305_Sum_12 N e.2.1) ((t_81, ()), (v_7, out_13, ()))
def poly1305_Sum_9 (N : Nat) (v_7 : (List UInt64)) : Option poly1305_Sum_R :=
 poly1305_Sum_10 N (0 : Int) v_7 ([] : List UInt8)
def poly1305_Sum_7 (N : Nat) (t_62 : Int) (v_7 : (List UInt64)) : Option poly1305_Sum_R :=
 loopK N (fun y => poly1305_Sum_s8 N y.1.1 y.2.1) (fun (e : ((Unit) × ((List UInt64) × Unit))) => poly1305_Sum_9 N e.2.1) ((t_62, ()), (v_7, ()))
def poly1305_Sum_6 (N : Nat) (v_7 : (List UInt64)) : Option poly1305_Sum_R :=
 poly1305_Sum_7 N (0 : Int) v_7
def poly1305_Sum_4 (N : Nat) (t_50 : Int) (v_7 : (List UInt64)) (s_10 : (List UInt64)) : Option poly1305_Sum_R :=
 loopK N (fun y => poly1305_Sum_s5 N y.1.1 y.2.1 y.2.2.1) (fun (e : ((Unit) × ((List UInt64) × Unit))) => poly1305_Sum_6 N e.2.1) ((t_50, ()), (v_7, s_10, ()))
def poly1305_Sum_3 (N : Nat) (key_0 : (List UInt8)) (v_7 : (List UInt64)) : Option poly1305_Sum_R :=
 Option.bind (poly1305_limbs_reduced N v_7) fun y16 =>
 bif decide (0 ≤ (16 : Int)) && decide ((16 : Int) ≤ (key_0.length : Int)) && decide ((key_0.length : Int) ≤ (key_0.length : Int)) && true then
 Option.bind (poly1305_number N (cut key_0 16 key_0.length)) fun y18 =>
 poly1305_Sum_4 N (0 : Int) y16.1.1 y18.1.1
 else none
def poly1305_Sum_1 (N : Nat) (key_0 : (List UInt8)) (b_1 : (List UInt8)) (r_6 : (List UInt64)) (v_7 : (List UInt64)) : Option poly1305_Sum_R :=
 loopK N (fun y => poly1305_Sum_s2 N y.1.1 y.1.2.1 y.2.1 y.2.2.1) (fun (e : (((List UInt8) × Unit) × ((List UInt64) × Unit))) => poly1305_Sum_3 N e.1.1 e.2.1) ((key_0, b_1, ()), (r_6, v_7, ()))
def poly1305_Sum (N : Nat) (key_0 : (List UInt8)) (b_1 : (List UInt8)) : Option poly1305_Sum_R :=
 bif (!(decide ((key_0.length : Int) = (32 : Int)))) then
 some ((false, ()), (([] : List UInt8), ()))
 else
 bif decide (0 ≤ (0 : Int)) && decide ((0 : Int) ≤ (16 : Int)) && decide ((16 : Int) ≤ (key_0.length : Int)) && true then
 Option.bind (poly1305_clamp N (cut key_0 0 16)) fun y4 =>
 Option.bind (poly1305_number N y4.2.1) fun y5 =>
 poly1305_Sum_1 N key_0 b_1 y5.1.1 (List.replicate 5 (0 : UInt64))
 else none
def poly1305_Sum_C (N : Nat) : Ctx := ⟨114, G_tys, [(79, poly1305_clamp_ctr N), (78, poly1305_number_ctr N), (80, poly1305_limbs_add_ctr N), (81, poly1305_limbs_mul_ctr N), (82, poly1305_limbs_reduced_ctr N)], G_globs, G_ifs⟩
def poly1305_Sum_S0 : Spec := ⟨[.val (.sl .u8), .val (.sl .u8), .ref 0 (.arr 5 .u64), .ref 1 (.arr 5 .u64)], [(.box 106 (.arr 5 .u64), .pos 2), (.box 106 (.arr 5 .u64), .pos 3)]⟩
def poly1305_Sum_S1 : Spec := ⟨[.ref 0 (.arr 5 .u64), .ref 1 (.arr 5 .u64), .val .i64], [(.box 106 (.arr 5 .u64), .pos 0), (.box 106 (.arr 5 .u64), .pos 1)]⟩
def poly1305_Sum_S2 : Spec := ⟨[.ref 0 (.arr 5 .u64), .val .i64], [(.box 106 (.arr 5 .u64), .pos 0)]⟩
def poly1305_Sum_S3 : Spec := ⟨[.ref 0 (.arr 5 .u64), .row 1, .val .i64], [(.box 106 (.arr 5 .u64), .pos 0), (.row 5 .u8, .pos 1)]⟩
def poly1305_Sum_S4 : Spec := ⟨[.row 0], [(.row 5 .u8, .pos 0)]⟩
def poly1305_Sum_S5 : Spec := ⟨[.ref 0 (.arr 5 .u64)], [(.box 106 (.arr 5 .u64), .pos 0)]⟩
def poly1305_Sum_S6 : Spec := ⟨[.val (.sl .u8), .ref 0 (.arr 5 .u64)], [(.box 106 (.arr 5 .u64), .pos 1)]⟩
def poly1305_Sum_S7 : Spec := ⟨[.val (.sl .u8), .val (.sl .u8)], []⟩
def poly1305_Sum_S8 : Spec := ⟨[.row 0, .val .bool], [(.row 5 .u8, .pos 0)]⟩
def poly1305_Sum_K (_N : Nat) : XE → GS → Option poly1305_Sum_R := retK 0 [4, 5] [false, false] poly1305_Sum_S8
def poly1305_Sum_L : List Code := (bodyOf (some Tryd.f73))
def poly1305_Sum_L2 : List Code := (loopOf (poly1305_Sum_L[5]?))
def poly1305_Sum_L5 : List Code := (loopOf (poly1305_Sum_L[9]?))
def poly1305_Sum_L8 : List Code := (loopOf (poly1305_Sum_L[11]?))
def poly1305_Sum_L11 : List Code := (loopOf (poly1305_Sum_L[14]?))
def poly1305_Sum_K2 (N : Nat) : XE → GS → Option (Lo (((List UInt8) × (List UInt8) × Unit) × ((List UInt64) × (List UInt64) × Unit)) (((List UInt8) × Unit) × ((List UInt64) × Unit)) poly1305_Sum_R) := roundK (some 0) (fit 0 [0, 1, 6, 7] poly1305_Sum_S0) (fit 0 [0, 7] poly1305_Sum_S6) (poly1305_Sum_K N)
def poly1305_Sum_K5 (N : Nat) : XE → GS → Option (Lo ((Int × Unit) × ((List UInt64) × (List UInt64) × Unit)) ((Unit) × ((List UInt64) × Unit)) poly1305_Sum_R) := roundK (some 2) (fit 0 [7, 10, 50] poly1305_Sum_S1) (fit 0 [7] poly1305_Sum_S5) (poly1305_Sum_K N)
def poly1305_Sum_K8 (N : Nat) : XE → GS → Option (Lo ((Int × Unit) × ((List UInt64) × Unit)) ((Unit) × ((List UInt64) × Unit)) poly1305_Sum_R) := roundK (some 4) (fit 0 [7, 62] poly1305_Sum_S2) (fit 0 [7] poly1305_Sum_S5) (poly1305_Sum_K N)
def poly1305_Sum_K11 (N : Nat) : XE → GS → Option (Lo ((Int × Unit) × ((List UInt64) × (List UInt8) × Unit)) ((Unit) × ((List UInt8) × Unit)) poly1305_Sum_R) := roundK (some 6) (fit 0 [7, 13, 81] poly1305_Sum_S3) (fit 0 [13] poly1305_Sum_S4) (poly1305_Sum_K N)
theorem poly1305_Sum_s2_b {E : Env} (N : Nat) (hb : Base Tryd.prog (poly1305_Sum_C N) E 0) : Blk Tryd.prog (poly1305_Sum_C N) E [0, 1, 6, 7] poly1305_Sum_S0 (poly1305_Sum_L2.drop 0) (fun y => poly1305_Sum_s2 N y.1.1 y.1.2.1 y.2.1 y.2.2.1) (poly1305_Sum_K2 N) :=
 Blk.chunkAt hb 3 (X := (poly1305_Sum_K2 N .normal)) (NxOk.end (by kernel_rfl)) rfl (fun x => by kernel_rfl)
theorem poly1305_Sum_s5_b {E : Env} (N : Nat) (hb : Base Tryd.prog (poly1305_Sum_C N) E 0) : Blk Tryd.prog (poly1305_Sum_C N) E [7, 10, 50] poly1305_Sum_S1 (poly1305_Sum_L5.drop 0) (fun y => poly1305_Sum_s5 N y.1.1 y.2.1 y.2.2.1) (poly1305_Sum_K5 N) :=
 Blk.chunkAt hb 4 (X := (poly1305_Sum_K5 N .normal)) (NxOk.end (by kernel_rfl)) rfl (fun x => by kernel_rfl)
theorem poly1305_Sum_s8_b {E : Env} (N : Nat) (hb : Base Tryd.prog (poly1305_Sum_C N) E 0) : Blk Tryd.prog (poly1305_Sum_C N) E [7, 62] poly1305_Sum_S2 (poly1305_Sum_L8.drop 0) (fun y => poly1305_Sum_s8 N y.1.1 y.2.1) (poly1305_Sum_K8 N) :=
 Blk.chunkAt hb 4 (X := (poly1305_Sum_K8 N .normal)) (NxOk.end (by kernel_rfl)) rfl (fun x => by kernel_rfl)
theorem poly1305_Sum_s11_b {E : Env} (N : Nat) (hb : Base Tryd.prog (poly1305_Sum_C N) E 0) : Blk Tryd.prog (poly1305_Sum_C N) E [7, 13, 81] poly1305_Sum_S3 (poly1305_Sum_L11.drop 0) (fun y => poly1305_Sum_s11 N y.1.1 y.2.1 y.2.2.1) (poly1305_Sum_K11 N) :=
 Blk.chunkAt hb 4 (X := (poly1305_Sum_K11 N .normal)) (NxOk.end (by kernel_rfl)) rfl (fun x => by kernel_rfl)
theorem poly1305_Sum_12_b {E : Env} (N : Nat) (hb : Base Tryd.prog (poly1305_Sum_C N) E 0) : Blk Tryd.prog (poly1305_Sum_C N) E [13] poly1305_Sum_S4 (poly1305_Sum_L.drop 15) (fun y => poly1305_Sum_12 N y.2.1) (poly1305_Sum_K N) :=
 Blk.chunkAt hb 2 (X := (poly1305_Sum_K N .normal)) (NxOk.end (by kernel_rfl)) rfl (fun x => by kernel_rfl)
theorem poly1305_Sum_10_b {E : Env} (N : Nat) (hb : Base Tryd.prog (poly1305_Sum_C N) E 0) : Blk Tryd.prog (poly1305_Sum_C N) E [7, 13, 81] poly1305_Sum_S3 (poly1305_Sum_L.drop 14) (fun y => poly1305_Sum_10 N y.1.1 y.2.1 y.2.2.1) (poly1305_Sum_K N) :=
 Blk.loopAt (Nf := N) (hns := [7, 13, 81]) (ans := [13]) (hc := poly1305_Sum_S3) (ac := poly1305_Sum_S4) (bid := 6) (step := (fun y => poly1305_Sum_s11 N y.1.1 y.2.1 y.2.2.1)) (J := (fun e => (goK 0 [13] poly1305_Sum_S4 (fun y => poly1305_Sum_12 N y.2.1)) (poly1305_Sum_S4.st [13] e))) hb (by kernel_rfl) (Blk.into (X := (goK 0 [13] poly1305_Sum_S4 (fun y => poly1305_Sum_12 N y.2.1))) (NxOk.go hb (poly1305_Sum_12_b N hb)) (fun x => by kernel_rfl)) (poly1305_Sum_s11_b N hb) (fun x => by kernel_rfl)
theorem poly1305_Sum_9_b {E : Env} (N : Nat) (hb : Base Tryd.prog (poly1305_Sum_C N) E 0) : Blk Tryd.prog (poly1305_Sum_C N) E [7] poly1305_Sum_S5 (poly1305_Sum_L.drop 12) (fun y => poly1305_Sum_9 N y.2.1) (poly1305_Sum_K N) :=
 Blk.chunkAt hb 2 (X := (goK 0 [7, 13, 81] poly1305_Sum_S3 (fun y => poly1305_Sum_10 N y.1.1 y.2.1 y.2.2.1))) (NxOk.go hb (poly1305_Sum_10_b N hb)) rfl (fun x => by kernel_rfl)
theorem poly1305_Sum_7_b {E : Env} (N : Nat) (hb : Base Tryd.prog (poly1305_Sum_C N) E 0) : Blk Tryd.prog (poly1305_Sum_C N) E [7, 62] poly1305_Sum_S2 (poly1305_Sum_L.drop 11) (fun y => poly1305_Sum_7 N y.1.1 y.2.1) (poly1305_Sum_K N) :=
 Blk.loopAt (Nf := N) (hns := [7, 62]) (ans := [7]) (hc := poly1305_Sum_S2) (ac := poly1305_Sum_S5) (bid := 4) (step := (fun y => poly1305_Sum_s8 N y.1.1 y.2.1)) (J := (fun e => (goK 0 [7] poly1305_Sum_S5 (fun y => poly1305_Sum_9 N y.2.1)) (poly1305_Sum_S5.st [7] e))) hb (by kernel_rfl) (Blk.into (X := (goK 0 [7] poly1305_Sum_S5 (fun y => poly1305_Sum_9 N y.2.1))) (NxOk.go hb (poly1305_Sum_9_b N hb)) (fun x => by kernel_rfl)) (poly1305_Sum_s8_b N hb) (fun x => by kernel_rfl)
theorem poly1305_Sum_6_b {E : Env} (N : Nat) (hb : Base Tryd.prog (poly1305_Sum_C N) E 0) : Blk Tryd.prog (poly1305_Sum_C N) E [7] poly1305_Sum_S5 (poly1305_Sum_L.drop 10) (fun y => poly1305_Sum_6 N y.2.1) (poly1305_Sum_K N) :=
 Blk.chunkAt hb 1 (X := (goK 0 [7, 62] poly1305_Sum_S2 (fun y => poly1305_Sum_7 N y.1.1 y.2.1))) (NxOk.go hb (poly1305_Sum_7_b N hb)) rfl (fun x => by kernel_rfl)
theorem poly1305_Sum_4_b {E : Env} (N : Nat) (hb : Base Tryd.prog (poly1305_Sum_C N) E 0) : Blk Tryd.prog (poly1305_Sum_C N) E [7, 10, 50] poly1305_Sum_S1 (poly1305_Sum_L.drop 9) (fun y => poly1305_Sum_4 N y.1.1 y.2.1 y.2.2.1) (poly1305_Sum_K N) :=
 Blk.loopAt (Nf := N) (hns := [7, 10, 50]) (ans := [7]) (hc := poly1305_Sum_S1) (ac := poly1305_Sum_S5) (bid := 2) (step := (fun y => poly1305_Sum_s5 N y.1.1 y.2.1 y.2.2.1)) (J := (fun e => (goK 0 [7] poly1305_Sum_S5 (fun y => poly1305_Sum_6 N y.2.1)) (poly1305_Sum_S5.st [7] e))) hb (by kernel_rfl) (Blk.into (X := (goK 0 [7] poly1305_Sum_S5 (fun y => poly1305_Sum_6 N y.2.1))) (NxOk.go hb (poly1305_Sum_6_b N hb)) (fun x => by kernel_rfl)) (poly1305_Sum_s5_b N hb) (fun x => by kernel_rfl)
theorem poly1305_Sum_3_b {E : Env} (N : Nat) (hb : Base Tryd.prog (poly1305_Sum_C N) E 0) : Blk Tryd.prog (poly1305_Sum_C N) E [0, 7] poly1305_Sum_S6 (poly1305_Sum_L.drop 6) (fun y => poly1305_Sum_3 N y.1.1 y.2.1) (poly1305_Sum_K N) :=
 Blk.chunkAt hb 3 (X := (goK 0 [7, 10, 50] poly1305_Sum_S1 (fun y => poly1305_Sum_4 N y.1.1 y.2.1 y.2.2.1))) (NxOk.go hb (poly1305_Sum_4_b N hb)) rfl (fun x => by kernel_rfl)
theorem poly1305_Sum_1_b {E : Env} (N : Nat) (hb : Base Tryd.prog (poly1305_Sum_C N) E 0) : Blk Tryd.prog (poly1305_Sum_C N) E [0, 1, 6, 7] poly1305_Sum_S0 (poly1305_Sum_L.drop 5) (fun y => poly1305_Sum_1 N y.1.1 y.1.2.1 y.2.1 y.2.2.1) (poly1305_Sum_K N) :=
 Blk.loopAt (Nf := N) (hns := [0, 1, 6, 7]) (ans := [0, 7]) (hc := poly1305_Sum_S0) (ac := poly1305_Sum_S6) (bid := 0) (step := (fun y => poly1305_Sum_s2 N y.1.1 y.1.2.1 y.2.1 y.2.2.1)) (J := (fun e => (goK 0 [0, 7] poly1305_Sum_S6 (fun y => poly1305_Sum_3 N y.1.1 y.2.1)) (poly1305_Sum_S6.st [0, 7] e))) hb (by kernel_rfl) (Blk.into (X := (goK 0 [0, 7] poly1305_Sum_S6 (fun y => poly1305_Sum_3 N y.1.1 y.2.1))) (NxOk.go hb (poly1305_Sum_3_b N hb)) (fun x => by kernel_rfl)) (poly1305_Sum_s2_b N hb) (fun x => by kernel_rfl)
theorem poly1305_Sum_b {E : Env} (N : Nat) (hb : Base Tryd.prog (poly1305_Sum_C N) E 0) : Blk Tryd.prog (poly1305_Sum_C N) E (List.range poly1305_Sum_S7.ks.length) poly1305_Sum_S7 (poly1305_Sum_L.drop 0) (fun y => poly1305_Sum N y.1.1 y.1.2.1) (poly1305_Sum_K N) :=
 Blk.chunkAt hb 5 (X := (goK 0 [0, 1, 6, 7] poly1305_Sum_S0 (fun y => poly1305_Sum_1 N y.1.1 y.1.2.1 y.2.1 y.2.2.1))) (NxOk.go hb (poly1305_Sum_1_b N hb)) rfl (fun x => by kernel_rfl)
def poly1305_Sum_ctr (N : Nat) : Ctr := ⟨poly1305_Sum_S7, poly1305_Sum_S8.un [false, false], 0, (fun y => poly1305_Sum N y.1.1 y.1.2.1)⟩
theorem poly1305_Sum_ctrs (N : Nat) : CtrsOk Tryd.prog (poly1305_Sum_C N) := ctrs_of (Γ := poly1305_Sum_C N) G_ifs_ok (by
 intro p hp
 simp only [poly1305_Sum_C, List.mem_cons, List.not_mem_nil, or_false] at hp
 rcases hp with rfl | rfl | rfl | rfl | rfl
 · exact poly1305_clamp_ok N
 · exact poly1305_number_ok N
 · exact poly1305_limbs_add_ok N
 · exact poly1305_limbs_mul_ok N
 · exact poly1305_limbs_reduced_ok N)
theorem poly1305_Sum_ok (N : Nat) : Ctr.ok Tryd.prog G_globs 73 (poly1305_Sum_ctr N) :=
 ctr_fn (Γ := poly1305_Sum_C N) (rfit := poly1305_Sum_S8) (bs := [false, false]) (res := [4, 5]) (by kernel_rfl) (tys_ok G_tys_ok) (poly1305_Sum_ctrs N) Tryd.func73 (by kernel_rfl) (by kernel_rfl) Tryd.ntmps73 (by kernel_rfl) (by kernel_rfl) (by kernel_rfl) (by kernel_rfl) (fun E hb => poly1305_Sum_b N hb)
/-! ipsecgate/aead.Tag -/
abbrev aead_Tag_R : Type := ((Bool × Unit) × ((List UInt8) × Unit))
def aead_Tag (N : Nat) (key_0 : (List UInt8)) (nonce_1 : (List UInt8)) (data_2 : (List UInt8)) (cipher_3 : (List UInt8)) : Option aead_Tag_R :=
 Option.bind (aead_keyed N key_0 nonce_1) fun y1 =>
 bif (!y1.1.1) then
 some ((false, ()), (([] : List UInt8), ()))
 else
 Option.bind (chacha_Block N key_0 (0 : UInt32) nonce_1) fun y3 =>
 Option.bind (aead_padded N data_2 ([] : List UInt8)) fun y4 =>
 Option.bind (aead_padded N cipher_3 y4.2.1) fun y5 =>
 bif decide (0 ≤ (0 : Int)) && decide ((0 : Int) ≤ (32 : Int)) && decide ((32 : Int) ≤ (y3.2.1.length : Int)) && true then
 Option.bind (aead_length N (data_2.length : Int) y5.2.1) fun y8 =>
 Option.bind (aead_length N (cipher_3.length : Int) y8.2.1) fun y10 =>
 Option.bind (poly1305_Sum N (cut y3.2.1 0 32) y10.2.1) fun y11 =>
 some ((y11.1.1, ()), (y11.2.1, ()))
 else none
def aead_Tag_C (N : Nat) : Ctx := ⟨39, G_tys, [(65, aead_keyed_ctr N), (71, chacha_Block_ctr N), (72, aead_padded_ctr N), (74, aead_length_ctr N), (73, poly1305_Sum_ctr N)], G_globs, G_ifs⟩
def aead_Tag_S0 : Spec := ⟨[.val (.sl .u8), .val (.sl .u8), .val (.sl .u8), .val (.sl .u8)], []⟩
def aead_Tag_S1 : Spec := ⟨[.row 0, .val .bool], [(.row 5 .u8, .pos 0)]⟩
def aead_Tag_K (_N : Nat) : XE → GS → Option aead_Tag_R := retK 0 [8, 9] [false, false] aead_Tag_S1
def aead_Tag_L : List Code := (bodyOf (some Tryd.f67))
theorem aead_Tag_b {E : Env} (N : Nat) (hb : Base Tryd.prog (aead_Tag_C N) E 0) : Blk Tryd.prog (aead_Tag_C N) E (List.range aead_Tag_S0.ks.length) aead_Tag_S0 (aead_Tag_L.drop 0) (fun y => aead_Tag N y.1.1 y.1.2.1 y.1.2.2.1 y.1.2.2.2.1) (aead_Tag_K N) :=
 Blk.chunkAt hb 7 (X := (aead_Tag_K N .normal)) (NxOk.end (by kernel_rfl)) rfl (fun x => by kernel_rfl)
def aead_Tag_ctr (N : Nat) : Ctr := ⟨aead_Tag_S0, aead_Tag_S1.un [false, false], 0, (fun y => aead_Tag N y.1.1 y.1.2.1 y.1.2.2.1 y.1.2.2.2.1)⟩
theorem aead_Tag_ctrs (N : Nat) : CtrsOk Tryd.prog (aead_Tag_C N) := ctrs_of (Γ := aead_Tag_C N) G_ifs_ok (by
 intro p hp
 simp only [aead_Tag_C, List.mem_cons, List.not_mem_nil, or_false] at hp
 rcases hp with rfl | rfl | rfl | rfl | rfl
 · exact aead_keyed_ok N
 · exact chacha_Block_ok N
 · exact aead_padded_ok N
 · exact aead_length_ok N
 · exact poly1305_Sum_ok N)
theorem aead_Tag_ok (N : Nat) : Ctr.ok Tryd.prog G_globs 67 (aead_Tag_ctr N) :=
 ctr_fn (Γ := aead_Tag_C N) (rfit := aead_Tag_S1) (bs := [false, false]) (res := [8, 9]) (by kernel_rfl) (tys_ok G_tys_ok) (aead_Tag_ctrs N) Tryd.func67 (by kernel_rfl) (by kernel_rfl) Tryd.ntmps67 (by kernel_rfl) (by kernel_rfl) (by kernel_rfl) (by kernel_rfl) (fun E hb => aead_Tag_b N hb)
/-! ipsecgate/aead.Seal -/
abbrev aead_Seal_R : Type := ((Int × Unit) × ((List UInt8) × Unit))
def aead_Seal (N : Nat) (key_0 : (List UInt8)) (nonce_1 : (List UInt8)) (data_2 : (List UInt8)) (plain_3 : (List UInt8)) : Option aead_Seal_R :=
 Option.bind (aead_keyed N key_0 nonce_1) fun y1 =>
 bif (!y1.1.1) then
 some (((13 : Int), ()), (([] : List UInt8), ()))
 else
 Option.bind (chacha_Xor N key_0 (1 : UInt32) nonce_1 plain_3) fun y3 =>
 Option.bind (aead_Tag N key_0 nonce_1 data_2 y3.2.1) fun y4 =>
 bif room (y3.2.1.length + y4.2.1.length) 1 then
 some (((0 : Int), ()), ((y3.2.1 ++ y4.2.1), ()))
 else none
def aead_Seal_C (N : Nat) : Ctx := ⟨36, G_tys, [(65, aead_keyed_ctr N), (66, chacha_Xor_ctr N), (67, aead_Tag_ctr N)], G_globs, G_ifs⟩
def aead_Seal_S0 : Spec := ⟨[.val (.sl .u8), .val (.sl .u8), .val (.sl .u8), .val (.sl .u8)], []⟩
def aead_Seal_S1 : Spec := ⟨[.row 0, .val .i64], [(.row 5 .u8, .pos 0)]⟩
def aead_Seal_K (_N : Nat) : XE → GS → Option aead_Seal_R := retK 0 [8, 9] [false, false] aead_Seal_S1
def aead_Seal_L : List Code := (bodyOf (some Tryd.f58))
theorem aead_Seal_b {E : Env} (N : Nat) (hb : Base Tryd.prog (aead_Seal_C N) E 0) : Blk Tryd.prog (aead_Seal_C N) E (List.range aead_Seal_S0.ks.length) aead_Seal_S0 (aead_Seal_L.drop 0) (fun y => aead_Seal N y.1.1 y.1.2.1 y.1.2.2.1 y.1.2.2.2.1) (aead_Seal_K N) :=
 Blk.chunkAt hb 7 (X := (aead_Seal_K N .normal)) (NxOk.end (by kernel_rfl)) rfl (fun x => by kernel_rfl)
def aead_Seal_ctr (N : Nat) : Ctr := ⟨aead_Seal_S0, aead_Seal_S1.un [false, false], 0, (fun y => aead_Seal N y.1.1 y.1.2.1 y.1.2.2.1 y.1.2.2.2.1)⟩
theorem aead_Seal_ctrs (N : Nat) : CtrsOk Tryd.prog (aead_Seal_C N) := ctrs_of (Γ := aead_Seal_C N) G_ifs_ok (by
 intro p hp
 simp only [aead_Seal_C, List.mem_cons, List.not_mem_nil, or_false] at hp
 rcases hp with rfl | rfl | rfl
 · exact aead_keyed_ok N
 · exact chacha_Xor_ok N
 · exact aead_Tag_ok N)
theorem aead_Seal_ok (N : Nat) : Ctr.ok Tryd.prog G_globs 58 (aead_Seal_ctr N) :=
 ctr_fn (Γ := aead_Seal_C N) (rfit := aead_Seal_S1) (bs := [false, false]) (res := [8, 9]) (by kernel_rfl) (tys_ok G_tys_ok) (aead_Seal_ctrs N) Tryd.func58 (by kernel_rfl) (by kernel_rfl) Tryd.ntmps58 (by kernel_rfl) (by kernel_rfl) (by kernel_rfl) (by kernel_rfl) (fun E hb => aead_Seal_b N hb)
/-! ipsecgate/concrete.title -/
abbrev concrete_title_R : Type := (((List UInt8) × Unit) × (Unit))
def concrete_title (N : Nat) (key_0 : (List UInt8)) : Option concrete_title_R :=
 Option.bind (prf_Hmac N key_0 ([(1 : UInt8)] : List UInt8)) fun y1 =>
 bif decide (0 ≤ (0 : Int)) && decide ((0 : Int) ≤ (8 : Int)) && decide ((8 : Int) ≤ (y1.2.1.length : Int)) && true then
 some (((cut y1.2.1 0 8), ()), (()))
 else none
def concrete_title_C (N : Nat) : Ctx := ⟨7, G_tys, [(57, prf_Hmac_ctr N)], G_globs, G_ifs⟩
def concrete_title_S0 : Spec := ⟨[.val (.sl .u8)], []⟩
def concrete_title_K (_N : Nat) : XE → GS → Option concrete_title_R := retK 0 [2] [false] concrete_title_S0
def concrete_title_L : List Code := (bodyOf (some Tryd.f59))
theorem concrete_title_b {E : Env} (N : Nat) (hb : Base Tryd.prog (concrete_title_C N) E 0) : Blk Tryd.prog (concrete_title_C N) E (List.range concrete_title_S0.ks.length) concrete_title_S0 (concrete_title_L.drop 0) (fun y => concrete_title N y.1.1) (concrete_title_K N) :=
 Blk.chunkAt hb 3 (X := (concrete_title_K N .normal)) (NxOk.end (by kernel_rfl)) rfl (fun x => by kernel_rfl)
def concrete_title_ctr (N : Nat) : Ctr := ⟨concrete_title_S0, concrete_title_S0.un [false], 0, (fun y => concrete_title N y.1.1)⟩
theorem concrete_title_ctrs (N : Nat) : CtrsOk Tryd.prog (concrete_title_C N) := ctrs_of (Γ := concrete_title_C N) G_ifs_ok (by
 intro p hp
 simp only [concrete_title_C, List.mem_cons, List.not_mem_nil, or_false] at hp
 rcases hp with rfl
 · exact prf_Hmac_ok N)
theorem concrete_title_ok (N : Nat) : Ctr.ok Tryd.prog G_globs 59 (concrete_title_ctr N) :=
 ctr_fn (Γ := concrete_title_C N) (rfit := concrete_title_S0) (bs := [false]) (res := [2]) (by kernel_rfl) (tys_ok G_tys_ok) (concrete_title_ctrs N) Tryd.func59 (by kernel_rfl) (by kernel_rfl) Tryd.ntmps59 (by kernel_rfl) (by kernel_rfl) (by kernel_rfl) (by kernel_rfl) (fun E hb => concrete_title_b N hb)
/-! ipsecgate/concrete.writeSeal -/
abbrev concrete_writeSeal_R : Type := ((Unit) × ((List UInt8) × Unit))
def concrete_writeSeal_1 (N : Nat) (rc : D28 → Option ((Unit) × ((List UInt8) × Unit))) (once_7 : (List UInt8)) (b_0 : (List UInt8)) (key_5 : (List UInt8)) (sealed_8 : (List UInt8)) : Option concrete_writeSeal_R :=
 Option.bind (concrete_title N key_5) fun y11 =>
 bif room (b_0.length + y11.1.1.length) 1 then
 bif room ((b_0 ++ y11.1.1).length + once_7.length) 1 then
 bif room (((b_0 ++ y11.1.1) ++ once_7).length + sealed_8.length) 1 then
 some ((()), ((((b_0 ++ y11.1.1) ++ once_7) ++ sealed_8), ()))
 else none
 else none
 else none
def concrete_writeSeal (N : Nat) (rc : D28 → Option ((Unit) × ((List UInt8) × Unit))) (t_1 : D28) (b_0 : (List UInt8)) : Option concrete_writeSeal_R :=
 let x1 := List.map Tree.un t_1.2.2.1
 bif inR (0 : Int) x1.length then
 Option.bind (concrete_must N (x1.getD 0 ((0 : Int), (0 : Int), ([] : List Tree), ()))) fun y3 =>
 let x4 := List.map Tree.un t_1.2.2.1
 bif inR (1 : Int) x4.length then
 Option.bind (rc (x4.getD 1 ((0 : Int), (0 : Int), ([] : List Tree), ()))) fun y6 =>
 Option.bind (prf_Hmac N y3.2.1 y6.2.1) fun y7 =>
 bif decide (0 ≤ (0 : Int)) && decide ((0 : Int) ≤ (12 : Int)) && decide ((12 : Int) ≤ (y7.2.1.length : Int)) && true then
 let x8 := cut y7.2.1 0 12
 Option.bind (aead_Seal N y3.2.1 x8 ([] : List UInt8) y6.2.1) fun y9 =>
 bif (!(decide (y9.1.1 = (0 : Int)))) then
 none
 else
 concrete_writeSeal_1 N rc x8 b_0 y3.2.1 y9.2.1
 else none
 else none
 else none
def concrete_writeSeal_S0 : Spec := ⟨[.row 0, .row 1, .val (.sl .u8), .row 2], [(.row 5 .u8, .pos 0), (.row 5 .u8, .pos 1), (.row 5 .u8, .pos 3)]⟩
def concrete_writeSeal_S1 : Spec := ⟨[.row 0, .val T28], [(.row 5 .u8, .pos 0)]⟩
def concrete_writeSeal_S2 : Spec := ⟨[.row 0], [(.row 5 .u8, .pos 0)]⟩
def concrete_writeSeal_S3 : Spec := ⟨[.val T28], []⟩
def concrete_writeSeal_ftr (N : Nat) (rc : D28 → Option ((Unit) × ((List UInt8) × Unit))) : Ctr := ⟨concrete_writeSeal_S3, concrete_writeSeal_S2.un [false], 0, (fun y => rc y.1.1)⟩
def concrete_writeSeal_C (N : Nat) (rc : D28 → Option ((Unit) × ((List UInt8) × Unit))) : Ctx := ⟨43, G_tys, [(47, concrete_must_ctr N), (57, prf_Hmac_ctr N), (58, aead_Seal_ctr N), (59, concrete_title_ctr N), (29, concrete_writeSeal_ftr N rc)], G_globs, G_ifs⟩
def concrete_writeSeal_K (_N : Nat) (_rc : D28 → Option ((Unit) × ((List UInt8) × Unit))) : XE → GS → Option concrete_writeSeal_R := retK 0 [4] [false] concrete_writeSeal_S2
def concrete_writeSeal_L : List Code := (bodyOf (some Tryd.f51))
theorem concrete_writeSeal_1_b {E : Env} (N : Nat) (rc : D28 → Option ((Unit) × ((List UInt8) × Unit))) (hb : Base Tryd.prog (concrete_writeSeal_C N rc) E 0) : Blk Tryd.prog (concrete_writeSeal_C N rc) E [0, 5, 7, 8] concrete_writeSeal_S0 (concrete_writeSeal_L.drop 6) (fun y => concrete_writeSeal_1 N rc y.1.1 y.2.1 y.2.2.1 y.2.2.2.1) (concrete_writeSeal_K N rc) :=
 Blk.chunkAt hb 2 (X := (concrete_writeSeal_K N rc .normal)) (NxOk.end (by kernel_rfl)) rfl (fun x => by kernel_rfl)
theorem concrete_writeSeal_b {E : Env} (N : Nat) (rc : D28 → Option ((Unit) × ((List UInt8) × Unit))) (hb : Base Tryd.prog (concrete_writeSeal_C N rc) E 0) : Blk Tryd.prog (concrete_writeSeal_C N rc) E (List.range concrete_writeSeal_S1.ks.length) concrete_writeSeal_S1 (concrete_writeSeal_L.drop 0) (fun y => concrete_writeSeal N rc y.1.1 y.2.1) (concrete_writeSeal_K N rc) :=
 Blk.chunkAt hb 6 (X := (goK 0 [0, 5, 7, 8] concrete_writeSeal_S0 (fun y => concrete_writeSeal_1 N rc y.1.1 y.2.1 y.2.2.1 y.2.2.2.1))) (NxOk.go hb (concrete_writeSeal_1_b N rc hb)) rfl (fun x => by kernel_rfl)
def concrete_writeSeal_octr (N : Nat) (rc : D28 → Option ((Unit) × ((List UInt8) × Unit))) : Ctr := ⟨concrete_writeSeal_S1, concrete_writeSeal_S2.un [false], 0, (fun y => concrete_writeSeal N rc y.1.1 y.2.1)⟩
theorem concrete_writeSeal_ctrs (N : Nat) (rc : D28 → Option ((Unit) × ((List UInt8) × Unit))) (hf : Ctr.ok Tryd.prog G_globs 29 (concrete_writeSeal_ftr N rc)) : CtrsOk Tryd.prog (concrete_writeSeal_C N rc) := ctrs_of (Γ := concrete_writeSeal_C N rc) G_ifs_ok (by
 intro p hp
 simp only [concrete_writeSeal_C, List.mem_cons, List.not_mem_nil, or_false] at hp
 rcases hp with rfl | rfl | rfl | rfl | rfl
 · exact concrete_must_ok N
 · exact prf_Hmac_ok N
 · exact aead_Seal_ok N
 · exact concrete_title_ok N
 · exact hf)
theorem concrete_writeSeal_ook (N : Nat) (rc : D28 → Option ((Unit) × ((List UInt8) × Unit))) (hf : Ctr.ok Tryd.prog G_globs 29 (concrete_writeSeal_ftr N rc))  : Ctr.ok Tryd.prog G_globs 51 (concrete_writeSeal_octr N rc) :=
 ctr_fn (Γ := concrete_writeSeal_C N rc) (rfit := concrete_writeSeal_S2) (bs := [false]) (res := [4]) (by kernel_rfl) (tys_ok G_tys_ok) (concrete_writeSeal_ctrs N rc hf) Tryd.func51 (by kernel_rfl) (by kernel_rfl) Tryd.ntmps51 (by kernel_rfl) (by kernel_rfl) (by kernel_rfl) (by kernel_rfl) (fun E hb => concrete_writeSeal_b N rc hb)
/-! ipsecgate/concrete.signed -/
abbrev concrete_signed_R : Type := ((Int × Unit) × ((List UInt8) × Unit))
def concrete_signed (N : Nat) (identity_0 : Int) (body_1 : (List UInt8)) : Option concrete_signed_R :=
 Option.bind (concrete_Secret N ((9 : Int), identity_0, ([] : List Tree), ())) fun y1 =>
 bif (!(decide (y1.1.1 = (0 : Int)))) then
 some ((y1.1.1, ()), (([] : List UInt8), ()))
 else
 Option.bind (prf_Hmac N y1.2.1 body_1) fun y3 =>
 some (((0 : Int), ()), (y3.2.1, ()))
def concrete_signed_C (N : Nat) : Ctx := ⟨20, G_tys, [(10, concrete_Secret_ctr N), (57, prf_Hmac_ctr N)], G_globs, G_ifs⟩
def concrete_signed_S0 : Spec := ⟨[.val .i64, .val (.sl .u8)], []⟩
def concrete_signed_S1 : Spec := ⟨[.row 0, .val .i64], [(.row 5 .u8, .pos 0)]⟩
def concrete_signed_K (_N : Nat) : XE → GS → Option concrete_signed_R := retK 0 [4, 5] [false, false] concrete_signed_S1
def concrete_signed_L : List Code := (bodyOf (some Tryd.f60))
theorem concrete_signed_b {E : Env} (N : Nat) (hb : Base Tryd.prog (concrete_signed_C N) E 0) : Blk Tryd.prog (concrete_signed_C N) E (List.range concrete_signed_S0.ks.length) concrete_signed_S0 (concrete_signed_L.drop 0) (fun y => concrete_signed N y.1.1 y.1.2.1) (concrete_signed_K N) :=
 Blk.chunkAt hb 6 (X := (concrete_signed_K N .normal)) (NxOk.end (by kernel_rfl)) rfl (fun x => by kernel_rfl)
def concrete_signed_ctr (N : Nat) : Ctr := ⟨concrete_signed_S0, concrete_signed_S1.un [false, false], 0, (fun y => concrete_signed N y.1.1 y.1.2.1)⟩
theorem concrete_signed_ctrs (N : Nat) : CtrsOk Tryd.prog (concrete_signed_C N) := ctrs_of (Γ := concrete_signed_C N) G_ifs_ok (by
 intro p hp
 simp only [concrete_signed_C, List.mem_cons, List.not_mem_nil, or_false] at hp
 rcases hp with rfl | rfl
 · exact concrete_Secret_ok N
 · exact prf_Hmac_ok N)
theorem concrete_signed_ok (N : Nat) : Ctr.ok Tryd.prog G_globs 60 (concrete_signed_ctr N) :=
 ctr_fn (Γ := concrete_signed_C N) (rfit := concrete_signed_S1) (bs := [false, false]) (res := [4, 5]) (by kernel_rfl) (tys_ok G_tys_ok) (concrete_signed_ctrs N) Tryd.func60 (by kernel_rfl) (by kernel_rfl) Tryd.ntmps60 (by kernel_rfl) (by kernel_rfl) (by kernel_rfl) (by kernel_rfl) (fun E hb => concrete_signed_b N hb)
/-! ipsecgate/concrete.writeSign -/
abbrev concrete_writeSign_R : Type := ((Unit) × ((List UInt8) × Unit))
def concrete_writeSign_1 (N : Nat) (rc : D28 → Option ((Unit) × ((List UInt8) × Unit))) (b_0 : (List UInt8)) (t_3 : D28) (body_5 : (List UInt8)) (proof_6 : (List UInt8)) : Option concrete_writeSign_R :=
 Option.bind (wire_Put N (iu64 t_3.2.1) (8 : Int) b_0) fun y7 =>
 Option.bind (wire_Put N (iu64 (body_5.length : Int)) (2 : Int) y7.2.1) fun y10 =>
 bif room (y10.2.1.length + body_5.length) 1 then
 let x11 := y10.2.1 ++ body_5
 bif room (x11.length + proof_6.length) 1 then
 some ((()), ((x11 ++ proof_6), ()))
 else none
 else none
def concrete_writeSign (N : Nat) (rc : D28 → Option ((Unit) × ((List UInt8) × Unit))) (t_1 : D28) (b_0 : (List UInt8)) : Option concrete_writeSign_R :=
 let x1 := List.map Tree.un t_1.2.2.1
 bif inR (0 : Int) x1.length then
 Option.bind (rc (x1.getD 0 ((0 : Int), (0 : Int), ([] : List Tree), ()))) fun y3 =>
 Option.bind (concrete_signed N t_1.2.1 y3.2.1) fun y4 =>
 bif (!(decide (y4.1.1 = (0 : Int)))) then
 none
 else
 concrete_writeSign_1 N rc b_0 t_1 y3.2.1 y4.2.1
 else none
def concrete_writeSign_S0 : Spec := ⟨[.row 0, .ref 1 T28, .row 2, .row 3], [(.row 5 .u8, .pos 0), (.box 28 T28, .pos 1), (.row 5 .u8, .pos 2), (.row 5 .u8, .pos 3)]⟩
def concrete_writeSign_S1 : Spec := ⟨[.row 0, .val T28], [(.row 5 .u8, .pos 0)]⟩
def concrete_writeSign_S2 : Spec := ⟨[.row 0], [(.row 5 .u8, .pos 0)]⟩
def concrete_writeSign_S3 : Spec := ⟨[.val T28], []⟩
def concrete_writeSign_ftr (N : Nat) (rc : D28 → Option ((Unit) × ((List UInt8) × Unit))) : Ctr := ⟨concrete_writeSign_S3, concrete_writeSign_S2.un [false], 0, (fun y => rc y.1.1)⟩
def concrete_writeSign_C (N : Nat) (rc : D28 → Option ((Unit) × ((List UInt8) × Unit))) : Ctx := ⟨38, G_tys, [(60, concrete_signed_ctr N), (34, wire_Put_ctr N), (29, concrete_writeSign_ftr N rc)], G_globs, G_ifs⟩
def concrete_writeSign_K (_N : Nat) (_rc : D28 → Option ((Unit) × ((List UInt8) × Unit))) : XE → GS → Option concrete_writeSign_R := retK 0 [4] [false] concrete_writeSign_S2
def concrete_writeSign_L : List Code := (bodyOf (some Tryd.f52))
theorem concrete_writeSign_1_b {E : Env} (N : Nat) (rc : D28 → Option ((Unit) × ((List UInt8) × Unit))) (hb : Base Tryd.prog (concrete_writeSign_C N rc) E 0) : Blk Tryd.prog (concrete_writeSign_C N rc) E [0, 3, 5, 6] concrete_writeSign_S0 (concrete_writeSign_L.drop 5) (fun y => concrete_writeSign_1 N rc y.2.1 y.2.2.1 y.2.2.2.1 y.2.2.2.2.1) (concrete_writeSign_K N rc) :=
 Blk.chunkAt hb 3 (X := (concrete_writeSign_K N rc .normal)) (NxOk.end (by kernel_rfl)) rfl (fun x => by kernel_rfl)
theorem concrete_writeSign_b {E : Env} (N : Nat) (rc : D28 → Option ((Unit) × ((List UInt8) × Unit))) (hb : Base Tryd.prog (concrete_writeSign_C N rc) E 0) : Blk Tryd.prog (concrete_writeSign_C N rc) E (List.range concrete_writeSign_S1.ks.length) concrete_writeSign_S1 (concrete_writeSign_L.drop 0) (fun y => concrete_writeSign N rc y.1.1 y.2.1) (concrete_writeSign_K N rc) :=
 Blk.chunkAt hb 5 (X := (goK 0 [0, 3, 5, 6] concrete_writeSign_S0 (fun y => concrete_writeSign_1 N rc y.2.1 y.2.2.1 y.2.2.2.1 y.2.2.2.2.1))) (NxOk.go hb (concrete_writeSign_1_b N rc hb)) rfl (fun x => by kernel_rfl)
def concrete_writeSign_octr (N : Nat) (rc : D28 → Option ((Unit) × ((List UInt8) × Unit))) : Ctr := ⟨concrete_writeSign_S1, concrete_writeSign_S2.un [false], 0, (fun y => concrete_writeSign N rc y.1.1 y.2.1)⟩
theorem concrete_writeSign_ctrs (N : Nat) (rc : D28 → Option ((Unit) × ((List UInt8) × Unit))) (hf : Ctr.ok Tryd.prog G_globs 29 (concrete_writeSign_ftr N rc)) : CtrsOk Tryd.prog (concrete_writeSign_C N rc) := ctrs_of (Γ := concrete_writeSign_C N rc) G_ifs_ok (by
 intro p hp
 simp only [concrete_writeSign_C, List.mem_cons, List.not_mem_nil, or_false] at hp
 rcases hp with rfl | rfl | rfl
 · exact concrete_signed_ok N
 · exact wire_Put_ok N
 · exact hf)
theorem concrete_writeSign_ook (N : Nat) (rc : D28 → Option ((Unit) × ((List UInt8) × Unit))) (hf : Ctr.ok Tryd.prog G_globs 29 (concrete_writeSign_ftr N rc))  : Ctr.ok Tryd.prog G_globs 52 (concrete_writeSign_octr N rc) :=
 ctr_fn (Γ := concrete_writeSign_C N rc) (rfit := concrete_writeSign_S2) (bs := [false]) (res := [4]) (by kernel_rfl) (tys_ok G_tys_ok) (concrete_writeSign_ctrs N rc hf) Tryd.func52 (by kernel_rfl) (by kernel_rfl) Tryd.ntmps52 (by kernel_rfl) (by kernel_rfl) (by kernel_rfl) (by kernel_rfl) (fun E hb => concrete_writeSign_b N rc hb)
end
end Go.Proofs.YtajpblfinenmjaaDoor