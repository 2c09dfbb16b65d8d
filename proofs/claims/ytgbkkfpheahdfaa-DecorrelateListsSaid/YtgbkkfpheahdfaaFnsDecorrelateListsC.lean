/- Functions of the program as plain functions, each with the proof that the text computes it. -/
import Derived.Test.YtgbkkfpheahdfaaFnsDecorrelateListsA
import Derived.Test.YtgbkkfpheahdfaaFnsDecorrelateListsB
set_option linter.unusedVariables false
set_option linter.unusedSimpArgs false
namespace Go.Proofs.Ytgbkkfpheahdfaa
open Go
set_option maxRecDepth 100000
set_option linter.unusedVariables false
noncomputable section
/-! ipsecgate/ipsecgateref20.Corners -/
abbrev ref20_Corners_R : Type := ((Unit) × ((List D29) × Unit))
def ref20_Corners_s12 (N : Nat) (l_0 : (List D59)) (most_1 : Int) (i_6 : Int) (j_7 : Int) (n_14 : Int) (out_5 : (List D29)) (v_9 : (List D27)) (w_10 : (List D27)) (x_11 : (List D27)) (y_12 : (List D27)) (z_13 : (List D27)) : Option (Lo (((List D59) × Int × Int × Int × Int × Unit) × ((List D29) × (List D27) × (List D27) × (List D27) × (List D27) × (List D27) × Unit)) (((List D59) × Int × Int × Int × Unit) × ((List D29) × Unit)) (Lo (((List D59) × Int × Int × Int × Unit) × ((List D29) × Unit)) (((List D59) × Int × Int × Unit) × ((List D29) × Unit)) (Lo (((List D59) × Int × Int × Unit) × ((List D29) × Unit)) ((Unit) × ((List D29) × Unit)) ref20_Corners_R))) :=
 bif (decide (n_14 < (w64 ((w64 ((w64 ((w64 ((v_9.length : Int) * (w_10.length : Int))) * (x_11.length : Int))) * (y_12.length : Int))) * (z_13.length : Int))))) then
 bif (decide (most_1 ≤ (out_5.length : Int))) then
 some (.rt (.rt (.rt ((()), (out_5, ())))))
 else
 let x25 := (z_13.length : Int)
 bif !(decide (x25 = 0)) then
 bif inR (n_14.tmod x25) z_13.length then
 let x28 := (z_13.length : Int)
 bif !(decide (x28 = 0)) then
 let x29 := w64 (n_14.tdiv x28)
 let x30 := (y_12.length : Int)
 bif !(decide (x30 = 0)) then
 bif inR (x29.tmod x30) y_12.length then
 let x33 := (y_12.length : Int)
 bif !(decide (x33 = 0)) then
 let x34 := w64 (x29.tdiv x33)
 let x35 := (x_11.length : Int)
 bif !(decide (x35 = 0)) then
 bif inR (x34.tmod x35) x_11.length then
 let x38 := (x_11.length : Int)
 bif !(decide (x38 = 0)) then
 let x39 := w64 (x34.tdiv x38)
 let x40 := (w_10.length : Int)
 bif !(decide (x40 = 0)) then
 let x41 := w64 (x39.tdiv x40)
 bif inR x41 v_9.length then
 let x42 := (v_9.getD x41.toNat ((0 : Int), (0 : UInt64), (0 : UInt64), ()))
 let x43 := (w_10.length : Int)
 bif !(decide (x43 = 0)) then
 bif inR (x39.tmod x43) w_10.length then
 let x45 := (w_10.getD (x39.tmod x43).toNat ((0 : Int), (0 : UInt64), (0 : UInt64), ()))
 let x47 := w64 ((w64 ((x_11.getD (x34.tmod x35).toNat ((0 : Int), (0 : UInt64), (0 : UInt64), ())).2.2.1.toNat : Int)) - (1 : Int))
 let x49 := w64 ((w64 ((y_12.getD (x29.tmod x30).toNat ((0 : Int), (0 : UInt64), (0 : UInt64), ())).2.2.1.toNat : Int)) - (1 : Int))
 let x51 := w64 ((w64 ((z_13.getD (n_14.tmod x25).toNat ((0 : Int), (0 : UInt64), (0 : UInt64), ())).2.2.1.toNat : Int)) - (1 : Int))
 bif room (out_5.length + ([(x42, x45, x47, x49, x51, ())] : List D29).length) 72 then
 some (.go ((l_0, most_1, i_6, j_7, (w64 (n_14 + (1 : Int))), ()), ((out_5 ++ ([(x42, x45, x47, x49, x51, ())] : List D29)), v_9, w_10, x_11, y_12, z_13, ())))
 else none
 else none
 else none
 else none
 else none
 else none
 else none
 else none
 else none
 else none
 else none
 else none
 else none
 else none
 else
 some (.br ((l_0, most_1, i_6, j_7, ()), (out_5, ())))
def ref20_Corners_13 (N : Nat) (l_0 : (List D59)) (most_1 : Int) (i_6 : Int) (j_7 : Int) (out_5 : (List D29)) : Option (Lo (((List D59) × Int × Int × Int × Unit) × ((List D29) × Unit)) (((List D59) × Int × Int × Unit) × ((List D29) × Unit)) (Lo (((List D59) × Int × Int × Unit) × ((List D29) × Unit)) ((Unit) × ((List D29) × Unit)) ref20_Corners_R)) :=
 some (.go ((l_0, most_1, i_6, (w64 (j_7 + (1 : Int))), ()), (out_5, ())))
def ref20_Corners_11 (N : Nat) (l_0 : (List D59)) (most_1 : Int) (i_6 : Int) (j_7 : Int) (n_14 : Int) (out_5 : (List D29)) (v_9 : (List D27)) (w_10 : (List D27)) (x_11 : (List D27)) (y_12 : (List D27)) (z_13 : (List D27)) : Option (Lo (((List D59) × Int × Int × Int × Unit) × ((List D29) × Unit)) (((List D59) × Int × Int × Unit) × ((List D29) × Unit)) (Lo (((List D59) × Int × Int × Unit) × ((List D29) × Unit)) ((Unit) × ((List D29) × Unit)) ref20_Corners_R)) :=
 loopK N (fun y => ref20_Corners_s12 N y.1.1 y.1.2.1 y.1.2.2.1 y.1.2.2.2.1 y.1.2.2.2.2.1 y.2.1 y.2.2.1 y.2.2.2.1 y.2.2.2.2.1 y.2.2.2.2.2.1 y.2.2.2.2.2.2.1) (fun (e : (((List D59) × Int × Int × Int × Unit) × ((List D29) × Unit))) => ref20_Corners_13 N e.1.1 e.1.2.1 e.1.2.2.1 e.1.2.2.2.1 e.2.1) ((l_0, most_1, i_6, j_7, n_14, ()), (out_5, v_9, w_10, x_11, y_12, z_13, ()))
def ref20_Corners_10 (N : Nat) (l_0 : (List D59)) (most_1 : Int) (i_6 : Int) (j_7 : Int) (out_5 : (List D29)) : Option (Lo (((List D59) × Int × Int × Int × Unit) × ((List D29) × Unit)) (((List D59) × Int × Int × Unit) × ((List D29) × Unit)) (Lo (((List D59) × Int × Int × Unit) × ((List D29) × Unit)) ((Unit) × ((List D29) × Unit)) ref20_Corners_R)) :=
 bif inR i_6 l_0.length then
 let x6 := l_0.getD i_6.toNat ((0 : Int), ([] : List UInt8), ([] : List D45), ())
 bif inR j_7 x6.2.2.1.length then
 let x7 := x6.2.2.1.getD j_7.toNat (((0 : Int), (0 : UInt64), (0 : UInt64), ()), ((0 : Int), (0 : UInt64), (0 : UInt64), ()), ((0 : Int), (0 : UInt64), (0 : UInt64), ()), ((0 : Int), (0 : UInt64), (0 : UInt64), ()), (0 : Int), (0 : Int), (List.replicate 2 (0 : Int)), (List.replicate 2 (0 : Int)), ())
 Option.bind (ref20_ends N x7 (0 : Int)) fun y8 =>
 Option.bind (ref20_ends N x7 (1 : Int)) fun y9 =>
 Option.bind (ref20_ends N x7 (2 : Int)) fun y10 =>
 Option.bind (ref20_ends N x7 (3 : Int)) fun y11 =>
 Option.bind (ref20_ends N x7 (4 : Int)) fun y12 =>
 ref20_Corners_11 N l_0 most_1 i_6 j_7 (0 : Int) out_5 y8.2.1 y9.2.1 y10.2.1 y11.2.1 y12.2.1
 else none
 else none
def ref20_Corners_8 (N : Nat) (l_0 : (List D59)) (most_1 : Int) (i_6 : Int) (j_7 : Int) (out_5 : (List D29)) : Option (Lo (((List D59) × Int × Int × Int × Unit) × ((List D29) × Unit)) (((List D59) × Int × Int × Unit) × ((List D29) × Unit)) (Lo (((List D59) × Int × Int × Unit) × ((List D29) × Unit)) ((Unit) × ((List D29) × Unit)) ref20_Corners_R)) :=
 ref20_Corners_10 N l_0 most_1 i_6 j_7 out_5
def ref20_Corners_s7 (N : Nat) (l_0 : (List D59)) (most_1 : Int) (i_6 : Int) (j_7 : Int) (out_5 : (List D29)) : Option (Lo (((List D59) × Int × Int × Int × Unit) × ((List D29) × Unit)) (((List D59) × Int × Int × Unit) × ((List D29) × Unit)) (Lo (((List D59) × Int × Int × Unit) × ((List D29) × Unit)) ((Unit) × ((List D29) × Unit)) ref20_Corners_R)) :=
 bif inR i_6 l_0.length then
 bif (decide (j_7 < ((l_0.getD i_6.toNat ((0 : Int), ([] : List UInt8), ([] : List D45), ())).2.2.1.length : Int))) then
 ref20_Corners_8 N l_0 most_1 i_6 j_7 out_5
 else
 some (.br ((l_0, most_1, i_6, ()), (out_5, ())))
 else none
def ref20_Corners_14 (N : Nat) (l_0 : (List D59)) (most_1 : Int) (i_6 : Int) (out_5 : (List D29)) : Option (Lo (((List D59) × Int × Int × Unit) × ((List D29) × Unit)) ((Unit) × ((List D29) × Unit)) ref20_Corners_R) :=
 some (.go ((l_0, most_1, (w64 (i_6 + (1 : Int))), ()), (out_5, ())))
def ref20_Corners_6 (N : Nat) (l_0 : (List D59)) (most_1 : Int) (i_6 : Int) (j_7 : Int) (out_5 : (List D29)) : Option (Lo (((List D59) × Int × Int × Unit) × ((List D29) × Unit)) ((Unit) × ((List D29) × Unit)) ref20_Corners_R) :=
 loopK N (fun y => ref20_Corners_s7 N y.1.1 y.1.2.1 y.1.2.2.1 y.1.2.2.2.1 y.2.1) (fun (e : (((List D59) × Int × Int × Unit) × ((List D29) × Unit))) => ref20_Corners_14 N e.1.1 e.1.2.1 e.1.2.2.1 e.2.1) ((l_0, most_1, i_6, j_7, ()), (out_5, ()))
def ref20_Corners_5 (N : Nat) (l_0 : (List D59)) (most_1 : Int) (i_6 : Int) (out_5 : (List D29)) : Option (Lo (((List D59) × Int × Int × Unit) × ((List D29) × Unit)) ((Unit) × ((List D29) × Unit)) ref20_Corners_R) :=
 ref20_Corners_6 N l_0 most_1 i_6 (0 : Int) out_5
def ref20_Corners_3 (N : Nat) (l_0 : (List D59)) (most_1 : Int) (i_6 : Int) (out_5 : (List D29)) : Option (Lo (((List D59) × Int × Int × Unit) × ((List D29) × Unit)) ((Unit) × ((List D29) × Unit)) ref20_Corners_R) :=
 ref20_Corners_5 N l_0 most_1 i_6 out_5
def ref20_Corners_s2 (N : Nat) (l_0 : (List D59)) (most_1 : Int) (i_6 : Int) (out_5 : (List D29)) : Option (Lo (((List D59) × Int × Int × Unit) × ((List D29) × Unit)) ((Unit) × ((List D29) × Unit)) ref20_Corners_R) :=
 bif (decide (i_6 < (l_0.length : Int))) then
 ref20_Corners_3 N l_0 most_1 i_6 out_5
 else
 some (.br ((()), (out_5, ())))
def ref20_Corners_15 (N : Nat) (out_5 : (List D29)) : Option ref20_Corners_R :=
 some ((()), (out_5, ()))
def ref20_Corners_1 (N : Nat) (l_0 : (List D59)) (most_1 : Int) (i_6 : Int) (out_5 : (List D29)) : Option ref20_Corners_R :=
 loopK N (fun y => ref20_Corners_s2 N y.1.1 y.1.2.1 y.1.2.2.1 y.2.1) (fun (e : ((Unit) × ((List D29) × Unit))) => ref20_Corners_15 N e.2.1) ((l_0, most_1, i_6, ()), (out_5, ()))
def ref20_Corners (N : Nat) (l_0 : (List D59)) (most_1 : Int) : Option ref20_Corners_R :=
 ref20_Corners_1 N l_0 most_1 (0 : Int) ([] : List D29)
def ref20_Corners_C (N : Nat) : Ctx := ⟨141, G_tys, [(90, ref20_ends_ctr N)], G_globs, G_ifs⟩
def ref20_Corners_S0 : Spec := ⟨[.val (.sl T59), .val .i64, .row 0, .val .i64, .val .i64, .row 1, .row 2, .row 3, .row 4, .row 5, .val .i64], [(.row 30 T29, .pos 2), (.row 28 T27, .pos 5), (.row 28 T27, .pos 6), (.row 28 T27, .pos 7), (.row 28 T27, .pos 8), (.row 28 T27, .pos 9)]⟩
def ref20_Corners_S1 : Spec := ⟨[.val (.sl T59), .val .i64, .row 0, .val .i64, .val .i64], [(.row 30 T29, .pos 2)]⟩
def ref20_Corners_S2 : Spec := ⟨[.val (.sl T59), .val .i64, .row 0, .val .i64], [(.row 30 T29, .pos 2)]⟩
def ref20_Corners_S3 : Spec := ⟨[.row 0], [(.row 30 T29, .pos 0)]⟩
def ref20_Corners_S4 : Spec := ⟨[.val (.sl T59), .val .i64], []⟩
def ref20_Corners_K (_N : Nat) : XE → GS → Option ref20_Corners_R := retK 0 [4] [false] ref20_Corners_S3
def ref20_Corners_L : List Code := (bodyOf (some Try.f40))
def ref20_Corners_L2 : List Code := (loopOf (ref20_Corners_L[3]?))
def ref20_Corners_L4b : List Code := (blockOf (ref20_Corners_L2[2]?))
def ref20_Corners_L7 : List Code := (loopOf (ref20_Corners_L4b[1]?))
def ref20_Corners_L9b : List Code := (blockOf (ref20_Corners_L7[2]?))
def ref20_Corners_L12 : List Code := (loopOf (ref20_Corners_L9b[3]?))
def ref20_Corners_K2 (N : Nat) : XE → GS → Option (Lo (((List D59) × Int × Int × Unit) × ((List D29) × Unit)) ((Unit) × ((List D29) × Unit)) ref20_Corners_R) := roundK (some 0) (fit 0 [0, 1, 5, 6] ref20_Corners_S2) (fit 0 [5] ref20_Corners_S3) (ref20_Corners_K N)
def ref20_Corners_K4 (N : Nat) : XE → GS → Option (Lo (((List D59) × Int × Int × Unit) × ((List D29) × Unit)) ((Unit) × ((List D29) × Unit)) ref20_Corners_R) := blockK 1 (goK 0 [0, 1, 5, 6] ref20_Corners_S2 (fun y => ref20_Corners_14 N y.1.1 y.1.2.1 y.1.2.2.1 y.2.1)) (ref20_Corners_K2 N)
def ref20_Corners_K7 (N : Nat) : XE → GS → Option (Lo (((List D59) × Int × Int × Int × Unit) × ((List D29) × Unit)) (((List D59) × Int × Int × Unit) × ((List D29) × Unit)) (Lo (((List D59) × Int × Int × Unit) × ((List D29) × Unit)) ((Unit) × ((List D29) × Unit)) ref20_Corners_R)) := roundK (some 2) (fit 0 [0, 1, 5, 6, 7] ref20_Corners_S1) (fit 0 [0, 1, 5, 6] ref20_Corners_S2) (ref20_Corners_K4 N)
def ref20_Corners_K9 (N : Nat) : XE → GS → Option (Lo (((List D59) × Int × Int × Int × Unit) × ((List D29) × Unit)) (((List D59) × Int × Int × Unit) × ((List D29) × Unit)) (Lo (((List D59) × Int × Int × Unit) × ((List D29) × Unit)) ((Unit) × ((List D29) × Unit)) ref20_Corners_R)) := blockK 3 (goK 0 [0, 1, 5, 6, 7] ref20_Corners_S1 (fun y => ref20_Corners_13 N y.1.1 y.1.2.1 y.1.2.2.1 y.1.2.2.2.1 y.2.1)) (ref20_Corners_K7 N)
def ref20_Corners_K12 (N : Nat) : XE → GS → Option (Lo (((List D59) × Int × Int × Int × Int × Unit) × ((List D29) × (List D27) × (List D27) × (List D27) × (List D27) × (List D27) × Unit)) (((List D59) × Int × Int × Int × Unit) × ((List D29) × Unit)) (Lo (((List D59) × Int × Int × Int × Unit) × ((List D29) × Unit)) (((List D59) × Int × Int × Unit) × ((List D29) × Unit)) (Lo (((List D59) × Int × Int × Unit) × ((List D29) × Unit)) ((Unit) × ((List D29) × Unit)) ref20_Corners_R))) := roundK (some 4) (fit 0 [0, 1, 5, 6, 7, 9, 10, 11, 12, 13, 14] ref20_Corners_S0) (fit 0 [0, 1, 5, 6, 7] ref20_Corners_S1) (ref20_Corners_K9 N)
theorem ref20_Corners_s12_b {E : Env} (N : Nat) (hb : Base Try.prog (ref20_Corners_C N) E 0) : Blk Try.prog (ref20_Corners_C N) E [0, 1, 5, 6, 7, 9, 10, 11, 12, 13, 14] ref20_Corners_S0 (ref20_Corners_L12.drop 0) (fun y => ref20_Corners_s12 N y.1.1 y.1.2.1 y.1.2.2.1 y.1.2.2.2.1 y.1.2.2.2.2.1 y.2.1 y.2.2.1 y.2.2.2.1 y.2.2.2.2.1 y.2.2.2.2.2.1 y.2.2.2.2.2.2.1) (ref20_Corners_K12 N) :=
 Blk.chunkAt hb 4 (X := (ref20_Corners_K12 N .normal)) (NxOk.end (by kernel_rfl)) rfl (fun x => by kernel_rfl)
theorem ref20_Corners_13_b {E : Env} (N : Nat) (hb : Base Try.prog (ref20_Corners_C N) E 0) : Blk Try.prog (ref20_Corners_C N) E [0, 1, 5, 6, 7] ref20_Corners_S1 (ref20_Corners_L7.drop 3) (fun y => ref20_Corners_13 N y.1.1 y.1.2.1 y.1.2.2.1 y.1.2.2.2.1 y.2.1) (ref20_Corners_K7 N) :=
 Blk.chunkAt hb 1 (X := (ref20_Corners_K7 N .normal)) (NxOk.end (by kernel_rfl)) rfl (fun x => by kernel_rfl)
theorem ref20_Corners_11_b {E : Env} (N : Nat) (hb : Base Try.prog (ref20_Corners_C N) E 0) : Blk Try.prog (ref20_Corners_C N) E [0, 1, 5, 6, 7, 9, 10, 11, 12, 13, 14] ref20_Corners_S0 (ref20_Corners_L9b.drop 3) (fun y => ref20_Corners_11 N y.1.1 y.1.2.1 y.1.2.2.1 y.1.2.2.2.1 y.1.2.2.2.2.1 y.2.1 y.2.2.1 y.2.2.2.1 y.2.2.2.2.1 y.2.2.2.2.2.1 y.2.2.2.2.2.2.1) (ref20_Corners_K9 N) :=
 Blk.loopAt (Nf := N) (hns := [0, 1, 5, 6, 7, 9, 10, 11, 12, 13, 14]) (ans := [0, 1, 5, 6, 7]) (hc := ref20_Corners_S0) (ac := ref20_Corners_S1) (bid := 4) (step := (fun y => ref20_Corners_s12 N y.1.1 y.1.2.1 y.1.2.2.1 y.1.2.2.2.1 y.1.2.2.2.2.1 y.2.1 y.2.2.1 y.2.2.2.1 y.2.2.2.2.1 y.2.2.2.2.2.1 y.2.2.2.2.2.2.1)) (J := (fun e => (ref20_Corners_K9 N .normal) (ref20_Corners_S1.st [0, 1, 5, 6, 7] e))) hb (by kernel_rfl) (Blk.into (X := (ref20_Corners_K9 N .normal)) (NxOk.end (by kernel_rfl)) (fun x => by kernel_rfl)) (ref20_Corners_s12_b N hb) (fun x => by kernel_rfl)
theorem ref20_Corners_10_b {E : Env} (N : Nat) (hb : Base Try.prog (ref20_Corners_C N) E 0) : Blk Try.prog (ref20_Corners_C N) E [0, 1, 5, 6, 7] ref20_Corners_S1 (ref20_Corners_L9b.drop 0) (fun y => ref20_Corners_10 N y.1.1 y.1.2.1 y.1.2.2.1 y.1.2.2.2.1 y.2.1) (ref20_Corners_K9 N) :=
 Blk.chunkAt hb 3 (X := (goK 0 [0, 1, 5, 6, 7, 9, 10, 11, 12, 13, 14] ref20_Corners_S0 (fun y => ref20_Corners_11 N y.1.1 y.1.2.1 y.1.2.2.1 y.1.2.2.2.1 y.1.2.2.2.2.1 y.2.1 y.2.2.1 y.2.2.2.1 y.2.2.2.2.1 y.2.2.2.2.2.1 y.2.2.2.2.2.2.1))) (NxOk.go hb (ref20_Corners_11_b N hb)) rfl (fun x => by kernel_rfl)
theorem ref20_Corners_8_b {E : Env} (N : Nat) (hb : Base Try.prog (ref20_Corners_C N) E 0) : Blk Try.prog (ref20_Corners_C N) E [0, 1, 5, 6, 7] ref20_Corners_S1 (ref20_Corners_L7.drop 2) (fun y => ref20_Corners_8 N y.1.1 y.1.2.1 y.1.2.2.1 y.1.2.2.2.1 y.2.1) (ref20_Corners_K7 N) :=
 Blk.blockAt (bid := 3) (X := (goK 0 [0, 1, 5, 6, 7] ref20_Corners_S1 (fun y => ref20_Corners_13 N y.1.1 y.1.2.1 y.1.2.2.1 y.1.2.2.2.1 y.2.1))) (Y := (goK 0 [0, 1, 5, 6, 7] ref20_Corners_S1 (fun y => ref20_Corners_10 N y.1.1 y.1.2.1 y.1.2.2.1 y.1.2.2.2.1 y.2.1))) (by kernel_rfl) (NxOk.go hb (ref20_Corners_13_b N hb)) (NxOk.go hb (ref20_Corners_10_b N hb)) (fun x => by kernel_rfl)
theorem ref20_Corners_s7_b {E : Env} (N : Nat) (hb : Base Try.prog (ref20_Corners_C N) E 0) : Blk Try.prog (ref20_Corners_C N) E [0, 1, 5, 6, 7] ref20_Corners_S1 (ref20_Corners_L7.drop 0) (fun y => ref20_Corners_s7 N y.1.1 y.1.2.1 y.1.2.2.1 y.1.2.2.2.1 y.2.1) (ref20_Corners_K7 N) :=
 Blk.chunkAt hb 2 (X := (goK 0 [0, 1, 5, 6, 7] ref20_Corners_S1 (fun y => ref20_Corners_8 N y.1.1 y.1.2.1 y.1.2.2.1 y.1.2.2.2.1 y.2.1))) (NxOk.go hb (ref20_Corners_8_b N hb)) rfl (fun x => by kernel_rfl)
theorem ref20_Corners_14_b {E : Env} (N : Nat) (hb : Base Try.prog (ref20_Corners_C N) E 0) : Blk Try.prog (ref20_Corners_C N) E [0, 1, 5, 6] ref20_Corners_S2 (ref20_Corners_L2.drop 3) (fun y => ref20_Corners_14 N y.1.1 y.1.2.1 y.1.2.2.1 y.2.1) (ref20_Corners_K2 N) :=
 Blk.chunkAt hb 1 (X := (ref20_Corners_K2 N .normal)) (NxOk.end (by kernel_rfl)) rfl (fun x => by kernel_rfl)
theorem ref20_Corners_6_b {E : Env} (N : Nat) (hb : Base Try.prog (ref20_Corners_C N) E 0) : Blk Try.prog (ref20_Corners_C N) E [0, 1, 5, 6, 7] ref20_Corners_S1 (ref20_Corners_L4b.drop 1) (fun y => ref20_Corners_6 N y.1.1 y.1.2.1 y.1.2.2.1 y.1.2.2.2.1 y.2.1) (ref20_Corners_K4 N) :=
 Blk.loopAt (Nf := N) (hns := [0, 1, 5, 6, 7]) (ans := [0, 1, 5, 6]) (hc := ref20_Corners_S1) (ac := ref20_Corners_S2) (bid := 2) (step := (fun y => ref20_Corners_s7 N y.1.1 y.1.2.1 y.1.2.2.1 y.1.2.2.2.1 y.2.1)) (J := (fun e => (ref20_Corners_K4 N .normal) (ref20_Corners_S2.st [0, 1, 5, 6] e))) hb (by kernel_rfl) (Blk.into (X := (ref20_Corners_K4 N .normal)) (NxOk.end (by kernel_rfl)) (fun x => by kernel_rfl)) (ref20_Corners_s7_b N hb) (fun x => by kernel_rfl)
theorem ref20_Corners_5_b {E : Env} (N : Nat) (hb : Base Try.prog (ref20_Corners_C N) E 0) : Blk Try.prog (ref20_Corners_C N) E [0, 1, 5, 6] ref20_Corners_S2 (ref20_Corners_L4b.drop 0) (fun y => ref20_Corners_5 N y.1.1 y.1.2.1 y.1.2.2.1 y.2.1) (ref20_Corners_K4 N) :=
 Blk.chunkAt hb 1 (X := (goK 0 [0, 1, 5, 6, 7] ref20_Corners_S1 (fun y => ref20_Corners_6 N y.1.1 y.1.2.1 y.1.2.2.1 y.1.2.2.2.1 y.2.1))) (NxOk.go hb (ref20_Corners_6_b N hb)) rfl (fun x => by kernel_rfl)
theorem ref20_Corners_3_b {E : Env} (N : Nat) (hb : Base Try.prog (ref20_Corners_C N) E 0) : Blk Try.prog (ref20_Corners_C N) E [0, 1, 5, 6] ref20_Corners_S2 (ref20_Corners_L2.drop 2) (fun y => ref20_Corners_3 N y.1.1 y.1.2.1 y.1.2.2.1 y.2.1) (ref20_Corners_K2 N) :=
 Blk.blockAt (bid := 1) (X := (goK 0 [0, 1, 5, 6] ref20_Corners_S2 (fun y => ref20_Corners_14 N y.1.1 y.1.2.1 y.1.2.2.1 y.2.1))) (Y := (goK 0 [0, 1, 5, 6] ref20_Corners_S2 (fun y => ref20_Corners_5 N y.1.1 y.1.2.1 y.1.2.2.1 y.2.1))) (by kernel_rfl) (NxOk.go hb (ref20_Corners_14_b N hb)) (NxOk.go hb (ref20_Corners_5_b N hb)) (fun x => by kernel_rfl)
theorem ref20_Corners_s2_b {E : Env} (N : Nat) (hb : Base Try.prog (ref20_Corners_C N) E 0) : Blk Try.prog (ref20_Corners_C N) E [0, 1, 5, 6] ref20_Corners_S2 (ref20_Corners_L2.drop 0) (fun y => ref20_Corners_s2 N y.1.1 y.1.2.1 y.1.2.2.1 y.2.1) (ref20_Corners_K2 N) :=
 Blk.chunkAt hb 2 (X := (goK 0 [0, 1, 5, 6] ref20_Corners_S2 (fun y => ref20_Corners_3 N y.1.1 y.1.2.1 y.1.2.2.1 y.2.1))) (NxOk.go hb (ref20_Corners_3_b N hb)) rfl (fun x => by kernel_rfl)
theorem ref20_Corners_15_b {E : Env} (N : Nat) (hb : Base Try.prog (ref20_Corners_C N) E 0) : Blk Try.prog (ref20_Corners_C N) E [5] ref20_Corners_S3 (ref20_Corners_L.drop 4) (fun y => ref20_Corners_15 N y.2.1) (ref20_Corners_K N) :=
 Blk.chunkAt hb 2 (X := (ref20_Corners_K N .normal)) (NxOk.end (by kernel_rfl)) rfl (fun x => by kernel_rfl)
theorem ref20_Corners_1_b {E : Env} (N : Nat) (hb : Base Try.prog (ref20_Corners_C N) E 0) : Blk Try.prog (ref20_Corners_C N) E [0, 1, 5, 6] ref20_Corners_S2 (ref20_Corners_L.drop 3) (fun y => ref20_Corners_1 N y.1.1 y.1.2.1 y.1.2.2.1 y.2.1) (ref20_Corners_K N) :=
 Blk.loopAt (Nf := N) (hns := [0, 1, 5, 6]) (ans := [5]) (hc := ref20_Corners_S2) (ac := ref20_Corners_S3) (bid := 0) (step := (fun y => ref20_Corners_s2 N y.1.1 y.1.2.1 y.1.2.2.1 y.2.1)) (J := (fun e => (goK 0 [5] ref20_Corners_S3 (fun y => ref20_Corners_15 N y.2.1)) (ref20_Corners_S3.st [5] e))) hb (by kernel_rfl) (Blk.into (X := (goK 0 [5] ref20_Corners_S3 (fun y => ref20_Corners_15 N y.2.1))) (NxOk.go hb (ref20_Corners_15_b N hb)) (fun x => by kernel_rfl)) (ref20_Corners_s2_b N hb) (fun x => by kernel_rfl)
theorem ref20_Corners_b {E : Env} (N : Nat) (hb : Base Try.prog (ref20_Corners_C N) E 0) : Blk Try.prog (ref20_Corners_C N) E (List.range ref20_Corners_S4.ks.length) ref20_Corners_S4 (ref20_Corners_L.drop 0) (fun y => ref20_Corners N y.1.1 y.1.2.1) (ref20_Corners_K N) :=
 Blk.chunkAt hb 3 (X := (goK 0 [0, 1, 5, 6] ref20_Corners_S2 (fun y => ref20_Corners_1 N y.1.1 y.1.2.1 y.1.2.2.1 y.2.1))) (NxOk.go hb (ref20_Corners_1_b N hb)) rfl (fun x => by kernel_rfl)
def ref20_Corners_ctr (N : Nat) : Ctr := ⟨ref20_Corners_S4, ref20_Corners_S3.un [false], 0, (fun y => ref20_Corners N y.1.1 y.1.2.1)⟩
theorem ref20_Corners_ctrs (N : Nat) : CtrsOk Try.prog (ref20_Corners_C N) := ctrs_of (Γ := ref20_Corners_C N) G_ifs_ok (by
 intro p hp
 simp only [ref20_Corners_C, List.mem_cons, List.not_mem_nil, or_false] at hp
 rcases hp with rfl
 · exact ref20_ends_ok N)
theorem ref20_Corners_ok (N : Nat) : Ctr.ok Try.prog G_globs 40 (ref20_Corners_ctr N) :=
 ctr_fn (Γ := ref20_Corners_C N) (rfit := ref20_Corners_S3) (bs := [false]) (res := [4]) (by kernel_rfl) (tys_ok G_tys_ok) (ref20_Corners_ctrs N) Try.func40 (by kernel_rfl) (by kernel_rfl) Try.ntmps40 (by kernel_rfl) (by kernel_rfl) (by kernel_rfl) (by kernel_rfl) (fun E hb => ref20_Corners_b N hb)
/-! ipsecgate/ipsecgatelaw20.DecorrelateLists -/
abbrev law20_DecorrelateLists_R : Type := ((Bool × Unit) × (Unit))
def law20_DecorrelateLists_s2 (N : Nat) (most_1 : UInt8) (l_6 : (List D59)) (t_27 : Int) (t_28 : Int) (t_26 : (List (List D59))) : Option (Lo ((UInt8 × (List D59) × Int × Int × Unit) × ((List (List D59)) × Unit)) ((UInt8 × (List D59) × Unit) × (Unit)) law20_DecorrelateLists_R) :=
 bif (decide (t_28 < t_27)) then
 bif inR t_28 t_26.length then
 let x8 := (t_26.getD t_28.toNat ([] : List D59))
 Option.bind (decorrelate_Entries N x8) fun y9 =>
 Option.bind (ref20_Entries N x8) fun y10 =>
 bif (!(decide (y9.1.1 = y10.1.1))) then
 some (.rt ((false, ()), (())))
 else
 Option.bind (ref20_Same N y9.2.1 y10.2.1) fun y12 =>
 bif (!y12.1.1) then
 some (.rt ((false, ()), (())))
 else
 some (.go ((most_1, l_6, t_27, (w64 (t_28 + (1 : Int))), ()), (t_26, ())))
 else none
 else
 some (.br ((most_1, l_6, ()), (())))
def law20_DecorrelateLists_s5 (N : Nat) (t_66 : Int) (t_67 : Int) (a_13 : (List D29)) (b_14 : (List D29)) : Option (Lo ((Int × Int × Unit) × ((List D29) × (List D29) × Unit)) ((Unit) × (Unit)) law20_DecorrelateLists_R) :=
 bif (decide (t_67 < t_66)) then
 bif inR t_67 a_13.length then
 bif inR t_67 b_14.length then
 bif (!(dq T29 (a_13.getD t_67.toNat (((0 : Int), (0 : UInt64), (0 : UInt64), ()), ((0 : Int), (0 : UInt64), (0 : UInt64), ()), (0 : Int), (0 : Int), (0 : Int), ())) (b_14.getD t_67.toNat (((0 : Int), (0 : UInt64), (0 : UInt64), ()), ((0 : Int), (0 : UInt64), (0 : UInt64), ()), (0 : Int), (0 : Int), (0 : Int), ())))) then
 some (.rt ((false, ()), (())))
 else
 some (.go ((t_66, (w64 (t_67 + (1 : Int))), ()), (a_13, b_14, ())))
 else none
 else none
 else
 some (.br ((()), (())))
def law20_DecorrelateLists_6 (N : Nat) : Option law20_DecorrelateLists_R :=
 some ((true, ()), (()))
def law20_DecorrelateLists_4 (N : Nat) (t_66 : Int) (t_67 : Int) (a_13 : (List D29)) (b_14 : (List D29)) : Option law20_DecorrelateLists_R :=
 loopK N (fun y => law20_DecorrelateLists_s5 N y.1.1 y.1.2.1 y.2.1 y.2.2.1) (fun (e : ((Unit) × (Unit))) => law20_DecorrelateLists_6 N) ((t_66, t_67, ()), (a_13, b_14, ()))
def law20_DecorrelateLists_3 (N : Nat) (most_1 : UInt8) (l_6 : (List D59)) : Option law20_DecorrelateLists_R :=
 Option.bind (decorrelate_Corners N l_6 (most_1.toNat : Int)) fun y16 =>
 Option.bind (ref20_Corners N l_6 (most_1.toNat : Int)) fun y18 =>
 bif (!(decide ((y16.2.1.length : Int) = (y18.2.1.length : Int)))) then
 some ((false, ()), (()))
 else
 law20_DecorrelateLists_4 N (y16.2.1.length : Int) (0 : Int) y16.2.1 y18.2.1
def law20_DecorrelateLists_1 (N : Nat) (most_1 : UInt8) (l_6 : (List D59)) (t_27 : Int) (t_28 : Int) (t_26 : (List (List D59))) : Option law20_DecorrelateLists_R :=
 loopK N (fun y => law20_DecorrelateLists_s2 N y.1.1 y.1.2.1 y.1.2.2.1 y.1.2.2.2.1 y.2.1) (fun (e : ((UInt8 × (List D59) × Unit) × (Unit))) => law20_DecorrelateLists_3 N e.1.1 e.1.2.1) ((most_1, l_6, t_27, t_28, ()), (t_26, ()))
def law20_DecorrelateLists (N : Nat) (codes_0 : (List UInt8)) (most_1 : UInt8) : Option law20_DecorrelateLists_R :=
 Option.bind (law20_awake N) fun y1 =>
 bif (!y1.1.1) then
 some ((false, ()), (()))
 else
 Option.bind (make_New N codes_0 (240 : Int)) fun y3 =>
 Option.bind (make_Codes_Rules N (5 : Int) y3.2.1) fun y4 =>
 Option.bind (make_Codes_SpoilRules N y4.2.2.1 y4.2.1) fun y5 =>
 law20_DecorrelateLists_1 N most_1 y4.2.2.1 (([y4.2.2.1, y5.2.2.1] : List (List D59)).length : Int) (0 : Int) ([y4.2.2.1, y5.2.2.1] : List (List D59))
def law20_DecorrelateLists_C (N : Nat) : Ctx := ⟨80, G_tys, [(27, law20_awake_ctr N), (28, make_New_ctr N), (34, make_Codes_Rules_ctr N), (68, make_Codes_SpoilRules_ctr N), (60, decorrelate_Entries_ctr N), (39, ref20_Entries_ctr N), (69, ref20_Same_ctr N), (70, decorrelate_Corners_ctr N), (40, ref20_Corners_ctr N)], G_globs, G_ifs⟩
def law20_DecorrelateLists_S0 : Spec := ⟨[.val .u8, .val (.sl T59), .row 0, .val .i64, .val .i64], [(.row 54 (.sl T59), .pos 2)]⟩
def law20_DecorrelateLists_S1 : Spec := ⟨[.row 0, .row 1, .val .i64, .val .i64], [(.row 30 T29, .pos 0), (.row 30 T29, .pos 1)]⟩
def law20_DecorrelateLists_S2 : Spec := ⟨[], []⟩
def law20_DecorrelateLists_S3 : Spec := ⟨[.val .u8, .val (.sl T59)], []⟩
def law20_DecorrelateLists_S4 : Spec := ⟨[.val (.sl .u8), .val .u8], []⟩
def law20_DecorrelateLists_S5 : Spec := ⟨[.val .bool], []⟩
def law20_DecorrelateLists_K (_N : Nat) : XE → GS → Option law20_DecorrelateLists_R := retK 0 [4] [false] law20_DecorrelateLists_S5
def law20_DecorrelateLists_L : List Code := (bodyOf (some Try.f16))
def law20_DecorrelateLists_L2 : List Code := (loopOf (law20_DecorrelateLists_L[6]?))
def law20_DecorrelateLists_L5 : List Code := (loopOf (law20_DecorrelateLists_L[11]?))
def law20_DecorrelateLists_K2 (N : Nat) : XE → GS → Option (Lo ((UInt8 × (List D59) × Int × Int × Unit) × ((List (List D59)) × Unit)) ((UInt8 × (List D59) × Unit) × (Unit)) law20_DecorrelateLists_R) := roundK (some 0) (fit 0 [1, 6, 26, 27, 28] law20_DecorrelateLists_S0) (fit 0 [1, 6] law20_DecorrelateLists_S3) (law20_DecorrelateLists_K N)
def law20_DecorrelateLists_K5 (N : Nat) : XE → GS → Option (Lo ((Int × Int × Unit) × ((List D29) × (List D29) × Unit)) ((Unit) × (Unit)) law20_DecorrelateLists_R) := roundK (some 2) (fit 0 [13, 14, 66, 67] law20_DecorrelateLists_S1) (fit 0 [] law20_DecorrelateLists_S2) (law20_DecorrelateLists_K N)
theorem law20_DecorrelateLists_s2_b {E : Env} (N : Nat) (hb : Base Try.prog (law20_DecorrelateLists_C N) E 0) : Blk Try.prog (law20_DecorrelateLists_C N) E [1, 6, 26, 27, 28] law20_DecorrelateLists_S0 (law20_DecorrelateLists_L2.drop 0) (fun y => law20_DecorrelateLists_s2 N y.1.1 y.1.2.1 y.1.2.2.1 y.1.2.2.2.1 y.2.1) (law20_DecorrelateLists_K2 N) :=
 Blk.chunkAt hb 4 (X := (law20_DecorrelateLists_K2 N .normal)) (NxOk.end (by kernel_rfl)) rfl (fun x => by kernel_rfl)
theorem law20_DecorrelateLists_s5_b {E : Env} (N : Nat) (hb : Base Try.prog (law20_DecorrelateLists_C N) E 0) : Blk Try.prog (law20_DecorrelateLists_C N) E [13, 14, 66, 67] law20_DecorrelateLists_S1 (law20_DecorrelateLists_L5.drop 0) (fun y => law20_DecorrelateLists_s5 N y.1.1 y.1.2.1 y.2.1 y.2.2.1) (law20_DecorrelateLists_K5 N) :=
 Blk.chunkAt hb 4 (X := (law20_DecorrelateLists_K5 N .normal)) (NxOk.end (by kernel_rfl)) rfl (fun x => by kernel_rfl)
theorem law20_DecorrelateLists_6_b {E : Env} (N : Nat) (hb : Base Try.prog (law20_DecorrelateLists_C N) E 0) : Blk Try.prog (law20_DecorrelateLists_C N) E [] law20_DecorrelateLists_S2 (law20_DecorrelateLists_L.drop 12) (fun y => law20_DecorrelateLists_6 N) (law20_DecorrelateLists_K N) :=
 Blk.chunkAt hb 2 (X := (law20_DecorrelateLists_K N .normal)) (NxOk.end (by kernel_rfl)) rfl (fun x => by kernel_rfl)
theorem law20_DecorrelateLists_4_b {E : Env} (N : Nat) (hb : Base Try.prog (law20_DecorrelateLists_C N) E 0) : Blk Try.prog (law20_DecorrelateLists_C N) E [13, 14, 66, 67] law20_DecorrelateLists_S1 (law20_DecorrelateLists_L.drop 11) (fun y => law20_DecorrelateLists_4 N y.1.1 y.1.2.1 y.2.1 y.2.2.1) (law20_DecorrelateLists_K N) :=
 Blk.loopAt (Nf := N) (hns := [13, 14, 66, 67]) (ans := []) (hc := law20_DecorrelateLists_S1) (ac := law20_DecorrelateLists_S2) (bid := 2) (step := (fun y => law20_DecorrelateLists_s5 N y.1.1 y.1.2.1 y.2.1 y.2.2.1)) (J := (fun e => (goK 0 [] law20_DecorrelateLists_S2 (fun y => law20_DecorrelateLists_6 N)) (law20_DecorrelateLists_S2.st [] e))) hb (by kernel_rfl) (Blk.into (X := (goK 0 [] law20_DecorrelateLists_S2 (fun y => law20_DecorrelateLists_6 N))) (NxOk.go hb (law20_DecorrelateLists_6_b N hb)) (fun x => by kernel_rfl)) (law20_DecorrelateLists_s5_b N hb) (fun x => by kernel_rfl)
theorem law20_DecorrelateLists_3_b {E : Env} (N : Nat) (hb : Base Try.prog (law20_DecorrelateLists_C N) E 0) : Blk Try.prog (law20_DecorrelateLists_C N) E [1, 6] law20_DecorrelateLists_S3 (law20_DecorrelateLists_L.drop 7) (fun y => law20_DecorrelateLists_3 N y.1.1 y.1.2.1) (law20_DecorrelateLists_K N) :=
 Blk.chunkAt hb 4 (X := (goK 0 [13, 14, 66, 67] law20_DecorrelateLists_S1 (fun y => law20_DecorrelateLists_4 N y.1.1 y.1.2.1 y.2.1 y.2.2.1))) (NxOk.go hb (law20_DecorrelateLists_4_b N hb)) rfl (fun x => by kernel_rfl)
theorem law20_DecorrelateLists_1_b {E : Env} (N : Nat) (hb : Base Try.prog (law20_DecorrelateLists_C N) E 0) : Blk Try.prog (law20_DecorrelateLists_C N) E [1, 6, 26, 27, 28] law20_DecorrelateLists_S0 (law20_DecorrelateLists_L.drop 6) (fun y => law20_DecorrelateLists_1 N y.1.1 y.1.2.1 y.1.2.2.1 y.1.2.2.2.1 y.2.1) (law20_DecorrelateLists_K N) :=
 Blk.loopAt (Nf := N) (hns := [1, 6, 26, 27, 28]) (ans := [1, 6]) (hc := law20_DecorrelateLists_S0) (ac := law20_DecorrelateLists_S3) (bid := 0) (step := (fun y => law20_DecorrelateLists_s2 N y.1.1 y.1.2.1 y.1.2.2.1 y.1.2.2.2.1 y.2.1)) (J := (fun e => (goK 0 [1, 6] law20_DecorrelateLists_S3 (fun y => law20_DecorrelateLists_3 N y.1.1 y.1.2.1)) (law20_DecorrelateLists_S3.st [1, 6] e))) hb (by kernel_rfl) (Blk.into (X := (goK 0 [1, 6] law20_DecorrelateLists_S3 (fun y => law20_DecorrelateLists_3 N y.1.1 y.1.2.1))) (NxOk.go hb (law20_DecorrelateLists_3_b N hb)) (fun x => by kernel_rfl)) (law20_DecorrelateLists_s2_b N hb) (fun x => by kernel_rfl)
theorem law20_DecorrelateLists_b {E : Env} (N : Nat) (hb : Base Try.prog (law20_DecorrelateLists_C N) E 0) : Blk Try.prog (law20_DecorrelateLists_C N) E (List.range law20_DecorrelateLists_S4.ks.length) law20_DecorrelateLists_S4 (law20_DecorrelateLists_L.drop 0) (fun y => law20_DecorrelateLists N y.1.1 y.1.2.1) (law20_DecorrelateLists_K N) :=
 Blk.chunkAt hb 6 (X := (goK 0 [1, 6, 26, 27, 28] law20_DecorrelateLists_S0 (fun y => law20_DecorrelateLists_1 N y.1.1 y.1.2.1 y.1.2.2.1 y.1.2.2.2.1 y.2.1))) (NxOk.go hb (law20_DecorrelateLists_1_b N hb)) rfl (fun x => by kernel_rfl)
def law20_DecorrelateLists_ctr (N : Nat) : Ctr := ⟨law20_DecorrelateLists_S4, law20_DecorrelateLists_S5.un [false], 0, (fun y => law20_DecorrelateLists N y.1.1 y.1.2.1)⟩
theorem law20_DecorrelateLists_ctrs (N : Nat) : CtrsOk Try.prog (law20_DecorrelateLists_C N) := ctrs_of (Γ := law20_DecorrelateLists_C N) G_ifs_ok (by
 intro p hp
 simp only [law20_DecorrelateLists_C, List.mem_cons, List.not_mem_nil, or_false] at hp
 rcases hp with rfl | rfl | rfl | rfl | rfl | rfl | rfl | rfl | rfl
 · exact law20_awake_ok N
 · exact make_New_ok N
 · exact make_Codes_Rules_ok N
 · exact make_Codes_SpoilRules_ok N
 · exact decorrelate_Entries_ok N
 · exact ref20_Entries_ok N
 · exact ref20_Same_ok N
 · exact decorrelate_Corners_ok N
 · exact ref20_Corners_ok N)
theorem law20_DecorrelateLists_ok (N : Nat) : Ctr.ok Try.prog G_globs 16 (law20_DecorrelateLists_ctr N) :=
 ctr_fn (Γ := law20_DecorrelateLists_C N) (rfit := law20_DecorrelateLists_S5) (bs := [false]) (res := [4]) (by kernel_rfl) (tys_ok G_tys_ok) (law20_DecorrelateLists_ctrs N) Try.func16 (by kernel_rfl) (by kernel_rfl) Try.ntmps16 (by kernel_rfl) (by kernel_rfl) (by kernel_rfl) (by kernel_rfl) (fun E hb => law20_DecorrelateLists_b N hb)
end
end Go.Proofs.Ytgbkkfpheahdfaa