/- Functions of the program as plain functions, each with the proof that the text computes it. -/
import Derived.Test.YtgbkkfpheahdfaaFnsDecorrelateAgreesA
set_option linter.unusedVariables false
set_option linter.unusedSimpArgs false
namespace Go.Proofs.Ytgbkkfpheahdfaa
open Go
set_option maxRecDepth 100000
set_option linter.unusedVariables false
/-! ipsecgate/ipsecgateref20.Corners -/
abbrev ref20_Corners_R : Type := ((Unit) × ((List D29) × Unit))
noncomputable def ref20_Corners_s12 (N : Nat) (l_0 : (List D59)) (most_1 : Int) (i_6 : Int) (j_7 : Int) (n_14 : Int) (out_5 : (List D29)) (v_9 : (List D27)) (w_10 : (List D27)) (x_11 : (List D27)) (y_12 : (List D27)) (z_13 : (List D27)) : Option (Lo (((List D59) × Int × Int × Int × Int × Unit) × ((List D29) × (List D27) × (List D27) × (List D27) × (List D27) × (List D27) × Unit)) (((List D59) × Int × Int × Int × Unit) × ((List D29) × Unit)) (Lo (((List D59) × Int × Int × Int × Unit) × ((List D29) × Unit)) (((List D59) × Int × Int × Unit) × ((List D29) × Unit)) (Lo (((List D59) × Int × Int × Unit) × ((List D29) × Unit)) ((Unit) × ((List D29) × Unit)) ref20_Corners_R))) :=
  bif (decide (n_14 < (w64 ((w64 ((w64 ((w64 ((v_9.length : Int) * (w_10.length : Int))) * (x_11.length : Int))) * (y_12.length : Int))) * (z_13.length : Int))))) then
    bif (decide (most_1 ≤ (out_5.length : Int))) then
      some (.rt (.rt (.rt ((()), (out_5, ())))))
    else
      let x25 := (z_13.length : Int)
      bif !(decide (x25 = 0)) then
      bif inR (n_14.tmod x25) z_13.length then
      let x28 := (z_13.length : Int)
      bif !(decide (x28 = 0)) then
      let x29 := w64 (n_14.tdiv x28)
      let x30 := (y_12.length : Int)
      bif !(decide (x30 = 0)) then
      bif inR (x29.tmod x30) y_12.length then
      let x33 := (y_12.length : Int)
      bif !(decide (x33 = 0)) then
      let x34 := w64 (x29.tdiv x33)
      let x35 := (x_11.length : Int)
      bif !(decide (x35 = 0)) then
      bif inR (x34.tmod x35) x_11.length then
      let x38 := (x_11.length : Int)
      bif !(decide (x38 = 0)) then
      let x39 := w64 (x34.tdiv x38)
      let x40 := (w_10.length : Int)
      bif !(decide (x40 = 0)) then
      let x41 := w64 (x39.tdiv x40)
      bif inR x41 v_9.length then
      let x42 := (v_9.getD x41.toNat ((0 : Int), (0 : UInt64), (0 : UInt64), ()))
      let x43 := (w_10.length : Int)
      bif !(decide (x43 = 0)) then
      bif inR (x39.tmod x43) w_10.length then
      let x45 := (w_10.getD (x39.tmod x43).toNat ((0 : Int), (0 : UInt64), (0 : UInt64), ()))
      let x47 := w64 ((w64 ((x_11.getD (x34.tmod x35).toNat ((0 : Int), (0 : UInt64), (0 : UInt64), ())).2.2.1.toNat : Int)) - (1 : Int))
      let x49 := w64 ((w64 ((y_12.getD (x29.tmod x30).toNat ((0 : Int), (0 : UInt64), (0 : UInt64), ())).2.2.1.toNat : Int)) - (1 : Int))
      let x51 := w64 ((w64 ((z_13.getD (n_14.tmod x25).toNat ((0 : Int), (0 : UInt64), (0 : UInt64), ())).2.2.1.toNat : Int)) - (1 : Int))
      bif room (out_5.length + ([(x42, x45, x47, x49, x51, ())] : List D29).length) 72 then
      some (.go ((l_0, most_1, i_6, j_7, (w64 (n_14 + (1 : Int))), ()), ((out_5 ++ ([(x42, x45, x47, x49, x51, ())] : List D29)), v_9, w_10, x_11, y_12, z_13, ())))
      else none
      else none
      else none
      else none
      else none
      else none
      else none
      else none
      else none
      else none
      else none
      else none
      else none
      else none
  else
    some (.br ((l_0, most_1, i_6, j_7, ()), (out_5, ())))
noncomputable def ref20_Corners_13 (N : Nat) (l_0 : (List D59)) (most_1 : Int) (i_6 : Int) (j_7 : Int) (out_5 : (List D29)) : Option (Lo (((List D59) × Int × Int × Int × Unit) × ((List D29) × Unit)) (((List D59) × Int × Int × Unit) × ((List D29) × Unit)) (Lo (((List D59) × Int × Int × Unit) × ((List D29) × Unit)) ((Unit) × ((List D29) × Unit)) ref20_Corners_R)) :=
  some (.go ((l_0, most_1, i_6, (w64 (j_7 + (1 : Int))), ()), (out_5, ())))
noncomputable def ref20_Corners_11 (N : Nat) (l_0 : (List D59)) (most_1 : Int) (i_6 : Int) (j_7 : Int) (n_14 : Int) (out_5 : (List D29)) (v_9 : (List D27)) (w_10 : (List D27)) (x_11 : (List D27)) (y_12 : (List D27)) (z_13 : (List D27)) : Option (Lo (((List D59) × Int × Int × Int × Unit) × ((List D29) × Unit)) (((List D59) × Int × Int × Unit) × ((List D29) × Unit)) (Lo (((List D59) × Int × Int × Unit) × ((List D29) × Unit)) ((Unit) × ((List D29) × Unit)) ref20_Corners_R)) :=
  loopK N (fun y => ref20_Corners_s12 N y.1.1 y.1.2.1 y.1.2.2.1 y.1.2.2.2.1 y.1.2.2.2.2.1 y.2.1 y.2.2.1 y.2.2.2.1 y.2.2.2.2.1 y.2.2.2.2.2.1 y.2.2.2.2.2.2.1) (fun (e : (((List D59) × Int × Int × Int × Unit) × ((List D29) × Unit))) => ref20_Corners_13 N e.1.1 e.1.2.1 e.1.2.2.1 e.1.2.2.2.1 e.2.1) ((l_0, most_1, i_6, j_7, n_14, ()), (out_5, v_9, w_10, x_11, y_12, z_13, ()))
noncomputable def ref20_Corners_10 (N : Nat) (l_0 : (List D59)) (most_1 : Int) (i_6 : Int) (j_7 : Int) (out_5 : (List D29)) : Option (Lo (((List D59) × Int × Int × Int × Unit) × ((List D29) × Unit)) (((List D59) × Int × Int × Unit) × ((List D29) × Unit)) (Lo (((List D59) × Int × Int × Unit) × ((List D29) × Unit)) ((Unit) × ((List D29) × Unit)) ref20_Corners_R)) :=
  bif inR i_6 l_0.length then
  let x6 := l_0.getD i_6.toNat ((0 : Int), ([] : List UInt8), ([] : List D45), ())
  bif inR j_7 x6.2.2.1.length then
  let x7 := x6.2.2.1.getD j_7.toNat (((0 : Int), (0 : UInt64), (0 : UInt64), ()), ((0 : Int), (0 : UInt64), (0 : UInt64), ()), ((0 : Int), (0 : UInt64), (0 : UInt64), ()), ((0 : Int), (0 : UInt64), (0 : UInt64), ()), (0 : Int), (0 : Int), (List.replicate 2 (0 : Int)), (List.replicate 2 (0 : Int)), ())
  Option.bind (ref20_ends N x7 (0 : Int)) fun y8 =>
  Option.bind (ref20_ends N x7 (1 : Int)) fun y9 =>
  Option.bind (ref20_ends N x7 (2 : Int)) fun y10 =>
  Option.bind (ref20_ends N x7 (3 : Int)) fun y11 =>
  Option.bind (ref20_ends N x7 (4 : Int)) fun y12 =>
  ref20_Corners_11 N l_0 most_1 i_6 j_7 (0 : Int) out_5 y8.2.1 y9.2.1 y10.2.1 y11.2.1 y12.2.1
  else none
  else none
noncomputable def ref20_Corners_8 (N : Nat) (l_0 : (List D59)) (most_1 : Int) (i_6 : Int) (j_7 : Int) (out_5 : (List D29)) : Option (Lo (((List D59) × Int × Int × Int × Unit) × ((List D29) × Unit)) (((List D59) × Int × Int × Unit) × ((List D29) × Unit)) (Lo (((List D59) × Int × Int × Unit) × ((List D29) × Unit)) ((Unit) × ((List D29) × Unit)) ref20_Corners_R)) :=
  ref20_Corners_10 N l_0 most_1 i_6 j_7 out_5
noncomputable def ref20_Corners_s7 (N : Nat) (l_0 : (List D59)) (most_1 : Int) (i_6 : Int) (j_7 : Int) (out_5 : (List D29)) : Option (Lo (((List D59) × Int × Int × Int × Unit) × ((List D29) × Unit)) (((List D59) × Int × Int × Unit) × ((List D29) × Unit)) (Lo (((List D59) × Int × Int × Unit) × ((List D29) × Unit)) ((Unit) × ((List D29) × Unit)) ref20_Corners_R)) :=
  bif inR i_6 l_0.length then
  bif (decide (j_7 < ((l_0.getD i_6.toNat ((0 : Int), ([] : List UInt8), ([] : List D45), ())).2.2.1.length : Int))) then
    ref20_Corners_8 N l_0 most_1 i_6 j_7 out_5
  else
    some (.br ((l_0, most_1, i_6, ()), (out_5, ())))
  else none
noncomputable def ref20_Corners_14 (N : Nat) (l_0 : (List D59)) (most_1 : Int) (i_6 : Int) (out_5 : (List D29)) : Option (Lo (((List D59) × Int × Int × Unit) × ((List D29) × Unit)) ((Unit) × ((List D29) × Unit)) ref20_Corners_R) :=
  some (.go ((l_0, most_1, (w64 (i_6 + (1 : Int))), ()), (out_5, ())))
noncomputable def ref20_Corners_6 (N : Nat) (l_0 : (List D59)) (most_1 : Int) (i_6 : Int) (j_7 : Int) (out_5 : (List D29)) : Option (Lo (((List D59) × Int × Int × Unit) × ((List D29) × Unit)) ((Unit) × ((List D29) × Unit)) ref20_Corners_R) :=
  loopK N (fun y => ref20_Corners_s7 N y.1.1 y.1.2.1 y.1.2.2.1 y.1.2.2.2.1 y.2.1) (fun (e : (((List D59) × Int × Int × Unit) × ((List D29) × Unit))) => ref20_Corners_14 N e.1.1 e.1.2.1 e.1.2.2.1 e.2.1) ((l_0, most_1, i_6, j_7, ()), (out_5, ()))
noncomputable def ref20_Corners_5 (N : Nat) (l_0 : (List D59)) (most_1 : Int) (i_6 : Int) (out_5 : (List D29)) : Option (Lo (((List D59) × Int × Int × Unit) × ((List D29) × Unit)) ((Unit) × ((List D29) × Unit)) ref20_Corners_R) :=
  ref20_Corners_6 N l_0 most_1 i_6 (0 : Int) out_5
noncomputable def ref20_Corners_3 (N : Nat) (l_0 : (List D59)) (most_1 : Int) (i_6 : Int) (out_5 : (List D29)) : Option (Lo (((List D59) × Int × Int × Unit) × ((List D29) × Unit)) ((Unit) × ((List D29) × Unit)) ref20_Corners_R) :=
  ref20_Corners_5 N l_0 most_1 i_6 out_5
noncomputable def ref20_Corners_s2 (N : Nat) (l_0 : (List D59)) (most_1 : Int) (i_6 : Int) (out_5 : (List D29)) : Option (Lo (((List D59) × Int × Int × Unit) × ((List D29) × Unit)) ((Unit) × ((List D29) × Unit)) ref20_Corners_R) :=
  bif (decide (i_6 < (l_0.length : Int))) then
    ref20_Corners_3 N l_0 most_1 i_6 out_5
  else
    some (.br ((()), (out_5, ())))
noncomputable def ref20_Corners_15 (N : Nat) (out_5 : (List D29)) : Option ref20_Corners_R :=
  some ((()), (out_5, ()))
noncomputable def ref20_Corners_1 (N : Nat) (l_0 : (List D59)) (most_1 : Int) (i_6 : Int) (out_5 : (List D29)) : Option ref20_Corners_R :=
  loopK N (fun y => ref20_Corners_s2 N y.1.1 y.1.2.1 y.1.2.2.1 y.2.1) (fun (e : ((Unit) × ((List D29) × Unit))) => ref20_Corners_15 N e.2.1) ((l_0, most_1, i_6, ()), (out_5, ()))
noncomputable def ref20_Corners (N : Nat) (l_0 : (List D59)) (most_1 : Int) : Option ref20_Corners_R :=
  ref20_Corners_1 N l_0 most_1 (0 : Int) ([] : List D29)
noncomputable def ref20_Corners_C (N : Nat) : Ctx := ⟨141, G_tys, [(90, ref20_ends_ctr N)], G_globs⟩
noncomputable def ref20_Corners_S0 : Spec := ⟨[.val (.sl T59), .val .i64, .row 0, .val .i64, .val .i64, .row 1, .row 2, .row 3, .row 4, .row 5, .val .i64], [(.row 30 T29, .pos 2), (.row 28 T27, .pos 5), (.row 28 T27, .pos 6), (.row 28 T27, .pos 7), (.row 28 T27, .pos 8), (.row 28 T27, .pos 9)]⟩
noncomputable def ref20_Corners_S1 : Spec := ⟨[.val (.sl T59), .val .i64, .row 0, .val .i64, .val .i64], [(.row 30 T29, .pos 2)]⟩
noncomputable def ref20_Corners_S2 : Spec := ⟨[.val (.sl T59), .val .i64, .row 0, .val .i64], [(.row 30 T29, .pos 2)]⟩
noncomputable def ref20_Corners_S3 : Spec := ⟨[.row 0], [(.row 30 T29, .pos 0)]⟩
noncomputable def ref20_Corners_S4 : Spec := ⟨[.val (.sl T59), .val .i64], []⟩
noncomputable def ref20_Corners_K (_N : Nat) : XE → GS → Option ref20_Corners_R := retK 0 [4] [false] ref20_Corners_S3
noncomputable def ref20_Corners_L : List Code := (bodyOf (some Try.f40))
noncomputable def ref20_Corners_L2 : List Code := (loopOf (ref20_Corners_L[3]?))
noncomputable def ref20_Corners_L4b : List Code := (blockOf (ref20_Corners_L2[2]?))
noncomputable def ref20_Corners_L7 : List Code := (loopOf (ref20_Corners_L4b[1]?))
noncomputable def ref20_Corners_L9b : List Code := (blockOf (ref20_Corners_L7[2]?))
noncomputable def ref20_Corners_L12 : List Code := (loopOf (ref20_Corners_L9b[3]?))
noncomputable def ref20_Corners_K2 (N : Nat) : XE → GS → Option (Lo (((List D59) × Int × Int × Unit) × ((List D29) × Unit)) ((Unit) × ((List D29) × Unit)) ref20_Corners_R) := roundK (some 0) (fit 0 [0, 1, 5, 6] ref20_Corners_S2) (fit 0 [5] ref20_Corners_S3) (ref20_Corners_K N)
noncomputable def ref20_Corners_K4 (N : Nat) : XE → GS → Option (Lo (((List D59) × Int × Int × Unit) × ((List D29) × Unit)) ((Unit) × ((List D29) × Unit)) ref20_Corners_R) := blockK 1 (goK 0 [0, 1, 5, 6] ref20_Corners_S2 (fun y => ref20_Corners_14 N y.1.1 y.1.2.1 y.1.2.2.1 y.2.1)) (ref20_Corners_K2 N)
noncomputable def ref20_Corners_K7 (N : Nat) : XE → GS → Option (Lo (((List D59) × Int × Int × Int × Unit) × ((List D29) × Unit)) (((List D59) × Int × Int × Unit) × ((List D29) × Unit)) (Lo (((List D59) × Int × Int × Unit) × ((List D29) × Unit)) ((Unit) × ((List D29) × Unit)) ref20_Corners_R)) := roundK (some 2) (fit 0 [0, 1, 5, 6, 7] ref20_Corners_S1) (fit 0 [0, 1, 5, 6] ref20_Corners_S2) (ref20_Corners_K4 N)
noncomputable def ref20_Corners_K9 (N : Nat) : XE → GS → Option (Lo (((List D59) × Int × Int × Int × Unit) × ((List D29) × Unit)) (((List D59) × Int × Int × Unit) × ((List D29) × Unit)) (Lo (((List D59) × Int × Int × Unit) × ((List D29) × Unit)) ((Unit) × ((List D29) × Unit)) ref20_Corners_R)) := blockK 3 (goK 0 [0, 1, 5, 6, 7] ref20_Corners_S1 (fun y => ref20_Corners_13 N y.1.1 y.1.2.1 y.1.2.2.1 y.1.2.2.2.1 y.2.1)) (ref20_Corners_K7 N)
noncomputable def ref20_Corners_K12 (N : Nat) : XE → GS → Option (Lo (((List D59) × Int × Int × Int × Int × Unit) × ((List D29) × (List D27) × (List D27) × (List D27) × (List D27) × (List D27) × Unit)) (((List D59) × Int × Int × Int × Unit) × ((List D29) × Unit)) (Lo (((List D59) × Int × Int × Int × Unit) × ((List D29) × Unit)) (((List D59) × Int × Int × Unit) × ((List D29) × Unit)) (Lo (((List D59) × Int × Int × Unit) × ((List D29) × Unit)) ((Unit) × ((List D29) × Unit)) ref20_Corners_R))) := roundK (some 4) (fit 0 [0, 1, 5, 6, 7, 9, 10, 11, 12, 13, 14] ref20_Corners_S0) (fit 0 [0, 1, 5, 6, 7] ref20_Corners_S1) (ref20_Corners_K9 N)
theorem ref20_Corners_s12_b {E : Env} (N : Nat) (hb : Base Try.prog (ref20_Corners_C N) E 0) : Blk Try.prog (ref20_Corners_C N) E [0, 1, 5, 6, 7, 9, 10, 11, 12, 13, 14] ref20_Corners_S0 (ref20_Corners_L12.drop 0) (fun y => ref20_Corners_s12 N y.1.1 y.1.2.1 y.1.2.2.1 y.1.2.2.2.1 y.1.2.2.2.2.1 y.2.1 y.2.2.1 y.2.2.2.1 y.2.2.2.2.1 y.2.2.2.2.2.1 y.2.2.2.2.2.2.1) (ref20_Corners_K12 N) :=
  Blk.chunkAt hb 4 (X := (ref20_Corners_K12 N .normal)) (NxOk.end (by kernel_rfl)) rfl (fun x => by kernel_rfl)
theorem ref20_Corners_13_b {E : Env} (N : Nat) (hb : Base Try.prog (ref20_Corners_C N) E 0) : Blk Try.prog (ref20_Corners_C N) E [0, 1, 5, 6, 7] ref20_Corners_S1 (ref20_Corners_L7.drop 3) (fun y => ref20_Corners_13 N y.1.1 y.1.2.1 y.1.2.2.1 y.1.2.2.2.1 y.2.1) (ref20_Corners_K7 N) :=
  Blk.chunkAt hb 1 (X := (ref20_Corners_K7 N .normal)) (NxOk.end (by kernel_rfl)) rfl (fun x => by kernel_rfl)
theorem ref20_Corners_11_b {E : Env} (N : Nat) (hb : Base Try.prog (ref20_Corners_C N) E 0) : Blk Try.prog (ref20_Corners_C N) E [0, 1, 5, 6, 7, 9, 10, 11, 12, 13, 14] ref20_Corners_S0 (ref20_Corners_L9b.drop 3) (fun y => ref20_Corners_11 N y.1.1 y.1.2.1 y.1.2.2.1 y.1.2.2.2.1 y.1.2.2.2.2.1 y.2.1 y.2.2.1 y.2.2.2.1 y.2.2.2.2.1 y.2.2.2.2.2.1 y.2.2.2.2.2.2.1) (ref20_Corners_K9 N) :=
  Blk.loopAt (Nf := N) (hns := [0, 1, 5, 6, 7, 9, 10, 11, 12, 13, 14]) (ans := [0, 1, 5, 6, 7]) (hc := ref20_Corners_S0) (ac := ref20_Corners_S1) (bid := 4) (step := (fun y => ref20_Corners_s12 N y.1.1 y.1.2.1 y.1.2.2.1 y.1.2.2.2.1 y.1.2.2.2.2.1 y.2.1 y.2.2.1 y.2.2.2.1 y.2.2.2.2.1 y.2.2.2.2.2.1 y.2.2.2.2.2.2.1)) (J := (fun e => (ref20_Corners_K9 N .normal) (ref20_Corners_S1.st [0, 1, 5, 6, 7] e))) hb (by kernel_rfl) (Blk.into (X := (ref20_Corners_K9 N .normal)) (NxOk.end (by kernel_rfl)) (fun x => by kernel_rfl)) (ref20_Corners_s12_b N hb) (fun x => by kernel_rfl)
theorem ref20_Corners_10_b {E : Env} (N : Nat) (hb : Base Try.prog (ref20_Corners_C N) E 0) : Blk Try.prog (ref20_Corners_C N) E [0, 1, 5, 6, 7] ref20_Corners_S1 (ref20_Corners_L9b.drop 0) (fun y => ref20_Corners_10 N y.1.1 y.1.2.1 y.1.2.2.1 y.1.2.2.2.1 y.2.1) (ref20_Corners_K9 N) :=
  Blk.chunkAt hb 3 (X := (goK 0 [0, 1, 5, 6, 7, 9, 10, 11, 12, 13, 14] ref20_Corners_S0 (fun y => ref20_Corners_11 N y.1.1 y.1.2.1 y.1.2.2.1 y.1.2.2.2.1 y.1.2.2.2.2.1 y.2.1 y.2.2.1 y.2.2.2.1 y.2.2.2.2.1 y.2.2.2.2.2.1 y.2.2.2.2.2.2.1))) (NxOk.go hb (ref20_Corners_11_b N hb)) rfl (fun x => by kernel_rfl)
theorem ref20_Corners_8_b {E : Env} (N : Nat) (hb : Base Try.prog (ref20_Corners_C N) E 0) : Blk Try.prog (ref20_Corners_C N) E [0, 1, 5, 6, 7] ref20_Corners_S1 (ref20_Corners_L7.drop 2) (fun y => ref20_Corners_8 N y.1.1 y.1.2.1 y.1.2.2.1 y.1.2.2.2.1 y.2.1) (ref20_Corners_K7 N) :=
  Blk.blockAt (bid := 3) (X := (goK 0 [0, 1, 5, 6, 7] ref20_Corners_S1 (fun y => ref20_Corners_13 N y.1.1 y.1.2.1 y.1.2.2.1 y.1.2.2.2.1 y.2.1))) (Y := (goK 0 [0, 1, 5, 6, 7] ref20_Corners_S1 (fun y => ref20_Corners_10 N y.1.1 y.1.2.1 y.1.2.2.1 y.1.2.2.2.1 y.2.1))) (by kernel_rfl) (NxOk.go hb (ref20_Corners_13_b N hb)) (NxOk.go hb (ref20_Corners_10_b N hb)) (fun x => by kernel_rfl)
theorem ref20_Corners_s7_b {E : Env} (N : Nat) (hb : Base Try.prog (ref20_Corners_C N) E 0) : Blk Try.prog (ref20_Corners_C N) E [0, 1, 5, 6, 7] ref20_Corners_S1 (ref20_Corners_L7.drop 0) (fun y => ref20_Corners_s7 N y.1.1 y.1.2.1 y.1.2.2.1 y.1.2.2.2.1 y.2.1) (ref20_Corners_K7 N) :=
  Blk.chunkAt hb 2 (X := (goK 0 [0, 1, 5, 6, 7] ref20_Corners_S1 (fun y => ref20_Corners_8 N y.1.1 y.1.2.1 y.1.2.2.1 y.1.2.2.2.1 y.2.1))) (NxOk.go hb (ref20_Corners_8_b N hb)) rfl (fun x => by kernel_rfl)
theorem ref20_Corners_14_b {E : Env} (N : Nat) (hb : Base Try.prog (ref20_Corners_C N) E 0) : Blk Try.prog (ref20_Corners_C N) E [0, 1, 5, 6] ref20_Corners_S2 (ref20_Corners_L2.drop 3) (fun y => ref20_Corners_14 N y.1.1 y.1.2.1 y.1.2.2.1 y.2.1) (ref20_Corners_K2 N) :=
  Blk.chunkAt hb 1 (X := (ref20_Corners_K2 N .normal)) (NxOk.end (by kernel_rfl)) rfl (fun x => by kernel_rfl)
theorem ref20_Corners_6_b {E : Env} (N : Nat) (hb : Base Try.prog (ref20_Corners_C N) E 0) : Blk Try.prog (ref20_Corners_C N) E [0, 1, 5, 6, 7] ref20_Corners_S1 (ref20_Corners_L4b.drop 1) (fun y => ref20_Corners_6 N y.1.1 y.1.2.1 y.1.2.2.1 y.1.2.2.2.1 y.2.1) (ref20_Corners_K4 N) :=
  Blk.loopAt (Nf := N) (hns := [0, 1, 5, 6, 7]) (ans := [0, 1, 5, 6]) (hc := ref20_Corners_S1) (ac := ref20_Corners_S2) (bid := 2) (step := (fun y => ref20_Corners_s7 N y.1.1 y.1.2.1 y.1.2.2.1 y.1.2.2.2.1 y.2.1)) (J := (fun e => (ref20_Corners_K4 N .normal) (ref20_Corners_S2.st [0, 1, 5, 6] e))) hb (by kernel_rfl) (Blk.into (X := (ref20_Corners_K4 N .normal)) (NxOk.end (by kernel_rfl)) (fun x => by kernel_rfl)) (ref20_Corners_s7_b N hb) (fun x => by kernel_rfl)
theorem ref20_Corners_5_b {E : Env} (N : Nat) (hb : Base Try.prog (ref20_Corners_C N) E 0) : Blk Try.prog (ref20_Corners_C N) E [0, 1, 5, 6] ref20_Corners_S2 (ref20_Corners_L4b.drop 0) (fun y => ref20_Corners_5 N y.1.1 y.1.2.1 y.1.2.2.1 y.2.1) (ref20_Corners_K4 N) :=
  Blk.chunkAt hb 1 (X := (goK 0 [0, 1, 5, 6, 7] ref20_Corners_S1 (fun y => ref20_Corners_6 N y.1.1 y.1.2.1 y.1.2.2.1 y.1.2.2.2.1 y.2.1))) (NxOk.go hb (ref20_Corners_6_b N hb)) rfl (fun x => by kernel_rfl)
theorem ref20_Corners_3_b {E : Env} (N : Nat) (hb : Base Try.prog (ref20_Corners_C N) E 0) : Blk Try.prog (ref20_Corners_C N) E [0, 1, 5, 6] ref20_Corners_S2 (ref20_Corners_L2.drop 2) (fun y => ref20_Corners_3 N y.1.1 y.1.2.1 y.1.2.2.1 y.2.1) (ref20_Corners_K2 N) :=
  Blk.blockAt (bid := 1) (X := (goK 0 [0, 1, 5, 6] ref20_Corners_S2 (fun y => ref20_Corners_14 N y.1.1 y.1.2.1 y.1.2.2.1 y.2.1))) (Y := (goK 0 [0, 1, 5, 6] ref20_Corners_S2 (fun y => ref20_Corners_5 N y.1.1 y.1.2.1 y.1.2.2.1 y.2.1))) (by kernel_rfl) (NxOk.go hb (ref20_Corners_14_b N hb)) (NxOk.go hb (ref20_Corners_5_b N hb)) (fun x => by kernel_rfl)
theorem ref20_Corners_s2_b {E : Env} (N : Nat) (hb : Base Try.prog (ref20_Corners_C N) E 0) : Blk Try.prog (ref20_Corners_C N) E [0, 1, 5, 6] ref20_Corners_S2 (ref20_Corners_L2.drop 0) (fun y => ref20_Corners_s2 N y.1.1 y.1.2.1 y.1.2.2.1 y.2.1) (ref20_Corners_K2 N) :=
  Blk.chunkAt hb 2 (X := (goK 0 [0, 1, 5, 6] ref20_Corners_S2 (fun y => ref20_Corners_3 N y.1.1 y.1.2.1 y.1.2.2.1 y.2.1))) (NxOk.go hb (ref20_Corners_3_b N hb)) rfl (fun x => by kernel_rfl)
theorem ref20_Corners_15_b {E : Env} (N : Nat) (hb : Base Try.prog (ref20_Corners_C N) E 0) : Blk Try.prog (ref20_Corners_C N) E [5] ref20_Corners_S3 (ref20_Corners_L.drop 4) (fun y => ref20_Corners_15 N y.2.1) (ref20_Corners_K N) :=
  Blk.chunkAt hb 2 (X := (ref20_Corners_K N .normal)) (NxOk.end (by kernel_rfl)) rfl (fun x => by kernel_rfl)
theorem ref20_Corners_1_b {E : Env} (N : Nat) (hb : Base Try.prog (ref20_Corners_C N) E 0) : Blk Try.prog (ref20_Corners_C N) E [0, 1, 5, 6] ref20_Corners_S2 (ref20_Corners_L.drop 3) (fun y => ref20_Corners_1 N y.1.1 y.1.2.1 y.1.2.2.1 y.2.1) (ref20_Corners_K N) :=
  Blk.loopAt (Nf := N) (hns := [0, 1, 5, 6]) (ans := [5]) (hc := ref20_Corners_S2) (ac := ref20_Corners_S3) (bid := 0) (step := (fun y => ref20_Corners_s2 N y.1.1 y.1.2.1 y.1.2.2.1 y.2.1)) (J := (fun e => (goK 0 [5] ref20_Corners_S3 (fun y => ref20_Corners_15 N y.2.1)) (ref20_Corners_S3.st [5] e))) hb (by kernel_rfl) (Blk.into (X := (goK 0 [5] ref20_Corners_S3 (fun y => ref20_Corners_15 N y.2.1))) (NxOk.go hb (ref20_Corners_15_b N hb)) (fun x => by kernel_rfl)) (ref20_Corners_s2_b N hb) (fun x => by kernel_rfl)
theorem ref20_Corners_b {E : Env} (N : Nat) (hb : Base Try.prog (ref20_Corners_C N) E 0) : Blk Try.prog (ref20_Corners_C N) E (List.range ref20_Corners_S4.ks.length) ref20_Corners_S4 (ref20_Corners_L.drop 0) (fun y => ref20_Corners N y.1.1 y.1.2.1) (ref20_Corners_K N) :=
  Blk.chunkAt hb 3 (X := (goK 0 [0, 1, 5, 6] ref20_Corners_S2 (fun y => ref20_Corners_1 N y.1.1 y.1.2.1 y.1.2.2.1 y.2.1))) (NxOk.go hb (ref20_Corners_1_b N hb)) rfl (fun x => by kernel_rfl)
noncomputable def ref20_Corners_ctr (N : Nat) : Ctr := ⟨ref20_Corners_S4, ref20_Corners_S3.un [false], 0, (fun y => ref20_Corners N y.1.1 y.1.2.1)⟩
theorem ref20_Corners_ctrs (N : Nat) : CtrsOk Try.prog (ref20_Corners_C N) := ctrs_of (Γ := ref20_Corners_C N) (by
  intro p hp
  simp only [ref20_Corners_C, List.mem_cons, List.not_mem_nil, or_false] at hp
  rcases hp with rfl
  · exact ref20_ends_ok N)
theorem ref20_Corners_ok (N : Nat) : Ctr.ok Try.prog G_globs 40 (ref20_Corners_ctr N) :=
  ctr_fn (Γ := ref20_Corners_C N) (rfit := ref20_Corners_S3) (bs := [false]) (res := [4]) (by kernel_rfl) (tys_ok G_tys_ok) (ref20_Corners_ctrs N) Try.func40 (by kernel_rfl) (by kernel_rfl) Try.ntmps40 (by kernel_rfl) (by kernel_rfl) (by kernel_rfl) (by kernel_rfl) (fun E hb => ref20_Corners_b N hb)
end Go.Proofs.Ytgbkkfpheahdfaa
namespace Go.Proofs.Ytgbkkfpheahdfaa
open Go
set_option maxRecDepth 100000
set_option linter.unusedVariables false
/-! (*ipsecgate/ipsecgatemake.Codes).port -/
abbrev make_Codes_port_R : Type := ((Int × Unit) × (((List UInt8) × (Int × Unit)) × Unit))
noncomputable def make_Codes_port (N : Nat) (c_0 : ((List UInt8) × (Int × Unit))) : Option make_Codes_port_R :=
  Option.bind (make_Codes_Next N (5 : Int) c_0) fun y1 =>
  bif inR y1.1.1 (([(0 : Int), (80 : Int), (443 : Int), (65530 : Int), (1 : Int)] : List Int).length) then
  Option.bind (make_Codes_Next N (6 : Int) y1.2.1) fun y3 =>
  some (((w64 ((([(0 : Int), (80 : Int), (443 : Int), (65530 : Int), (1 : Int)] : List Int).getD y1.1.1.toNat (0 : Int)) + y3.1.1)), ()), (y3.2.1, ()))
  else none
noncomputable def make_Codes_port_C (N : Nat) : Ctx := ⟨11, G_tys, [(36, make_Codes_Next_ctr N)], G_globs⟩
noncomputable def make_Codes_port_S0 : Spec := ⟨[.ref 0 (.pair (.sl .u8) (.pair .i64 .unit))], [(.box 113 (.pair (.sl .u8) (.pair .i64 .unit)), .pos 0)]⟩
noncomputable def make_Codes_port_S1 : Spec := ⟨[.val .i64], [(.box 113 (.pair (.sl .u8) (.pair .i64 .unit)), .fix 0)]⟩
noncomputable def make_Codes_port_K (_N : Nat) : XE → GS → Option make_Codes_port_R := retK 1 [2] [false] make_Codes_port_S1
noncomputable def make_Codes_port_L : List Code := (bodyOf (some Try.f85))
theorem make_Codes_port_b {E : Env} (N : Nat) (hb : Base Try.prog (make_Codes_port_C N) E 1) : Blk Try.prog (make_Codes_port_C N) E (List.range make_Codes_port_S0.ks.length) make_Codes_port_S0 (make_Codes_port_L.drop 0) (fun y => make_Codes_port N y.2.1) (make_Codes_port_K N) :=
  Blk.chunkAt hb 3 (X := (make_Codes_port_K N .normal)) (NxOk.end (by kernel_rfl)) rfl (fun x => by kernel_rfl)
noncomputable def make_Codes_port_ctr (N : Nat) : Ctr := ⟨make_Codes_port_S0, make_Codes_port_S1.un [false], 1, (fun y => make_Codes_port N y.2.1)⟩
theorem make_Codes_port_ctrs (N : Nat) : CtrsOk Try.prog (make_Codes_port_C N) := ctrs_of (Γ := make_Codes_port_C N) (by
  intro p hp
  simp only [make_Codes_port_C, List.mem_cons, List.not_mem_nil, or_false] at hp
  rcases hp with rfl
  · exact make_Codes_Next_ok N)
theorem make_Codes_port_ok (N : Nat) : Ctr.ok Try.prog G_globs 85 (make_Codes_port_ctr N) :=
  ctr_fn (Γ := make_Codes_port_C N) (rfit := make_Codes_port_S1) (bs := [false]) (res := [2]) (by kernel_rfl) (tys_ok G_tys_ok) (make_Codes_port_ctrs N) Try.func85 (by kernel_rfl) (by kernel_rfl) Try.ntmps85 (by kernel_rfl) (by kernel_rfl) (by kernel_rfl) (by kernel_rfl) (fun E hb => make_Codes_port_b N hb)
end Go.Proofs.Ytgbkkfpheahdfaa
namespace Go.Proofs.Ytgbkkfpheahdfaa
open Go
set_option maxRecDepth 100000
set_option linter.unusedVariables false
/-! (*ipsecgate/ipsecgatemake.Codes).Packet -/
abbrev make_Codes_Packet_R : Type := ((D29 × Unit) × (((List UInt8) × (Int × Unit)) × Unit))
noncomputable def make_Codes_Packet_1 (N : Nat) (family_3 : Int) (p0 : ((List UInt8) × (Int × Unit))) (t_2 : D29) : Option make_Codes_Packet_R :=
  Option.bind (make_Codes_Address N family_3 p0) fun y3 =>
  Option.bind (make_Codes_Address N family_3 y3.2.1) fun y4 =>
  Option.bind (make_Codes_Next N (8 : Int) y4.2.1) fun y5 =>
  bif inR y5.1.1 (([(6 : Int), (17 : Int), (1 : Int), (58 : Int), (0 : Int), (255 : Int), (8 : Int), (3 : Int)] : List Int).length) then
  let x6 := (([(6 : Int), (17 : Int), (1 : Int), (58 : Int), (0 : Int), (255 : Int), (8 : Int), (3 : Int)] : List Int).getD y5.1.1.toNat (0 : Int))
  Option.bind (make_Codes_Next N (4 : Int) y5.2.1) fun y7 =>
  bif (decide (y7.1.1 = (0 : Int))) then
    some (((y3.1.1, y4.1.1, x6, (-1 : Int), (-1 : Int), ()), ()), (y7.2.1, ()))
  else
    bif (decide (y7.1.1 = (1 : Int))) then
      Option.bind (make_Codes_port N y7.2.1) fun y10 =>
      some (((y3.1.1, y4.1.1, x6, y10.1.1, (-1 : Int), ()), ()), (y10.2.1, ()))
    else
      Option.bind (make_Codes_port N y7.2.1) fun y11 =>
      Option.bind (make_Codes_port N y11.2.1) fun y12 =>
      some (((y3.1.1, y4.1.1, x6, y11.1.1, y12.1.1, ()), ()), (y12.2.1, ()))
  else none
noncomputable def make_Codes_Packet (N : Nat) (c_0 : ((List UInt8) × (Int × Unit))) : Option make_Codes_Packet_R :=
  Option.bind (make_Codes_Next N (4 : Int) c_0) fun y1 =>
  bif (decide (y1.1.1 = (3 : Int))) then
    make_Codes_Packet_1 N (6 : Int) y1.2.1 (((0 : Int), (0 : UInt64), (0 : UInt64), ()), ((0 : Int), (0 : UInt64), (0 : UInt64), ()), (0 : Int), (0 : Int), (0 : Int), ())
  else
    make_Codes_Packet_1 N (4 : Int) y1.2.1 (((0 : Int), (0 : UInt64), (0 : UInt64), ()), ((0 : Int), (0 : UInt64), (0 : UInt64), ()), (0 : Int), (0 : Int), (0 : Int), ())
noncomputable def make_Codes_Packet_C (N : Nat) : Ctx := ⟨38, G_tys, [(36, make_Codes_Next_ctr N), (55, make_Codes_Address_ctr N), (85, make_Codes_port_ctr N)], G_globs⟩
noncomputable def make_Codes_Packet_S0 : Spec := ⟨[.ref 0 (.pair (.sl .u8) (.pair .i64 .unit)), .ref 1 T29, .val .i64], [(.box 113 (.pair (.sl .u8) (.pair .i64 .unit)), .fix 0), (.box 30 T29, .pos 1)]⟩
noncomputable def make_Codes_Packet_S1 : Spec := ⟨[.ref 0 (.pair (.sl .u8) (.pair .i64 .unit))], [(.box 113 (.pair (.sl .u8) (.pair .i64 .unit)), .pos 0)]⟩
noncomputable def make_Codes_Packet_S2 : Spec := ⟨[.fp T29], [(.box 113 (.pair (.sl .u8) (.pair .i64 .unit)), .fix 0)]⟩
noncomputable def make_Codes_Packet_K (_N : Nat) : XE → GS → Option make_Codes_Packet_R := retK 1 [2] [true] make_Codes_Packet_S2
noncomputable def make_Codes_Packet_L : List Code := (bodyOf (some Try.f35))
theorem make_Codes_Packet_1_b {E : Env} (N : Nat) (hb : Base Try.prog (make_Codes_Packet_C N) E 1) : Blk Try.prog (make_Codes_Packet_C N) E [0, 2, 3] make_Codes_Packet_S0 (make_Codes_Packet_L.drop 4) (fun y => make_Codes_Packet_1 N y.1.1 y.2.1 y.2.2.1) (make_Codes_Packet_K N) :=
  Blk.chunkAt hb 6 (X := (make_Codes_Packet_K N .normal)) (NxOk.end (by kernel_rfl)) rfl (fun x => by kernel_rfl)
theorem make_Codes_Packet_b {E : Env} (N : Nat) (hb : Base Try.prog (make_Codes_Packet_C N) E 1) : Blk Try.prog (make_Codes_Packet_C N) E (List.range make_Codes_Packet_S1.ks.length) make_Codes_Packet_S1 (make_Codes_Packet_L.drop 0) (fun y => make_Codes_Packet N y.2.1) (make_Codes_Packet_K N) :=
  Blk.chunkAt hb 4 (X := (goK 1 [0, 2, 3] make_Codes_Packet_S0 (fun y => make_Codes_Packet_1 N y.1.1 y.2.1 y.2.2.1))) (NxOk.go hb (make_Codes_Packet_1_b N hb)) rfl (fun x => by kernel_rfl)
noncomputable def make_Codes_Packet_ctr (N : Nat) : Ctr := ⟨make_Codes_Packet_S1, make_Codes_Packet_S2.un [true], 1, (fun y => make_Codes_Packet N y.2.1)⟩
theorem make_Codes_Packet_ctrs (N : Nat) : CtrsOk Try.prog (make_Codes_Packet_C N) := ctrs_of (Γ := make_Codes_Packet_C N) (by
  intro p hp
  simp only [make_Codes_Packet_C, List.mem_cons, List.not_mem_nil, or_false] at hp
  rcases hp with rfl | rfl | rfl
  · exact make_Codes_Next_ok N
  · exact make_Codes_Address_ok N
  · exact make_Codes_port_ok N)
theorem make_Codes_Packet_ok (N : Nat) : Ctr.ok Try.prog G_globs 35 (make_Codes_Packet_ctr N) :=
  ctr_fn (Γ := make_Codes_Packet_C N) (rfit := make_Codes_Packet_S2) (bs := [true]) (res := [2]) (by kernel_rfl) (tys_ok G_tys_ok) (make_Codes_Packet_ctrs N) Try.func35 (by kernel_rfl) (by kernel_rfl) Try.ntmps35 (by kernel_rfl) (by kernel_rfl) (by kernel_rfl) (by kernel_rfl) (fun E hb => make_Codes_Packet_b N hb)
end Go.Proofs.Ytgbkkfpheahdfaa
namespace Go.Proofs.Ytgbkkfpheahdfaa
open Go
set_option maxRecDepth 100000
set_option linter.unusedVariables false
/-! ipsecgate/ipsecgateref20.Turn -/
abbrev ref20_Turn_R : Type := ((D29 × Unit) × (Unit))
noncomputable def ref20_Turn (N : Nat) (p_0 : D29) (outbound_1 : Bool) : Option ref20_Turn_R :=
  bif outbound_1 then
    some ((p_0, ()), (()))
  else
    some (((p_0.2.1, p_0.1, p_0.2.2.1, p_0.2.2.2.2.1, p_0.2.2.2.1, ()), ()), (()))
noncomputable def ref20_Turn_C (N : Nat) : Ctx := ⟨18, G_tys, [], G_globs⟩
noncomputable def ref20_Turn_S0 : Spec := ⟨[.val T29, .val .bool], []⟩
noncomputable def ref20_Turn_S1 : Spec := ⟨[.fp T29], []⟩
noncomputable def ref20_Turn_K (_N : Nat) : XE → GS → Option ref20_Turn_R := retK 0 [4] [true] ref20_Turn_S1
noncomputable def ref20_Turn_L : List Code := (bodyOf (some Try.f106))
theorem ref20_Turn_b {E : Env} (N : Nat) (hb : Base Try.prog (ref20_Turn_C N) E 0) : Blk Try.prog (ref20_Turn_C N) E (List.range ref20_Turn_S0.ks.length) ref20_Turn_S0 (ref20_Turn_L.drop 0) (fun y => ref20_Turn N y.1.1 y.1.2.1) (ref20_Turn_K N) :=
  Blk.chunkAt hb 5 (X := (ref20_Turn_K N .normal)) (NxOk.end (by kernel_rfl)) rfl (fun x => by kernel_rfl)
noncomputable def ref20_Turn_ctr (N : Nat) : Ctr := ⟨ref20_Turn_S0, ref20_Turn_S1.un [true], 0, (fun y => ref20_Turn N y.1.1 y.1.2.1)⟩
theorem ref20_Turn_ctrs (N : Nat) : CtrsOk Try.prog (ref20_Turn_C N) := ctrs_nil rfl
theorem ref20_Turn_ok (N : Nat) : Ctr.ok Try.prog G_globs 106 (ref20_Turn_ctr N) :=
  ctr_fn (Γ := ref20_Turn_C N) (rfit := ref20_Turn_S1) (bs := [true]) (res := [4]) (by kernel_rfl) (tys_ok G_tys_ok) (ref20_Turn_ctrs N) Try.func106 (by kernel_rfl) (by kernel_rfl) Try.ntmps106 (by kernel_rfl) (by kernel_rfl) (by kernel_rfl) (by kernel_rfl) (fun E hb => ref20_Turn_b N hb)
end Go.Proofs.Ytgbkkfpheahdfaa
namespace Go.Proofs.Ytgbkkfpheahdfaa
open Go
set_option maxRecDepth 100000
set_option linter.unusedVariables false
/-! ipsecgate/ipsecgateref05.Between -/
abbrev ref05_Between_R : Type := ((Bool × Unit) × (Unit))
noncomputable def ref05_Between (N : Nat) (a_0 : D27) (lo_1 : D27) (hi_2 : D27) : Option ref05_Between_R :=
  bif (decide (a_0.1 = lo_1.1)) then
    Option.bind (ref05_Less N a_0 lo_1) fun y2 =>
    bif (!y2.1.1) then
      Option.bind (ref05_Less N hi_2 a_0) fun y4 =>
      some (((!y4.1.1), ()), (()))
    else
      some ((false, ()), (()))
  else
    some ((false, ()), (()))
noncomputable def ref05_Between_C (N : Nat) : Ctx := ⟨24, G_tys, [(97, ref05_Less_ctr N)], G_globs⟩
noncomputable def ref05_Between_S0 : Spec := ⟨[.val T27, .val T27, .val T27], []⟩
noncomputable def ref05_Between_S1 : Spec := ⟨[.val .bool], []⟩
noncomputable def ref05_Between_K (_N : Nat) : XE → GS → Option ref05_Between_R := retK 0 [6] [false] ref05_Between_S1
noncomputable def ref05_Between_L : List Code := (bodyOf (some Try.f107))
theorem ref05_Between_b {E : Env} (N : Nat) (hb : Base Try.prog (ref05_Between_C N) E 0) : Blk Try.prog (ref05_Between_C N) E (List.range ref05_Between_S0.ks.length) ref05_Between_S0 (ref05_Between_L.drop 0) (fun y => ref05_Between N y.1.1 y.1.2.1 y.1.2.2.1) (ref05_Between_K N) :=
  Blk.chunkAt hb 3 (X := (ref05_Between_K N .normal)) (NxOk.end (by kernel_rfl)) rfl (fun x => by kernel_rfl)
noncomputable def ref05_Between_ctr (N : Nat) : Ctr := ⟨ref05_Between_S0, ref05_Between_S1.un [false], 0, (fun y => ref05_Between N y.1.1 y.1.2.1 y.1.2.2.1)⟩
theorem ref05_Between_ctrs (N : Nat) : CtrsOk Try.prog (ref05_Between_C N) := ctrs_of (Γ := ref05_Between_C N) (by
  intro p hp
  simp only [ref05_Between_C, List.mem_cons, List.not_mem_nil, or_false] at hp
  rcases hp with rfl
  · exact ref05_Less_ok N)
theorem ref05_Between_ok (N : Nat) : Ctr.ok Try.prog G_globs 107 (ref05_Between_ctr N) :=
  ctr_fn (Γ := ref05_Between_C N) (rfit := ref05_Between_S1) (bs := [false]) (res := [6]) (by kernel_rfl) (tys_ok G_tys_ok) (ref05_Between_ctrs N) Try.func107 (by kernel_rfl) (by kernel_rfl) Try.ntmps107 (by kernel_rfl) (by kernel_rfl) (by kernel_rfl) (by kernel_rfl) (fun E hb => ref05_Between_b N hb)
end Go.Proofs.Ytgbkkfpheahdfaa
namespace Go.Proofs.Ytgbkkfpheahdfaa
open Go
set_option maxRecDepth 100000
set_option linter.unusedVariables false
/-! ipsecgate/ipsecgateref20.Has -/
abbrev ref20_Has_R : Type := ((Bool × Unit) × (Unit))
noncomputable def ref20_Has (N : Nat) (b_0 : D45) (p_1 : D29) (outbound_2 : Bool) : Option ref20_Has_R :=
  Option.bind (ref20_Turn N p_1 outbound_2) fun y1 =>
  Option.bind (ref05_Between N y1.1.1.1 b_0.1 b_0.2.1) fun y2 =>
  bif y2.1.1 then
    Option.bind (ref05_Between N y1.1.1.2.1 b_0.2.2.1 b_0.2.2.2.1) fun y3 =>
    bif y3.1.1 then
      bif (decide (b_0.2.2.2.2.1 ≤ y1.1.1.2.2.1)) then
        bif (decide (y1.1.1.2.2.1 ≤ b_0.2.2.2.2.2.1)) then
          bif (decide ((b_0.2.2.2.2.2.2.1.getD 0 (0 : Int)) ≤ y1.1.1.2.2.2.1)) then
            bif (decide (y1.1.1.2.2.2.1 ≤ (b_0.2.2.2.2.2.2.1.getD 1 (0 : Int)))) then
              bif (decide ((b_0.2.2.2.2.2.2.2.1.getD 0 (0 : Int)) ≤ y1.1.1.2.2.2.2.1)) then
                some (((decide (y1.1.1.2.2.2.2.1 ≤ (b_0.2.2.2.2.2.2.2.1.getD 1 (0 : Int)))), ()), (()))
              else
                some ((false, ()), (()))
            else
              some ((false, ()), (()))
          else
            some ((false, ()), (()))
        else
          some ((false, ()), (()))
      else
        some ((false, ()), (()))
    else
      some ((false, ()), (()))
  else
    some ((false, ()), (()))
noncomputable def ref20_Has_C (N : Nat) : Ctx := ⟨73, G_tys, [(106, ref20_Turn_ctr N), (107, ref05_Between_ctr N)], G_globs⟩
noncomputable def ref20_Has_S0 : Spec := ⟨[.val T45, .val T29, .val .bool], []⟩
noncomputable def ref20_Has_S1 : Spec := ⟨[.val .bool], []⟩
noncomputable def ref20_Has_K (_N : Nat) : XE → GS → Option ref20_Has_R := retK 0 [6] [false] ref20_Has_S1
noncomputable def ref20_Has_L : List Code := (bodyOf (some Try.f52))
theorem ref20_Has_b {E : Env} (N : Nat) (hb : Base Try.prog (ref20_Has_C N) E 0) : Blk Try.prog (ref20_Has_C N) E (List.range ref20_Has_S0.ks.length) ref20_Has_S0 (ref20_Has_L.drop 0) (fun y => ref20_Has N y.1.1 y.1.2.1 y.1.2.2.1) (ref20_Has_K N) :=
  Blk.chunkAt hb 4 (X := (ref20_Has_K N .normal)) (NxOk.end (by kernel_rfl)) rfl (fun x => by kernel_rfl)
noncomputable def ref20_Has_ctr (N : Nat) : Ctr := ⟨ref20_Has_S0, ref20_Has_S1.un [false], 0, (fun y => ref20_Has N y.1.1 y.1.2.1 y.1.2.2.1)⟩
theorem ref20_Has_ctrs (N : Nat) : CtrsOk Try.prog (ref20_Has_C N) := ctrs_of (Γ := ref20_Has_C N) (by
  intro p hp
  simp only [ref20_Has_C, List.mem_cons, List.not_mem_nil, or_false] at hp
  rcases hp with rfl | rfl
  · exact ref20_Turn_ok N
  · exact ref05_Between_ok N)
theorem ref20_Has_ok (N : Nat) : Ctr.ok Try.prog G_globs 52 (ref20_Has_ctr N) :=
  ctr_fn (Γ := ref20_Has_C N) (rfit := ref20_Has_S1) (bs := [false]) (res := [6]) (by kernel_rfl) (tys_ok G_tys_ok) (ref20_Has_ctrs N) Try.func52 (by kernel_rfl) (by kernel_rfl) Try.ntmps52 (by kernel_rfl) (by kernel_rfl) (by kernel_rfl) (by kernel_rfl) (fun E hb => ref20_Has_b N hb)
end Go.Proofs.Ytgbkkfpheahdfaa
namespace Go.Proofs.Ytgbkkfpheahdfaa
open Go
set_option maxRecDepth 100000
set_option linter.unusedVariables false
/-! ipsecgate/ipsecgateref22.Rule -/
abbrev ref22_Rule_R : Type := ((Int × Bool × Unit) × (Unit))
noncomputable def ref22_Rule_s7 (N : Nat) (l_0 : (List D59)) (outbound_2 : Bool) (i_8 : Int) (k_9 : Int) (p_4 : D29) : Option (Lo (((List D59) × Bool × Int × Int × Unit) × (D29 × Unit)) (((List D59) × Bool × Int × Unit) × (D29 × Unit)) (Lo (((List D59) × Bool × Int × Unit) × (D29 × Unit)) ((Unit) × (Unit)) ref22_Rule_R)) :=
  bif inR i_8 l_0.length then
  bif (decide (k_9 < ((l_0.getD i_8.toNat ((0 : Int), ([] : List UInt8), ([] : List D45), ())).2.2.1.length : Int))) then
    bif inR i_8 l_0.length then
    let x6 := l_0.getD i_8.toNat ((0 : Int), ([] : List UInt8), ([] : List D45), ())
    bif inR k_9 x6.2.2.1.length then
    Option.bind (ref20_Has N (x6.2.2.1.getD k_9.toNat (((0 : Int), (0 : UInt64), (0 : UInt64), ()), ((0 : Int), (0 : UInt64), (0 : UInt64), ()), ((0 : Int), (0 : UInt64), (0 : UInt64), ()), ((0 : Int), (0 : UInt64), (0 : UInt64), ()), (0 : Int), (0 : Int), (List.replicate 2 (0 : Int)), (List.replicate 2 (0 : Int)), ())) p_4 outbound_2) fun y8 =>
    bif y8.1.1 then
      some (.rt (.rt ((i_8, true, ()), (()))))
    else
      some (.go ((l_0, outbound_2, i_8, (w64 (k_9 + (1 : Int))), ()), (p_4, ())))
    else none
    else none
  else
    some (.br ((l_0, outbound_2, i_8, ()), (p_4, ())))
  else none
noncomputable def ref22_Rule_8 (N : Nat) (l_0 : (List D59)) (outbound_2 : Bool) (i_8 : Int) (p_4 : D29) : Option (Lo (((List D59) × Bool × Int × Unit) × (D29 × Unit)) ((Unit) × (Unit)) ref22_Rule_R) :=
  some (.go ((l_0, outbound_2, (w64 (i_8 + (1 : Int))), ()), (p_4, ())))
noncomputable def ref22_Rule_6 (N : Nat) (l_0 : (List D59)) (outbound_2 : Bool) (i_8 : Int) (k_9 : Int) (p_4 : D29) : Option (Lo (((List D59) × Bool × Int × Unit) × (D29 × Unit)) ((Unit) × (Unit)) ref22_Rule_R) :=
  loopK N (fun y => ref22_Rule_s7 N y.1.1 y.1.2.1 y.1.2.2.1 y.1.2.2.2.1 y.2.1) (fun (e : (((List D59) × Bool × Int × Unit) × (D29 × Unit))) => ref22_Rule_8 N e.1.1 e.1.2.1 e.1.2.2.1 e.2.1) ((l_0, outbound_2, i_8, k_9, ()), (p_4, ()))
noncomputable def ref22_Rule_5 (N : Nat) (l_0 : (List D59)) (outbound_2 : Bool) (i_8 : Int) (p_4 : D29) : Option (Lo (((List D59) × Bool × Int × Unit) × (D29 × Unit)) ((Unit) × (Unit)) ref22_Rule_R) :=
  ref22_Rule_6 N l_0 outbound_2 i_8 (0 : Int) p_4
noncomputable def ref22_Rule_3 (N : Nat) (l_0 : (List D59)) (outbound_2 : Bool) (i_8 : Int) (p_4 : D29) : Option (Lo (((List D59) × Bool × Int × Unit) × (D29 × Unit)) ((Unit) × (Unit)) ref22_Rule_R) :=
  ref22_Rule_5 N l_0 outbound_2 i_8 p_4
noncomputable def ref22_Rule_s2 (N : Nat) (l_0 : (List D59)) (outbound_2 : Bool) (i_8 : Int) (p_4 : D29) : Option (Lo (((List D59) × Bool × Int × Unit) × (D29 × Unit)) ((Unit) × (Unit)) ref22_Rule_R) :=
  bif (decide (i_8 < (l_0.length : Int))) then
    ref22_Rule_3 N l_0 outbound_2 i_8 p_4
  else
    some (.br ((()), (())))
noncomputable def ref22_Rule_9 (N : Nat) : Option ref22_Rule_R :=
  some (((0 : Int), false, ()), (()))
noncomputable def ref22_Rule_1 (N : Nat) (l_0 : (List D59)) (outbound_2 : Bool) (i_8 : Int) (p_4 : D29) : Option ref22_Rule_R :=
  loopK N (fun y => ref22_Rule_s2 N y.1.1 y.1.2.1 y.1.2.2.1 y.2.1) (fun (e : ((Unit) × (Unit))) => ref22_Rule_9 N) ((l_0, outbound_2, i_8, ()), (p_4, ()))
noncomputable def ref22_Rule (N : Nat) (l_0 : (List D59)) (p_1 : D29) (outbound_2 : Bool) : Option ref22_Rule_R :=
  ref22_Rule_1 N l_0 outbound_2 (0 : Int) p_1
noncomputable def ref22_Rule_C (N : Nat) : Ctx := ⟨38, G_tys, [(52, ref20_Has_ctr N)], G_globs⟩
noncomputable def ref22_Rule_S0 : Spec := ⟨[.val (.sl T59), .val .bool, .ref 0 T29, .val .i64, .val .i64], [(.box 30 T29, .pos 2)]⟩
noncomputable def ref22_Rule_S1 : Spec := ⟨[.val (.sl T59), .val .bool, .ref 0 T29, .val .i64], [(.box 30 T29, .pos 2)]⟩
noncomputable def ref22_Rule_S2 : Spec := ⟨[], []⟩
noncomputable def ref22_Rule_S3 : Spec := ⟨[.val (.sl T59), .val T29, .val .bool], []⟩
noncomputable def ref22_Rule_S4 : Spec := ⟨[.val .i64, .val .bool], []⟩
noncomputable def ref22_Rule_K (_N : Nat) : XE → GS → Option ref22_Rule_R := retK 0 [6, 7] [false, false] ref22_Rule_S4
noncomputable def ref22_Rule_L : List Code := (bodyOf (some Try.f41))
noncomputable def ref22_Rule_L2 : List Code := (loopOf (ref22_Rule_L[2]?))
noncomputable def ref22_Rule_L4b : List Code := (blockOf (ref22_Rule_L2[2]?))
noncomputable def ref22_Rule_L7 : List Code := (loopOf (ref22_Rule_L4b[1]?))
noncomputable def ref22_Rule_K2 (N : Nat) : XE → GS → Option (Lo (((List D59) × Bool × Int × Unit) × (D29 × Unit)) ((Unit) × (Unit)) ref22_Rule_R) := roundK (some 0) (fit 0 [0, 2, 4, 8] ref22_Rule_S1) (fit 0 [] ref22_Rule_S2) (ref22_Rule_K N)
noncomputable def ref22_Rule_K4 (N : Nat) : XE → GS → Option (Lo (((List D59) × Bool × Int × Unit) × (D29 × Unit)) ((Unit) × (Unit)) ref22_Rule_R) := blockK 1 (goK 0 [0, 2, 4, 8] ref22_Rule_S1 (fun y => ref22_Rule_8 N y.1.1 y.1.2.1 y.1.2.2.1 y.2.1)) (ref22_Rule_K2 N)
noncomputable def ref22_Rule_K7 (N : Nat) : XE → GS → Option (Lo (((List D59) × Bool × Int × Int × Unit) × (D29 × Unit)) (((List D59) × Bool × Int × Unit) × (D29 × Unit)) (Lo (((List D59) × Bool × Int × Unit) × (D29 × Unit)) ((Unit) × (Unit)) ref22_Rule_R)) := roundK (some 2) (fit 0 [0, 2, 4, 8, 9] ref22_Rule_S0) (fit 0 [0, 2, 4, 8] ref22_Rule_S1) (ref22_Rule_K4 N)
theorem ref22_Rule_s7_b {E : Env} (N : Nat) (hb : Base Try.prog (ref22_Rule_C N) E 0) : Blk Try.prog (ref22_Rule_C N) E [0, 2, 4, 8, 9] ref22_Rule_S0 (ref22_Rule_L7.drop 0) (fun y => ref22_Rule_s7 N y.1.1 y.1.2.1 y.1.2.2.1 y.1.2.2.2.1 y.2.1) (ref22_Rule_K7 N) :=
  Blk.chunkAt hb 4 (X := (ref22_Rule_K7 N .normal)) (NxOk.end (by kernel_rfl)) rfl (fun x => by kernel_rfl)
theorem ref22_Rule_8_b {E : Env} (N : Nat) (hb : Base Try.prog (ref22_Rule_C N) E 0) : Blk Try.prog (ref22_Rule_C N) E [0, 2, 4, 8] ref22_Rule_S1 (ref22_Rule_L2.drop 3) (fun y => ref22_Rule_8 N y.1.1 y.1.2.1 y.1.2.2.1 y.2.1) (ref22_Rule_K2 N) :=
  Blk.chunkAt hb 1 (X := (ref22_Rule_K2 N .normal)) (NxOk.end (by kernel_rfl)) rfl (fun x => by kernel_rfl)
theorem ref22_Rule_6_b {E : Env} (N : Nat) (hb : Base Try.prog (ref22_Rule_C N) E 0) : Blk Try.prog (ref22_Rule_C N) E [0, 2, 4, 8, 9] ref22_Rule_S0 (ref22_Rule_L4b.drop 1) (fun y => ref22_Rule_6 N y.1.1 y.1.2.1 y.1.2.2.1 y.1.2.2.2.1 y.2.1) (ref22_Rule_K4 N) :=
  Blk.loopAt (Nf := N) (hns := [0, 2, 4, 8, 9]) (ans := [0, 2, 4, 8]) (hc := ref22_Rule_S0) (ac := ref22_Rule_S1) (bid := 2) (step := (fun y => ref22_Rule_s7 N y.1.1 y.1.2.1 y.1.2.2.1 y.1.2.2.2.1 y.2.1)) (J := (fun e => (ref22_Rule_K4 N .normal) (ref22_Rule_S1.st [0, 2, 4, 8] e))) hb (by kernel_rfl) (Blk.into (X := (ref22_Rule_K4 N .normal)) (NxOk.end (by kernel_rfl)) (fun x => by kernel_rfl)) (ref22_Rule_s7_b N hb) (fun x => by kernel_rfl)
theorem ref22_Rule_5_b {E : Env} (N : Nat) (hb : Base Try.prog (ref22_Rule_C N) E 0) : Blk Try.prog (ref22_Rule_C N) E [0, 2, 4, 8] ref22_Rule_S1 (ref22_Rule_L4b.drop 0) (fun y => ref22_Rule_5 N y.1.1 y.1.2.1 y.1.2.2.1 y.2.1) (ref22_Rule_K4 N) :=
  Blk.chunkAt hb 1 (X := (goK 0 [0, 2, 4, 8, 9] ref22_Rule_S0 (fun y => ref22_Rule_6 N y.1.1 y.1.2.1 y.1.2.2.1 y.1.2.2.2.1 y.2.1))) (NxOk.go hb (ref22_Rule_6_b N hb)) rfl (fun x => by kernel_rfl)
theorem ref22_Rule_3_b {E : Env} (N : Nat) (hb : Base Try.prog (ref22_Rule_C N) E 0) : Blk Try.prog (ref22_Rule_C N) E [0, 2, 4, 8] ref22_Rule_S1 (ref22_Rule_L2.drop 2) (fun y => ref22_Rule_3 N y.1.1 y.1.2.1 y.1.2.2.1 y.2.1) (ref22_Rule_K2 N) :=
  Blk.blockAt (bid := 1) (X := (goK 0 [0, 2, 4, 8] ref22_Rule_S1 (fun y => ref22_Rule_8 N y.1.1 y.1.2.1 y.1.2.2.1 y.2.1))) (Y := (goK 0 [0, 2, 4, 8] ref22_Rule_S1 (fun y => ref22_Rule_5 N y.1.1 y.1.2.1 y.1.2.2.1 y.2.1))) (by kernel_rfl) (NxOk.go hb (ref22_Rule_8_b N hb)) (NxOk.go hb (ref22_Rule_5_b N hb)) (fun x => by kernel_rfl)
theorem ref22_Rule_s2_b {E : Env} (N : Nat) (hb : Base Try.prog (ref22_Rule_C N) E 0) : Blk Try.prog (ref22_Rule_C N) E [0, 2, 4, 8] ref22_Rule_S1 (ref22_Rule_L2.drop 0) (fun y => ref22_Rule_s2 N y.1.1 y.1.2.1 y.1.2.2.1 y.2.1) (ref22_Rule_K2 N) :=
  Blk.chunkAt hb 2 (X := (goK 0 [0, 2, 4, 8] ref22_Rule_S1 (fun y => ref22_Rule_3 N y.1.1 y.1.2.1 y.1.2.2.1 y.2.1))) (NxOk.go hb (ref22_Rule_3_b N hb)) rfl (fun x => by kernel_rfl)
theorem ref22_Rule_9_b {E : Env} (N : Nat) (hb : Base Try.prog (ref22_Rule_C N) E 0) : Blk Try.prog (ref22_Rule_C N) E [] ref22_Rule_S2 (ref22_Rule_L.drop 3) (fun y => ref22_Rule_9 N) (ref22_Rule_K N) :=
  Blk.chunkAt hb 2 (X := (ref22_Rule_K N .normal)) (NxOk.end (by kernel_rfl)) rfl (fun x => by kernel_rfl)
theorem ref22_Rule_1_b {E : Env} (N : Nat) (hb : Base Try.prog (ref22_Rule_C N) E 0) : Blk Try.prog (ref22_Rule_C N) E [0, 2, 4, 8] ref22_Rule_S1 (ref22_Rule_L.drop 2) (fun y => ref22_Rule_1 N y.1.1 y.1.2.1 y.1.2.2.1 y.2.1) (ref22_Rule_K N) :=
  Blk.loopAt (Nf := N) (hns := [0, 2, 4, 8]) (ans := []) (hc := ref22_Rule_S1) (ac := ref22_Rule_S2) (bid := 0) (step := (fun y => ref22_Rule_s2 N y.1.1 y.1.2.1 y.1.2.2.1 y.2.1)) (J := (fun e => (goK 0 [] ref22_Rule_S2 (fun y => ref22_Rule_9 N)) (ref22_Rule_S2.st [] e))) hb (by kernel_rfl) (Blk.into (X := (goK 0 [] ref22_Rule_S2 (fun y => ref22_Rule_9 N))) (NxOk.go hb (ref22_Rule_9_b N hb)) (fun x => by kernel_rfl)) (ref22_Rule_s2_b N hb) (fun x => by kernel_rfl)
theorem ref22_Rule_b {E : Env} (N : Nat) (hb : Base Try.prog (ref22_Rule_C N) E 0) : Blk Try.prog (ref22_Rule_C N) E (List.range ref22_Rule_S3.ks.length) ref22_Rule_S3 (ref22_Rule_L.drop 0) (fun y => ref22_Rule N y.1.1 y.1.2.1 y.1.2.2.1) (ref22_Rule_K N) :=
  Blk.chunkAt hb 2 (X := (goK 0 [0, 2, 4, 8] ref22_Rule_S1 (fun y => ref22_Rule_1 N y.1.1 y.1.2.1 y.1.2.2.1 y.2.1))) (NxOk.go hb (ref22_Rule_1_b N hb)) rfl (fun x => by kernel_rfl)
noncomputable def ref22_Rule_ctr (N : Nat) : Ctr := ⟨ref22_Rule_S3, ref22_Rule_S4.un [false, false], 0, (fun y => ref22_Rule N y.1.1 y.1.2.1 y.1.2.2.1)⟩
theorem ref22_Rule_ctrs (N : Nat) : CtrsOk Try.prog (ref22_Rule_C N) := ctrs_of (Γ := ref22_Rule_C N) (by
  intro p hp
  simp only [ref22_Rule_C, List.mem_cons, List.not_mem_nil, or_false] at hp
  rcases hp with rfl
  · exact ref20_Has_ok N)
theorem ref22_Rule_ok (N : Nat) : Ctr.ok Try.prog G_globs 41 (ref22_Rule_ctr N) :=
  ctr_fn (Γ := ref22_Rule_C N) (rfit := ref22_Rule_S4) (bs := [false, false]) (res := [6, 7]) (by kernel_rfl) (tys_ok G_tys_ok) (ref22_Rule_ctrs N) Try.func41 (by kernel_rfl) (by kernel_rfl) Try.ntmps41 (by kernel_rfl) (by kernel_rfl) (by kernel_rfl) (by kernel_rfl) (fun E hb => ref22_Rule_b N hb)
end Go.Proofs.Ytgbkkfpheahdfaa
namespace Go.Proofs.Ytgbkkfpheahdfaa
open Go
set_option maxRecDepth 100000
set_option linter.unusedVariables false
/-! (ipsecgate/decorrelate.side).has -/
abbrev decorrelate_side_has_R : Type := ((Bool × Unit) × (Unit))
noncomputable def decorrelate_side_has (N : Nat) (s_0 : D119) (v_1 : D27) : Option decorrelate_side_has_R :=
  Option.bind (decorrelate_value_compare N s_0.1 v_1) fun y1 =>
  bif (decide (y1.1.1 ≤ (0 : Int))) then
    Option.bind (decorrelate_value_compare N v_1 s_0.2.1) fun y3 =>
    some (((decide (y3.1.1 ≤ (0 : Int))), ()), (()))
  else
    some ((false, ()), (()))
noncomputable def decorrelate_side_has_C (N : Nat) : Ctx := ⟨17, G_tys, [(81, decorrelate_value_compare_ctr N)], G_globs⟩
noncomputable def decorrelate_side_has_S0 : Spec := ⟨[.val T119, .val T27], []⟩
noncomputable def decorrelate_side_has_S1 : Spec := ⟨[.val .bool], []⟩
noncomputable def decorrelate_side_has_K (_N : Nat) : XE → GS → Option decorrelate_side_has_R := retK 0 [4] [false] decorrelate_side_has_S1
noncomputable def decorrelate_side_has_L : List Code := (bodyOf (some Try.f105))
theorem decorrelate_side_has_b {E : Env} (N : Nat) (hb : Base Try.prog (decorrelate_side_has_C N) E 0) : Blk Try.prog (decorrelate_side_has_C N) E (List.range decorrelate_side_has_S0.ks.length) decorrelate_side_has_S0 (decorrelate_side_has_L.drop 0) (fun y => decorrelate_side_has N y.1.1 y.1.2.1) (decorrelate_side_has_K N) :=
  Blk.chunkAt hb 3 (X := (decorrelate_side_has_K N .normal)) (NxOk.end (by kernel_rfl)) rfl (fun x => by kernel_rfl)
noncomputable def decorrelate_side_has_ctr (N : Nat) : Ctr := ⟨decorrelate_side_has_S0, decorrelate_side_has_S1.un [false], 0, (fun y => decorrelate_side_has N y.1.1 y.1.2.1)⟩
theorem decorrelate_side_has_ctrs (N : Nat) : CtrsOk Try.prog (decorrelate_side_has_C N) := ctrs_of (Γ := decorrelate_side_has_C N) (by
  intro p hp
  simp only [decorrelate_side_has_C, List.mem_cons, List.not_mem_nil, or_false] at hp
  rcases hp with rfl
  · exact decorrelate_value_compare_ok N)
theorem decorrelate_side_has_ok (N : Nat) : Ctr.ok Try.prog G_globs 105 (decorrelate_side_has_ctr N) :=
  ctr_fn (Γ := decorrelate_side_has_C N) (rfit := decorrelate_side_has_S1) (bs := [false]) (res := [4]) (by kernel_rfl) (tys_ok G_tys_ok) (decorrelate_side_has_ctrs N) Try.func105 (by kernel_rfl) (by kernel_rfl) Try.ntmps105 (by kernel_rfl) (by kernel_rfl) (by kernel_rfl) (by kernel_rfl) (fun E hb => decorrelate_side_has_b N hb)
end Go.Proofs.Ytgbkkfpheahdfaa
namespace Go.Proofs.Ytgbkkfpheahdfaa
open Go
set_option maxRecDepth 100000
set_option linter.unusedVariables false
/-! ipsecgate/decorrelate.Has -/
abbrev decorrelate_Has_R : Type := ((Bool × Unit) × (Unit))
noncomputable def decorrelate_Has_s3 (N : Nat) (t_41 : (List D119)) (t_42 : Int) (at_7 : (List D27)) : Option (Lo (((List D119) × Int × Unit) × ((List D27) × Unit)) ((Unit) × (Unit)) decorrelate_Has_R) :=
  bif (decide (t_42 < (5 : Int))) then
    bif inR t_42 5 then
    bif inR t_42 5 then
    Option.bind (decorrelate_side_has N (t_41.getD t_42.toNat (((0 : Int), (0 : UInt64), (0 : UInt64), ()), ((0 : Int), (0 : UInt64), (0 : UInt64), ()), ())) (at_7.getD t_42.toNat ((0 : Int), (0 : UInt64), (0 : UInt64), ()))) fun y12 =>
    bif (!y12.1.1) then
      some (.rt ((false, ()), (())))
    else
      some (.go ((t_41, (w64 (t_42 + (1 : Int))), ()), (at_7, ())))
    else none
    else none
  else
    some (.br ((()), (())))
noncomputable def decorrelate_Has_4 (N : Nat) : Option decorrelate_Has_R :=
  some ((true, ()), (()))
noncomputable def decorrelate_Has_2 (N : Nat) (t_41 : (List D119)) (t_42 : Int) (at_7 : (List D27)) : Option decorrelate_Has_R :=
  loopK N (fun y => decorrelate_Has_s3 N y.1.1 y.1.2.1 y.2.1) (fun (e : ((Unit) × (Unit))) => decorrelate_Has_4 N) ((t_41, t_42, ()), (at_7, ()))
noncomputable def decorrelate_Has_1 (N : Nat) (b_3 : D45) (p_4 : D29) : Option decorrelate_Has_R :=
  Option.bind (decorrelate_ofAddress N p_4.1) fun y2 =>
  Option.bind (decorrelate_ofAddress N p_4.2.1) fun y3 =>
  Option.bind (decorrelate_ofNumber N p_4.2.2.1) fun y4 =>
  Option.bind (decorrelate_ofNumber N p_4.2.2.2.1) fun y5 =>
  Option.bind (decorrelate_ofNumber N p_4.2.2.2.2.1) fun y6 =>
  Option.bind (decorrelate_ofBox N b_3) fun y8 =>
  decorrelate_Has_2 N y8.1.1 (0 : Int) ([y2.1.1, y3.1.1, y4.1.1, y5.1.1, y6.1.1] : List D27)
noncomputable def decorrelate_Has (N : Nat) (b_0 : D45) (p_1 : D29) (outbound_2 : Bool) : Option decorrelate_Has_R :=
  bif (!outbound_2) then
    decorrelate_Has_1 N b_0 (p_1.2.1, p_1.1, p_1.2.2.1, p_1.2.2.2.2.1, p_1.2.2.2.1, ())
  else
    decorrelate_Has_1 N b_0 p_1
noncomputable def decorrelate_Has_C (N : Nat) : Ctx := ⟨53, G_tys, [(103, decorrelate_ofAddress_ctr N), (104, decorrelate_ofNumber_ctr N), (79, decorrelate_ofBox_ctr N), (105, decorrelate_side_has_ctr N)], G_globs⟩
noncomputable def decorrelate_Has_S0 : Spec := ⟨[.ref 0 (.arr 5 T27), .val (.arr 5 T119), .val .i64], [(.box 143 (.arr 5 T27), .pos 0)]⟩
noncomputable def decorrelate_Has_S1 : Spec := ⟨[], []⟩
noncomputable def decorrelate_Has_S2 : Spec := ⟨[.ref 0 T45, .ref 1 T29], [(.box 46 T45, .pos 0), (.box 30 T29, .pos 1)]⟩
noncomputable def decorrelate_Has_S3 : Spec := ⟨[.val T45, .val T29, .val .bool], []⟩
noncomputable def decorrelate_Has_S4 : Spec := ⟨[.val .bool], []⟩
noncomputable def decorrelate_Has_K (_N : Nat) : XE → GS → Option decorrelate_Has_R := retK 0 [6] [false] decorrelate_Has_S4
noncomputable def decorrelate_Has_L : List Code := (bodyOf (some Try.f51))
noncomputable def decorrelate_Has_L3 : List Code := (loopOf (decorrelate_Has_L[5]?))
noncomputable def decorrelate_Has_K3 (N : Nat) : XE → GS → Option (Lo (((List D119) × Int × Unit) × ((List D27) × Unit)) ((Unit) × (Unit)) decorrelate_Has_R) := roundK (some 0) (fit 0 [7, 41, 42] decorrelate_Has_S0) (fit 0 [] decorrelate_Has_S1) (decorrelate_Has_K N)
theorem decorrelate_Has_s3_b {E : Env} (N : Nat) (hb : Base Try.prog (decorrelate_Has_C N) E 0) : Blk Try.prog (decorrelate_Has_C N) E [7, 41, 42] decorrelate_Has_S0 (decorrelate_Has_L3.drop 0) (fun y => decorrelate_Has_s3 N y.1.1 y.1.2.1 y.2.1) (decorrelate_Has_K3 N) :=
  Blk.chunkAt hb 4 (X := (decorrelate_Has_K3 N .normal)) (NxOk.end (by kernel_rfl)) rfl (fun x => by kernel_rfl)
theorem decorrelate_Has_4_b {E : Env} (N : Nat) (hb : Base Try.prog (decorrelate_Has_C N) E 0) : Blk Try.prog (decorrelate_Has_C N) E [] decorrelate_Has_S1 (decorrelate_Has_L.drop 6) (fun y => decorrelate_Has_4 N) (decorrelate_Has_K N) :=
  Blk.chunkAt hb 2 (X := (decorrelate_Has_K N .normal)) (NxOk.end (by kernel_rfl)) rfl (fun x => by kernel_rfl)
theorem decorrelate_Has_2_b {E : Env} (N : Nat) (hb : Base Try.prog (decorrelate_Has_C N) E 0) : Blk Try.prog (decorrelate_Has_C N) E [7, 41, 42] decorrelate_Has_S0 (decorrelate_Has_L.drop 5) (fun y => decorrelate_Has_2 N y.1.1 y.1.2.1 y.2.1) (decorrelate_Has_K N) :=
  Blk.loopAt (Nf := N) (hns := [7, 41, 42]) (ans := []) (hc := decorrelate_Has_S0) (ac := decorrelate_Has_S1) (bid := 0) (step := (fun y => decorrelate_Has_s3 N y.1.1 y.1.2.1 y.2.1)) (J := (fun e => (goK 0 [] decorrelate_Has_S1 (fun y => decorrelate_Has_4 N)) (decorrelate_Has_S1.st [] e))) hb (by kernel_rfl) (Blk.into (X := (goK 0 [] decorrelate_Has_S1 (fun y => decorrelate_Has_4 N))) (NxOk.go hb (decorrelate_Has_4_b N hb)) (fun x => by kernel_rfl)) (decorrelate_Has_s3_b N hb) (fun x => by kernel_rfl)
theorem decorrelate_Has_1_b {E : Env} (N : Nat) (hb : Base Try.prog (decorrelate_Has_C N) E 0) : Blk Try.prog (decorrelate_Has_C N) E [3, 4] decorrelate_Has_S2 (decorrelate_Has_L.drop 3) (fun y => decorrelate_Has_1 N y.2.1 y.2.2.1) (decorrelate_Has_K N) :=
  Blk.chunkAt hb 2 (X := (goK 0 [7, 41, 42] decorrelate_Has_S0 (fun y => decorrelate_Has_2 N y.1.1 y.1.2.1 y.2.1))) (NxOk.go hb (decorrelate_Has_2_b N hb)) rfl (fun x => by kernel_rfl)
theorem decorrelate_Has_b {E : Env} (N : Nat) (hb : Base Try.prog (decorrelate_Has_C N) E 0) : Blk Try.prog (decorrelate_Has_C N) E (List.range decorrelate_Has_S3.ks.length) decorrelate_Has_S3 (decorrelate_Has_L.drop 0) (fun y => decorrelate_Has N y.1.1 y.1.2.1 y.1.2.2.1) (decorrelate_Has_K N) :=
  Blk.chunkAt hb 3 (X := (goK 0 [3, 4] decorrelate_Has_S2 (fun y => decorrelate_Has_1 N y.2.1 y.2.2.1))) (NxOk.go hb (decorrelate_Has_1_b N hb)) rfl (fun x => by kernel_rfl)
noncomputable def decorrelate_Has_ctr (N : Nat) : Ctr := ⟨decorrelate_Has_S3, decorrelate_Has_S4.un [false], 0, (fun y => decorrelate_Has N y.1.1 y.1.2.1 y.1.2.2.1)⟩
theorem decorrelate_Has_ctrs (N : Nat) : CtrsOk Try.prog (decorrelate_Has_C N) := ctrs_of (Γ := decorrelate_Has_C N) (by
  intro p hp
  simp only [decorrelate_Has_C, List.mem_cons, List.not_mem_nil, or_false] at hp
  rcases hp with rfl | rfl | rfl | rfl
  · exact decorrelate_ofAddress_ok N
  · exact decorrelate_ofNumber_ok N
  · exact decorrelate_ofBox_ok N
  · exact decorrelate_side_has_ok N)
theorem decorrelate_Has_ok (N : Nat) : Ctr.ok Try.prog G_globs 51 (decorrelate_Has_ctr N) :=
  ctr_fn (Γ := decorrelate_Has_C N) (rfit := decorrelate_Has_S4) (bs := [false]) (res := [6]) (by kernel_rfl) (tys_ok G_tys_ok) (decorrelate_Has_ctrs N) Try.func51 (by kernel_rfl) (by kernel_rfl) Try.ntmps51 (by kernel_rfl) (by kernel_rfl) (by kernel_rfl) (by kernel_rfl) (fun E hb => decorrelate_Has_b N hb)
end Go.Proofs.Ytgbkkfpheahdfaa
namespace Go.Proofs.Ytgbkkfpheahdfaa
open Go
set_option maxRecDepth 100000
set_option linter.unusedVariables false
/-! ipsecgate/ipsecgatelaw20.DecorrelateAgrees -/
abbrev law20_DecorrelateAgrees_R : Type := ((Bool × Unit) × (Unit))
noncomputable def law20_DecorrelateAgrees_s7 (N : Nat) (packets_1 : (List UInt8)) (outbound_2 : Bool) (i_10 : Int) (k_11 : Int) (t_36 : Int) (t_37 : Int) (l_7 : (List D59)) (entries_8 : (List D85)) : Option (Lo (((List UInt8) × Bool × Int × Int × Int × Int × Unit) × ((List D59) × (List D85) × Unit)) (((List UInt8) × Bool × Int × Int × Unit) × ((List D59) × (List D85) × Unit)) (Lo (((List UInt8) × Bool × Int × Int × Unit) × ((List D59) × (List D85) × Unit)) (((List UInt8) × Bool × Unit) × ((List D59) × (List D85) × Unit)) law20_DecorrelateAgrees_R)) :=
  bif (decide (k_11 < i_10)) then
    bif inR i_10 entries_8.length then
    bif inR k_11 entries_8.length then
    Option.bind (law20_apart N ((entries_8.getD i_10.toNat ((((0 : Int), (0 : UInt64), (0 : UInt64), ()), ((0 : Int), (0 : UInt64), (0 : UInt64), ()), ((0 : Int), (0 : UInt64), (0 : UInt64), ()), ((0 : Int), (0 : UInt64), (0 : UInt64), ()), (0 : Int), (0 : Int), (List.replicate 2 (0 : Int)), (List.replicate 2 (0 : Int)), ()), (0 : Int), ())).1) ((entries_8.getD k_11.toNat ((((0 : Int), (0 : UInt64), (0 : UInt64), ()), ((0 : Int), (0 : UInt64), (0 : UInt64), ()), ((0 : Int), (0 : UInt64), (0 : UInt64), ()), ((0 : Int), (0 : UInt64), (0 : UInt64), ()), (0 : Int), (0 : Int), (List.replicate 2 (0 : Int)), (List.replicate 2 (0 : Int)), ()), (0 : Int), ())).1)) fun y13 =>
    bif (!y13.1.1) then
      some (.rt (.rt ((false, ()), (()))))
    else
      some (.go ((packets_1, outbound_2, i_10, (w64 (k_11 + (1 : Int))), t_36, t_37, ()), (l_7, entries_8, ())))
    else none
    else none
  else
    some (.br ((packets_1, outbound_2, t_36, t_37, ()), (l_7, entries_8, ())))
noncomputable def law20_DecorrelateAgrees_8 (N : Nat) (packets_1 : (List UInt8)) (outbound_2 : Bool) (t_36 : Int) (t_37 : Int) (l_7 : (List D59)) (entries_8 : (List D85)) : Option (Lo (((List UInt8) × Bool × Int × Int × Unit) × ((List D59) × (List D85) × Unit)) (((List UInt8) × Bool × Unit) × ((List D59) × (List D85) × Unit)) law20_DecorrelateAgrees_R) :=
  some (.go ((packets_1, outbound_2, t_36, (w64 (t_37 + (1 : Int))), ()), (l_7, entries_8, ())))
noncomputable def law20_DecorrelateAgrees_6 (N : Nat) (packets_1 : (List UInt8)) (outbound_2 : Bool) (i_10 : Int) (k_11 : Int) (t_36 : Int) (t_37 : Int) (l_7 : (List D59)) (entries_8 : (List D85)) : Option (Lo (((List UInt8) × Bool × Int × Int × Unit) × ((List D59) × (List D85) × Unit)) (((List UInt8) × Bool × Unit) × ((List D59) × (List D85) × Unit)) law20_DecorrelateAgrees_R) :=
  loopK N (fun y => law20_DecorrelateAgrees_s7 N y.1.1 y.1.2.1 y.1.2.2.1 y.1.2.2.2.1 y.1.2.2.2.2.1 y.1.2.2.2.2.2.1 y.2.1 y.2.2.1) (fun (e : (((List UInt8) × Bool × Int × Int × Unit) × ((List D59) × (List D85) × Unit))) => law20_DecorrelateAgrees_8 N e.1.1 e.1.2.1 e.1.2.2.1 e.1.2.2.2.1 e.2.1 e.2.2.1) ((packets_1, outbound_2, i_10, k_11, t_36, t_37, ()), (l_7, entries_8, ()))
noncomputable def law20_DecorrelateAgrees_5 (N : Nat) (packets_1 : (List UInt8)) (outbound_2 : Bool) (t_36 : Int) (t_37 : Int) (l_7 : (List D59)) (entries_8 : (List D85)) : Option (Lo (((List UInt8) × Bool × Int × Int × Unit) × ((List D59) × (List D85) × Unit)) (((List UInt8) × Bool × Unit) × ((List D59) × (List D85) × Unit)) law20_DecorrelateAgrees_R) :=
  law20_DecorrelateAgrees_6 N packets_1 outbound_2 t_37 (0 : Int) t_36 t_37 l_7 entries_8
noncomputable def law20_DecorrelateAgrees_3 (N : Nat) (packets_1 : (List UInt8)) (outbound_2 : Bool) (t_36 : Int) (t_37 : Int) (l_7 : (List D59)) (entries_8 : (List D85)) : Option (Lo (((List UInt8) × Bool × Int × Int × Unit) × ((List D59) × (List D85) × Unit)) (((List UInt8) × Bool × Unit) × ((List D59) × (List D85) × Unit)) law20_DecorrelateAgrees_R) :=
  law20_DecorrelateAgrees_5 N packets_1 outbound_2 t_36 t_37 l_7 entries_8
noncomputable def law20_DecorrelateAgrees_s2 (N : Nat) (packets_1 : (List UInt8)) (outbound_2 : Bool) (t_36 : Int) (t_37 : Int) (l_7 : (List D59)) (entries_8 : (List D85)) : Option (Lo (((List UInt8) × Bool × Int × Int × Unit) × ((List D59) × (List D85) × Unit)) (((List UInt8) × Bool × Unit) × ((List D59) × (List D85) × Unit)) law20_DecorrelateAgrees_R) :=
  bif (decide (t_37 < t_36)) then
    law20_DecorrelateAgrees_3 N packets_1 outbound_2 t_36 t_37 l_7 entries_8
  else
    some (.br ((packets_1, outbound_2, ()), (l_7, entries_8, ())))
noncomputable def law20_DecorrelateAgrees_16 (N : Nat) (packets_1 : (List UInt8)) (outbound_2 : Bool) (t_76 : Int) (t_77 : Int) (l_7 : (List D59)) (entries_8 : (List D85)) (all_13 : (List D29)) : Option (Lo (((List UInt8) × Bool × Int × Int × Unit) × ((List D59) × (List D85) × (List D29) × Unit)) ((Unit) × (Unit)) law20_DecorrelateAgrees_R) :=
  some (.go ((packets_1, outbound_2, t_76, (w64 (t_77 + (1 : Int))), ()), (l_7, entries_8, all_13, ())))
noncomputable def law20_DecorrelateAgrees_s18 (N : Nat) (packets_1 : (List UInt8)) (outbound_2 : Bool) (r_16 : Int) (ok_17 : Bool) (n_18 : Int) (t_76 : Int) (t_77 : Int) (t_103 : Int) (t_104 : Int) (l_7 : (List D59)) (entries_8 : (List D85)) (all_13 : (List D29)) (p_15 : D29) : Option (Lo (((List UInt8) × Bool × Int × Bool × Int × Int × Int × Int × Int × Unit) × ((List D59) × (List D85) × (List D29) × D29 × Unit)) (((List UInt8) × Bool × Bool × Int × Int × Int × Unit) × ((List D59) × (List D85) × (List D29) × Unit)) (Lo (((List UInt8) × Bool × Int × Int × Unit) × ((List D59) × (List D85) × (List D29) × Unit)) ((Unit) × (Unit)) law20_DecorrelateAgrees_R)) :=
  bif (decide (t_104 < t_103)) then
    bif inR t_104 entries_8.length then
    let x39 := (entries_8.getD t_104.toNat ((((0 : Int), (0 : UInt64), (0 : UInt64), ()), ((0 : Int), (0 : UInt64), (0 : UInt64), ()), ((0 : Int), (0 : UInt64), (0 : UInt64), ()), ((0 : Int), (0 : UInt64), (0 : UInt64), ()), (0 : Int), (0 : Int), (List.replicate 2 (0 : Int)), (List.replicate 2 (0 : Int)), ()), (0 : Int), ()))
    Option.bind (decorrelate_Has N x39.1 p_15 outbound_2) fun y40 =>
    bif y40.1.1 then
      bif !ok_17 then
        some (.rt (.rt ((false, ()), (()))))
      else
        bif (!(decide (x39.2.1 = r_16))) then
          some (.rt (.rt ((false, ()), (()))))
        else
          some (.go ((packets_1, outbound_2, r_16, ok_17, (w64 (n_18 + (1 : Int))), t_76, t_77, t_103, (w64 (t_104 + (1 : Int))), ()), (l_7, entries_8, all_13, p_15, ())))
    else
      some (.go ((packets_1, outbound_2, r_16, ok_17, n_18, t_76, t_77, t_103, (w64 (t_104 + (1 : Int))), ()), (l_7, entries_8, all_13, p_15, ())))
    else none
  else
    some (.br ((packets_1, outbound_2, ok_17, n_18, t_76, t_77, ()), (l_7, entries_8, all_13, ())))
noncomputable def law20_DecorrelateAgrees_19 (N : Nat) (packets_1 : (List UInt8)) (outbound_2 : Bool) (ok_17 : Bool) (n_18 : Int) (t_76 : Int) (t_77 : Int) (l_7 : (List D59)) (entries_8 : (List D85)) (all_13 : (List D29)) : Option (Lo (((List UInt8) × Bool × Int × Int × Unit) × ((List D59) × (List D85) × (List D29) × Unit)) ((Unit) × (Unit)) law20_DecorrelateAgrees_R) :=
  bif (!(decide ((decide (n_18 = (1 : Int))) = ok_17))) then
    some (.rt ((false, ()), (())))
  else
    law20_DecorrelateAgrees_16 N packets_1 outbound_2 t_76 t_77 l_7 entries_8 all_13
noncomputable def law20_DecorrelateAgrees_17 (N : Nat) (packets_1 : (List UInt8)) (outbound_2 : Bool) (r_16 : Int) (ok_17 : Bool) (n_18 : Int) (t_76 : Int) (t_77 : Int) (t_103 : Int) (t_104 : Int) (l_7 : (List D59)) (entries_8 : (List D85)) (all_13 : (List D29)) (p_15 : D29) : Option (Lo (((List UInt8) × Bool × Int × Int × Unit) × ((List D59) × (List D85) × (List D29) × Unit)) ((Unit) × (Unit)) law20_DecorrelateAgrees_R) :=
  loopK N (fun y => law20_DecorrelateAgrees_s18 N y.1.1 y.1.2.1 y.1.2.2.1 y.1.2.2.2.1 y.1.2.2.2.2.1 y.1.2.2.2.2.2.1 y.1.2.2.2.2.2.2.1 y.1.2.2.2.2.2.2.2.1 y.1.2.2.2.2.2.2.2.2.1 y.2.1 y.2.2.1 y.2.2.2.1 y.2.2.2.2.1) (fun (e : (((List UInt8) × Bool × Bool × Int × Int × Int × Unit) × ((List D59) × (List D85) × (List D29) × Unit))) => law20_DecorrelateAgrees_19 N e.1.1 e.1.2.1 e.1.2.2.1 e.1.2.2.2.1 e.1.2.2.2.2.1 e.1.2.2.2.2.2.1 e.2.1 e.2.2.1 e.2.2.2.1) ((packets_1, outbound_2, r_16, ok_17, n_18, t_76, t_77, t_103, t_104, ()), (l_7, entries_8, all_13, p_15, ()))
noncomputable def law20_DecorrelateAgrees_15 (N : Nat) (packets_1 : (List UInt8)) (outbound_2 : Bool) (t_76 : Int) (t_77 : Int) (t_94 : Bool) (l_7 : (List D59)) (entries_8 : (List D85)) (all_13 : (List D29)) (p_15 : D29) : Option (Lo (((List UInt8) × Bool × Int × Int × Unit) × ((List D59) × (List D85) × (List D29) × Unit)) ((Unit) × (Unit)) law20_DecorrelateAgrees_R) :=
  bif t_94 then
    law20_DecorrelateAgrees_16 N packets_1 outbound_2 t_76 t_77 l_7 entries_8 all_13
  else
    Option.bind (ref22_Rule N l_7 p_15 outbound_2) fun y36 =>
    law20_DecorrelateAgrees_17 N packets_1 outbound_2 y36.1.1 y36.1.2.1 (0 : Int) t_76 t_77 (entries_8.length : Int) (0 : Int) l_7 entries_8 all_13 p_15
noncomputable def law20_DecorrelateAgrees_14 (N : Nat) (packets_1 : (List UInt8)) (outbound_2 : Bool) (t_76 : Int) (t_77 : Int) (l_7 : (List D59)) (entries_8 : (List D85)) (all_13 : (List D29)) : Option (Lo (((List UInt8) × Bool × Int × Int × Unit) × ((List D59) × (List D85) × (List D29) × Unit)) ((Unit) × (Unit)) law20_DecorrelateAgrees_R) :=
  bif inR t_77 all_13.length then
  let x27 := (all_13.getD t_77.toNat (((0 : Int), (0 : UInt64), (0 : UInt64), ()), ((0 : Int), (0 : UInt64), (0 : UInt64), ()), (0 : Int), (0 : Int), (0 : Int), ()))
  bif (!(decide ((t_77.tmod (11 : Int)) = ((packets_1.length : Int).tmod (11 : Int))))) then
    law20_DecorrelateAgrees_15 N packets_1 outbound_2 t_76 t_77 (decide (t_77 < (w64 ((all_13.length : Int) - (5 : Int))))) l_7 entries_8 all_13 x27
  else
    law20_DecorrelateAgrees_15 N packets_1 outbound_2 t_76 t_77 false l_7 entries_8 all_13 x27
  else none
noncomputable def law20_DecorrelateAgrees_12 (N : Nat) (packets_1 : (List UInt8)) (outbound_2 : Bool) (t_76 : Int) (t_77 : Int) (l_7 : (List D59)) (entries_8 : (List D85)) (all_13 : (List D29)) : Option (Lo (((List UInt8) × Bool × Int × Int × Unit) × ((List D59) × (List D85) × (List D29) × Unit)) ((Unit) × (Unit)) law20_DecorrelateAgrees_R) :=
  law20_DecorrelateAgrees_14 N packets_1 outbound_2 t_76 t_77 l_7 entries_8 all_13
noncomputable def law20_DecorrelateAgrees_s11 (N : Nat) (packets_1 : (List UInt8)) (outbound_2 : Bool) (t_76 : Int) (t_77 : Int) (l_7 : (List D59)) (entries_8 : (List D85)) (all_13 : (List D29)) : Option (Lo (((List UInt8) × Bool × Int × Int × Unit) × ((List D59) × (List D85) × (List D29) × Unit)) ((Unit) × (Unit)) law20_DecorrelateAgrees_R) :=
  bif (decide (t_77 < t_76)) then
    law20_DecorrelateAgrees_12 N packets_1 outbound_2 t_76 t_77 l_7 entries_8 all_13
  else
    some (.br ((()), (())))
noncomputable def law20_DecorrelateAgrees_20 (N : Nat) : Option law20_DecorrelateAgrees_R :=
  some ((true, ()), (()))
noncomputable def law20_DecorrelateAgrees_10 (N : Nat) (packets_1 : (List UInt8)) (outbound_2 : Bool) (t_76 : Int) (t_77 : Int) (l_7 : (List D59)) (entries_8 : (List D85)) (all_13 : (List D29)) : Option law20_DecorrelateAgrees_R :=
  loopK N (fun y => law20_DecorrelateAgrees_s11 N y.1.1 y.1.2.1 y.1.2.2.1 y.1.2.2.2.1 y.2.1 y.2.2.1 y.2.2.2.1) (fun (e : ((Unit) × (Unit))) => law20_DecorrelateAgrees_20 N) ((packets_1, outbound_2, t_76, t_77, ()), (l_7, entries_8, all_13, ()))
noncomputable def law20_DecorrelateAgrees_9 (N : Nat) (packets_1 : (List UInt8)) (outbound_2 : Bool) (l_7 : (List D59)) (entries_8 : (List D85)) : Option law20_DecorrelateAgrees_R :=
  Option.bind (make_New N packets_1 (120 : Int)) fun y17 =>
  Option.bind (ref20_Corners N l_7 (1500 : Int)) fun y18 =>
  Option.bind (make_Codes_Packet N y17.2.1) fun y19 =>
  Option.bind (make_Codes_Packet N y19.2.1) fun y20 =>
  Option.bind (make_Codes_Packet N y20.2.1) fun y21 =>
  Option.bind (make_Codes_Packet N y21.2.1) fun y22 =>
  Option.bind (make_Codes_Packet N y22.2.1) fun y23 =>
  bif room (y18.2.1.length + ([y19.1.1, y20.1.1, y21.1.1, y22.1.1, y23.1.1] : List D29).length) 72 then
  let x24 := y18.2.1 ++ ([y19.1.1, y20.1.1, y21.1.1, y22.1.1, y23.1.1] : List D29)
  law20_DecorrelateAgrees_10 N packets_1 outbound_2 (x24.length : Int) (0 : Int) l_7 entries_8 x24
  else none
noncomputable def law20_DecorrelateAgrees_1 (N : Nat) (packets_1 : (List UInt8)) (outbound_2 : Bool) (t_36 : Int) (t_37 : Int) (l_7 : (List D59)) (entries_8 : (List D85)) : Option law20_DecorrelateAgrees_R :=
  loopK N (fun y => law20_DecorrelateAgrees_s2 N y.1.1 y.1.2.1 y.1.2.2.1 y.1.2.2.2.1 y.2.1 y.2.2.1) (fun (e : (((List UInt8) × Bool × Unit) × ((List D59) × (List D85) × Unit))) => law20_DecorrelateAgrees_9 N e.1.1 e.1.2.1 e.2.1 e.2.2.1) ((packets_1, outbound_2, t_36, t_37, ()), (l_7, entries_8, ()))
noncomputable def law20_DecorrelateAgrees (N : Nat) (codes_0 : (List UInt8)) (packets_1 : (List UInt8)) (outbound_2 : Bool) : Option law20_DecorrelateAgrees_R :=
  Option.bind (law20_awake N) fun y1 =>
  bif (!y1.1.1) then
    some ((false, ()), (()))
  else
    Option.bind (make_New N codes_0 (200 : Int)) fun y3 =>
    Option.bind (make_Codes_Rules N (4 : Int) y3.2.1) fun y4 =>
    Option.bind (decorrelate_Entries N y4.2.2.1) fun y5 =>
    bif (!(decide (y5.1.1 = (0 : Int)))) then
      some (((decide (y5.1.1 = (10 : Int))), ()), (()))
    else
      law20_DecorrelateAgrees_1 N packets_1 outbound_2 (y5.2.1.length : Int) (0 : Int) y4.2.2.1 y5.2.1
noncomputable def law20_DecorrelateAgrees_C (N : Nat) : Ctx := ⟨129, G_tys, [(27, law20_awake_ctr N), (28, make_New_ctr N), (34, make_Codes_Rules_ctr N), (60, decorrelate_Entries_ctr N), (53, law20_apart_ctr N), (40, ref20_Corners_ctr N), (35, make_Codes_Packet_ctr N), (41, ref22_Rule_ctr N), (51, decorrelate_Has_ctr N)], G_globs⟩
noncomputable def law20_DecorrelateAgrees_S0 : Spec := ⟨[.val (.sl .u8), .val .bool, .row 0, .row 1, .val .i64, .val .i64, .val .i64, .val .i64], [(.row 60 T59, .pos 2), (.row 86 T85, .pos 3)]⟩
noncomputable def law20_DecorrelateAgrees_S1 : Spec := ⟨[.val (.sl .u8), .val .bool, .row 0, .row 1, .val .i64, .val .i64], [(.row 60 T59, .pos 2), (.row 86 T85, .pos 3)]⟩
noncomputable def law20_DecorrelateAgrees_S2 : Spec := ⟨[.val (.sl .u8), .val .bool, .row 0, .row 1, .row 2, .row 2, .val .i64, .val .i64], [(.row 60 T59, .pos 2), (.row 86 T85, .pos 3), (.row 30 T29, .pos 4)]⟩
noncomputable def law20_DecorrelateAgrees_S3 : Spec := ⟨[.val (.sl .u8), .val .bool, .row 0, .row 1, .row 2, .ref 3 T29, .val .i64, .val .bool, .val .i64, .row 2, .val .i64, .val .i64, .row 1, .val .i64, .val .i64], [(.row 60 T59, .pos 2), (.row 86 T85, .pos 3), (.row 30 T29, .pos 4), (.box 30 T29, .pos 5)]⟩
noncomputable def law20_DecorrelateAgrees_S4 : Spec := ⟨[.val (.sl .u8), .val .bool, .row 0, .row 1, .row 2, .val .bool, .val .i64, .row 2, .val .i64, .val .i64], [(.row 60 T59, .pos 2), (.row 86 T85, .pos 3), (.row 30 T29, .pos 4)]⟩
noncomputable def law20_DecorrelateAgrees_S5 : Spec := ⟨[.val (.sl .u8), .val .bool, .row 0, .row 1, .row 2, .ref 3 T29, .row 2, .val .i64, .val .i64, .val .bool], [(.row 60 T59, .pos 2), (.row 86 T85, .pos 3), (.row 30 T29, .pos 4), (.box 30 T29, .pos 5)]⟩
noncomputable def law20_DecorrelateAgrees_S6 : Spec := ⟨[], []⟩
noncomputable def law20_DecorrelateAgrees_S7 : Spec := ⟨[.val (.sl .u8), .val .bool, .row 0, .row 1], [(.row 60 T59, .pos 2), (.row 86 T85, .pos 3)]⟩
noncomputable def law20_DecorrelateAgrees_S8 : Spec := ⟨[.val (.sl .u8), .val (.sl .u8), .val .bool], []⟩
noncomputable def law20_DecorrelateAgrees_S9 : Spec := ⟨[.val .bool], []⟩
noncomputable def law20_DecorrelateAgrees_K (_N : Nat) : XE → GS → Option law20_DecorrelateAgrees_R := retK 0 [6] [false] law20_DecorrelateAgrees_S9
noncomputable def law20_DecorrelateAgrees_L : List Code := (bodyOf (some Try.f12))
noncomputable def law20_DecorrelateAgrees_L2 : List Code := (loopOf (law20_DecorrelateAgrees_L[8]?))
noncomputable def law20_DecorrelateAgrees_L4b : List Code := (blockOf (law20_DecorrelateAgrees_L2[2]?))
noncomputable def law20_DecorrelateAgrees_L7 : List Code := (loopOf (law20_DecorrelateAgrees_L4b[2]?))
noncomputable def law20_DecorrelateAgrees_L11 : List Code := (loopOf (law20_DecorrelateAgrees_L[13]?))
noncomputable def law20_DecorrelateAgrees_L13b : List Code := (blockOf (law20_DecorrelateAgrees_L11[2]?))
noncomputable def law20_DecorrelateAgrees_L18 : List Code := (loopOf (law20_DecorrelateAgrees_L13b[6]?))
noncomputable def law20_DecorrelateAgrees_K2 (N : Nat) : XE → GS → Option (Lo (((List UInt8) × Bool × Int × Int × Unit) × ((List D59) × (List D85) × Unit)) (((List UInt8) × Bool × Unit) × ((List D59) × (List D85) × Unit)) law20_DecorrelateAgrees_R) := roundK (some 0) (fit 0 [1, 2, 7, 8, 36, 37] law20_DecorrelateAgrees_S1) (fit 0 [1, 2, 7, 8] law20_DecorrelateAgrees_S7) (law20_DecorrelateAgrees_K N)
noncomputable def law20_DecorrelateAgrees_K11 (N : Nat) : XE → GS → Option (Lo (((List UInt8) × Bool × Int × Int × Unit) × ((List D59) × (List D85) × (List D29) × Unit)) ((Unit) × (Unit)) law20_DecorrelateAgrees_R) := roundK (some 4) (fit 0 [1, 2, 7, 8, 13, 75, 76, 77] law20_DecorrelateAgrees_S2) (fit 0 [] law20_DecorrelateAgrees_S6) (law20_DecorrelateAgrees_K N)
noncomputable def law20_DecorrelateAgrees_K13 (N : Nat) : XE → GS → Option (Lo (((List UInt8) × Bool × Int × Int × Unit) × ((List D59) × (List D85) × (List D29) × Unit)) ((Unit) × (Unit)) law20_DecorrelateAgrees_R) := blockK 5 (goK 0 [1, 2, 7, 8, 13, 75, 76, 77] law20_DecorrelateAgrees_S2 (fun y => law20_DecorrelateAgrees_16 N y.1.1 y.1.2.1 y.1.2.2.1 y.1.2.2.2.1 y.2.1 y.2.2.1 y.2.2.2.1)) (law20_DecorrelateAgrees_K11 N)
noncomputable def law20_DecorrelateAgrees_K18 (N : Nat) : XE → GS → Option (Lo (((List UInt8) × Bool × Int × Bool × Int × Int × Int × Int × Int × Unit) × ((List D59) × (List D85) × (List D29) × D29 × Unit)) (((List UInt8) × Bool × Bool × Int × Int × Int × Unit) × ((List D59) × (List D85) × (List D29) × Unit)) (Lo (((List UInt8) × Bool × Int × Int × Unit) × ((List D59) × (List D85) × (List D29) × Unit)) ((Unit) × (Unit)) law20_DecorrelateAgrees_R)) := roundK (some 6) (fit 0 [1, 2, 7, 8, 13, 15, 16, 17, 18, 75, 76, 77, 102, 103, 104] law20_DecorrelateAgrees_S3) (fit 0 [1, 2, 7, 8, 13, 17, 18, 75, 76, 77] law20_DecorrelateAgrees_S4) (law20_DecorrelateAgrees_K13 N)
noncomputable def law20_DecorrelateAgrees_K4 (N : Nat) : XE → GS → Option (Lo (((List UInt8) × Bool × Int × Int × Unit) × ((List D59) × (List D85) × Unit)) (((List UInt8) × Bool × Unit) × ((List D59) × (List D85) × Unit)) law20_DecorrelateAgrees_R) := blockK 1 (goK 0 [1, 2, 7, 8, 36, 37] law20_DecorrelateAgrees_S1 (fun y => law20_DecorrelateAgrees_8 N y.1.1 y.1.2.1 y.1.2.2.1 y.1.2.2.2.1 y.2.1 y.2.2.1)) (law20_DecorrelateAgrees_K2 N)
noncomputable def law20_DecorrelateAgrees_K7 (N : Nat) : XE → GS → Option (Lo (((List UInt8) × Bool × Int × Int × Int × Int × Unit) × ((List D59) × (List D85) × Unit)) (((List UInt8) × Bool × Int × Int × Unit) × ((List D59) × (List D85) × Unit)) (Lo (((List UInt8) × Bool × Int × Int × Unit) × ((List D59) × (List D85) × Unit)) (((List UInt8) × Bool × Unit) × ((List D59) × (List D85) × Unit)) law20_DecorrelateAgrees_R)) := roundK (some 2) (fit 0 [1, 2, 7, 8, 10, 11, 36, 37] law20_DecorrelateAgrees_S0) (fit 0 [1, 2, 7, 8, 36, 37] law20_DecorrelateAgrees_S1) (law20_DecorrelateAgrees_K4 N)
theorem law20_DecorrelateAgrees_s7_b {E : Env} (N : Nat) (hb : Base Try.prog (law20_DecorrelateAgrees_C N) E 0) : Blk Try.prog (law20_DecorrelateAgrees_C N) E [1, 2, 7, 8, 10, 11, 36, 37] law20_DecorrelateAgrees_S0 (law20_DecorrelateAgrees_L7.drop 0) (fun y => law20_DecorrelateAgrees_s7 N y.1.1 y.1.2.1 y.1.2.2.1 y.1.2.2.2.1 y.1.2.2.2.2.1 y.1.2.2.2.2.2.1 y.2.1 y.2.2.1) (law20_DecorrelateAgrees_K7 N) :=
  Blk.chunkAt hb 4 (X := (law20_DecorrelateAgrees_K7 N .normal)) (NxOk.end (by kernel_rfl)) rfl (fun x => by kernel_rfl)
theorem law20_DecorrelateAgrees_8_b {E : Env} (N : Nat) (hb : Base Try.prog (law20_DecorrelateAgrees_C N) E 0) : Blk Try.prog (law20_DecorrelateAgrees_C N) E [1, 2, 7, 8, 36, 37] law20_DecorrelateAgrees_S1 (law20_DecorrelateAgrees_L2.drop 3) (fun y => law20_DecorrelateAgrees_8 N y.1.1 y.1.2.1 y.1.2.2.1 y.1.2.2.2.1 y.2.1 y.2.2.1) (law20_DecorrelateAgrees_K2 N) :=
  Blk.chunkAt hb 1 (X := (law20_DecorrelateAgrees_K2 N .normal)) (NxOk.end (by kernel_rfl)) rfl (fun x => by kernel_rfl)
theorem law20_DecorrelateAgrees_6_b {E : Env} (N : Nat) (hb : Base Try.prog (law20_DecorrelateAgrees_C N) E 0) : Blk Try.prog (law20_DecorrelateAgrees_C N) E [1, 2, 7, 8, 10, 11, 36, 37] law20_DecorrelateAgrees_S0 (law20_DecorrelateAgrees_L4b.drop 2) (fun y => law20_DecorrelateAgrees_6 N y.1.1 y.1.2.1 y.1.2.2.1 y.1.2.2.2.1 y.1.2.2.2.2.1 y.1.2.2.2.2.2.1 y.2.1 y.2.2.1) (law20_DecorrelateAgrees_K4 N) :=
  Blk.loopAt (Nf := N) (hns := [1, 2, 7, 8, 10, 11, 36, 37]) (ans := [1, 2, 7, 8, 36, 37]) (hc := law20_DecorrelateAgrees_S0) (ac := law20_DecorrelateAgrees_S1) (bid := 2) (step := (fun y => law20_DecorrelateAgrees_s7 N y.1.1 y.1.2.1 y.1.2.2.1 y.1.2.2.2.1 y.1.2.2.2.2.1 y.1.2.2.2.2.2.1 y.2.1 y.2.2.1)) (J := (fun e => (law20_DecorrelateAgrees_K4 N .normal) (law20_DecorrelateAgrees_S1.st [1, 2, 7, 8, 36, 37] e))) hb (by kernel_rfl) (Blk.into (X := (law20_DecorrelateAgrees_K4 N .normal)) (NxOk.end (by kernel_rfl)) (fun x => by kernel_rfl)) (law20_DecorrelateAgrees_s7_b N hb) (fun x => by kernel_rfl)
theorem law20_DecorrelateAgrees_5_b {E : Env} (N : Nat) (hb : Base Try.prog (law20_DecorrelateAgrees_C N) E 0) : Blk Try.prog (law20_DecorrelateAgrees_C N) E [1, 2, 7, 8, 36, 37] law20_DecorrelateAgrees_S1 (law20_DecorrelateAgrees_L4b.drop 0) (fun y => law20_DecorrelateAgrees_5 N y.1.1 y.1.2.1 y.1.2.2.1 y.1.2.2.2.1 y.2.1 y.2.2.1) (law20_DecorrelateAgrees_K4 N) :=
  Blk.chunkAt hb 2 (X := (goK 0 [1, 2, 7, 8, 10, 11, 36, 37] law20_DecorrelateAgrees_S0 (fun y => law20_DecorrelateAgrees_6 N y.1.1 y.1.2.1 y.1.2.2.1 y.1.2.2.2.1 y.1.2.2.2.2.1 y.1.2.2.2.2.2.1 y.2.1 y.2.2.1))) (NxOk.go hb (law20_DecorrelateAgrees_6_b N hb)) rfl (fun x => by kernel_rfl)
theorem law20_DecorrelateAgrees_3_b {E : Env} (N : Nat) (hb : Base Try.prog (law20_DecorrelateAgrees_C N) E 0) : Blk Try.prog (law20_DecorrelateAgrees_C N) E [1, 2, 7, 8, 36, 37] law20_DecorrelateAgrees_S1 (law20_DecorrelateAgrees_L2.drop 2) (fun y => law20_DecorrelateAgrees_3 N y.1.1 y.1.2.1 y.1.2.2.1 y.1.2.2.2.1 y.2.1 y.2.2.1) (law20_DecorrelateAgrees_K2 N) :=
  Blk.blockAt (bid := 1) (X := (goK 0 [1, 2, 7, 8, 36, 37] law20_DecorrelateAgrees_S1 (fun y => law20_DecorrelateAgrees_8 N y.1.1 y.1.2.1 y.1.2.2.1 y.1.2.2.2.1 y.2.1 y.2.2.1))) (Y := (goK 0 [1, 2, 7, 8, 36, 37] law20_DecorrelateAgrees_S1 (fun y => law20_DecorrelateAgrees_5 N y.1.1 y.1.2.1 y.1.2.2.1 y.1.2.2.2.1 y.2.1 y.2.2.1))) (by kernel_rfl) (NxOk.go hb (law20_DecorrelateAgrees_8_b N hb)) (NxOk.go hb (law20_DecorrelateAgrees_5_b N hb)) (fun x => by kernel_rfl)
theorem law20_DecorrelateAgrees_s2_b {E : Env} (N : Nat) (hb : Base Try.prog (law20_DecorrelateAgrees_C N) E 0) : Blk Try.prog (law20_DecorrelateAgrees_C N) E [1, 2, 7, 8, 36, 37] law20_DecorrelateAgrees_S1 (law20_DecorrelateAgrees_L2.drop 0) (fun y => law20_DecorrelateAgrees_s2 N y.1.1 y.1.2.1 y.1.2.2.1 y.1.2.2.2.1 y.2.1 y.2.2.1) (law20_DecorrelateAgrees_K2 N) :=
  Blk.chunkAt hb 2 (X := (goK 0 [1, 2, 7, 8, 36, 37] law20_DecorrelateAgrees_S1 (fun y => law20_DecorrelateAgrees_3 N y.1.1 y.1.2.1 y.1.2.2.1 y.1.2.2.2.1 y.2.1 y.2.2.1))) (NxOk.go hb (law20_DecorrelateAgrees_3_b N hb)) rfl (fun x => by kernel_rfl)
theorem law20_DecorrelateAgrees_16_b {E : Env} (N : Nat) (hb : Base Try.prog (law20_DecorrelateAgrees_C N) E 0) : Blk Try.prog (law20_DecorrelateAgrees_C N) E [1, 2, 7, 8, 13, 75, 76, 77] law20_DecorrelateAgrees_S2 (law20_DecorrelateAgrees_L11.drop 3) (fun y => law20_DecorrelateAgrees_16 N y.1.1 y.1.2.1 y.1.2.2.1 y.1.2.2.2.1 y.2.1 y.2.2.1 y.2.2.2.1) (law20_DecorrelateAgrees_K11 N) :=
  Blk.chunkAt hb 1 (X := (law20_DecorrelateAgrees_K11 N .normal)) (NxOk.end (by kernel_rfl)) rfl (fun x => by kernel_rfl)
theorem law20_DecorrelateAgrees_s18_b {E : Env} (N : Nat) (hb : Base Try.prog (law20_DecorrelateAgrees_C N) E 0) : Blk Try.prog (law20_DecorrelateAgrees_C N) E [1, 2, 7, 8, 13, 15, 16, 17, 18, 75, 76, 77, 102, 103, 104] law20_DecorrelateAgrees_S3 (law20_DecorrelateAgrees_L18.drop 0) (fun y => law20_DecorrelateAgrees_s18 N y.1.1 y.1.2.1 y.1.2.2.1 y.1.2.2.2.1 y.1.2.2.2.2.1 y.1.2.2.2.2.2.1 y.1.2.2.2.2.2.2.1 y.1.2.2.2.2.2.2.2.1 y.1.2.2.2.2.2.2.2.2.1 y.2.1 y.2.2.1 y.2.2.2.1 y.2.2.2.2.1) (law20_DecorrelateAgrees_K18 N) :=
  Blk.chunkAt hb 4 (X := (law20_DecorrelateAgrees_K18 N .normal)) (NxOk.end (by kernel_rfl)) rfl (fun x => by kernel_rfl)
theorem law20_DecorrelateAgrees_19_b {E : Env} (N : Nat) (hb : Base Try.prog (law20_DecorrelateAgrees_C N) E 0) : Blk Try.prog (law20_DecorrelateAgrees_C N) E [1, 2, 7, 8, 13, 17, 18, 75, 76, 77] law20_DecorrelateAgrees_S4 (law20_DecorrelateAgrees_L13b.drop 7) (fun y => law20_DecorrelateAgrees_19 N y.1.1 y.1.2.1 y.1.2.2.1 y.1.2.2.2.1 y.1.2.2.2.2.1 y.1.2.2.2.2.2.1 y.2.1 y.2.2.1 y.2.2.2.1) (law20_DecorrelateAgrees_K13 N) :=
  Blk.chunkAt hb 2 (X := (law20_DecorrelateAgrees_K13 N .normal)) (NxOk.end (by kernel_rfl)) rfl (fun x => by kernel_rfl)
theorem law20_DecorrelateAgrees_17_b {E : Env} (N : Nat) (hb : Base Try.prog (law20_DecorrelateAgrees_C N) E 0) : Blk Try.prog (law20_DecorrelateAgrees_C N) E [1, 2, 7, 8, 13, 15, 16, 17, 18, 75, 76, 77, 102, 103, 104] law20_DecorrelateAgrees_S3 (law20_DecorrelateAgrees_L13b.drop 6) (fun y => law20_DecorrelateAgrees_17 N y.1.1 y.1.2.1 y.1.2.2.1 y.1.2.2.2.1 y.1.2.2.2.2.1 y.1.2.2.2.2.2.1 y.1.2.2.2.2.2.2.1 y.1.2.2.2.2.2.2.2.1 y.1.2.2.2.2.2.2.2.2.1 y.2.1 y.2.2.1 y.2.2.2.1 y.2.2.2.2.1) (law20_DecorrelateAgrees_K13 N) :=
  Blk.loopAt (Nf := N) (hns := [1, 2, 7, 8, 13, 15, 16, 17, 18, 75, 76, 77, 102, 103, 104]) (ans := [1, 2, 7, 8, 13, 17, 18, 75, 76, 77]) (hc := law20_DecorrelateAgrees_S3) (ac := law20_DecorrelateAgrees_S4) (bid := 6) (step := (fun y => law20_DecorrelateAgrees_s18 N y.1.1 y.1.2.1 y.1.2.2.1 y.1.2.2.2.1 y.1.2.2.2.2.1 y.1.2.2.2.2.2.1 y.1.2.2.2.2.2.2.1 y.1.2.2.2.2.2.2.2.1 y.1.2.2.2.2.2.2.2.2.1 y.2.1 y.2.2.1 y.2.2.2.1 y.2.2.2.2.1)) (J := (fun e => (goK 0 [1, 2, 7, 8, 13, 17, 18, 75, 76, 77] law20_DecorrelateAgrees_S4 (fun y => law20_DecorrelateAgrees_19 N y.1.1 y.1.2.1 y.1.2.2.1 y.1.2.2.2.1 y.1.2.2.2.2.1 y.1.2.2.2.2.2.1 y.2.1 y.2.2.1 y.2.2.2.1)) (law20_DecorrelateAgrees_S4.st [1, 2, 7, 8, 13, 17, 18, 75, 76, 77] e))) hb (by kernel_rfl) (Blk.into (X := (goK 0 [1, 2, 7, 8, 13, 17, 18, 75, 76, 77] law20_DecorrelateAgrees_S4 (fun y => law20_DecorrelateAgrees_19 N y.1.1 y.1.2.1 y.1.2.2.1 y.1.2.2.2.1 y.1.2.2.2.2.1 y.1.2.2.2.2.2.1 y.2.1 y.2.2.1 y.2.2.2.1))) (NxOk.go hb (law20_DecorrelateAgrees_19_b N hb)) (fun x => by kernel_rfl)) (law20_DecorrelateAgrees_s18_b N hb) (fun x => by kernel_rfl)
theorem law20_DecorrelateAgrees_15_b {E : Env} (N : Nat) (hb : Base Try.prog (law20_DecorrelateAgrees_C N) E 0) : Blk Try.prog (law20_DecorrelateAgrees_C N) E [1, 2, 7, 8, 13, 15, 75, 76, 77, 94] law20_DecorrelateAgrees_S5 (law20_DecorrelateAgrees_L13b.drop 2) (fun y => law20_DecorrelateAgrees_15 N y.1.1 y.1.2.1 y.1.2.2.1 y.1.2.2.2.1 y.1.2.2.2.2.1 y.2.1 y.2.2.1 y.2.2.2.1 y.2.2.2.2.1) (law20_DecorrelateAgrees_K13 N) :=
  Blk.chunkAt hb 4 (X := (goK 0 [1, 2, 7, 8, 13, 15, 16, 17, 18, 75, 76, 77, 102, 103, 104] law20_DecorrelateAgrees_S3 (fun y => law20_DecorrelateAgrees_17 N y.1.1 y.1.2.1 y.1.2.2.1 y.1.2.2.2.1 y.1.2.2.2.2.1 y.1.2.2.2.2.2.1 y.1.2.2.2.2.2.2.1 y.1.2.2.2.2.2.2.2.1 y.1.2.2.2.2.2.2.2.2.1 y.2.1 y.2.2.1 y.2.2.2.1 y.2.2.2.2.1))) (NxOk.go hb (law20_DecorrelateAgrees_17_b N hb)) rfl (fun x => by kernel_rfl)
theorem law20_DecorrelateAgrees_14_b {E : Env} (N : Nat) (hb : Base Try.prog (law20_DecorrelateAgrees_C N) E 0) : Blk Try.prog (law20_DecorrelateAgrees_C N) E [1, 2, 7, 8, 13, 75, 76, 77] law20_DecorrelateAgrees_S2 (law20_DecorrelateAgrees_L13b.drop 0) (fun y => law20_DecorrelateAgrees_14 N y.1.1 y.1.2.1 y.1.2.2.1 y.1.2.2.2.1 y.2.1 y.2.2.1 y.2.2.2.1) (law20_DecorrelateAgrees_K13 N) :=
  Blk.chunkAt hb 2 (X := (goK 0 [1, 2, 7, 8, 13, 15, 75, 76, 77, 94] law20_DecorrelateAgrees_S5 (fun y => law20_DecorrelateAgrees_15 N y.1.1 y.1.2.1 y.1.2.2.1 y.1.2.2.2.1 y.1.2.2.2.2.1 y.2.1 y.2.2.1 y.2.2.2.1 y.2.2.2.2.1))) (NxOk.go hb (law20_DecorrelateAgrees_15_b N hb)) rfl (fun x => by kernel_rfl)
theorem law20_DecorrelateAgrees_12_b {E : Env} (N : Nat) (hb : Base Try.prog (law20_DecorrelateAgrees_C N) E 0) : Blk Try.prog (law20_DecorrelateAgrees_C N) E [1, 2, 7, 8, 13, 75, 76, 77] law20_DecorrelateAgrees_S2 (law20_DecorrelateAgrees_L11.drop 2) (fun y => law20_DecorrelateAgrees_12 N y.1.1 y.1.2.1 y.1.2.2.1 y.1.2.2.2.1 y.2.1 y.2.2.1 y.2.2.2.1) (law20_DecorrelateAgrees_K11 N) :=
  Blk.blockAt (bid := 5) (X := (goK 0 [1, 2, 7, 8, 13, 75, 76, 77] law20_DecorrelateAgrees_S2 (fun y => law20_DecorrelateAgrees_16 N y.1.1 y.1.2.1 y.1.2.2.1 y.1.2.2.2.1 y.2.1 y.2.2.1 y.2.2.2.1))) (Y := (goK 0 [1, 2, 7, 8, 13, 75, 76, 77] law20_DecorrelateAgrees_S2 (fun y => law20_DecorrelateAgrees_14 N y.1.1 y.1.2.1 y.1.2.2.1 y.1.2.2.2.1 y.2.1 y.2.2.1 y.2.2.2.1))) (by kernel_rfl) (NxOk.go hb (law20_DecorrelateAgrees_16_b N hb)) (NxOk.go hb (law20_DecorrelateAgrees_14_b N hb)) (fun x => by kernel_rfl)
theorem law20_DecorrelateAgrees_s11_b {E : Env} (N : Nat) (hb : Base Try.prog (law20_DecorrelateAgrees_C N) E 0) : Blk Try.prog (law20_DecorrelateAgrees_C N) E [1, 2, 7, 8, 13, 75, 76, 77] law20_DecorrelateAgrees_S2 (law20_DecorrelateAgrees_L11.drop 0) (fun y => law20_DecorrelateAgrees_s11 N y.1.1 y.1.2.1 y.1.2.2.1 y.1.2.2.2.1 y.2.1 y.2.2.1 y.2.2.2.1) (law20_DecorrelateAgrees_K11 N) :=
  Blk.chunkAt hb 2 (X := (goK 0 [1, 2, 7, 8, 13, 75, 76, 77] law20_DecorrelateAgrees_S2 (fun y => law20_DecorrelateAgrees_12 N y.1.1 y.1.2.1 y.1.2.2.1 y.1.2.2.2.1 y.2.1 y.2.2.1 y.2.2.2.1))) (NxOk.go hb (law20_DecorrelateAgrees_12_b N hb)) rfl (fun x => by kernel_rfl)
theorem law20_DecorrelateAgrees_20_b {E : Env} (N : Nat) (hb : Base Try.prog (law20_DecorrelateAgrees_C N) E 0) : Blk Try.prog (law20_DecorrelateAgrees_C N) E [] law20_DecorrelateAgrees_S6 (law20_DecorrelateAgrees_L.drop 14) (fun y => law20_DecorrelateAgrees_20 N) (law20_DecorrelateAgrees_K N) :=
  Blk.chunkAt hb 2 (X := (law20_DecorrelateAgrees_K N .normal)) (NxOk.end (by kernel_rfl)) rfl (fun x => by kernel_rfl)
theorem law20_DecorrelateAgrees_10_b {E : Env} (N : Nat) (hb : Base Try.prog (law20_DecorrelateAgrees_C N) E 0) : Blk Try.prog (law20_DecorrelateAgrees_C N) E [1, 2, 7, 8, 13, 75, 76, 77] law20_DecorrelateAgrees_S2 (law20_DecorrelateAgrees_L.drop 13) (fun y => law20_DecorrelateAgrees_10 N y.1.1 y.1.2.1 y.1.2.2.1 y.1.2.2.2.1 y.2.1 y.2.2.1 y.2.2.2.1) (law20_DecorrelateAgrees_K N) :=
  Blk.loopAt (Nf := N) (hns := [1, 2, 7, 8, 13, 75, 76, 77]) (ans := []) (hc := law20_DecorrelateAgrees_S2) (ac := law20_DecorrelateAgrees_S6) (bid := 4) (step := (fun y => law20_DecorrelateAgrees_s11 N y.1.1 y.1.2.1 y.1.2.2.1 y.1.2.2.2.1 y.2.1 y.2.2.1 y.2.2.2.1)) (J := (fun e => (goK 0 [] law20_DecorrelateAgrees_S6 (fun y => law20_DecorrelateAgrees_20 N)) (law20_DecorrelateAgrees_S6.st [] e))) hb (by kernel_rfl) (Blk.into (X := (goK 0 [] law20_DecorrelateAgrees_S6 (fun y => law20_DecorrelateAgrees_20 N))) (NxOk.go hb (law20_DecorrelateAgrees_20_b N hb)) (fun x => by kernel_rfl)) (law20_DecorrelateAgrees_s11_b N hb) (fun x => by kernel_rfl)
theorem law20_DecorrelateAgrees_9_b {E : Env} (N : Nat) (hb : Base Try.prog (law20_DecorrelateAgrees_C N) E 0) : Blk Try.prog (law20_DecorrelateAgrees_C N) E [1, 2, 7, 8] law20_DecorrelateAgrees_S7 (law20_DecorrelateAgrees_L.drop 9) (fun y => law20_DecorrelateAgrees_9 N y.1.1 y.1.2.1 y.2.1 y.2.2.1) (law20_DecorrelateAgrees_K N) :=
  Blk.chunkAt hb 4 (X := (goK 0 [1, 2, 7, 8, 13, 75, 76, 77] law20_DecorrelateAgrees_S2 (fun y => law20_DecorrelateAgrees_10 N y.1.1 y.1.2.1 y.1.2.2.1 y.1.2.2.2.1 y.2.1 y.2.2.1 y.2.2.2.1))) (NxOk.go hb (law20_DecorrelateAgrees_10_b N hb)) rfl (fun x => by kernel_rfl)
theorem law20_DecorrelateAgrees_1_b {E : Env} (N : Nat) (hb : Base Try.prog (law20_DecorrelateAgrees_C N) E 0) : Blk Try.prog (law20_DecorrelateAgrees_C N) E [1, 2, 7, 8, 36, 37] law20_DecorrelateAgrees_S1 (law20_DecorrelateAgrees_L.drop 8) (fun y => law20_DecorrelateAgrees_1 N y.1.1 y.1.2.1 y.1.2.2.1 y.1.2.2.2.1 y.2.1 y.2.2.1) (law20_DecorrelateAgrees_K N) :=
  Blk.loopAt (Nf := N) (hns := [1, 2, 7, 8, 36, 37]) (ans := [1, 2, 7, 8]) (hc := law20_DecorrelateAgrees_S1) (ac := law20_DecorrelateAgrees_S7) (bid := 0) (step := (fun y => law20_DecorrelateAgrees_s2 N y.1.1 y.1.2.1 y.1.2.2.1 y.1.2.2.2.1 y.2.1 y.2.2.1)) (J := (fun e => (goK 0 [1, 2, 7, 8] law20_DecorrelateAgrees_S7 (fun y => law20_DecorrelateAgrees_9 N y.1.1 y.1.2.1 y.2.1 y.2.2.1)) (law20_DecorrelateAgrees_S7.st [1, 2, 7, 8] e))) hb (by kernel_rfl) (Blk.into (X := (goK 0 [1, 2, 7, 8] law20_DecorrelateAgrees_S7 (fun y => law20_DecorrelateAgrees_9 N y.1.1 y.1.2.1 y.2.1 y.2.2.1))) (NxOk.go hb (law20_DecorrelateAgrees_9_b N hb)) (fun x => by kernel_rfl)) (law20_DecorrelateAgrees_s2_b N hb) (fun x => by kernel_rfl)
theorem law20_DecorrelateAgrees_b {E : Env} (N : Nat) (hb : Base Try.prog (law20_DecorrelateAgrees_C N) E 0) : Blk Try.prog (law20_DecorrelateAgrees_C N) E (List.range law20_DecorrelateAgrees_S8.ks.length) law20_DecorrelateAgrees_S8 (law20_DecorrelateAgrees_L.drop 0) (fun y => law20_DecorrelateAgrees N y.1.1 y.1.2.1 y.1.2.2.1) (law20_DecorrelateAgrees_K N) :=
  Blk.chunkAt hb 8 (X := (goK 0 [1, 2, 7, 8, 36, 37] law20_DecorrelateAgrees_S1 (fun y => law20_DecorrelateAgrees_1 N y.1.1 y.1.2.1 y.1.2.2.1 y.1.2.2.2.1 y.2.1 y.2.2.1))) (NxOk.go hb (law20_DecorrelateAgrees_1_b N hb)) rfl (fun x => by kernel_rfl)
noncomputable def law20_DecorrelateAgrees_ctr (N : Nat) : Ctr := ⟨law20_DecorrelateAgrees_S8, law20_DecorrelateAgrees_S9.un [false], 0, (fun y => law20_DecorrelateAgrees N y.1.1 y.1.2.1 y.1.2.2.1)⟩
theorem law20_DecorrelateAgrees_ctrs (N : Nat) : CtrsOk Try.prog (law20_DecorrelateAgrees_C N) := ctrs_of (Γ := law20_DecorrelateAgrees_C N) (by
  intro p hp
  simp only [law20_DecorrelateAgrees_C, List.mem_cons, List.not_mem_nil, or_false] at hp
  rcases hp with rfl | rfl | rfl | rfl | rfl | rfl | rfl | rfl | rfl
  · exact law20_awake_ok N
  · exact make_New_ok N
  · exact make_Codes_Rules_ok N
  · exact decorrelate_Entries_ok N
  · exact law20_apart_ok N
  · exact ref20_Corners_ok N
  · exact make_Codes_Packet_ok N
  · exact ref22_Rule_ok N
  · exact decorrelate_Has_ok N)
theorem law20_DecorrelateAgrees_ok (N : Nat) : Ctr.ok Try.prog G_globs 12 (law20_DecorrelateAgrees_ctr N) :=
  ctr_fn (Γ := law20_DecorrelateAgrees_C N) (rfit := law20_DecorrelateAgrees_S9) (bs := [false]) (res := [6]) (by kernel_rfl) (tys_ok G_tys_ok) (law20_DecorrelateAgrees_ctrs N) Try.func12 (by kernel_rfl) (by kernel_rfl) Try.ntmps12 (by kernel_rfl) (by kernel_rfl) (by kernel_rfl) (by kernel_rfl) (fun E hb => law20_DecorrelateAgrees_b N hb)
end Go.Proofs.Ytgbkkfpheahdfaa
namespace Go.Proofs.Ytgbkkfpheahdfaa
open Go
set_option maxRecDepth 100000
set_option linter.unusedVariables false
/-! (*ipsecgate/ipsecgatemake.Codes).Bytes -/
abbrev make_Codes_Bytes_R : Type := ((Unit) × (((List UInt8) × (Int × Unit)) × (List UInt8) × Unit))
noncomputable def make_Codes_Bytes_s2 (N : Nat) (n_1 : Int) (i_6 : Int) (p0 : ((List UInt8) × (Int × Unit))) (out_5 : (List UInt8)) : Option (Lo ((Int × Int × Unit) × (((List UInt8) × (Int × Unit)) × (List UInt8) × Unit)) ((Unit) × (((List UInt8) × (Int × Unit)) × (List UInt8) × Unit)) make_Codes_Bytes_R) :=
  bif (decide (i_6 < n_1)) then
    Option.bind (make_Codes_Next N (256 : Int) p0) fun y2 =>
    let x4 := w64 (y2.1.1 + (w64 (i_6 * (7 : Int))))
    bif room (out_5.length + ([iu8 x4] : List UInt8).length) 1 then
    some (.go ((n_1, (w64 (i_6 + (1 : Int))), ()), (y2.2.1, (out_5 ++ ([iu8 x4] : List UInt8)), ())))
    else none
  else
    some (.br ((()), (p0, out_5, ())))
noncomputable def make_Codes_Bytes_3 (N : Nat) (p0 : ((List UInt8) × (Int × Unit))) (out_5 : (List UInt8)) : Option make_Codes_Bytes_R :=
  some ((()), (p0, out_5, ()))
noncomputable def make_Codes_Bytes_1 (N : Nat) (n_1 : Int) (i_6 : Int) (p0 : ((List UInt8) × (Int × Unit))) (out_5 : (List UInt8)) : Option make_Codes_Bytes_R :=
  loopK N (fun y => make_Codes_Bytes_s2 N y.1.1 y.1.2.1 y.2.1 y.2.2.1) (fun (e : ((Unit) × (((List UInt8) × (Int × Unit)) × (List UInt8) × Unit))) => make_Codes_Bytes_3 N e.2.1 e.2.2.1) ((n_1, i_6, ()), (p0, out_5, ()))
noncomputable def make_Codes_Bytes (N : Nat) (n_1 : Int) (c_0 : ((List UInt8) × (Int × Unit))) : Option make_Codes_Bytes_R :=
  make_Codes_Bytes_1 N n_1 (0 : Int) c_0 ([] : List UInt8)
noncomputable def make_Codes_Bytes_C (N : Nat) : Ctx := ⟨22, G_tys, [(36, make_Codes_Next_ctr N)], G_globs⟩
noncomputable def make_Codes_Bytes_S0 : Spec := ⟨[.ref 0 (.pair (.sl .u8) (.pair .i64 .unit)), .val .i64, .row 1, .val .i64], [(.box 113 (.pair (.sl .u8) (.pair .i64 .unit)), .fix 0), (.row 5 .u8, .pos 2)]⟩
noncomputable def make_Codes_Bytes_S1 : Spec := ⟨[.row 1], [(.box 113 (.pair (.sl .u8) (.pair .i64 .unit)), .fix 0), (.row 5 .u8, .pos 0)]⟩
noncomputable def make_Codes_Bytes_S2 : Spec := ⟨[.ref 0 (.pair (.sl .u8) (.pair .i64 .unit)), .val .i64], [(.box 113 (.pair (.sl .u8) (.pair .i64 .unit)), .pos 0)]⟩
noncomputable def make_Codes_Bytes_K (_N : Nat) : XE → GS → Option make_Codes_Bytes_R := retK 1 [4] [false] make_Codes_Bytes_S1
noncomputable def make_Codes_Bytes_L : List Code := (bodyOf (some Try.f56))
noncomputable def make_Codes_Bytes_L2 : List Code := (loopOf (make_Codes_Bytes_L[3]?))
noncomputable def make_Codes_Bytes_K2 (N : Nat) : XE → GS → Option (Lo ((Int × Int × Unit) × (((List UInt8) × (Int × Unit)) × (List UInt8) × Unit)) ((Unit) × (((List UInt8) × (Int × Unit)) × (List UInt8) × Unit)) make_Codes_Bytes_R) := roundK (some 0) (fit 1 [0, 1, 5, 6] make_Codes_Bytes_S0) (fit 1 [5] make_Codes_Bytes_S1) (make_Codes_Bytes_K N)
theorem make_Codes_Bytes_s2_b {E : Env} (N : Nat) (hb : Base Try.prog (make_Codes_Bytes_C N) E 1) : Blk Try.prog (make_Codes_Bytes_C N) E [0, 1, 5, 6] make_Codes_Bytes_S0 (make_Codes_Bytes_L2.drop 0) (fun y => make_Codes_Bytes_s2 N y.1.1 y.1.2.1 y.2.1 y.2.2.1) (make_Codes_Bytes_K2 N) :=
  Blk.chunkAt hb 4 (X := (make_Codes_Bytes_K2 N .normal)) (NxOk.end (by kernel_rfl)) rfl (fun x => by kernel_rfl)
theorem make_Codes_Bytes_3_b {E : Env} (N : Nat) (hb : Base Try.prog (make_Codes_Bytes_C N) E 1) : Blk Try.prog (make_Codes_Bytes_C N) E [5] make_Codes_Bytes_S1 (make_Codes_Bytes_L.drop 4) (fun y => make_Codes_Bytes_3 N y.2.1 y.2.2.1) (make_Codes_Bytes_K N) :=
  Blk.chunkAt hb 2 (X := (make_Codes_Bytes_K N .normal)) (NxOk.end (by kernel_rfl)) rfl (fun x => by kernel_rfl)
theorem make_Codes_Bytes_1_b {E : Env} (N : Nat) (hb : Base Try.prog (make_Codes_Bytes_C N) E 1) : Blk Try.prog (make_Codes_Bytes_C N) E [0, 1, 5, 6] make_Codes_Bytes_S0 (make_Codes_Bytes_L.drop 3) (fun y => make_Codes_Bytes_1 N y.1.1 y.1.2.1 y.2.1 y.2.2.1) (make_Codes_Bytes_K N) :=
  Blk.loopAt (Nf := N) (hns := [0, 1, 5, 6]) (ans := [5]) (hc := make_Codes_Bytes_S0) (ac := make_Codes_Bytes_S1) (bid := 0) (step := (fun y => make_Codes_Bytes_s2 N y.1.1 y.1.2.1 y.2.1 y.2.2.1)) (J := (fun e => (goK 1 [5] make_Codes_Bytes_S1 (fun y => make_Codes_Bytes_3 N y.2.1 y.2.2.1)) (make_Codes_Bytes_S1.st [5] e))) hb (by kernel_rfl) (Blk.into (X := (goK 1 [5] make_Codes_Bytes_S1 (fun y => make_Codes_Bytes_3 N y.2.1 y.2.2.1))) (NxOk.go hb (make_Codes_Bytes_3_b N hb)) (fun x => by kernel_rfl)) (make_Codes_Bytes_s2_b N hb) (fun x => by kernel_rfl)
theorem make_Codes_Bytes_b {E : Env} (N : Nat) (hb : Base Try.prog (make_Codes_Bytes_C N) E 1) : Blk Try.prog (make_Codes_Bytes_C N) E (List.range make_Codes_Bytes_S2.ks.length) make_Codes_Bytes_S2 (make_Codes_Bytes_L.drop 0) (fun y => make_Codes_Bytes N y.1.1 y.2.1) (make_Codes_Bytes_K N) :=
  Blk.chunkAt hb 3 (X := (goK 1 [0, 1, 5, 6] make_Codes_Bytes_S0 (fun y => make_Codes_Bytes_1 N y.1.1 y.1.2.1 y.2.1 y.2.2.1))) (NxOk.go hb (make_Codes_Bytes_1_b N hb)) rfl (fun x => by kernel_rfl)
noncomputable def make_Codes_Bytes_ctr (N : Nat) : Ctr := ⟨make_Codes_Bytes_S2, make_Codes_Bytes_S1.un [false], 1, (fun y => make_Codes_Bytes N y.1.1 y.2.1)⟩
theorem make_Codes_Bytes_ctrs (N : Nat) : CtrsOk Try.prog (make_Codes_Bytes_C N) := ctrs_of (Γ := make_Codes_Bytes_C N) (by
  intro p hp
  simp only [make_Codes_Bytes_C, List.mem_cons, List.not_mem_nil, or_false] at hp
  rcases hp with rfl
  · exact make_Codes_Next_ok N)
theorem make_Codes_Bytes_ok (N : Nat) : Ctr.ok Try.prog G_globs 56 (make_Codes_Bytes_ctr N) :=
  ctr_fn (Γ := make_Codes_Bytes_C N) (rfit := make_Codes_Bytes_S1) (bs := [false]) (res := [4]) (by kernel_rfl) (tys_ok G_tys_ok) (make_Codes_Bytes_ctrs N) Try.func56 (by kernel_rfl) (by kernel_rfl) Try.ntmps56 (by kernel_rfl) (by kernel_rfl) (by kernel_rfl) (by kernel_rfl) (fun E hb => make_Codes_Bytes_b N hb)
end Go.Proofs.Ytgbkkfpheahdfaa
namespace Go.Proofs.Ytgbkkfpheahdfaa
open Go
set_option maxRecDepth 100000
set_option linter.unusedVariables false
/-! ipsecgate/decorrelate.Meet -/
abbrev decorrelate_Meet_R : Type := ((D45 × Bool × Unit) × (Unit))
noncomputable def decorrelate_Meet (N : Nat) (a_0 : D45) (b_1 : D45) : Option decorrelate_Meet_R :=
  Option.bind (decorrelate_ofBox N a_0) fun y1 =>
  Option.bind (decorrelate_ofBox N b_1) fun y2 =>
  Option.bind (decorrelate_product_meet N y1.1.1 y2.1.1) fun y3 =>
  bif (!y3.1.2.1) then
    some (((((0 : Int), (0 : UInt64), (0 : UInt64), ()), ((0 : Int), (0 : UInt64), (0 : UInt64), ()), ((0 : Int), (0 : UInt64), (0 : UInt64), ()), ((0 : Int), (0 : UInt64), (0 : UInt64), ()), (0 : Int), (0 : Int), (List.replicate 2 (0 : Int)), (List.replicate 2 (0 : Int)), ()), false, ()), (()))
  else
    Option.bind (decorrelate_product_box N y3.1.1) fun y5 =>
    some ((y5.1.1, true, ()), (()))
noncomputable def decorrelate_Meet_C (N : Nat) : Ctx := ⟨21, G_tys, [(79, decorrelate_ofBox_ctr N), (80, decorrelate_product_meet_ctr N), (83, decorrelate_product_box_ctr N)], G_globs⟩
noncomputable def decorrelate_Meet_S0 : Spec := ⟨[.val T45, .val T45], []⟩
noncomputable def decorrelate_Meet_S1 : Spec := ⟨[.fp T45, .val .bool], []⟩
noncomputable def decorrelate_Meet_K (_N : Nat) : XE → GS → Option decorrelate_Meet_R := retK 0 [4, 5] [true, false] decorrelate_Meet_S1
noncomputable def decorrelate_Meet_L : List Code := (bodyOf (some Try.f32))
theorem decorrelate_Meet_b {E : Env} (N : Nat) (hb : Base Try.prog (decorrelate_Meet_C N) E 0) : Blk Try.prog (decorrelate_Meet_C N) E (List.range decorrelate_Meet_S0.ks.length) decorrelate_Meet_S0 (decorrelate_Meet_L.drop 0) (fun y => decorrelate_Meet N y.1.1 y.1.2.1) (decorrelate_Meet_K N) :=
  Blk.chunkAt hb 6 (X := (decorrelate_Meet_K N .normal)) (NxOk.end (by kernel_rfl)) rfl (fun x => by kernel_rfl)
noncomputable def decorrelate_Meet_ctr (N : Nat) : Ctr := ⟨decorrelate_Meet_S0, decorrelate_Meet_S1.un [true, false], 0, (fun y => decorrelate_Meet N y.1.1 y.1.2.1)⟩
theorem decorrelate_Meet_ctrs (N : Nat) : CtrsOk Try.prog (decorrelate_Meet_C N) := ctrs_of (Γ := decorrelate_Meet_C N) (by
  intro p hp
  simp only [decorrelate_Meet_C, List.mem_cons, List.not_mem_nil, or_false] at hp
  rcases hp with rfl | rfl | rfl
  · exact decorrelate_ofBox_ok N
  · exact decorrelate_product_meet_ok N
  · exact decorrelate_product_box_ok N)
theorem decorrelate_Meet_ok (N : Nat) : Ctr.ok Try.prog G_globs 32 (decorrelate_Meet_ctr N) :=
  ctr_fn (Γ := decorrelate_Meet_C N) (rfit := decorrelate_Meet_S1) (bs := [true, false]) (res := [4, 5]) (by kernel_rfl) (tys_ok G_tys_ok) (decorrelate_Meet_ctrs N) Try.func32 (by kernel_rfl) (by kernel_rfl) Try.ntmps32 (by kernel_rfl) (by kernel_rfl) (by kernel_rfl) (by kernel_rfl) (fun E hb => decorrelate_Meet_b N hb)
end Go.Proofs.Ytgbkkfpheahdfaa
namespace Go.Proofs.Ytgbkkfpheahdfaa
open Go
set_option maxRecDepth 100000
set_option linter.unusedVariables false
/-! ipsecgate/ipsecgateref20.Minus -/
abbrev ref20_Minus_R : Type := ((Unit) × ((List D45) × Unit))
noncomputable def ref20_Minus_s2 (N : Nat) (k_9 : Int) (m_5 : D45) (out_7 : (List D45)) (c_8 : D45) : Option (Lo ((Int × Unit) × (D45 × (List D45) × D45 × Unit)) ((Unit) × ((List D45) × Unit)) ref20_Minus_R) :=
  bif (decide (k_9 < (5 : Int))) then
    Option.bind (ref20_low N c_8 k_9) fun y4 =>
    Option.bind (ref20_low N m_5 k_9) fun y5 =>
    Option.bind (ref05_Less N y4.1.1 y5.1.1) fun y6 =>
    bif y6.1.1 then
      Option.bind (ref20_low N c_8 k_9) fun y7 =>
      Option.bind (ref20_low N m_5 k_9) fun y8 =>
      Option.bind (ref20_back N y8.1.1) fun y9 =>
      Option.bind (ref20_with N c_8 k_9 y7.1.1 y9.1.1) fun y10 =>
      bif room (out_7.length + ([y10.1.1] : List D45).length) 144 then
      let x11 := out_7 ++ ([y10.1.1] : List D45)
      Option.bind (ref20_high N m_5 k_9) fun y12 =>
      Option.bind (ref20_high N c_8 k_9) fun y13 =>
      Option.bind (ref05_Less N y12.1.1 y13.1.1) fun y14 =>
      bif y14.1.1 then
        Option.bind (ref20_high N m_5 k_9) fun y15 =>
        Option.bind (ref20_on N y15.1.1) fun y16 =>
        Option.bind (ref20_high N c_8 k_9) fun y17 =>
        Option.bind (ref20_with N c_8 k_9 y16.1.1 y17.1.1) fun y18 =>
        bif room (x11.length + ([y18.1.1] : List D45).length) 144 then
        Option.bind (ref20_low N m_5 k_9) fun y20 =>
        Option.bind (ref20_high N m_5 k_9) fun y21 =>
        Option.bind (ref20_with N c_8 k_9 y20.1.1 y21.1.1) fun y22 =>
        some (.go (((w64 (k_9 + (1 : Int))), ()), (m_5, (x11 ++ ([y18.1.1] : List D45)), y22.1.1, ())))
        else none
      else
        Option.bind (ref20_low N m_5 k_9) fun y24 =>
        Option.bind (ref20_high N m_5 k_9) fun y25 =>
        Option.bind (ref20_with N c_8 k_9 y24.1.1 y25.1.1) fun y26 =>
        some (.go (((w64 (k_9 + (1 : Int))), ()), (m_5, x11, y26.1.1, ())))
      else none
    else
      Option.bind (ref20_high N m_5 k_9) fun y28 =>
      Option.bind (ref20_high N c_8 k_9) fun y29 =>
      Option.bind (ref05_Less N y28.1.1 y29.1.1) fun y30 =>
      bif y30.1.1 then
        Option.bind (ref20_high N m_5 k_9) fun y31 =>
        Option.bind (ref20_on N y31.1.1) fun y32 =>
        Option.bind (ref20_high N c_8 k_9) fun y33 =>
        Option.bind (ref20_with N c_8 k_9 y32.1.1 y33.1.1) fun y34 =>
        bif room (out_7.length + ([y34.1.1] : List D45).length) 144 then
        Option.bind (ref20_low N m_5 k_9) fun y36 =>
        Option.bind (ref20_high N m_5 k_9) fun y37 =>
        Option.bind (ref20_with N c_8 k_9 y36.1.1 y37.1.1) fun y38 =>
        some (.go (((w64 (k_9 + (1 : Int))), ()), (m_5, (out_7 ++ ([y34.1.1] : List D45)), y38.1.1, ())))
        else none
      else
        Option.bind (ref20_low N m_5 k_9) fun y40 =>
        Option.bind (ref20_high N m_5 k_9) fun y41 =>
        Option.bind (ref20_with N c_8 k_9 y40.1.1 y41.1.1) fun y42 =>
        some (.go (((w64 (k_9 + (1 : Int))), ()), (m_5, out_7, y42.1.1, ())))
  else
    some (.br ((()), (out_7, ())))
noncomputable def ref20_Minus_3 (N : Nat) (out_7 : (List D45)) : Option ref20_Minus_R :=
  some ((()), (out_7, ()))
noncomputable def ref20_Minus_1 (N : Nat) (k_9 : Int) (m_5 : D45) (out_7 : (List D45)) (c_8 : D45) : Option ref20_Minus_R :=
  loopK N (fun y => ref20_Minus_s2 N y.1.1 y.2.1 y.2.2.1 y.2.2.2.1) (fun (e : ((Unit) × ((List D45) × Unit))) => ref20_Minus_3 N e.2.1) ((k_9, ()), (m_5, out_7, c_8, ()))
noncomputable def ref20_Minus (N : Nat) (a_0 : D45) (b_1 : D45) : Option ref20_Minus_R :=
  Option.bind (ref20_Meet N a_0 b_1) fun y1 =>
  bif (!y1.1.2.1) then
    some ((()), (([a_0] : List D45), ()))
  else
    ref20_Minus_1 N (0 : Int) y1.1.1 ([] : List D45) a_0
noncomputable def ref20_Minus_C (N : Nat) : Ctx := ⟨75, G_tys, [(45, ref20_Meet_ctr N), (94, ref20_low_ctr N), (97, ref05_Less_ctr N), (101, ref20_back_ctr N), (98, ref20_with_ctr N), (96, ref20_high_ctr N), (102, ref20_on_ctr N)], G_globs⟩
noncomputable def ref20_Minus_S0 : Spec := ⟨[.ref 0 T45, .row 1, .ref 2 T45, .val .i64], [(.box 46 T45, .pos 0), (.row 46 T45, .pos 1), (.box 46 T45, .pos 2)]⟩
noncomputable def ref20_Minus_S1 : Spec := ⟨[.row 0], [(.row 46 T45, .pos 0)]⟩
noncomputable def ref20_Minus_S2 : Spec := ⟨[.val T45, .val T45], []⟩
noncomputable def ref20_Minus_K (_N : Nat) : XE → GS → Option ref20_Minus_R := retK 0 [4] [false] ref20_Minus_S1
noncomputable def ref20_Minus_L : List Code := (bodyOf (some Try.f48))
noncomputable def ref20_Minus_L2 : List Code := (loopOf (ref20_Minus_L[7]?))
noncomputable def ref20_Minus_K2 (N : Nat) : XE → GS → Option (Lo ((Int × Unit) × (D45 × (List D45) × D45 × Unit)) ((Unit) × ((List D45) × Unit)) ref20_Minus_R) := roundK (some 0) (fit 0 [5, 7, 8, 9] ref20_Minus_S0) (fit 0 [7] ref20_Minus_S1) (ref20_Minus_K N)
theorem ref20_Minus_s2_b {E : Env} (N : Nat) (hb : Base Try.prog (ref20_Minus_C N) E 0) : Blk Try.prog (ref20_Minus_C N) E [5, 7, 8, 9] ref20_Minus_S0 (ref20_Minus_L2.drop 0) (fun y => ref20_Minus_s2 N y.1.1 y.2.1 y.2.2.1 y.2.2.2.1) (ref20_Minus_K2 N) :=
  Blk.chunkAt hb 4 (X := (ref20_Minus_K2 N .normal)) (NxOk.end (by kernel_rfl)) rfl (fun x => by kernel_rfl)
theorem ref20_Minus_3_b {E : Env} (N : Nat) (hb : Base Try.prog (ref20_Minus_C N) E 0) : Blk Try.prog (ref20_Minus_C N) E [7] ref20_Minus_S1 (ref20_Minus_L.drop 8) (fun y => ref20_Minus_3 N y.2.1) (ref20_Minus_K N) :=
  Blk.chunkAt hb 2 (X := (ref20_Minus_K N .normal)) (NxOk.end (by kernel_rfl)) rfl (fun x => by kernel_rfl)
theorem ref20_Minus_1_b {E : Env} (N : Nat) (hb : Base Try.prog (ref20_Minus_C N) E 0) : Blk Try.prog (ref20_Minus_C N) E [5, 7, 8, 9] ref20_Minus_S0 (ref20_Minus_L.drop 7) (fun y => ref20_Minus_1 N y.1.1 y.2.1 y.2.2.1 y.2.2.2.1) (ref20_Minus_K N) :=
  Blk.loopAt (Nf := N) (hns := [5, 7, 8, 9]) (ans := [7]) (hc := ref20_Minus_S0) (ac := ref20_Minus_S1) (bid := 0) (step := (fun y => ref20_Minus_s2 N y.1.1 y.2.1 y.2.2.1 y.2.2.2.1)) (J := (fun e => (goK 0 [7] ref20_Minus_S1 (fun y => ref20_Minus_3 N y.2.1)) (ref20_Minus_S1.st [7] e))) hb (by kernel_rfl) (Blk.into (X := (goK 0 [7] ref20_Minus_S1 (fun y => ref20_Minus_3 N y.2.1))) (NxOk.go hb (ref20_Minus_3_b N hb)) (fun x => by kernel_rfl)) (ref20_Minus_s2_b N hb) (fun x => by kernel_rfl)
theorem ref20_Minus_b {E : Env} (N : Nat) (hb : Base Try.prog (ref20_Minus_C N) E 0) : Blk Try.prog (ref20_Minus_C N) E (List.range ref20_Minus_S2.ks.length) ref20_Minus_S2 (ref20_Minus_L.drop 0) (fun y => ref20_Minus N y.1.1 y.1.2.1) (ref20_Minus_K N) :=
  Blk.chunkAt hb 7 (X := (goK 0 [5, 7, 8, 9] ref20_Minus_S0 (fun y => ref20_Minus_1 N y.1.1 y.2.1 y.2.2.1 y.2.2.2.1))) (NxOk.go hb (ref20_Minus_1_b N hb)) rfl (fun x => by kernel_rfl)
noncomputable def ref20_Minus_ctr (N : Nat) : Ctr := ⟨ref20_Minus_S2, ref20_Minus_S1.un [false], 0, (fun y => ref20_Minus N y.1.1 y.1.2.1)⟩
theorem ref20_Minus_ctrs (N : Nat) : CtrsOk Try.prog (ref20_Minus_C N) := ctrs_of (Γ := ref20_Minus_C N) (by
  intro p hp
  simp only [ref20_Minus_C, List.mem_cons, List.not_mem_nil, or_false] at hp
  rcases hp with rfl | rfl | rfl | rfl | rfl | rfl | rfl
  · exact ref20_Meet_ok N
  · exact ref20_low_ok N
  · exact ref05_Less_ok N
  · exact ref20_back_ok N
  · exact ref20_with_ok N
  · exact ref20_high_ok N
  · exact ref20_on_ok N)
theorem ref20_Minus_ok (N : Nat) : Ctr.ok Try.prog G_globs 48 (ref20_Minus_ctr N) :=
  ctr_fn (Γ := ref20_Minus_C N) (rfit := ref20_Minus_S1) (bs := [false]) (res := [4]) (by kernel_rfl) (tys_ok G_tys_ok) (ref20_Minus_ctrs N) Try.func48 (by kernel_rfl) (by kernel_rfl) Try.ntmps48 (by kernel_rfl) (by kernel_rfl) (by kernel_rfl) (by kernel_rfl) (fun E hb => ref20_Minus_b N hb)
end Go.Proofs.Ytgbkkfpheahdfaa
namespace Go.Proofs.Ytgbkkfpheahdfaa
open Go
set_option maxRecDepth 100000
set_option linter.unusedVariables false
/-! ipsecgate/ipsecgateref20.Inside -/
abbrev ref20_Inside_R : Type := ((Bool × Unit) × (Unit))
noncomputable def ref20_Inside (N : Nat) (a_0 : D45) (b_1 : D45) : Option ref20_Inside_R :=
  Option.bind (ref20_Meet N a_0 b_1) fun y1 =>
  bif y1.1.2.1 then
    some (((dq T45 y1.1.1 a_0), ()), (()))
  else
    some ((false, ()), (()))
noncomputable def ref20_Inside_C (N : Nat) : Ctx := ⟨19, G_tys, [(45, ref20_Meet_ctr N)], G_globs⟩
noncomputable def ref20_Inside_S0 : Spec := ⟨[.val T45, .val T45], []⟩
noncomputable def ref20_Inside_S1 : Spec := ⟨[.val .bool], []⟩
noncomputable def ref20_Inside_K (_N : Nat) : XE → GS → Option ref20_Inside_R := retK 0 [4] [false] ref20_Inside_S1
noncomputable def ref20_Inside_L : List Code := (bodyOf (some Try.f50))
theorem ref20_Inside_b {E : Env} (N : Nat) (hb : Base Try.prog (ref20_Inside_C N) E 0) : Blk Try.prog (ref20_Inside_C N) E (List.range ref20_Inside_S0.ks.length) ref20_Inside_S0 (ref20_Inside_L.drop 0) (fun y => ref20_Inside N y.1.1 y.1.2.1) (ref20_Inside_K N) :=
  Blk.chunkAt hb 4 (X := (ref20_Inside_K N .normal)) (NxOk.end (by kernel_rfl)) rfl (fun x => by kernel_rfl)
noncomputable def ref20_Inside_ctr (N : Nat) : Ctr := ⟨ref20_Inside_S0, ref20_Inside_S1.un [false], 0, (fun y => ref20_Inside N y.1.1 y.1.2.1)⟩
theorem ref20_Inside_ctrs (N : Nat) : CtrsOk Try.prog (ref20_Inside_C N) := ctrs_of (Γ := ref20_Inside_C N) (by
  intro p hp
  simp only [ref20_Inside_C, List.mem_cons, List.not_mem_nil, or_false] at hp
  rcases hp with rfl
  · exact ref20_Meet_ok N)
theorem ref20_Inside_ok (N : Nat) : Ctr.ok Try.prog G_globs 50 (ref20_Inside_ctr N) :=
  ctr_fn (Γ := ref20_Inside_C N) (rfit := ref20_Inside_S1) (bs := [false]) (res := [4]) (by kernel_rfl) (tys_ok G_tys_ok) (ref20_Inside_ctrs N) Try.func50 (by kernel_rfl) (by kernel_rfl) Try.ntmps50 (by kernel_rfl) (by kernel_rfl) (by kernel_rfl) (by kernel_rfl) (fun E hb => ref20_Inside_b N hb)
end Go.Proofs.Ytgbkkfpheahdfaa
namespace Go.Proofs.Ytgbkkfpheahdfaa
open Go
set_option maxRecDepth 100000
set_option linter.unusedVariables false
/-! ipsecgate/ipsecgateref19.ports -/
abbrev ref19_ports_R : Type := ((Bool × Unit) × (Unit))
noncomputable def ref19_ports (N : Nat) (p_0 : (List Int)) : Option ref19_ports_R :=
  bif (decide ((-1 : Int) ≤ (p_0.getD 0 (0 : Int)))) then
    bif (decide ((p_0.getD 1 (0 : Int)) ≤ (65535 : Int))) then
      some (((decide ((p_0.getD 0 (0 : Int)) ≤ (p_0.getD 1 (0 : Int)))), ()), (()))
    else
      some ((false, ()), (()))
  else
    some ((false, ()), (()))
noncomputable def ref19_ports_C (N : Nat) : Ctx := ⟨18, G_tys, [], G_globs⟩
noncomputable def ref19_ports_S0 : Spec := ⟨[.val (.arr 2 .i64)], []⟩
noncomputable def ref19_ports_S1 : Spec := ⟨[.val .bool], []⟩
noncomputable def ref19_ports_K (_N : Nat) : XE → GS → Option ref19_ports_R := retK 0 [2] [false] ref19_ports_S1
noncomputable def ref19_ports_L : List Code := (bodyOf (some Try.f100))
theorem ref19_ports_b {E : Env} (N : Nat) (hb : Base Try.prog (ref19_ports_C N) E 0) : Blk Try.prog (ref19_ports_C N) E (List.range ref19_ports_S0.ks.length) ref19_ports_S0 (ref19_ports_L.drop 0) (fun y => ref19_ports N y.1.1) (ref19_ports_K N) :=
  Blk.chunkAt hb 3 (X := (ref19_ports_K N .normal)) (NxOk.end (by kernel_rfl)) rfl (fun x => by kernel_rfl)
noncomputable def ref19_ports_ctr (N : Nat) : Ctr := ⟨ref19_ports_S0, ref19_ports_S1.un [false], 0, (fun y => ref19_ports N y.1.1)⟩
theorem ref19_ports_ctrs (N : Nat) : CtrsOk Try.prog (ref19_ports_C N) := ctrs_nil rfl
theorem ref19_ports_ok (N : Nat) : Ctr.ok Try.prog G_globs 100 (ref19_ports_ctr N) :=
  ctr_fn (Γ := ref19_ports_C N) (rfit := ref19_ports_S1) (bs := [false]) (res := [2]) (by kernel_rfl) (tys_ok G_tys_ok) (ref19_ports_ctrs N) Try.func100 (by kernel_rfl) (by kernel_rfl) Try.ntmps100 (by kernel_rfl) (by kernel_rfl) (by kernel_rfl) (by kernel_rfl) (fun E hb => ref19_ports_b N hb)
end Go.Proofs.Ytgbkkfpheahdfaa
namespace Go.Proofs.Ytgbkkfpheahdfaa
open Go
set_option maxRecDepth 100000
set_option linter.unusedVariables false
/-! ipsecgate/ipsecgateref19.CheckBox -/
abbrev ref19_CheckBox_R : Type := ((Int × Unit) × (Unit))
noncomputable def ref19_CheckBox_s2 (N : Nat) (i_4 : Int) (b_1 : D45) (l_3 : (List D27)) : Option (Lo ((Int × Unit) × (D45 × (List D27) × Unit)) ((Unit) × (D45 × (List D27) × Unit)) ref19_CheckBox_R) :=
  bif (decide (i_4 < (4 : Int))) then
    bif inR i_4 l_3.length then
    Option.bind (ref05_Valid N (l_3.getD i_4.toNat ((0 : Int), (0 : UInt64), (0 : UInt64), ()))) fun y3 =>
    bif (!y3.1.1) then
      some (.rt (((15 : Int), ()), (())))
    else
      bif inR i_4 l_3.length then
      bif inR (0 : Int) l_3.length then
      bif (!(decide (((l_3.getD i_4.toNat ((0 : Int), (0 : UInt64), (0 : UInt64), ())).1) = ((l_3.getD 0 ((0 : Int), (0 : UInt64), (0 : UInt64), ())).1)))) then
        some (.rt (((15 : Int), ()), (())))
      else
        some (.go (((w64 (i_4 + (1 : Int))), ()), (b_1, l_3, ())))
      else none
      else none
    else none
  else
    some (.br ((()), (b_1, l_3, ())))
noncomputable def ref19_CheckBox_3 (N : Nat) (b_1 : D45) (l_3 : (List D27)) : Option ref19_CheckBox_R :=
  bif inR (1 : Int) l_3.length then
  bif inR (0 : Int) l_3.length then
  Option.bind (ref05_Less N (l_3.getD 1 ((0 : Int), (0 : UInt64), (0 : UInt64), ())) (l_3.getD 0 ((0 : Int), (0 : UInt64), (0 : UInt64), ()))) fun y11 =>
  bif y11.1.1 then
    some (((5 : Int), ()), (()))
  else
    bif inR (3 : Int) l_3.length then
    bif inR (2 : Int) l_3.length then
    Option.bind (ref05_Less N (l_3.getD 3 ((0 : Int), (0 : UInt64), (0 : UInt64), ())) (l_3.getD 2 ((0 : Int), (0 : UInt64), (0 : UInt64), ()))) fun y14 =>
    bif y14.1.1 then
      some (((5 : Int), ()), (()))
    else
      bif (decide (b_1.2.2.2.2.1 < (0 : Int))) then
        some (((5 : Int), ()), (()))
      else
        bif (decide ((255 : Int) < b_1.2.2.2.2.2.1)) then
          some (((5 : Int), ()), (()))
        else
          bif (decide (b_1.2.2.2.2.2.1 < b_1.2.2.2.2.1)) then
            some (((5 : Int), ()), (()))
          else
            Option.bind (ref19_ports N b_1.2.2.2.2.2.2.1) fun y18 =>
            bif (!y18.1.1) then
              some (((5 : Int), ()), (()))
            else
              Option.bind (ref19_ports N b_1.2.2.2.2.2.2.2.1) fun y20 =>
              bif (!y20.1.1) then
                some (((5 : Int), ()), (()))
              else
                some (((0 : Int), ()), (()))
    else none
    else none
  else none
  else none
noncomputable def ref19_CheckBox_1 (N : Nat) (i_4 : Int) (b_1 : D45) (l_3 : (List D27)) : Option ref19_CheckBox_R :=
  loopK N (fun y => ref19_CheckBox_s2 N y.1.1 y.2.1 y.2.2.1) (fun (e : ((Unit) × (D45 × (List D27) × Unit))) => ref19_CheckBox_3 N e.2.1 e.2.2.1) ((i_4, ()), (b_1, l_3, ()))
noncomputable def ref19_CheckBox (N : Nat) (b_0 : D45) : Option ref19_CheckBox_R :=
  ref19_CheckBox_1 N (0 : Int) b_0 ([b_0.1, b_0.2.1, b_0.2.2.1, b_0.2.2.2.1] : List D27)
noncomputable def ref19_CheckBox_C (N : Nat) : Ctx := ⟨81, G_tys, [(99, ref05_Valid_ctr N), (97, ref05_Less_ctr N), (100, ref19_ports_ctr N)], G_globs⟩
noncomputable def ref19_CheckBox_S0 : Spec := ⟨[.ref 0 T45, .row 1, .val .i64], [(.box 46 T45, .pos 0), (.row 28 T27, .pos 1)]⟩
noncomputable def ref19_CheckBox_S1 : Spec := ⟨[.ref 0 T45, .row 1], [(.box 46 T45, .pos 0), (.row 28 T27, .pos 1)]⟩
noncomputable def ref19_CheckBox_S2 : Spec := ⟨[.val T45], []⟩
noncomputable def ref19_CheckBox_S3 : Spec := ⟨[.val .i64], []⟩
noncomputable def ref19_CheckBox_K (_N : Nat) : XE → GS → Option ref19_CheckBox_R := retK 0 [2] [false] ref19_CheckBox_S3
noncomputable def ref19_CheckBox_L : List Code := (bodyOf (some Try.f46))
noncomputable def ref19_CheckBox_L2 : List Code := (loopOf (ref19_CheckBox_L[3]?))
noncomputable def ref19_CheckBox_K2 (N : Nat) : XE → GS → Option (Lo ((Int × Unit) × (D45 × (List D27) × Unit)) ((Unit) × (D45 × (List D27) × Unit)) ref19_CheckBox_R) := roundK (some 0) (fit 0 [1, 3, 4] ref19_CheckBox_S0) (fit 0 [1, 3] ref19_CheckBox_S1) (ref19_CheckBox_K N)
theorem ref19_CheckBox_s2_b {E : Env} (N : Nat) (hb : Base Try.prog (ref19_CheckBox_C N) E 0) : Blk Try.prog (ref19_CheckBox_C N) E [1, 3, 4] ref19_CheckBox_S0 (ref19_CheckBox_L2.drop 0) (fun y => ref19_CheckBox_s2 N y.1.1 y.2.1 y.2.2.1) (ref19_CheckBox_K2 N) :=
  Blk.chunkAt hb 4 (X := (ref19_CheckBox_K2 N .normal)) (NxOk.end (by kernel_rfl)) rfl (fun x => by kernel_rfl)
theorem ref19_CheckBox_3_b {E : Env} (N : Nat) (hb : Base Try.prog (ref19_CheckBox_C N) E 0) : Blk Try.prog (ref19_CheckBox_C N) E [1, 3] ref19_CheckBox_S1 (ref19_CheckBox_L.drop 4) (fun y => ref19_CheckBox_3 N y.2.1 y.2.2.1) (ref19_CheckBox_K N) :=
  Blk.chunkAt hb 4 (X := (ref19_CheckBox_K N .normal)) (NxOk.end (by kernel_rfl)) rfl (fun x => by kernel_rfl)
theorem ref19_CheckBox_1_b {E : Env} (N : Nat) (hb : Base Try.prog (ref19_CheckBox_C N) E 0) : Blk Try.prog (ref19_CheckBox_C N) E [1, 3, 4] ref19_CheckBox_S0 (ref19_CheckBox_L.drop 3) (fun y => ref19_CheckBox_1 N y.1.1 y.2.1 y.2.2.1) (ref19_CheckBox_K N) :=
  Blk.loopAt (Nf := N) (hns := [1, 3, 4]) (ans := [1, 3]) (hc := ref19_CheckBox_S0) (ac := ref19_CheckBox_S1) (bid := 0) (step := (fun y => ref19_CheckBox_s2 N y.1.1 y.2.1 y.2.2.1)) (J := (fun e => (goK 0 [1, 3] ref19_CheckBox_S1 (fun y => ref19_CheckBox_3 N y.2.1 y.2.2.1)) (ref19_CheckBox_S1.st [1, 3] e))) hb (by kernel_rfl) (Blk.into (X := (goK 0 [1, 3] ref19_CheckBox_S1 (fun y => ref19_CheckBox_3 N y.2.1 y.2.2.1))) (NxOk.go hb (ref19_CheckBox_3_b N hb)) (fun x => by kernel_rfl)) (ref19_CheckBox_s2_b N hb) (fun x => by kernel_rfl)
theorem ref19_CheckBox_b {E : Env} (N : Nat) (hb : Base Try.prog (ref19_CheckBox_C N) E 0) : Blk Try.prog (ref19_CheckBox_C N) E (List.range ref19_CheckBox_S2.ks.length) ref19_CheckBox_S2 (ref19_CheckBox_L.drop 0) (fun y => ref19_CheckBox N y.1.1) (ref19_CheckBox_K N) :=
  Blk.chunkAt hb 3 (X := (goK 0 [1, 3, 4] ref19_CheckBox_S0 (fun y => ref19_CheckBox_1 N y.1.1 y.2.1 y.2.2.1))) (NxOk.go hb (ref19_CheckBox_1_b N hb)) rfl (fun x => by kernel_rfl)
noncomputable def ref19_CheckBox_ctr (N : Nat) : Ctr := ⟨ref19_CheckBox_S2, ref19_CheckBox_S3.un [false], 0, (fun y => ref19_CheckBox N y.1.1)⟩
theorem ref19_CheckBox_ctrs (N : Nat) : CtrsOk Try.prog (ref19_CheckBox_C N) := ctrs_of (Γ := ref19_CheckBox_C N) (by
  intro p hp
  simp only [ref19_CheckBox_C, List.mem_cons, List.not_mem_nil, or_false] at hp
  rcases hp with rfl | rfl | rfl
  · exact ref05_Valid_ok N
  · exact ref05_Less_ok N
  · exact ref19_ports_ok N)
theorem ref19_CheckBox_ok (N : Nat) : Ctr.ok Try.prog G_globs 46 (ref19_CheckBox_ctr N) :=
  ctr_fn (Γ := ref19_CheckBox_C N) (rfit := ref19_CheckBox_S3) (bs := [false]) (res := [2]) (by kernel_rfl) (tys_ok G_tys_ok) (ref19_CheckBox_ctrs N) Try.func46 (by kernel_rfl) (by kernel_rfl) Try.ntmps46 (by kernel_rfl) (by kernel_rfl) (by kernel_rfl) (by kernel_rfl) (fun E hb => ref19_CheckBox_b N hb)
end Go.Proofs.Ytgbkkfpheahdfaa
namespace Go.Proofs.Ytgbkkfpheahdfaa
open Go
set_option maxRecDepth 100000
set_option linter.unusedVariables false
/-! ipsecgate/ipsecgateref19.SameBoxes -/
abbrev ref19_SameBoxes_R : Type := ((Bool × Unit) × (Unit))
noncomputable def ref19_SameBoxes_s2 (N : Nat) (a_0 : (List D45)) (b_1 : (List D45)) (i_5 : Int) : Option (Lo (((List D45) × (List D45) × Int × Unit) × (Unit)) ((Unit) × (Unit)) ref19_SameBoxes_R) :=
  bif (decide (i_5 < (a_0.length : Int))) then
    bif inR i_5 a_0.length then
    bif inR i_5 b_1.length then
    bif (!(dq T45 (a_0.getD i_5.toNat (((0 : Int), (0 : UInt64), (0 : UInt64), ()), ((0 : Int), (0 : UInt64), (0 : UInt64), ()), ((0 : Int), (0 : UInt64), (0 : UInt64), ()), ((0 : Int), (0 : UInt64), (0 : UInt64), ()), (0 : Int), (0 : Int), (List.replicate 2 (0 : Int)), (List.replicate 2 (0 : Int)), ())) (b_1.getD i_5.toNat (((0 : Int), (0 : UInt64), (0 : UInt64), ()), ((0 : Int), (0 : UInt64), (0 : UInt64), ()), ((0 : Int), (0 : UInt64), (0 : UInt64), ()), ((0 : Int), (0 : UInt64), (0 : UInt64), ()), (0 : Int), (0 : Int), (List.replicate 2 (0 : Int)), (List.replicate 2 (0 : Int)), ())))) then
      some (.rt ((false, ()), (())))
    else
      some (.go ((a_0, b_1, (w64 (i_5 + (1 : Int))), ()), (())))
    else none
    else none
  else
    some (.br ((()), (())))
noncomputable def ref19_SameBoxes_3 (N : Nat) : Option ref19_SameBoxes_R :=
  some ((true, ()), (()))
noncomputable def ref19_SameBoxes_1 (N : Nat) (a_0 : (List D45)) (b_1 : (List D45)) (i_5 : Int) : Option ref19_SameBoxes_R :=
  loopK N (fun y => ref19_SameBoxes_s2 N y.1.1 y.1.2.1 y.1.2.2.1) (fun (e : ((Unit) × (Unit))) => ref19_SameBoxes_3 N) ((a_0, b_1, i_5, ()), (()))
noncomputable def ref19_SameBoxes (N : Nat) (a_0 : (List D45)) (b_1 : (List D45)) : Option ref19_SameBoxes_R :=
  bif (!(decide ((a_0.length : Int) = (b_1.length : Int)))) then
    some ((false, ()), (()))
  else
    ref19_SameBoxes_1 N a_0 b_1 (0 : Int)
noncomputable def ref19_SameBoxes_C (N : Nat) : Ctx := ⟨26, G_tys, [], G_globs⟩
noncomputable def ref19_SameBoxes_S0 : Spec := ⟨[.val (.sl T45), .val (.sl T45), .val .i64], []⟩
noncomputable def ref19_SameBoxes_S1 : Spec := ⟨[], []⟩
noncomputable def ref19_SameBoxes_S2 : Spec := ⟨[.val (.sl T45), .val (.sl T45)], []⟩
noncomputable def ref19_SameBoxes_S3 : Spec := ⟨[.val .bool], []⟩
noncomputable def ref19_SameBoxes_K (_N : Nat) : XE → GS → Option ref19_SameBoxes_R := retK 0 [4] [false] ref19_SameBoxes_S3
noncomputable def ref19_SameBoxes_L : List Code := (bodyOf (some Try.f47))
noncomputable def ref19_SameBoxes_L2 : List Code := (loopOf (ref19_SameBoxes_L[4]?))
noncomputable def ref19_SameBoxes_K2 (N : Nat) : XE → GS → Option (Lo (((List D45) × (List D45) × Int × Unit) × (Unit)) ((Unit) × (Unit)) ref19_SameBoxes_R) := roundK (some 0) (fit 0 [0, 1, 5] ref19_SameBoxes_S0) (fit 0 [] ref19_SameBoxes_S1) (ref19_SameBoxes_K N)
theorem ref19_SameBoxes_s2_b {E : Env} (N : Nat) (hb : Base Try.prog (ref19_SameBoxes_C N) E 0) : Blk Try.prog (ref19_SameBoxes_C N) E [0, 1, 5] ref19_SameBoxes_S0 (ref19_SameBoxes_L2.drop 0) (fun y => ref19_SameBoxes_s2 N y.1.1 y.1.2.1 y.1.2.2.1) (ref19_SameBoxes_K2 N) :=
  Blk.chunkAt hb 4 (X := (ref19_SameBoxes_K2 N .normal)) (NxOk.end (by kernel_rfl)) rfl (fun x => by kernel_rfl)
theorem ref19_SameBoxes_3_b {E : Env} (N : Nat) (hb : Base Try.prog (ref19_SameBoxes_C N) E 0) : Blk Try.prog (ref19_SameBoxes_C N) E [] ref19_SameBoxes_S1 (ref19_SameBoxes_L.drop 5) (fun y => ref19_SameBoxes_3 N) (ref19_SameBoxes_K N) :=
  Blk.chunkAt hb 2 (X := (ref19_SameBoxes_K N .normal)) (NxOk.end (by kernel_rfl)) rfl (fun x => by kernel_rfl)
theorem ref19_SameBoxes_1_b {E : Env} (N : Nat) (hb : Base Try.prog (ref19_SameBoxes_C N) E 0) : Blk Try.prog (ref19_SameBoxes_C N) E [0, 1, 5] ref19_SameBoxes_S0 (ref19_SameBoxes_L.drop 4) (fun y => ref19_SameBoxes_1 N y.1.1 y.1.2.1 y.1.2.2.1) (ref19_SameBoxes_K N) :=
  Blk.loopAt (Nf := N) (hns := [0, 1, 5]) (ans := []) (hc := ref19_SameBoxes_S0) (ac := ref19_SameBoxes_S1) (bid := 0) (step := (fun y => ref19_SameBoxes_s2 N y.1.1 y.1.2.1 y.1.2.2.1)) (J := (fun e => (goK 0 [] ref19_SameBoxes_S1 (fun y => ref19_SameBoxes_3 N)) (ref19_SameBoxes_S1.st [] e))) hb (by kernel_rfl) (Blk.into (X := (goK 0 [] ref19_SameBoxes_S1 (fun y => ref19_SameBoxes_3 N))) (NxOk.go hb (ref19_SameBoxes_3_b N hb)) (fun x => by kernel_rfl)) (ref19_SameBoxes_s2_b N hb) (fun x => by kernel_rfl)
theorem ref19_SameBoxes_b {E : Env} (N : Nat) (hb : Base Try.prog (ref19_SameBoxes_C N) E 0) : Blk Try.prog (ref19_SameBoxes_C N) E (List.range ref19_SameBoxes_S2.ks.length) ref19_SameBoxes_S2 (ref19_SameBoxes_L.drop 0) (fun y => ref19_SameBoxes N y.1.1 y.1.2.1) (ref19_SameBoxes_K N) :=
  Blk.chunkAt hb 4 (X := (goK 0 [0, 1, 5] ref19_SameBoxes_S0 (fun y => ref19_SameBoxes_1 N y.1.1 y.1.2.1 y.1.2.2.1))) (NxOk.go hb (ref19_SameBoxes_1_b N hb)) rfl (fun x => by kernel_rfl)
noncomputable def ref19_SameBoxes_ctr (N : Nat) : Ctr := ⟨ref19_SameBoxes_S2, ref19_SameBoxes_S3.un [false], 0, (fun y => ref19_SameBoxes N y.1.1 y.1.2.1)⟩
theorem ref19_SameBoxes_ctrs (N : Nat) : CtrsOk Try.prog (ref19_SameBoxes_C N) := ctrs_nil rfl
theorem ref19_SameBoxes_ok (N : Nat) : Ctr.ok Try.prog G_globs 47 (ref19_SameBoxes_ctr N) :=
  ctr_fn (Γ := ref19_SameBoxes_C N) (rfit := ref19_SameBoxes_S3) (bs := [false]) (res := [4]) (by kernel_rfl) (tys_ok G_tys_ok) (ref19_SameBoxes_ctrs N) Try.func47 (by kernel_rfl) (by kernel_rfl) Try.ntmps47 (by kernel_rfl) (by kernel_rfl) (by kernel_rfl) (by kernel_rfl) (fun E hb => ref19_SameBoxes_b N hb)
end Go.Proofs.Ytgbkkfpheahdfaa
namespace Go.Proofs.Ytgbkkfpheahdfaa
open Go
set_option maxRecDepth 100000
set_option linter.unusedVariables false
/-! ipsecgate/decorrelate.Inside -/
abbrev decorrelate_Inside_R : Type := ((Bool × Unit) × (Unit))
noncomputable def decorrelate_Inside (N : Nat) (a_0 : D45) (b_1 : D45) : Option decorrelate_Inside_R :=
  Option.bind (decorrelate_Meet N a_0 b_1) fun y1 =>
  bif y1.1.2.1 then
    some (((dq T45 y1.1.1 a_0), ()), (()))
  else
    some ((false, ()), (()))
noncomputable def decorrelate_Inside_C (N : Nat) : Ctx := ⟨19, G_tys, [(32, decorrelate_Meet_ctr N)], G_globs⟩
noncomputable def decorrelate_Inside_S0 : Spec := ⟨[.val T45, .val T45], []⟩
noncomputable def decorrelate_Inside_S1 : Spec := ⟨[.val .bool], []⟩
noncomputable def decorrelate_Inside_K (_N : Nat) : XE → GS → Option decorrelate_Inside_R := retK 0 [4] [false] decorrelate_Inside_S1
noncomputable def decorrelate_Inside_L : List Code := (bodyOf (some Try.f49))
theorem decorrelate_Inside_b {E : Env} (N : Nat) (hb : Base Try.prog (decorrelate_Inside_C N) E 0) : Blk Try.prog (decorrelate_Inside_C N) E (List.range decorrelate_Inside_S0.ks.length) decorrelate_Inside_S0 (decorrelate_Inside_L.drop 0) (fun y => decorrelate_Inside N y.1.1 y.1.2.1) (decorrelate_Inside_K N) :=
  Blk.chunkAt hb 4 (X := (decorrelate_Inside_K N .normal)) (NxOk.end (by kernel_rfl)) rfl (fun x => by kernel_rfl)
noncomputable def decorrelate_Inside_ctr (N : Nat) : Ctr := ⟨decorrelate_Inside_S0, decorrelate_Inside_S1.un [false], 0, (fun y => decorrelate_Inside N y.1.1 y.1.2.1)⟩
theorem decorrelate_Inside_ctrs (N : Nat) : CtrsOk Try.prog (decorrelate_Inside_C N) := ctrs_of (Γ := decorrelate_Inside_C N) (by
  intro p hp
  simp only [decorrelate_Inside_C, List.mem_cons, List.not_mem_nil, or_false] at hp
  rcases hp with rfl
  · exact decorrelate_Meet_ok N)
theorem decorrelate_Inside_ok (N : Nat) : Ctr.ok Try.prog G_globs 49 (decorrelate_Inside_ctr N) :=
  ctr_fn (Γ := decorrelate_Inside_C N) (rfit := decorrelate_Inside_S1) (bs := [false]) (res := [4]) (by kernel_rfl) (tys_ok G_tys_ok) (decorrelate_Inside_ctrs N) Try.func49 (by kernel_rfl) (by kernel_rfl) Try.ntmps49 (by kernel_rfl) (by kernel_rfl) (by kernel_rfl) (by kernel_rfl) (fun E hb => decorrelate_Inside_b N hb)
end Go.Proofs.Ytgbkkfpheahdfaa
namespace Go.Proofs.Ytgbkkfpheahdfaa
open Go
set_option maxRecDepth 100000
set_option linter.unusedVariables false
/-! ipsecgate/lookup.Rule -/
abbrev lookup_Rule_R : Type := ((Int × Bool × Unit) × (Unit))
noncomputable def lookup_Rule_s7 (N : Nat) (outbound_2 : Bool) (i_8 : Int) (t_12 : (List D59)) (t_13 : Int) (t_14 : Int) (t_20 : (List D45)) (t_21 : Int) (t_22 : Int) (p_4 : D29) : Option (Lo ((Bool × Int × (List D59) × Int × Int × (List D45) × Int × Int × Unit) × (D29 × Unit)) ((Bool × (List D59) × Int × Int × Unit) × (D29 × Unit)) (Lo ((Bool × (List D59) × Int × Int × Unit) × (D29 × Unit)) ((Unit) × (Unit)) lookup_Rule_R)) :=
  bif (decide (t_22 < t_21)) then
    bif inR t_22 t_20.length then
    Option.bind (decorrelate_Has N (t_20.getD t_22.toNat (((0 : Int), (0 : UInt64), (0 : UInt64), ()), ((0 : Int), (0 : UInt64), (0 : UInt64), ()), ((0 : Int), (0 : UInt64), (0 : UInt64), ()), ((0 : Int), (0 : UInt64), (0 : UInt64), ()), (0 : Int), (0 : Int), (List.replicate 2 (0 : Int)), (List.replicate 2 (0 : Int)), ())) p_4 outbound_2) fun y7 =>
    bif y7.1.1 then
      some (.rt (.rt ((i_8, true, ()), (()))))
    else
      some (.go ((outbound_2, i_8, t_12, t_13, t_14, t_20, t_21, (w64 (t_22 + (1 : Int))), ()), (p_4, ())))
    else none
  else
    some (.br ((outbound_2, t_12, t_13, t_14, ()), (p_4, ())))
noncomputable def lookup_Rule_8 (N : Nat) (outbound_2 : Bool) (t_12 : (List D59)) (t_13 : Int) (t_14 : Int) (p_4 : D29) : Option (Lo ((Bool × (List D59) × Int × Int × Unit) × (D29 × Unit)) ((Unit) × (Unit)) lookup_Rule_R) :=
  some (.go ((outbound_2, t_12, t_13, (w64 (t_14 + (1 : Int))), ()), (p_4, ())))
noncomputable def lookup_Rule_6 (N : Nat) (outbound_2 : Bool) (i_8 : Int) (t_12 : (List D59)) (t_13 : Int) (t_14 : Int) (t_20 : (List D45)) (t_21 : Int) (t_22 : Int) (p_4 : D29) : Option (Lo ((Bool × (List D59) × Int × Int × Unit) × (D29 × Unit)) ((Unit) × (Unit)) lookup_Rule_R) :=
  loopK N (fun y => lookup_Rule_s7 N y.1.1 y.1.2.1 y.1.2.2.1 y.1.2.2.2.1 y.1.2.2.2.2.1 y.1.2.2.2.2.2.1 y.1.2.2.2.2.2.2.1 y.1.2.2.2.2.2.2.2.1 y.2.1) (fun (e : ((Bool × (List D59) × Int × Int × Unit) × (D29 × Unit))) => lookup_Rule_8 N e.1.1 e.1.2.1 e.1.2.2.1 e.1.2.2.2.1 e.2.1) ((outbound_2, i_8, t_12, t_13, t_14, t_20, t_21, t_22, ()), (p_4, ()))
noncomputable def lookup_Rule_5 (N : Nat) (outbound_2 : Bool) (t_12 : (List D59)) (t_13 : Int) (t_14 : Int) (p_4 : D29) : Option (Lo ((Bool × (List D59) × Int × Int × Unit) × (D29 × Unit)) ((Unit) × (Unit)) lookup_Rule_R) :=
  bif inR t_14 t_12.length then
  let x3 := t_12.getD t_14.toNat ((0 : Int), ([] : List UInt8), ([] : List D45), ())
  lookup_Rule_6 N outbound_2 t_14 t_12 t_13 t_14 x3.2.2.1 (x3.2.2.1.length : Int) (0 : Int) p_4
  else none
noncomputable def lookup_Rule_3 (N : Nat) (outbound_2 : Bool) (t_12 : (List D59)) (t_13 : Int) (t_14 : Int) (p_4 : D29) : Option (Lo ((Bool × (List D59) × Int × Int × Unit) × (D29 × Unit)) ((Unit) × (Unit)) lookup_Rule_R) :=
  lookup_Rule_5 N outbound_2 t_12 t_13 t_14 p_4
noncomputable def lookup_Rule_s2 (N : Nat) (outbound_2 : Bool) (t_12 : (List D59)) (t_13 : Int) (t_14 : Int) (p_4 : D29) : Option (Lo ((Bool × (List D59) × Int × Int × Unit) × (D29 × Unit)) ((Unit) × (Unit)) lookup_Rule_R) :=
  bif (decide (t_14 < t_13)) then
    lookup_Rule_3 N outbound_2 t_12 t_13 t_14 p_4
  else
    some (.br ((()), (())))
noncomputable def lookup_Rule_9 (N : Nat) : Option lookup_Rule_R :=
  some (((0 : Int), false, ()), (()))
noncomputable def lookup_Rule_1 (N : Nat) (outbound_2 : Bool) (t_12 : (List D59)) (t_13 : Int) (t_14 : Int) (p_4 : D29) : Option lookup_Rule_R :=
  loopK N (fun y => lookup_Rule_s2 N y.1.1 y.1.2.1 y.1.2.2.1 y.1.2.2.2.1 y.2.1) (fun (e : ((Unit) × (Unit))) => lookup_Rule_9 N) ((outbound_2, t_12, t_13, t_14, ()), (p_4, ()))
noncomputable def lookup_Rule (N : Nat) (l_0 : (List D59)) (p_1 : D29) (outbound_2 : Bool) : Option lookup_Rule_R :=
  lookup_Rule_1 N outbound_2 l_0 (l_0.length : Int) (0 : Int) p_1
noncomputable def lookup_Rule_C (N : Nat) : Ctx := ⟨33, G_tys, [(51, decorrelate_Has_ctr N)], G_globs⟩
noncomputable def lookup_Rule_S0 : Spec := ⟨[.val .bool, .ref 0 T29, .val .i64, .val (.sl T59), .val .i64, .val .i64, .val (.sl T45), .val .i64, .val .i64], [(.box 30 T29, .pos 1)]⟩
noncomputable def lookup_Rule_S1 : Spec := ⟨[.val .bool, .ref 0 T29, .val (.sl T59), .val .i64, .val .i64], [(.box 30 T29, .pos 1)]⟩
noncomputable def lookup_Rule_S2 : Spec := ⟨[], []⟩
noncomputable def lookup_Rule_S3 : Spec := ⟨[.val (.sl T59), .val T29, .val .bool], []⟩
noncomputable def lookup_Rule_S4 : Spec := ⟨[.val .i64, .val .bool], []⟩
noncomputable def lookup_Rule_K (_N : Nat) : XE → GS → Option lookup_Rule_R := retK 0 [6, 7] [false, false] lookup_Rule_S4
noncomputable def lookup_Rule_L : List Code := (bodyOf (some Try.f38))
noncomputable def lookup_Rule_L2 : List Code := (loopOf (lookup_Rule_L[2]?))
noncomputable def lookup_Rule_L4b : List Code := (blockOf (lookup_Rule_L2[2]?))
noncomputable def lookup_Rule_L7 : List Code := (loopOf (lookup_Rule_L4b[2]?))
noncomputable def lookup_Rule_K2 (N : Nat) : XE → GS → Option (Lo ((Bool × (List D59) × Int × Int × Unit) × (D29 × Unit)) ((Unit) × (Unit)) lookup_Rule_R) := roundK (some 0) (fit 0 [2, 4, 12, 13, 14] lookup_Rule_S1) (fit 0 [] lookup_Rule_S2) (lookup_Rule_K N)
noncomputable def lookup_Rule_K4 (N : Nat) : XE → GS → Option (Lo ((Bool × (List D59) × Int × Int × Unit) × (D29 × Unit)) ((Unit) × (Unit)) lookup_Rule_R) := blockK 1 (goK 0 [2, 4, 12, 13, 14] lookup_Rule_S1 (fun y => lookup_Rule_8 N y.1.1 y.1.2.1 y.1.2.2.1 y.1.2.2.2.1 y.2.1)) (lookup_Rule_K2 N)
noncomputable def lookup_Rule_K7 (N : Nat) : XE → GS → Option (Lo ((Bool × Int × (List D59) × Int × Int × (List D45) × Int × Int × Unit) × (D29 × Unit)) ((Bool × (List D59) × Int × Int × Unit) × (D29 × Unit)) (Lo ((Bool × (List D59) × Int × Int × Unit) × (D29 × Unit)) ((Unit) × (Unit)) lookup_Rule_R)) := roundK (some 2) (fit 0 [2, 4, 8, 12, 13, 14, 20, 21, 22] lookup_Rule_S0) (fit 0 [2, 4, 12, 13, 14] lookup_Rule_S1) (lookup_Rule_K4 N)
theorem lookup_Rule_s7_b {E : Env} (N : Nat) (hb : Base Try.prog (lookup_Rule_C N) E 0) : Blk Try.prog (lookup_Rule_C N) E [2, 4, 8, 12, 13, 14, 20, 21, 22] lookup_Rule_S0 (lookup_Rule_L7.drop 0) (fun y => lookup_Rule_s7 N y.1.1 y.1.2.1 y.1.2.2.1 y.1.2.2.2.1 y.1.2.2.2.2.1 y.1.2.2.2.2.2.1 y.1.2.2.2.2.2.2.1 y.1.2.2.2.2.2.2.2.1 y.2.1) (lookup_Rule_K7 N) :=
  Blk.chunkAt hb 4 (X := (lookup_Rule_K7 N .normal)) (NxOk.end (by kernel_rfl)) rfl (fun x => by kernel_rfl)
theorem lookup_Rule_8_b {E : Env} (N : Nat) (hb : Base Try.prog (lookup_Rule_C N) E 0) : Blk Try.prog (lookup_Rule_C N) E [2, 4, 12, 13, 14] lookup_Rule_S1 (lookup_Rule_L2.drop 3) (fun y => lookup_Rule_8 N y.1.1 y.1.2.1 y.1.2.2.1 y.1.2.2.2.1 y.2.1) (lookup_Rule_K2 N) :=
  Blk.chunkAt hb 1 (X := (lookup_Rule_K2 N .normal)) (NxOk.end (by kernel_rfl)) rfl (fun x => by kernel_rfl)
theorem lookup_Rule_6_b {E : Env} (N : Nat) (hb : Base Try.prog (lookup_Rule_C N) E 0) : Blk Try.prog (lookup_Rule_C N) E [2, 4, 8, 12, 13, 14, 20, 21, 22] lookup_Rule_S0 (lookup_Rule_L4b.drop 2) (fun y => lookup_Rule_6 N y.1.1 y.1.2.1 y.1.2.2.1 y.1.2.2.2.1 y.1.2.2.2.2.1 y.1.2.2.2.2.2.1 y.1.2.2.2.2.2.2.1 y.1.2.2.2.2.2.2.2.1 y.2.1) (lookup_Rule_K4 N) :=
  Blk.loopAt (Nf := N) (hns := [2, 4, 8, 12, 13, 14, 20, 21, 22]) (ans := [2, 4, 12, 13, 14]) (hc := lookup_Rule_S0) (ac := lookup_Rule_S1) (bid := 2) (step := (fun y => lookup_Rule_s7 N y.1.1 y.1.2.1 y.1.2.2.1 y.1.2.2.2.1 y.1.2.2.2.2.1 y.1.2.2.2.2.2.1 y.1.2.2.2.2.2.2.1 y.1.2.2.2.2.2.2.2.1 y.2.1)) (J := (fun e => (lookup_Rule_K4 N .normal) (lookup_Rule_S1.st [2, 4, 12, 13, 14] e))) hb (by kernel_rfl) (Blk.into (X := (lookup_Rule_K4 N .normal)) (NxOk.end (by kernel_rfl)) (fun x => by kernel_rfl)) (lookup_Rule_s7_b N hb) (fun x => by kernel_rfl)
theorem lookup_Rule_5_b {E : Env} (N : Nat) (hb : Base Try.prog (lookup_Rule_C N) E 0) : Blk Try.prog (lookup_Rule_C N) E [2, 4, 12, 13, 14] lookup_Rule_S1 (lookup_Rule_L4b.drop 0) (fun y => lookup_Rule_5 N y.1.1 y.1.2.1 y.1.2.2.1 y.1.2.2.2.1 y.2.1) (lookup_Rule_K4 N) :=
  Blk.chunkAt hb 2 (X := (goK 0 [2, 4, 8, 12, 13, 14, 20, 21, 22] lookup_Rule_S0 (fun y => lookup_Rule_6 N y.1.1 y.1.2.1 y.1.2.2.1 y.1.2.2.2.1 y.1.2.2.2.2.1 y.1.2.2.2.2.2.1 y.1.2.2.2.2.2.2.1 y.1.2.2.2.2.2.2.2.1 y.2.1))) (NxOk.go hb (lookup_Rule_6_b N hb)) rfl (fun x => by kernel_rfl)
theorem lookup_Rule_3_b {E : Env} (N : Nat) (hb : Base Try.prog (lookup_Rule_C N) E 0) : Blk Try.prog (lookup_Rule_C N) E [2, 4, 12, 13, 14] lookup_Rule_S1 (lookup_Rule_L2.drop 2) (fun y => lookup_Rule_3 N y.1.1 y.1.2.1 y.1.2.2.1 y.1.2.2.2.1 y.2.1) (lookup_Rule_K2 N) :=
  Blk.blockAt (bid := 1) (X := (goK 0 [2, 4, 12, 13, 14] lookup_Rule_S1 (fun y => lookup_Rule_8 N y.1.1 y.1.2.1 y.1.2.2.1 y.1.2.2.2.1 y.2.1))) (Y := (goK 0 [2, 4, 12, 13, 14] lookup_Rule_S1 (fun y => lookup_Rule_5 N y.1.1 y.1.2.1 y.1.2.2.1 y.1.2.2.2.1 y.2.1))) (by kernel_rfl) (NxOk.go hb (lookup_Rule_8_b N hb)) (NxOk.go hb (lookup_Rule_5_b N hb)) (fun x => by kernel_rfl)
theorem lookup_Rule_s2_b {E : Env} (N : Nat) (hb : Base Try.prog (lookup_Rule_C N) E 0) : Blk Try.prog (lookup_Rule_C N) E [2, 4, 12, 13, 14] lookup_Rule_S1 (lookup_Rule_L2.drop 0) (fun y => lookup_Rule_s2 N y.1.1 y.1.2.1 y.1.2.2.1 y.1.2.2.2.1 y.2.1) (lookup_Rule_K2 N) :=
  Blk.chunkAt hb 2 (X := (goK 0 [2, 4, 12, 13, 14] lookup_Rule_S1 (fun y => lookup_Rule_3 N y.1.1 y.1.2.1 y.1.2.2.1 y.1.2.2.2.1 y.2.1))) (NxOk.go hb (lookup_Rule_3_b N hb)) rfl (fun x => by kernel_rfl)
theorem lookup_Rule_9_b {E : Env} (N : Nat) (hb : Base Try.prog (lookup_Rule_C N) E 0) : Blk Try.prog (lookup_Rule_C N) E [] lookup_Rule_S2 (lookup_Rule_L.drop 3) (fun y => lookup_Rule_9 N) (lookup_Rule_K N) :=
  Blk.chunkAt hb 2 (X := (lookup_Rule_K N .normal)) (NxOk.end (by kernel_rfl)) rfl (fun x => by kernel_rfl)
theorem lookup_Rule_1_b {E : Env} (N : Nat) (hb : Base Try.prog (lookup_Rule_C N) E 0) : Blk Try.prog (lookup_Rule_C N) E [2, 4, 12, 13, 14] lookup_Rule_S1 (lookup_Rule_L.drop 2) (fun y => lookup_Rule_1 N y.1.1 y.1.2.1 y.1.2.2.1 y.1.2.2.2.1 y.2.1) (lookup_Rule_K N) :=
  Blk.loopAt (Nf := N) (hns := [2, 4, 12, 13, 14]) (ans := []) (hc := lookup_Rule_S1) (ac := lookup_Rule_S2) (bid := 0) (step := (fun y => lookup_Rule_s2 N y.1.1 y.1.2.1 y.1.2.2.1 y.1.2.2.2.1 y.2.1)) (J := (fun e => (goK 0 [] lookup_Rule_S2 (fun y => lookup_Rule_9 N)) (lookup_Rule_S2.st [] e))) hb (by kernel_rfl) (Blk.into (X := (goK 0 [] lookup_Rule_S2 (fun y => lookup_Rule_9 N))) (NxOk.go hb (lookup_Rule_9_b N hb)) (fun x => by kernel_rfl)) (lookup_Rule_s2_b N hb) (fun x => by kernel_rfl)
theorem lookup_Rule_b {E : Env} (N : Nat) (hb : Base Try.prog (lookup_Rule_C N) E 0) : Blk Try.prog (lookup_Rule_C N) E (List.range lookup_Rule_S3.ks.length) lookup_Rule_S3 (lookup_Rule_L.drop 0) (fun y => lookup_Rule N y.1.1 y.1.2.1 y.1.2.2.1) (lookup_Rule_K N) :=
  Blk.chunkAt hb 2 (X := (goK 0 [2, 4, 12, 13, 14] lookup_Rule_S1 (fun y => lookup_Rule_1 N y.1.1 y.1.2.1 y.1.2.2.1 y.1.2.2.2.1 y.2.1))) (NxOk.go hb (lookup_Rule_1_b N hb)) rfl (fun x => by kernel_rfl)
noncomputable def lookup_Rule_ctr (N : Nat) : Ctr := ⟨lookup_Rule_S3, lookup_Rule_S4.un [false, false], 0, (fun y => lookup_Rule N y.1.1 y.1.2.1 y.1.2.2.1)⟩
theorem lookup_Rule_ctrs (N : Nat) : CtrsOk Try.prog (lookup_Rule_C N) := ctrs_of (Γ := lookup_Rule_C N) (by
  intro p hp
  simp only [lookup_Rule_C, List.mem_cons, List.not_mem_nil, or_false] at hp
  rcases hp with rfl
  · exact decorrelate_Has_ok N)
theorem lookup_Rule_ok (N : Nat) : Ctr.ok Try.prog G_globs 38 (lookup_Rule_ctr N) :=
  ctr_fn (Γ := lookup_Rule_C N) (rfit := lookup_Rule_S4) (bs := [false, false]) (res := [6, 7]) (by kernel_rfl) (tys_ok G_tys_ok) (lookup_Rule_ctrs N) Try.func38 (by kernel_rfl) (by kernel_rfl) Try.ntmps38 (by kernel_rfl) (by kernel_rfl) (by kernel_rfl) (by kernel_rfl) (fun E hb => lookup_Rule_b N hb)
end Go.Proofs.Ytgbkkfpheahdfaa
namespace Go.Proofs.Ytgbkkfpheahdfaa
open Go
set_option maxRecDepth 100000
set_option linter.unusedVariables false
/-! ipsecgate/lookup.hidden -/
abbrev lookup_hidden_R : Type := ((Bool × Bool × Unit) × (Unit))
noncomputable def lookup_hidden (N : Nat) (p_0 : D29) : Option lookup_hidden_R :=
  let x1 := decide (p_0.2.2.2.1 = (-1 : Int))
  let x2 := decide (p_0.2.2.2.2.1 = (-1 : Int))
  bif (decide (p_0.2.2.1 = (6 : Int))) then
    some ((x1, x2, ()), (()))
  else
    bif (decide (p_0.2.2.1 = (17 : Int))) then
      some ((x1, x2, ()), (()))
    else
      bif (decide (p_0.2.2.1 = (1 : Int))) then
        some ((x1, false, ()), (()))
      else
        bif (decide (p_0.2.2.1 = (58 : Int))) then
          some ((x1, false, ()), (()))
        else
          some ((false, false, ()), (()))
noncomputable def lookup_hidden_C (N : Nat) : Ctx := ⟨21, G_tys, [], G_globs⟩
noncomputable def lookup_hidden_S0 : Spec := ⟨[.val T29], []⟩
noncomputable def lookup_hidden_S1 : Spec := ⟨[.val .bool, .val .bool], []⟩
noncomputable def lookup_hidden_K (_N : Nat) : XE → GS → Option lookup_hidden_R := retK 0 [2, 3] [false, false] lookup_hidden_S1
noncomputable def lookup_hidden_L : List Code := (bodyOf (some Try.f87))
theorem lookup_hidden_b {E : Env} (N : Nat) (hb : Base Try.prog (lookup_hidden_C N) E 0) : Blk Try.prog (lookup_hidden_C N) E (List.range lookup_hidden_S0.ks.length) lookup_hidden_S0 (lookup_hidden_L.drop 0) (fun y => lookup_hidden N y.1.1) (lookup_hidden_K N) :=
  Blk.chunkAt hb 6 (X := (lookup_hidden_K N .normal)) (NxOk.end (by kernel_rfl)) rfl (fun x => by kernel_rfl)
noncomputable def lookup_hidden_ctr (N : Nat) : Ctr := ⟨lookup_hidden_S0, lookup_hidden_S1.un [false, false], 0, (fun y => lookup_hidden N y.1.1)⟩
theorem lookup_hidden_ctrs (N : Nat) : CtrsOk Try.prog (lookup_hidden_C N) := ctrs_nil rfl
theorem lookup_hidden_ok (N : Nat) : Ctr.ok Try.prog G_globs 87 (lookup_hidden_ctr N) :=
  ctr_fn (Γ := lookup_hidden_C N) (rfit := lookup_hidden_S1) (bs := [false, false]) (res := [2, 3]) (by kernel_rfl) (tys_ok G_tys_ok) (lookup_hidden_ctrs N) Try.func87 (by kernel_rfl) (by kernel_rfl) Try.ntmps87 (by kernel_rfl) (by kernel_rfl) (by kernel_rfl) (by kernel_rfl) (fun E hb => lookup_hidden_b N hb)
end Go.Proofs.Ytgbkkfpheahdfaa
namespace Go.Proofs.Ytgbkkfpheahdfaa
open Go
set_option maxRecDepth 100000
set_option linter.unusedVariables false
/-! ipsecgate/lookup.could -/
abbrev lookup_could_R : Type := ((Bool × Unit) × (Unit))
noncomputable def lookup_could (N : Nat) (b_0 : D45) (p_1 : D29) (outbound_2 : Bool) : Option lookup_could_R :=
  Option.bind (lookup_hidden N p_1) fun y1 =>
  bif (!outbound_2) then
    bif y1.1.2.1 then
      let x3 := (b_0.2.2.2.2.2.2.1.getD 1 (0 : Int))
      bif y1.1.1 then
        let x4 := (b_0.2.2.2.2.2.2.2.1.getD 1 (0 : Int))
        bif (!y1.1.2.1) then
          bif (!y1.1.1) then
            Option.bind (decorrelate_Has N b_0 (p_1.1, p_1.2.1, p_1.2.2.1, x4, x3, ()) outbound_2) fun y7 =>
            some ((y7.1.1, ()), (()))
          else
            bif (decide ((0 : Int) ≤ x4)) then
              Option.bind (decorrelate_Has N b_0 (p_1.1, p_1.2.1, p_1.2.2.1, x4, x3, ()) outbound_2) fun y9 =>
              some ((y9.1.1, ()), (()))
            else
              some ((false, ()), (()))
        else
          bif (decide ((0 : Int) ≤ x3)) then
            bif (!y1.1.1) then
              Option.bind (decorrelate_Has N b_0 (p_1.1, p_1.2.1, p_1.2.2.1, x4, x3, ()) outbound_2) fun y12 =>
              some ((y12.1.1, ()), (()))
            else
              bif (decide ((0 : Int) ≤ x4)) then
                Option.bind (decorrelate_Has N b_0 (p_1.1, p_1.2.1, p_1.2.2.1, x4, x3, ()) outbound_2) fun y14 =>
                some ((y14.1.1, ()), (()))
              else
                some ((false, ()), (()))
          else
            some ((false, ()), (()))
      else
        bif (!y1.1.2.1) then
          bif (!y1.1.1) then
            Option.bind (decorrelate_Has N b_0 (p_1.1, p_1.2.1, p_1.2.2.1, p_1.2.2.2.1, x3, ()) outbound_2) fun y17 =>
            some ((y17.1.1, ()), (()))
          else
            bif (decide ((0 : Int) ≤ p_1.2.2.2.1)) then
              Option.bind (decorrelate_Has N b_0 (p_1.1, p_1.2.1, p_1.2.2.1, p_1.2.2.2.1, x3, ()) outbound_2) fun y19 =>
              some ((y19.1.1, ()), (()))
            else
              some ((false, ()), (()))
        else
          bif (decide ((0 : Int) ≤ x3)) then
            bif (!y1.1.1) then
              Option.bind (decorrelate_Has N b_0 (p_1.1, p_1.2.1, p_1.2.2.1, p_1.2.2.2.1, x3, ()) outbound_2) fun y22 =>
              some ((y22.1.1, ()), (()))
            else
              bif (decide ((0 : Int) ≤ p_1.2.2.2.1)) then
                Option.bind (decorrelate_Has N b_0 (p_1.1, p_1.2.1, p_1.2.2.1, p_1.2.2.2.1, x3, ()) outbound_2) fun y24 =>
                some ((y24.1.1, ()), (()))
              else
                some ((false, ()), (()))
          else
            some ((false, ()), (()))
    else
      bif y1.1.1 then
        let x25 := (b_0.2.2.2.2.2.2.2.1.getD 1 (0 : Int))
        bif (!y1.1.2.1) then
          bif (!y1.1.1) then
            Option.bind (decorrelate_Has N b_0 (p_1.1, p_1.2.1, p_1.2.2.1, x25, p_1.2.2.2.2.1, ()) outbound_2) fun y28 =>
            some ((y28.1.1, ()), (()))
          else
            bif (decide ((0 : Int) ≤ x25)) then
              Option.bind (decorrelate_Has N b_0 (p_1.1, p_1.2.1, p_1.2.2.1, x25, p_1.2.2.2.2.1, ()) outbound_2) fun y30 =>
              some ((y30.1.1, ()), (()))
            else
              some ((false, ()), (()))
        else
          bif (decide ((0 : Int) ≤ p_1.2.2.2.2.1)) then
            bif (!y1.1.1) then
              Option.bind (decorrelate_Has N b_0 (p_1.1, p_1.2.1, p_1.2.2.1, x25, p_1.2.2.2.2.1, ()) outbound_2) fun y33 =>
              some ((y33.1.1, ()), (()))
            else
              bif (decide ((0 : Int) ≤ x25)) then
                Option.bind (decorrelate_Has N b_0 (p_1.1, p_1.2.1, p_1.2.2.1, x25, p_1.2.2.2.2.1, ()) outbound_2) fun y35 =>
                some ((y35.1.1, ()), (()))
              else
                some ((false, ()), (()))
          else
            some ((false, ()), (()))
      else
        bif (!y1.1.2.1) then
          bif (!y1.1.1) then
            Option.bind (decorrelate_Has N b_0 p_1 outbound_2) fun y38 =>
            some ((y38.1.1, ()), (()))
          else
            bif (decide ((0 : Int) ≤ p_1.2.2.2.1)) then
              Option.bind (decorrelate_Has N b_0 p_1 outbound_2) fun y40 =>
              some ((y40.1.1, ()), (()))
            else
              some ((false, ()), (()))
        else
          bif (decide ((0 : Int) ≤ p_1.2.2.2.2.1)) then
            bif (!y1.1.1) then
              Option.bind (decorrelate_Has N b_0 p_1 outbound_2) fun y43 =>
              some ((y43.1.1, ()), (()))
            else
              bif (decide ((0 : Int) ≤ p_1.2.2.2.1)) then
                Option.bind (decorrelate_Has N b_0 p_1 outbound_2) fun y45 =>
                some ((y45.1.1, ()), (()))
              else
                some ((false, ()), (()))
          else
            some ((false, ()), (()))
  else
    bif y1.1.1 then
      let x46 := (b_0.2.2.2.2.2.2.1.getD 1 (0 : Int))
      bif y1.1.2.1 then
        let x47 := (b_0.2.2.2.2.2.2.2.1.getD 1 (0 : Int))
        bif (!y1.1.1) then
          bif (!y1.1.2.1) then
            Option.bind (decorrelate_Has N b_0 (p_1.1, p_1.2.1, p_1.2.2.1, x46, x47, ()) outbound_2) fun y50 =>
            some ((y50.1.1, ()), (()))
          else
            bif (decide ((0 : Int) ≤ x47)) then
              Option.bind (decorrelate_Has N b_0 (p_1.1, p_1.2.1, p_1.2.2.1, x46, x47, ()) outbound_2) fun y52 =>
              some ((y52.1.1, ()), (()))
            else
              some ((false, ()), (()))
        else
          bif (decide ((0 : Int) ≤ x46)) then
            bif (!y1.1.2.1) then
              Option.bind (decorrelate_Has N b_0 (p_1.1, p_1.2.1, p_1.2.2.1, x46, x47, ()) outbound_2) fun y55 =>
              some ((y55.1.1, ()), (()))
            else
              bif (decide ((0 : Int) ≤ x47)) then
                Option.bind (decorrelate_Has N b_0 (p_1.1, p_1.2.1, p_1.2.2.1, x46, x47, ()) outbound_2) fun y57 =>
                some ((y57.1.1, ()), (()))
              else
                some ((false, ()), (()))
          else
            some ((false, ()), (()))
      else
        bif (!y1.1.1) then
          bif (!y1.1.2.1) then
            Option.bind (decorrelate_Has N b_0 (p_1.1, p_1.2.1, p_1.2.2.1, x46, p_1.2.2.2.2.1, ()) outbound_2) fun y60 =>
            some ((y60.1.1, ()), (()))
          else
            bif (decide ((0 : Int) ≤ p_1.2.2.2.2.1)) then
              Option.bind (decorrelate_Has N b_0 (p_1.1, p_1.2.1, p_1.2.2.1, x46, p_1.2.2.2.2.1, ()) outbound_2) fun y62 =>
              some ((y62.1.1, ()), (()))
            else
              some ((false, ()), (()))
        else
          bif (decide ((0 : Int) ≤ x46)) then
            bif (!y1.1.2.1) then
              Option.bind (decorrelate_Has N b_0 (p_1.1, p_1.2.1, p_1.2.2.1, x46, p_1.2.2.2.2.1, ()) outbound_2) fun y65 =>
              some ((y65.1.1, ()), (()))
            else
              bif (decide ((0 : Int) ≤ p_1.2.2.2.2.1)) then
                Option.bind (decorrelate_Has N b_0 (p_1.1, p_1.2.1, p_1.2.2.1, x46, p_1.2.2.2.2.1, ()) outbound_2) fun y67 =>
                some ((y67.1.1, ()), (()))
              else
                some ((false, ()), (()))
          else
            some ((false, ()), (()))
    else
      bif y1.1.2.1 then
        let x68 := (b_0.2.2.2.2.2.2.2.1.getD 1 (0 : Int))
        bif (!y1.1.1) then
          bif (!y1.1.2.1) then
            Option.bind (decorrelate_Has N b_0 (p_1.1, p_1.2.1, p_1.2.2.1, p_1.2.2.2.1, x68, ()) outbound_2) fun y71 =>
            some ((y71.1.1, ()), (()))
          else
            bif (decide ((0 : Int) ≤ x68)) then
              Option.bind (decorrelate_Has N b_0 (p_1.1, p_1.2.1, p_1.2.2.1, p_1.2.2.2.1, x68, ()) outbound_2) fun y73 =>
              some ((y73.1.1, ()), (()))
            else
              some ((false, ()), (()))
        else
          bif (decide ((0 : Int) ≤ p_1.2.2.2.1)) then
            bif (!y1.1.2.1) then
              Option.bind (decorrelate_Has N b_0 (p_1.1, p_1.2.1, p_1.2.2.1, p_1.2.2.2.1, x68, ()) outbound_2) fun y76 =>
              some ((y76.1.1, ()), (()))
            else
              bif (decide ((0 : Int) ≤ x68)) then
                Option.bind (decorrelate_Has N b_0 (p_1.1, p_1.2.1, p_1.2.2.1, p_1.2.2.2.1, x68, ()) outbound_2) fun y78 =>
                some ((y78.1.1, ()), (()))
              else
                some ((false, ()), (()))
          else
            some ((false, ()), (()))
      else
        bif (!y1.1.1) then
          bif (!y1.1.2.1) then
            Option.bind (decorrelate_Has N b_0 p_1 outbound_2) fun y81 =>
            some ((y81.1.1, ()), (()))
          else
            bif (decide ((0 : Int) ≤ p_1.2.2.2.2.1)) then
              Option.bind (decorrelate_Has N b_0 p_1 outbound_2) fun y83 =>
              some ((y83.1.1, ()), (()))
            else
              some ((false, ()), (()))
        else
          bif (decide ((0 : Int) ≤ p_1.2.2.2.1)) then
            bif (!y1.1.2.1) then
              Option.bind (decorrelate_Has N b_0 p_1 outbound_2) fun y86 =>
              some ((y86.1.1, ()), (()))
            else
              bif (decide ((0 : Int) ≤ p_1.2.2.2.2.1)) then
                Option.bind (decorrelate_Has N b_0 p_1 outbound_2) fun y88 =>
                some ((y88.1.1, ()), (()))
              else
                some ((false, ()), (()))
          else
            some ((false, ()), (()))
noncomputable def lookup_could_C (N : Nat) : Ctx := ⟨60, G_tys, [(87, lookup_hidden_ctr N), (51, decorrelate_Has_ctr N)], G_globs⟩
noncomputable def lookup_could_S0 : Spec := ⟨[.val T45, .val T29, .val .bool], []⟩
noncomputable def lookup_could_S1 : Spec := ⟨[.val .bool], []⟩
noncomputable def lookup_could_K (_N : Nat) : XE → GS → Option lookup_could_R := retK 0 [6] [false] lookup_could_S1
noncomputable def lookup_could_L : List Code := (bodyOf (some Try.f88))
theorem lookup_could_b {E : Env} (N : Nat) (hb : Base Try.prog (lookup_could_C N) E 0) : Blk Try.prog (lookup_could_C N) E (List.range lookup_could_S0.ks.length) lookup_could_S0 (lookup_could_L.drop 0) (fun y => lookup_could N y.1.1 y.1.2.1 y.1.2.2.1) (lookup_could_K N) :=
  Blk.chunkAt hb 11 (X := (lookup_could_K N .normal)) (NxOk.end (by kernel_rfl)) rfl (fun x => by kernel_rfl)
noncomputable def lookup_could_ctr (N : Nat) : Ctr := ⟨lookup_could_S0, lookup_could_S1.un [false], 0, (fun y => lookup_could N y.1.1 y.1.2.1 y.1.2.2.1)⟩
theorem lookup_could_ctrs (N : Nat) : CtrsOk Try.prog (lookup_could_C N) := ctrs_of (Γ := lookup_could_C N) (by
  intro p hp
  simp only [lookup_could_C, List.mem_cons, List.not_mem_nil, or_false] at hp
  rcases hp with rfl | rfl
  · exact lookup_hidden_ok N
  · exact decorrelate_Has_ok N)
theorem lookup_could_ok (N : Nat) : Ctr.ok Try.prog G_globs 88 (lookup_could_ctr N) :=
  ctr_fn (Γ := lookup_could_C N) (rfit := lookup_could_S1) (bs := [false]) (res := [6]) (by kernel_rfl) (tys_ok G_tys_ok) (lookup_could_ctrs N) Try.func88 (by kernel_rfl) (by kernel_rfl) Try.ntmps88 (by kernel_rfl) (by kernel_rfl) (by kernel_rfl) (by kernel_rfl) (fun E hb => lookup_could_b N hb)
end Go.Proofs.Ytgbkkfpheahdfaa
namespace Go.Proofs.Ytgbkkfpheahdfaa
open Go
set_option maxRecDepth 100000
set_option linter.unusedVariables false
/-! ipsecgate/lookup.Action -/
abbrev lookup_Action_R : Type := ((Int × Int × Unit) × (Unit))
noncomputable def lookup_Action_s12 (N : Nat) (outbound_2 : Bool) (r_8 : Int) (ok_9 : Bool) (i_13 : Int) (t_53 : (List D59)) (t_54 : Int) (t_55 : Int) (t_61 : (List D45)) (t_62 : Int) (t_63 : Int) (p_4 : D29) (x_14 : D59) (x_14_v : (List D45)) : Option (Lo ((Bool × Int × Bool × Int × (List D59) × Int × Int × (List D45) × Int × Int × Unit) × (D29 × D59 × (List D45) × Unit)) ((Bool × Int × Bool × (List D59) × Int × Int × Unit) × (D29 × Unit)) (Lo ((Bool × Int × Bool × (List D59) × Int × Int × Unit) × (D29 × Unit)) ((Int × Bool × Unit) × (Unit)) lookup_Action_R)) :=
  bif (decide (t_63 < t_62)) then
    bif inR t_63 t_61.length then
    bif (!(decide (x_14.1 = (1 : Int)))) then
      Option.bind (lookup_could N (t_61.getD t_63.toNat (((0 : Int), (0 : UInt64), (0 : UInt64), ()), ((0 : Int), (0 : UInt64), (0 : UInt64), ()), ((0 : Int), (0 : UInt64), (0 : UInt64), ()), ((0 : Int), (0 : UInt64), (0 : UInt64), ()), (0 : Int), (0 : Int), (List.replicate 2 (0 : Int)), (List.replicate 2 (0 : Int)), ())) p_4 outbound_2) fun y14 =>
      bif y14.1.1 then
        some (.rt (.rt (((0 : Int), i_13, ()), (()))))
      else
        some (.go ((outbound_2, r_8, ok_9, i_13, t_53, t_54, t_55, t_61, t_62, (w64 (t_63 + (1 : Int))), ()), (p_4, x_14, x_14_v, ())))
    else
      some (.go ((outbound_2, r_8, ok_9, i_13, t_53, t_54, t_55, t_61, t_62, (w64 (t_63 + (1 : Int))), ()), (p_4, x_14, x_14_v, ())))
    else none
  else
    some (.br ((outbound_2, r_8, ok_9, t_53, t_54, t_55, ()), (p_4, ())))
noncomputable def lookup_Action_13 (N : Nat) (outbound_2 : Bool) (r_8 : Int) (ok_9 : Bool) (t_53 : (List D59)) (t_54 : Int) (t_55 : Int) (p_4 : D29) : Option (Lo ((Bool × Int × Bool × (List D59) × Int × Int × Unit) × (D29 × Unit)) ((Int × Bool × Unit) × (Unit)) lookup_Action_R) :=
  some (.go ((outbound_2, r_8, ok_9, t_53, t_54, (w64 (t_55 + (1 : Int))), ()), (p_4, ())))
noncomputable def lookup_Action_11 (N : Nat) (outbound_2 : Bool) (r_8 : Int) (ok_9 : Bool) (i_13 : Int) (t_53 : (List D59)) (t_54 : Int) (t_55 : Int) (t_61 : (List D45)) (t_62 : Int) (t_63 : Int) (p_4 : D29) (x_14 : D59) (x_14_v : (List D45)) : Option (Lo ((Bool × Int × Bool × (List D59) × Int × Int × Unit) × (D29 × Unit)) ((Int × Bool × Unit) × (Unit)) lookup_Action_R) :=
  loopK N (fun y => lookup_Action_s12 N y.1.1 y.1.2.1 y.1.2.2.1 y.1.2.2.2.1 y.1.2.2.2.2.1 y.1.2.2.2.2.2.1 y.1.2.2.2.2.2.2.1 y.1.2.2.2.2.2.2.2.1 y.1.2.2.2.2.2.2.2.2.1 y.1.2.2.2.2.2.2.2.2.2.1 y.2.1 y.2.2.1 y.2.2.2.1) (fun (e : ((Bool × Int × Bool × (List D59) × Int × Int × Unit) × (D29 × Unit))) => lookup_Action_13 N e.1.1 e.1.2.1 e.1.2.2.1 e.1.2.2.2.1 e.1.2.2.2.2.1 e.1.2.2.2.2.2.1 e.2.1) ((outbound_2, r_8, ok_9, i_13, t_53, t_54, t_55, t_61, t_62, t_63, ()), (p_4, x_14, x_14_v, ()))
noncomputable def lookup_Action_10 (N : Nat) (outbound_2 : Bool) (r_8 : Int) (ok_9 : Bool) (t_53 : (List D59)) (t_54 : Int) (t_55 : Int) (p_4 : D29) : Option (Lo ((Bool × Int × Bool × (List D59) × Int × Int × Unit) × (D29 × Unit)) ((Int × Bool × Unit) × (Unit)) lookup_Action_R) :=
  bif inR t_55 t_53.length then
  let x9 := t_53.getD t_55.toNat ((0 : Int), ([] : List UInt8), ([] : List D45), ())
  lookup_Action_11 N outbound_2 r_8 ok_9 t_55 t_53 t_54 t_55 x9.2.2.1 (x9.2.2.1.length : Int) (0 : Int) p_4 x9 x9.2.2.1
  else none
noncomputable def lookup_Action_8 (N : Nat) (outbound_2 : Bool) (r_8 : Int) (ok_9 : Bool) (t_53 : (List D59)) (t_54 : Int) (t_55 : Int) (p_4 : D29) : Option (Lo ((Bool × Int × Bool × (List D59) × Int × Int × Unit) × (D29 × Unit)) ((Int × Bool × Unit) × (Unit)) lookup_Action_R) :=
  lookup_Action_10 N outbound_2 r_8 ok_9 t_53 t_54 t_55 p_4
noncomputable def lookup_Action_s7 (N : Nat) (outbound_2 : Bool) (r_8 : Int) (ok_9 : Bool) (t_53 : (List D59)) (t_54 : Int) (t_55 : Int) (p_4 : D29) : Option (Lo ((Bool × Int × Bool × (List D59) × Int × Int × Unit) × (D29 × Unit)) ((Int × Bool × Unit) × (Unit)) lookup_Action_R) :=
  bif (decide (t_55 < t_54)) then
    lookup_Action_8 N outbound_2 r_8 ok_9 t_53 t_54 t_55 p_4
  else
    some (.br ((r_8, ok_9, ()), (())))
noncomputable def lookup_Action_14 (N : Nat) (r_8 : Int) (ok_9 : Bool) : Option lookup_Action_R :=
  bif !ok_9 then
    some (((0 : Int), (-1 : Int), ()), (()))
  else
    some (((1 : Int), r_8, ()), (()))
noncomputable def lookup_Action_6 (N : Nat) (outbound_2 : Bool) (r_8 : Int) (ok_9 : Bool) (t_53 : (List D59)) (t_54 : Int) (t_55 : Int) (p_4 : D29) : Option lookup_Action_R :=
  loopK N (fun y => lookup_Action_s7 N y.1.1 y.1.2.1 y.1.2.2.1 y.1.2.2.2.1 y.1.2.2.2.2.1 y.1.2.2.2.2.2.1 y.2.1) (fun (e : ((Int × Bool × Unit) × (Unit))) => lookup_Action_14 N e.1.1 e.1.2.1) ((outbound_2, r_8, ok_9, t_53, t_54, t_55, ()), (p_4, ()))
noncomputable def lookup_Action_5 (N : Nat) (outbound_2 : Bool) (r_8 : Int) (ok_9 : Bool) (ahead_10 : (List D59)) (p_4 : D29) : Option lookup_Action_R :=
  lookup_Action_6 N outbound_2 r_8 ok_9 ahead_10 (ahead_10.length : Int) (0 : Int) p_4
noncomputable def lookup_Action_3 (N : Nat) (outbound_2 : Bool) (r_8 : Int) (ok_9 : Bool) (ahead_10 : (List D59)) (t_52 : Bool) (p_4 : D29) : Option lookup_Action_R :=
  bif t_52 then
    lookup_Action_5 N outbound_2 r_8 ok_9 ahead_10 p_4
  else
    lookup_Action_14 N r_8 ok_9
noncomputable def lookup_Action_2 (N : Nat) (outbound_2 : Bool) (r_8 : Int) (ok_9 : Bool) (ahead_10 : (List D59)) (p_4 : D29) : Option lookup_Action_R :=
  Option.bind (lookup_hidden N p_4) fun y6 =>
  bif y6.1.1 then
    lookup_Action_3 N outbound_2 r_8 ok_9 ahead_10 true p_4
  else
    lookup_Action_3 N outbound_2 r_8 ok_9 ahead_10 y6.1.2.1 p_4
noncomputable def lookup_Action_1 (N : Nat) (l_0 : (List D59)) (outbound_2 : Bool) (r_8 : Int) (ok_9 : Bool) (t_32 : Bool) (p_4 : D29) : Option lookup_Action_R :=
  bif t_32 then
    bif inR r_8 l_0.length then
    some (((l_0.getD r_8.toNat ((0 : Int), ([] : List UInt8), ([] : List D45), ())).1, r_8, ()), (()))
    else none
  else
    bif ok_9 then
      bif decide (0 ≤ (0 : Int)) && decide ((0 : Int) ≤ r_8) && decide (r_8 ≤ (l_0.length : Int)) && true then
      lookup_Action_2 N outbound_2 r_8 ok_9 (cut l_0 0 r_8.toNat) p_4
      else none
    else
      lookup_Action_2 N outbound_2 r_8 ok_9 l_0 p_4
noncomputable def lookup_Action (N : Nat) (l_0 : (List D59)) (p_1 : D29) (outbound_2 : Bool) : Option lookup_Action_R :=
  Option.bind (lookup_Rule N l_0 p_1 outbound_2) fun y1 =>
  bif y1.1.2.1 then
    bif inR y1.1.1 l_0.length then
    lookup_Action_1 N l_0 outbound_2 y1.1.1 y1.1.2.1 (!(decide ((l_0.getD y1.1.1.toNat ((0 : Int), ([] : List UInt8), ([] : List D45), ())).1 = (1 : Int)))) p_1
    else none
  else
    lookup_Action_1 N l_0 outbound_2 y1.1.1 y1.1.2.1 false p_1
noncomputable def lookup_Action_C (N : Nat) : Ctx := ⟨82, G_tys, [(38, lookup_Rule_ctr N), (87, lookup_hidden_ctr N), (88, lookup_could_ctr N)], G_globs⟩
noncomputable def lookup_Action_S0 : Spec := ⟨[.val .bool, .ref 0 T29, .val .i64, .val .bool, .val .i64, .ref 1 T59, .val (.sl T59), .val .i64, .val .i64, .val (.sl T45), .val .i64, .val .i64], [(.box 30 T29, .pos 1), (.sval 60 T59 2 (.sl T45), .pos 5)]⟩
noncomputable def lookup_Action_S1 : Spec := ⟨[.val .bool, .ref 0 T29, .val .i64, .val .bool, .val (.sl T59), .val .i64, .val .i64], [(.box 30 T29, .pos 1)]⟩
noncomputable def lookup_Action_S2 : Spec := ⟨[.val .i64, .val .bool], []⟩
noncomputable def lookup_Action_S3 : Spec := ⟨[.val .bool, .ref 0 T29, .val .i64, .val .bool, .val (.sl T59)], [(.box 30 T29, .pos 1)]⟩
noncomputable def lookup_Action_S4 : Spec := ⟨[.val .bool, .ref 0 T29, .val .i64, .val .bool, .val (.sl T59), .val .bool], [(.box 30 T29, .pos 1)]⟩
noncomputable def lookup_Action_S5 : Spec := ⟨[.val (.sl T59), .val .bool, .ref 0 T29, .val .i64, .val .bool, .val .bool], [(.box 30 T29, .pos 2)]⟩
noncomputable def lookup_Action_S6 : Spec := ⟨[.val (.sl T59), .val T29, .val .bool], []⟩
noncomputable def lookup_Action_S7 : Spec := ⟨[.val .i64, .val .i64], []⟩
noncomputable def lookup_Action_K (_N : Nat) : XE → GS → Option lookup_Action_R := retK 0 [6, 7] [false, false] lookup_Action_S7
noncomputable def lookup_Action_L : List Code := (bodyOf (some Try.f37))
noncomputable def lookup_Action_L4t : List Code := (thenOf (lookup_Action_L[9]?))
noncomputable def lookup_Action_L7 : List Code := (loopOf (lookup_Action_L4t[1]?))
noncomputable def lookup_Action_L9b : List Code := (blockOf (lookup_Action_L7[2]?))
noncomputable def lookup_Action_L12 : List Code := (loopOf (lookup_Action_L9b[2]?))
noncomputable def lookup_Action_L4e : List Code := (elseOf (lookup_Action_L[9]?))
noncomputable def lookup_Action_K4 (N : Nat) : XE → GS → Option lookup_Action_R := nextK (goK 0 [8, 9] lookup_Action_S2 (fun y => lookup_Action_14 N y.1.1 y.1.2.1)) (lookup_Action_K N)
noncomputable def lookup_Action_K7 (N : Nat) : XE → GS → Option (Lo ((Bool × Int × Bool × (List D59) × Int × Int × Unit) × (D29 × Unit)) ((Int × Bool × Unit) × (Unit)) lookup_Action_R) := roundK (some 0) (fit 0 [2, 4, 8, 9, 53, 54, 55] lookup_Action_S1) (fit 0 [8, 9] lookup_Action_S2) (lookup_Action_K4 N)
noncomputable def lookup_Action_K9 (N : Nat) : XE → GS → Option (Lo ((Bool × Int × Bool × (List D59) × Int × Int × Unit) × (D29 × Unit)) ((Int × Bool × Unit) × (Unit)) lookup_Action_R) := blockK 1 (goK 0 [2, 4, 8, 9, 53, 54, 55] lookup_Action_S1 (fun y => lookup_Action_13 N y.1.1 y.1.2.1 y.1.2.2.1 y.1.2.2.2.1 y.1.2.2.2.2.1 y.1.2.2.2.2.2.1 y.2.1)) (lookup_Action_K7 N)
noncomputable def lookup_Action_K12 (N : Nat) : XE → GS → Option (Lo ((Bool × Int × Bool × Int × (List D59) × Int × Int × (List D45) × Int × Int × Unit) × (D29 × D59 × (List D45) × Unit)) ((Bool × Int × Bool × (List D59) × Int × Int × Unit) × (D29 × Unit)) (Lo ((Bool × Int × Bool × (List D59) × Int × Int × Unit) × (D29 × Unit)) ((Int × Bool × Unit) × (Unit)) lookup_Action_R)) := roundK (some 2) (fit 0 [2, 4, 8, 9, 13, 14, 53, 54, 55, 61, 62, 63] lookup_Action_S0) (fit 0 [2, 4, 8, 9, 53, 54, 55] lookup_Action_S1) (lookup_Action_K9 N)
theorem lookup_Action_s12_b {E : Env} (N : Nat) (hb : Base Try.prog (lookup_Action_C N) E 0) : Blk Try.prog (lookup_Action_C N) E [2, 4, 8, 9, 13, 14, 53, 54, 55, 61, 62, 63] lookup_Action_S0 (lookup_Action_L12.drop 0) (fun y => lookup_Action_s12 N y.1.1 y.1.2.1 y.1.2.2.1 y.1.2.2.2.1 y.1.2.2.2.2.1 y.1.2.2.2.2.2.1 y.1.2.2.2.2.2.2.1 y.1.2.2.2.2.2.2.2.1 y.1.2.2.2.2.2.2.2.2.1 y.1.2.2.2.2.2.2.2.2.2.1 y.2.1 y.2.2.1 y.2.2.2.1) (lookup_Action_K12 N) :=
  Blk.chunkAt hb 4 (X := (lookup_Action_K12 N .normal)) (NxOk.end (by kernel_rfl)) rfl (fun x => by kernel_rfl)
theorem lookup_Action_13_b {E : Env} (N : Nat) (hb : Base Try.prog (lookup_Action_C N) E 0) : Blk Try.prog (lookup_Action_C N) E [2, 4, 8, 9, 53, 54, 55] lookup_Action_S1 (lookup_Action_L7.drop 3) (fun y => lookup_Action_13 N y.1.1 y.1.2.1 y.1.2.2.1 y.1.2.2.2.1 y.1.2.2.2.2.1 y.1.2.2.2.2.2.1 y.2.1) (lookup_Action_K7 N) :=
  Blk.chunkAt hb 1 (X := (lookup_Action_K7 N .normal)) (NxOk.end (by kernel_rfl)) rfl (fun x => by kernel_rfl)
theorem lookup_Action_11_b {E : Env} (N : Nat) (hb : Base Try.prog (lookup_Action_C N) E 0) : Blk Try.prog (lookup_Action_C N) E [2, 4, 8, 9, 13, 14, 53, 54, 55, 61, 62, 63] lookup_Action_S0 (lookup_Action_L9b.drop 2) (fun y => lookup_Action_11 N y.1.1 y.1.2.1 y.1.2.2.1 y.1.2.2.2.1 y.1.2.2.2.2.1 y.1.2.2.2.2.2.1 y.1.2.2.2.2.2.2.1 y.1.2.2.2.2.2.2.2.1 y.1.2.2.2.2.2.2.2.2.1 y.1.2.2.2.2.2.2.2.2.2.1 y.2.1 y.2.2.1 y.2.2.2.1) (lookup_Action_K9 N) :=
  Blk.loopAt (Nf := N) (hns := [2, 4, 8, 9, 13, 14, 53, 54, 55, 61, 62, 63]) (ans := [2, 4, 8, 9, 53, 54, 55]) (hc := lookup_Action_S0) (ac := lookup_Action_S1) (bid := 2) (step := (fun y => lookup_Action_s12 N y.1.1 y.1.2.1 y.1.2.2.1 y.1.2.2.2.1 y.1.2.2.2.2.1 y.1.2.2.2.2.2.1 y.1.2.2.2.2.2.2.1 y.1.2.2.2.2.2.2.2.1 y.1.2.2.2.2.2.2.2.2.1 y.1.2.2.2.2.2.2.2.2.2.1 y.2.1 y.2.2.1 y.2.2.2.1)) (J := (fun e => (lookup_Action_K9 N .normal) (lookup_Action_S1.st [2, 4, 8, 9, 53, 54, 55] e))) hb (by kernel_rfl) (Blk.into (X := (lookup_Action_K9 N .normal)) (NxOk.end (by kernel_rfl)) (fun x => by kernel_rfl)) (lookup_Action_s12_b N hb) (fun x => by kernel_rfl)
theorem lookup_Action_10_b {E : Env} (N : Nat) (hb : Base Try.prog (lookup_Action_C N) E 0) : Blk Try.prog (lookup_Action_C N) E [2, 4, 8, 9, 53, 54, 55] lookup_Action_S1 (lookup_Action_L9b.drop 0) (fun y => lookup_Action_10 N y.1.1 y.1.2.1 y.1.2.2.1 y.1.2.2.2.1 y.1.2.2.2.2.1 y.1.2.2.2.2.2.1 y.2.1) (lookup_Action_K9 N) :=
  Blk.chunkAt hb 2 (X := (goK 0 [2, 4, 8, 9, 13, 14, 53, 54, 55, 61, 62, 63] lookup_Action_S0 (fun y => lookup_Action_11 N y.1.1 y.1.2.1 y.1.2.2.1 y.1.2.2.2.1 y.1.2.2.2.2.1 y.1.2.2.2.2.2.1 y.1.2.2.2.2.2.2.1 y.1.2.2.2.2.2.2.2.1 y.1.2.2.2.2.2.2.2.2.1 y.1.2.2.2.2.2.2.2.2.2.1 y.2.1 y.2.2.1 y.2.2.2.1))) (NxOk.go hb (lookup_Action_11_b N hb)) rfl (fun x => by kernel_rfl)
theorem lookup_Action_8_b {E : Env} (N : Nat) (hb : Base Try.prog (lookup_Action_C N) E 0) : Blk Try.prog (lookup_Action_C N) E [2, 4, 8, 9, 53, 54, 55] lookup_Action_S1 (lookup_Action_L7.drop 2) (fun y => lookup_Action_8 N y.1.1 y.1.2.1 y.1.2.2.1 y.1.2.2.2.1 y.1.2.2.2.2.1 y.1.2.2.2.2.2.1 y.2.1) (lookup_Action_K7 N) :=
  Blk.blockAt (bid := 1) (X := (goK 0 [2, 4, 8, 9, 53, 54, 55] lookup_Action_S1 (fun y => lookup_Action_13 N y.1.1 y.1.2.1 y.1.2.2.1 y.1.2.2.2.1 y.1.2.2.2.2.1 y.1.2.2.2.2.2.1 y.2.1))) (Y := (goK 0 [2, 4, 8, 9, 53, 54, 55] lookup_Action_S1 (fun y => lookup_Action_10 N y.1.1 y.1.2.1 y.1.2.2.1 y.1.2.2.2.1 y.1.2.2.2.2.1 y.1.2.2.2.2.2.1 y.2.1))) (by kernel_rfl) (NxOk.go hb (lookup_Action_13_b N hb)) (NxOk.go hb (lookup_Action_10_b N hb)) (fun x => by kernel_rfl)
theorem lookup_Action_s7_b {E : Env} (N : Nat) (hb : Base Try.prog (lookup_Action_C N) E 0) : Blk Try.prog (lookup_Action_C N) E [2, 4, 8, 9, 53, 54, 55] lookup_Action_S1 (lookup_Action_L7.drop 0) (fun y => lookup_Action_s7 N y.1.1 y.1.2.1 y.1.2.2.1 y.1.2.2.2.1 y.1.2.2.2.2.1 y.1.2.2.2.2.2.1 y.2.1) (lookup_Action_K7 N) :=
  Blk.chunkAt hb 2 (X := (goK 0 [2, 4, 8, 9, 53, 54, 55] lookup_Action_S1 (fun y => lookup_Action_8 N y.1.1 y.1.2.1 y.1.2.2.1 y.1.2.2.2.1 y.1.2.2.2.2.1 y.1.2.2.2.2.2.1 y.2.1))) (NxOk.go hb (lookup_Action_8_b N hb)) rfl (fun x => by kernel_rfl)
theorem lookup_Action_14_b {E : Env} (N : Nat) (hb : Base Try.prog (lookup_Action_C N) E 0) : Blk Try.prog (lookup_Action_C N) E [8, 9] lookup_Action_S2 (lookup_Action_L.drop 10) (fun y => lookup_Action_14 N y.1.1 y.1.2.1) (lookup_Action_K N) :=
  Blk.chunkAt hb 4 (X := (lookup_Action_K N .normal)) (NxOk.end (by kernel_rfl)) rfl (fun x => by kernel_rfl)
theorem lookup_Action_6_b {E : Env} (N : Nat) (hb : Base Try.prog (lookup_Action_C N) E 0) : Blk Try.prog (lookup_Action_C N) E [2, 4, 8, 9, 53, 54, 55] lookup_Action_S1 (lookup_Action_L4t.drop 1) (fun y => lookup_Action_6 N y.1.1 y.1.2.1 y.1.2.2.1 y.1.2.2.2.1 y.1.2.2.2.2.1 y.1.2.2.2.2.2.1 y.2.1) (lookup_Action_K4 N) :=
  Blk.loopAt (Nf := N) (hns := [2, 4, 8, 9, 53, 54, 55]) (ans := [8, 9]) (hc := lookup_Action_S1) (ac := lookup_Action_S2) (bid := 0) (step := (fun y => lookup_Action_s7 N y.1.1 y.1.2.1 y.1.2.2.1 y.1.2.2.2.1 y.1.2.2.2.2.1 y.1.2.2.2.2.2.1 y.2.1)) (J := (fun e => (lookup_Action_K4 N .normal) (lookup_Action_S2.st [8, 9] e))) hb (by kernel_rfl) (Blk.into (X := (lookup_Action_K4 N .normal)) (NxOk.end (by kernel_rfl)) (fun x => by kernel_rfl)) (lookup_Action_s7_b N hb) (fun x => by kernel_rfl)
theorem lookup_Action_5_b {E : Env} (N : Nat) (hb : Base Try.prog (lookup_Action_C N) E 0) : Blk Try.prog (lookup_Action_C N) E [2, 4, 8, 9, 10] lookup_Action_S3 (lookup_Action_L4t.drop 0) (fun y => lookup_Action_5 N y.1.1 y.1.2.1 y.1.2.2.1 y.1.2.2.2.1 y.2.1) (lookup_Action_K4 N) :=
  Blk.chunkAt hb 1 (X := (goK 0 [2, 4, 8, 9, 53, 54, 55] lookup_Action_S1 (fun y => lookup_Action_6 N y.1.1 y.1.2.1 y.1.2.2.1 y.1.2.2.2.1 y.1.2.2.2.2.1 y.1.2.2.2.2.2.1 y.2.1))) (NxOk.go hb (lookup_Action_6_b N hb)) rfl (fun x => by kernel_rfl)
theorem lookup_Action_3_b {E : Env} (N : Nat) (hb : Base Try.prog (lookup_Action_C N) E 0) : Blk Try.prog (lookup_Action_C N) E [2, 4, 8, 9, 10, 52] lookup_Action_S4 (lookup_Action_L.drop 9) (fun y => lookup_Action_3 N y.1.1 y.1.2.1 y.1.2.2.1 y.1.2.2.2.1 y.1.2.2.2.2.1 y.2.1) (lookup_Action_K N) :=
  Blk.condAt (n := 52) (X := (goK 0 [8, 9] lookup_Action_S2 (fun y => lookup_Action_14 N y.1.1 y.1.2.1))) (A := (goK 0 [2, 4, 8, 9, 10] lookup_Action_S3 (fun y => lookup_Action_5 N y.1.1 y.1.2.1 y.1.2.2.1 y.1.2.2.2.1 y.2.1))) (B := (lookup_Action_K4 N .normal)) (by kernel_rfl) (NxOk.go hb (lookup_Action_14_b N hb)) (NxOk.go hb (lookup_Action_5_b N hb)) (NxOk.skipAt (by kernel_rfl)) (fun x => by kernel_rfl)
theorem lookup_Action_2_b {E : Env} (N : Nat) (hb : Base Try.prog (lookup_Action_C N) E 0) : Blk Try.prog (lookup_Action_C N) E [2, 4, 8, 9, 10] lookup_Action_S3 (lookup_Action_L.drop 7) (fun y => lookup_Action_2 N y.1.1 y.1.2.1 y.1.2.2.1 y.1.2.2.2.1 y.2.1) (lookup_Action_K N) :=
  Blk.chunkAt hb 2 (X := (goK 0 [2, 4, 8, 9, 10, 52] lookup_Action_S4 (fun y => lookup_Action_3 N y.1.1 y.1.2.1 y.1.2.2.1 y.1.2.2.2.1 y.1.2.2.2.2.1 y.2.1))) (NxOk.go hb (lookup_Action_3_b N hb)) rfl (fun x => by kernel_rfl)
theorem lookup_Action_1_b {E : Env} (N : Nat) (hb : Base Try.prog (lookup_Action_C N) E 0) : Blk Try.prog (lookup_Action_C N) E [0, 2, 4, 8, 9, 32] lookup_Action_S5 (lookup_Action_L.drop 3) (fun y => lookup_Action_1 N y.1.1 y.1.2.1 y.1.2.2.1 y.1.2.2.2.1 y.1.2.2.2.2.1 y.2.1) (lookup_Action_K N) :=
  Blk.chunkAt hb 4 (X := (goK 0 [2, 4, 8, 9, 10] lookup_Action_S3 (fun y => lookup_Action_2 N y.1.1 y.1.2.1 y.1.2.2.1 y.1.2.2.2.1 y.2.1))) (NxOk.go hb (lookup_Action_2_b N hb)) rfl (fun x => by kernel_rfl)
theorem lookup_Action_b {E : Env} (N : Nat) (hb : Base Try.prog (lookup_Action_C N) E 0) : Blk Try.prog (lookup_Action_C N) E (List.range lookup_Action_S6.ks.length) lookup_Action_S6 (lookup_Action_L.drop 0) (fun y => lookup_Action N y.1.1 y.1.2.1 y.1.2.2.1) (lookup_Action_K N) :=
  Blk.chunkAt hb 3 (X := (goK 0 [0, 2, 4, 8, 9, 32] lookup_Action_S5 (fun y => lookup_Action_1 N y.1.1 y.1.2.1 y.1.2.2.1 y.1.2.2.2.1 y.1.2.2.2.2.1 y.2.1))) (NxOk.go hb (lookup_Action_1_b N hb)) rfl (fun x => by kernel_rfl)
noncomputable def lookup_Action_ctr (N : Nat) : Ctr := ⟨lookup_Action_S6, lookup_Action_S7.un [false, false], 0, (fun y => lookup_Action N y.1.1 y.1.2.1 y.1.2.2.1)⟩
theorem lookup_Action_ctrs (N : Nat) : CtrsOk Try.prog (lookup_Action_C N) := ctrs_of (Γ := lookup_Action_C N) (by
  intro p hp
  simp only [lookup_Action_C, List.mem_cons, List.not_mem_nil, or_false] at hp
  rcases hp with rfl | rfl | rfl
  · exact lookup_Rule_ok N
  · exact lookup_hidden_ok N
  · exact lookup_could_ok N)
theorem lookup_Action_ok (N : Nat) : Ctr.ok Try.prog G_globs 37 (lookup_Action_ctr N) :=
  ctr_fn (Γ := lookup_Action_C N) (rfit := lookup_Action_S7) (bs := [false, false]) (res := [6, 7]) (by kernel_rfl) (tys_ok G_tys_ok) (lookup_Action_ctrs N) Try.func37 (by kernel_rfl) (by kernel_rfl) Try.ntmps37 (by kernel_rfl) (by kernel_rfl) (by kernel_rfl) (by kernel_rfl) (fun E hb => lookup_Action_b N hb)
end Go.Proofs.Ytgbkkfpheahdfaa
namespace Go.Proofs.Ytgbkkfpheahdfaa
open Go
set_option maxRecDepth 100000
set_option linter.unusedVariables false
/-! ipsecgate/ipsecgatelaw22.awake -/
abbrev law22_awake_R : Type := ((Bool × Unit) × (Unit))
noncomputable def law22_awake (N : Nat) : Option law22_awake_R :=
  let x1 := ([(-1 : Int), (65535 : Int)] : List Int)
  let x2 := ([(80 : Int), (80 : Int)] : List Int)
  let x3 := ([(-1 : Int), (65535 : Int)] : List Int)
  Option.bind (lookup_Action N ([((2 : Int), ([103, 111, 108, 100] : List UInt8), ([(((4 : Int), (0 : UInt64), (0 : UInt64), ()), ((4 : Int), (0 : UInt64), (4294967295 : UInt64), ()), ((4 : Int), (0 : UInt64), (0 : UInt64), ()), ((4 : Int), (0 : UInt64), (4294967295 : UInt64), ()), (0 : Int), (255 : Int), x1, x2, ())] : List D45), ()), ((1 : Int), ([] : List UInt8), ([(((4 : Int), (0 : UInt64), (0 : UInt64), ()), ((4 : Int), (0 : UInt64), (4294967295 : UInt64), ()), ((4 : Int), (0 : UInt64), (0 : UInt64), ()), ((4 : Int), (0 : UInt64), (4294967295 : UInt64), ()), (0 : Int), (255 : Int), x1, x3, ())] : List D45), ())] : List D59) (((4 : Int), (0 : UInt64), (4294967295 : UInt64), ()), ((4 : Int), (0 : UInt64), (4294967295 : UInt64), ()), (6 : Int), (-1 : Int), (-1 : Int), ()) true) fun y4 =>
  Option.bind (lookup_Action N ([((2 : Int), ([103, 111, 108, 100] : List UInt8), ([(((4 : Int), (0 : UInt64), (0 : UInt64), ()), ((4 : Int), (0 : UInt64), (4294967295 : UInt64), ()), ((4 : Int), (0 : UInt64), (0 : UInt64), ()), ((4 : Int), (0 : UInt64), (4294967295 : UInt64), ()), (0 : Int), (255 : Int), x1, x2, ())] : List D45), ()), ((1 : Int), ([] : List UInt8), ([(((4 : Int), (0 : UInt64), (0 : UInt64), ()), ((4 : Int), (0 : UInt64), (4294967295 : UInt64), ()), ((4 : Int), (0 : UInt64), (0 : UInt64), ()), ((4 : Int), (0 : UInt64), (4294967295 : UInt64), ()), (0 : Int), (255 : Int), x1, x3, ())] : List D45), ())] : List D59) (((4 : Int), (0 : UInt64), (4294967295 : UInt64), ()), ((4 : Int), (0 : UInt64), (4294967295 : UInt64), ()), (6 : Int), (1 : Int), (81 : Int), ()) true) fun y5 =>
  bif (decide (y4.1.1 = (0 : Int))) then
    bif (decide (y4.1.2.1 = (0 : Int))) then
      bif (decide (y5.1.1 = (1 : Int))) then
        some (((decide (y5.1.2.1 = (1 : Int))), ()), (()))
      else
        some ((false, ()), (()))
    else
      some ((false, ()), (()))
  else
    some ((false, ()), (()))
noncomputable def law22_awake_C (N : Nat) : Ctx := ⟨59, G_tys, [(37, lookup_Action_ctr N)], G_globs⟩
noncomputable def law22_awake_S0 : Spec := ⟨[], []⟩
noncomputable def law22_awake_S1 : Spec := ⟨[.val .bool], []⟩
noncomputable def law22_awake_K (_N : Nat) : XE → GS → Option law22_awake_R := retK 0 [0] [false] law22_awake_S1
noncomputable def law22_awake_L : List Code := (bodyOf (some Try.f33))
theorem law22_awake_b {E : Env} (N : Nat) (hb : Base Try.prog (law22_awake_C N) E 0) : Blk Try.prog (law22_awake_C N) E (List.range law22_awake_S0.ks.length) law22_awake_S0 (law22_awake_L.drop 0) (fun y => law22_awake N) (law22_awake_K N) :=
  Blk.chunkAt hb 12 (X := (law22_awake_K N .normal)) (NxOk.end (by kernel_rfl)) rfl (fun x => by kernel_rfl)
noncomputable def law22_awake_ctr (N : Nat) : Ctr := ⟨law22_awake_S0, law22_awake_S1.un [false], 0, (fun y => law22_awake N)⟩
theorem law22_awake_ctrs (N : Nat) : CtrsOk Try.prog (law22_awake_C N) := ctrs_of (Γ := law22_awake_C N) (by
  intro p hp
  simp only [law22_awake_C, List.mem_cons, List.not_mem_nil, or_false] at hp
  rcases hp with rfl
  · exact lookup_Action_ok N)
theorem law22_awake_ok (N : Nat) : Ctr.ok Try.prog G_globs 33 (law22_awake_ctr N) :=
  ctr_fn (Γ := law22_awake_C N) (rfit := law22_awake_S1) (bs := [false]) (res := [0]) (by kernel_rfl) (tys_ok G_tys_ok) (law22_awake_ctrs N) Try.func33 (by kernel_rfl) (by kernel_rfl) Try.ntmps33 (by kernel_rfl) (by kernel_rfl) (by kernel_rfl) (by kernel_rfl) (fun E hb => law22_awake_b N hb)
end Go.Proofs.Ytgbkkfpheahdfaa
namespace Go.Proofs.Ytgbkkfpheahdfaa
open Go
set_option maxRecDepth 100000
set_option linter.unusedVariables false
/-! ipsecgate/ipsecgatelaw22.LookupTurns -/
abbrev law22_LookupTurns_R : Type := ((Bool × Unit) × (Unit))
noncomputable def law22_LookupTurns_s2 (N : Nat) (i_7 : Int) (l_5 : (List D59)) (c_6 : ((List UInt8) × (Int × Unit))) : Option (Lo ((Int × Unit) × ((List D59) × ((List UInt8) × (Int × Unit)) × Unit)) ((Unit) × (Unit)) law22_LookupTurns_R) :=
  bif (decide (i_7 < (8 : Int))) then
    Option.bind (make_Codes_Packet N c_6) fun y7 =>
    Option.bind (lookup_Rule N l_5 y7.1.1 true) fun y8 =>
    Option.bind (lookup_Rule N l_5 (y7.1.1.2.1, y7.1.1.1, y7.1.1.2.2.1, y7.1.1.2.2.2.2.1, y7.1.1.2.2.2.1, ()) false) fun y9 =>
    bif (!(decide (y8.1.1 = y9.1.1))) then
      some (.rt ((false, ()), (())))
    else
      bif (!(decide (y8.1.2.1 = y9.1.2.1))) then
        some (.rt ((false, ()), (())))
      else
        bif (!(decide (y7.1.1.2.2.1 = (1 : Int)))) then
          bif (!(decide (y7.1.1.2.2.1 = (58 : Int)))) then
            Option.bind (lookup_Action N l_5 y7.1.1 true) fun y14 =>
            Option.bind (lookup_Action N l_5 (y7.1.1.2.1, y7.1.1.1, y7.1.1.2.2.1, y7.1.1.2.2.2.2.1, y7.1.1.2.2.2.1, ()) false) fun y15 =>
            bif (!(decide (y14.1.1 = y15.1.1))) then
              some (.rt ((false, ()), (())))
            else
              bif (!(decide (y14.1.2.1 = y15.1.2.1))) then
                some (.rt ((false, ()), (())))
              else
                some (.go (((w64 (i_7 + (1 : Int))), ()), (l_5, y7.2.1, ())))
          else
            some (.go (((w64 (i_7 + (1 : Int))), ()), (l_5, y7.2.1, ())))
        else
          some (.go (((w64 (i_7 + (1 : Int))), ()), (l_5, y7.2.1, ())))
  else
    some (.br ((()), (())))
noncomputable def law22_LookupTurns_3 (N : Nat) : Option law22_LookupTurns_R :=
  some ((true, ()), (()))
noncomputable def law22_LookupTurns_1 (N : Nat) (i_7 : Int) (l_5 : (List D59)) (c_6 : ((List UInt8) × (Int × Unit))) : Option law22_LookupTurns_R :=
  loopK N (fun y => law22_LookupTurns_s2 N y.1.1 y.2.1 y.2.2.1) (fun (e : ((Unit) × (Unit))) => law22_LookupTurns_3 N) ((i_7, ()), (l_5, c_6, ()))
noncomputable def law22_LookupTurns (N : Nat) (codes_0 : (List UInt8)) (packets_1 : (List UInt8)) : Option law22_LookupTurns_R :=
  Option.bind (law22_awake N) fun y1 =>
  bif (!y1.1.1) then
    some ((false, ()), (()))
  else
    Option.bind (make_New N codes_0 (240 : Int)) fun y3 =>
    Option.bind (make_Codes_Rules N (4 : Int) y3.2.1) fun y4 =>
    Option.bind (make_New N packets_1 (160 : Int)) fun y5 =>
    law22_LookupTurns_1 N (0 : Int) y4.2.2.1 y5.2.1
noncomputable def law22_LookupTurns_C (N : Nat) : Ctx := ⟨90, G_tys, [(33, law22_awake_ctr N), (28, make_New_ctr N), (34, make_Codes_Rules_ctr N), (35, make_Codes_Packet_ctr N), (38, lookup_Rule_ctr N), (37, lookup_Action_ctr N)], G_globs⟩
noncomputable def law22_LookupTurns_S0 : Spec := ⟨[.row 0, .ref 1 (.pair (.sl .u8) (.pair .i64 .unit)), .val .i64], [(.row 60 T59, .pos 0), (.box 113 (.pair (.sl .u8) (.pair .i64 .unit)), .pos 1)]⟩
noncomputable def law22_LookupTurns_S1 : Spec := ⟨[], []⟩
noncomputable def law22_LookupTurns_S2 : Spec := ⟨[.val (.sl .u8), .val (.sl .u8)], []⟩
noncomputable def law22_LookupTurns_S3 : Spec := ⟨[.val .bool], []⟩
noncomputable def law22_LookupTurns_K (_N : Nat) : XE → GS → Option law22_LookupTurns_R := retK 0 [4] [false] law22_LookupTurns_S3
noncomputable def law22_LookupTurns_L : List Code := (bodyOf (some Try.f6))
noncomputable def law22_LookupTurns_L2 : List Code := (loopOf (law22_LookupTurns_L[6]?))
noncomputable def law22_LookupTurns_K2 (N : Nat) : XE → GS → Option (Lo ((Int × Unit) × ((List D59) × ((List UInt8) × (Int × Unit)) × Unit)) ((Unit) × (Unit)) law22_LookupTurns_R) := roundK (some 0) (fit 0 [5, 6, 7] law22_LookupTurns_S0) (fit 0 [] law22_LookupTurns_S1) (law22_LookupTurns_K N)
theorem law22_LookupTurns_s2_b {E : Env} (N : Nat) (hb : Base Try.prog (law22_LookupTurns_C N) E 0) : Blk Try.prog (law22_LookupTurns_C N) E [5, 6, 7] law22_LookupTurns_S0 (law22_LookupTurns_L2.drop 0) (fun y => law22_LookupTurns_s2 N y.1.1 y.2.1 y.2.2.1) (law22_LookupTurns_K2 N) :=
  Blk.chunkAt hb 4 (X := (law22_LookupTurns_K2 N .normal)) (NxOk.end (by kernel_rfl)) rfl (fun x => by kernel_rfl)
theorem law22_LookupTurns_3_b {E : Env} (N : Nat) (hb : Base Try.prog (law22_LookupTurns_C N) E 0) : Blk Try.prog (law22_LookupTurns_C N) E [] law22_LookupTurns_S1 (law22_LookupTurns_L.drop 7) (fun y => law22_LookupTurns_3 N) (law22_LookupTurns_K N) :=
  Blk.chunkAt hb 2 (X := (law22_LookupTurns_K N .normal)) (NxOk.end (by kernel_rfl)) rfl (fun x => by kernel_rfl)
theorem law22_LookupTurns_1_b {E : Env} (N : Nat) (hb : Base Try.prog (law22_LookupTurns_C N) E 0) : Blk Try.prog (law22_LookupTurns_C N) E [5, 6, 7] law22_LookupTurns_S0 (law22_LookupTurns_L.drop 6) (fun y => law22_LookupTurns_1 N y.1.1 y.2.1 y.2.2.1) (law22_LookupTurns_K N) :=
  Blk.loopAt (Nf := N) (hns := [5, 6, 7]) (ans := []) (hc := law22_LookupTurns_S0) (ac := law22_LookupTurns_S1) (bid := 0) (step := (fun y => law22_LookupTurns_s2 N y.1.1 y.2.1 y.2.2.1)) (J := (fun e => (goK 0 [] law22_LookupTurns_S1 (fun y => law22_LookupTurns_3 N)) (law22_LookupTurns_S1.st [] e))) hb (by kernel_rfl) (Blk.into (X := (goK 0 [] law22_LookupTurns_S1 (fun y => law22_LookupTurns_3 N))) (NxOk.go hb (law22_LookupTurns_3_b N hb)) (fun x => by kernel_rfl)) (law22_LookupTurns_s2_b N hb) (fun x => by kernel_rfl)
theorem law22_LookupTurns_b {E : Env} (N : Nat) (hb : Base Try.prog (law22_LookupTurns_C N) E 0) : Blk Try.prog (law22_LookupTurns_C N) E (List.range law22_LookupTurns_S2.ks.length) law22_LookupTurns_S2 (law22_LookupTurns_L.drop 0) (fun y => law22_LookupTurns N y.1.1 y.1.2.1) (law22_LookupTurns_K N) :=
  Blk.chunkAt hb 6 (X := (goK 0 [5, 6, 7] law22_LookupTurns_S0 (fun y => law22_LookupTurns_1 N y.1.1 y.2.1 y.2.2.1))) (NxOk.go hb (law22_LookupTurns_1_b N hb)) rfl (fun x => by kernel_rfl)
noncomputable def law22_LookupTurns_ctr (N : Nat) : Ctr := ⟨law22_LookupTurns_S2, law22_LookupTurns_S3.un [false], 0, (fun y => law22_LookupTurns N y.1.1 y.1.2.1)⟩
theorem law22_LookupTurns_ctrs (N : Nat) : CtrsOk Try.prog (law22_LookupTurns_C N) := ctrs_of (Γ := law22_LookupTurns_C N) (by
  intro p hp
  simp only [law22_LookupTurns_C, List.mem_cons, List.not_mem_nil, or_false] at hp
  rcases hp with rfl | rfl | rfl | rfl | rfl | rfl
  · exact law22_awake_ok N
  · exact make_New_ok N
  · exact make_Codes_Rules_ok N
  · exact make_Codes_Packet_ok N
  · exact lookup_Rule_ok N
  · exact lookup_Action_ok N)
theorem law22_LookupTurns_ok (N : Nat) : Ctr.ok Try.prog G_globs 6 (law22_LookupTurns_ctr N) :=
  ctr_fn (Γ := law22_LookupTurns_C N) (rfit := law22_LookupTurns_S3) (bs := [false]) (res := [4]) (by kernel_rfl) (tys_ok G_tys_ok) (law22_LookupTurns_ctrs N) Try.func6 (by kernel_rfl) (by kernel_rfl) Try.ntmps6 (by kernel_rfl) (by kernel_rfl) (by kernel_rfl) (by kernel_rfl) (fun E hb => law22_LookupTurns_b N hb)
end Go.Proofs.Ytgbkkfpheahdfaa
namespace Go.Proofs.Ytgbkkfpheahdfaa
open Go
set_option maxRecDepth 100000
set_option linter.unusedVariables false
/-! ipsecgate/ipsecgatelaw22.LookupHides -/
abbrev law22_LookupHides_R : Type := ((Bool × Unit) × (Unit))
noncomputable def law22_LookupHides_8 (N : Nat) (outbound_2 : Bool) (i_9 : Int) (l_7 : (List D59)) (c_8 : ((List UInt8) × (Int × Unit))) : Option (Lo ((Bool × Int × Unit) × ((List D59) × ((List UInt8) × (Int × Unit)) × Unit)) ((Unit) × (Unit)) law22_LookupHides_R) :=
  some (.go ((outbound_2, (w64 (i_9 + (1 : Int))), ()), (l_7, c_8, ())))
noncomputable def law22_LookupHides_s15 (N : Nat) (outbound_2 : Bool) (i_9 : Int) (r_12 : Int) (t_61 : Int) (t_62 : Int) (t_67 : (List D45)) (t_68 : Int) (t_69 : Int) (l_7 : (List D59)) (c_8 : ((List UInt8) × (Int × Unit))) (p_10 : D29) (ports_13 : (List Int)) : Option (Lo ((Bool × Int × Int × Int × Int × (List D45) × Int × Int × Unit) × ((List D59) × ((List UInt8) × (Int × Unit)) × D29 × (List Int) × Unit)) ((Bool × Int × Int × Int × Int × Unit) × ((List D59) × ((List UInt8) × (Int × Unit)) × D29 × (List Int) × Unit)) (Lo ((Bool × Int × Int × Int × Int × Unit) × ((List D59) × ((List UInt8) × (Int × Unit)) × D29 × (List Int) × Unit)) ((Bool × Int × Int × Unit) × ((List D59) × ((List UInt8) × (Int × Unit)) × D29 × (List Int) × Unit)) (Lo ((Bool × Int × Unit) × ((List D59) × ((List UInt8) × (Int × Unit)) × Unit)) ((Unit) × (Unit)) law22_LookupHides_R))) :=
  bif (decide (t_69 < t_68)) then
    bif inR t_69 t_67.length then
    let x19 := t_67.getD t_69.toNat (((0 : Int), (0 : UInt64), (0 : UInt64), ()), ((0 : Int), (0 : UInt64), (0 : UInt64), ()), ((0 : Int), (0 : UInt64), (0 : UInt64), ()), ((0 : Int), (0 : UInt64), (0 : UInt64), ()), (0 : Int), (0 : Int), (List.replicate 2 (0 : Int)), (List.replicate 2 (0 : Int)), ())
    let x20 := (x19.2.2.2.2.2.2.1.getD 0 (0 : Int))
    let x21 := bif decide ((0 : Int) < x20) then x20 else (0 : Int)
    let x22 := (x19.2.2.2.2.2.2.1.getD 1 (0 : Int))
    let x23 := bif decide ((0 : Int) < x22) then x22 else (0 : Int)
    let x24 := (x19.2.2.2.2.2.2.2.1.getD 0 (0 : Int))
    let x25 := bif decide ((0 : Int) < x24) then x24 else (0 : Int)
    let x26 := (x19.2.2.2.2.2.2.2.1.getD 1 (0 : Int))
    let x27 := bif decide ((0 : Int) < x26) then x26 else (0 : Int)
    bif room (ports_13.length + ([x21, x23, x25, x27] : List Int).length) 8 then
    some (.go ((outbound_2, i_9, r_12, t_61, t_62, t_67, t_68, (w64 (t_69 + (1 : Int))), ()), (l_7, c_8, p_10, (ports_13 ++ ([x21, x23, x25, x27] : List Int)), ())))
    else none
    else none
  else
    some (.br ((outbound_2, i_9, r_12, t_61, t_62, ()), (l_7, c_8, p_10, ports_13, ())))
noncomputable def law22_LookupHides_16 (N : Nat) (outbound_2 : Bool) (i_9 : Int) (r_12 : Int) (t_61 : Int) (t_62 : Int) (l_7 : (List D59)) (c_8 : ((List UInt8) × (Int × Unit))) (p_10 : D29) (ports_13 : (List Int)) : Option (Lo ((Bool × Int × Int × Int × Int × Unit) × ((List D59) × ((List UInt8) × (Int × Unit)) × D29 × (List Int) × Unit)) ((Bool × Int × Int × Unit) × ((List D59) × ((List UInt8) × (Int × Unit)) × D29 × (List Int) × Unit)) (Lo ((Bool × Int × Unit) × ((List D59) × ((List UInt8) × (Int × Unit)) × Unit)) ((Unit) × (Unit)) law22_LookupHides_R)) :=
  some (.go ((outbound_2, i_9, r_12, t_61, (w64 (t_62 + (1 : Int))), ()), (l_7, c_8, p_10, ports_13, ())))
noncomputable def law22_LookupHides_14 (N : Nat) (outbound_2 : Bool) (i_9 : Int) (r_12 : Int) (t_61 : Int) (t_62 : Int) (t_67 : (List D45)) (t_68 : Int) (t_69 : Int) (l_7 : (List D59)) (c_8 : ((List UInt8) × (Int × Unit))) (p_10 : D29) (ports_13 : (List Int)) : Option (Lo ((Bool × Int × Int × Int × Int × Unit) × ((List D59) × ((List UInt8) × (Int × Unit)) × D29 × (List Int) × Unit)) ((Bool × Int × Int × Unit) × ((List D59) × ((List UInt8) × (Int × Unit)) × D29 × (List Int) × Unit)) (Lo ((Bool × Int × Unit) × ((List D59) × ((List UInt8) × (Int × Unit)) × Unit)) ((Unit) × (Unit)) law22_LookupHides_R)) :=
  loopK N (fun y => law22_LookupHides_s15 N y.1.1 y.1.2.1 y.1.2.2.1 y.1.2.2.2.1 y.1.2.2.2.2.1 y.1.2.2.2.2.2.1 y.1.2.2.2.2.2.2.1 y.1.2.2.2.2.2.2.2.1 y.2.1 y.2.2.1 y.2.2.2.1 y.2.2.2.2.1) (fun (e : ((Bool × Int × Int × Int × Int × Unit) × ((List D59) × ((List UInt8) × (Int × Unit)) × D29 × (List Int) × Unit))) => law22_LookupHides_16 N e.1.1 e.1.2.1 e.1.2.2.1 e.1.2.2.2.1 e.1.2.2.2.2.1 e.2.1 e.2.2.1 e.2.2.2.1 e.2.2.2.2.1) ((outbound_2, i_9, r_12, t_61, t_62, t_67, t_68, t_69, ()), (l_7, c_8, p_10, ports_13, ()))
noncomputable def law22_LookupHides_13 (N : Nat) (outbound_2 : Bool) (i_9 : Int) (r_12 : Int) (t_61 : Int) (t_62 : Int) (l_7 : (List D59)) (c_8 : ((List UInt8) × (Int × Unit))) (p_10 : D29) (ports_13 : (List Int)) : Option (Lo ((Bool × Int × Int × Int × Int × Unit) × ((List D59) × ((List UInt8) × (Int × Unit)) × D29 × (List Int) × Unit)) ((Bool × Int × Int × Unit) × ((List D59) × ((List UInt8) × (Int × Unit)) × D29 × (List Int) × Unit)) (Lo ((Bool × Int × Unit) × ((List D59) × ((List UInt8) × (Int × Unit)) × Unit)) ((Unit) × (Unit)) law22_LookupHides_R)) :=
  bif inR t_62 l_7.length then
  let x16 := (l_7.getD t_62.toNat ((0 : Int), ([] : List UInt8), ([] : List D45), ()))
  law22_LookupHides_14 N outbound_2 i_9 r_12 t_61 t_62 x16.2.2.1 (x16.2.2.1.length : Int) (0 : Int) l_7 c_8 p_10 ports_13
  else none
noncomputable def law22_LookupHides_11 (N : Nat) (outbound_2 : Bool) (i_9 : Int) (r_12 : Int) (t_61 : Int) (t_62 : Int) (l_7 : (List D59)) (c_8 : ((List UInt8) × (Int × Unit))) (p_10 : D29) (ports_13 : (List Int)) : Option (Lo ((Bool × Int × Int × Int × Int × Unit) × ((List D59) × ((List UInt8) × (Int × Unit)) × D29 × (List Int) × Unit)) ((Bool × Int × Int × Unit) × ((List D59) × ((List UInt8) × (Int × Unit)) × D29 × (List Int) × Unit)) (Lo ((Bool × Int × Unit) × ((List D59) × ((List UInt8) × (Int × Unit)) × Unit)) ((Unit) × (Unit)) law22_LookupHides_R)) :=
  law22_LookupHides_13 N outbound_2 i_9 r_12 t_61 t_62 l_7 c_8 p_10 ports_13
noncomputable def law22_LookupHides_s10 (N : Nat) (outbound_2 : Bool) (i_9 : Int) (r_12 : Int) (t_61 : Int) (t_62 : Int) (l_7 : (List D59)) (c_8 : ((List UInt8) × (Int × Unit))) (p_10 : D29) (ports_13 : (List Int)) : Option (Lo ((Bool × Int × Int × Int × Int × Unit) × ((List D59) × ((List UInt8) × (Int × Unit)) × D29 × (List Int) × Unit)) ((Bool × Int × Int × Unit) × ((List D59) × ((List UInt8) × (Int × Unit)) × D29 × (List Int) × Unit)) (Lo ((Bool × Int × Unit) × ((List D59) × ((List UInt8) × (Int × Unit)) × Unit)) ((Unit) × (Unit)) law22_LookupHides_R)) :=
  bif (decide (t_62 < t_61)) then
    law22_LookupHides_11 N outbound_2 i_9 r_12 t_61 t_62 l_7 c_8 p_10 ports_13
  else
    some (.br ((outbound_2, i_9, r_12, ()), (l_7, c_8, p_10, ports_13, ())))
noncomputable def law22_LookupHides_20 (N : Nat) (outbound_2 : Bool) (i_9 : Int) (r_12 : Int) (n_18 : Int) (t_100 : Bool) (l_7 : (List D59)) (c_8 : ((List UInt8) × (Int × Unit))) (p_10 : D29) (ports_13 : (List Int)) : Option (Lo ((Bool × Int × Int × Int × Unit) × ((List D59) × ((List UInt8) × (Int × Unit)) × D29 × (List Int) × Unit)) ((Bool × Int × Unit) × ((List D59) × ((List UInt8) × (Int × Unit)) × Unit)) (Lo ((Bool × Int × Unit) × ((List D59) × ((List UInt8) × (Int × Unit)) × Unit)) ((Unit) × (Unit)) law22_LookupHides_R)) :=
  bif t_100 then
    Option.bind (make_Codes_Next N (256 : Int) c_8) fun y34 =>
    let x35 := (ports_13.length : Int)
    bif !(decide (x35 = 0)) then
    let x36 := y34.1.1.tmod x35
    bif inR x36 ports_13.length then
    let x37 := (ports_13.getD x36.toNat (0 : Int))
    bif (decide (p_10.2.2.1 = (6 : Int))) then
      Option.bind (make_Codes_Next N (256 : Int) y34.2.1) fun y39 =>
      let x40 := (ports_13.length : Int)
      bif !(decide (x40 = 0)) then
      let x41 := y39.1.1.tmod x40
      bif inR x41 ports_13.length then
      Option.bind (lookup_Rule N l_7 (p_10.1, p_10.2.1, p_10.2.2.1, x37, (ports_13.getD x41.toNat (0 : Int)), ()) outbound_2) fun y43 =>
      bif y43.1.2.1 then
        bif (decide (y43.1.1 < r_12)) then
          bif inR y43.1.1 l_7.length then
          bif (!(decide (((l_7.getD y43.1.1.toNat ((0 : Int), ([] : List UInt8), ([] : List D45), ())).1) = (1 : Int)))) then
            some (.rt (.rt ((false, ()), (()))))
          else
            some (.go ((outbound_2, i_9, r_12, (w64 (n_18 + (1 : Int))), ()), (l_7, y39.2.1, p_10, ports_13, ())))
          else none
        else
          some (.go ((outbound_2, i_9, r_12, (w64 (n_18 + (1 : Int))), ()), (l_7, y39.2.1, p_10, ports_13, ())))
      else
        some (.go ((outbound_2, i_9, r_12, (w64 (n_18 + (1 : Int))), ()), (l_7, y39.2.1, p_10, ports_13, ())))
      else none
      else none
    else
      bif (decide (p_10.2.2.1 = (17 : Int))) then
        Option.bind (make_Codes_Next N (256 : Int) y34.2.1) fun y51 =>
        let x52 := (ports_13.length : Int)
        bif !(decide (x52 = 0)) then
        let x53 := y51.1.1.tmod x52
        bif inR x53 ports_13.length then
        Option.bind (lookup_Rule N l_7 (p_10.1, p_10.2.1, p_10.2.2.1, x37, (ports_13.getD x53.toNat (0 : Int)), ()) outbound_2) fun y55 =>
        bif y55.1.2.1 then
          bif (decide (y55.1.1 < r_12)) then
            bif inR y55.1.1 l_7.length then
            bif (!(decide (((l_7.getD y55.1.1.toNat ((0 : Int), ([] : List UInt8), ([] : List D45), ())).1) = (1 : Int)))) then
              some (.rt (.rt ((false, ()), (()))))
            else
              some (.go ((outbound_2, i_9, r_12, (w64 (n_18 + (1 : Int))), ()), (l_7, y51.2.1, p_10, ports_13, ())))
            else none
          else
            some (.go ((outbound_2, i_9, r_12, (w64 (n_18 + (1 : Int))), ()), (l_7, y51.2.1, p_10, ports_13, ())))
        else
          some (.go ((outbound_2, i_9, r_12, (w64 (n_18 + (1 : Int))), ()), (l_7, y51.2.1, p_10, ports_13, ())))
        else none
        else none
      else
        Option.bind (lookup_Rule N l_7 (p_10.1, p_10.2.1, p_10.2.2.1, x37, p_10.2.2.2.2.1, ()) outbound_2) fun y62 =>
        bif y62.1.2.1 then
          bif (decide (y62.1.1 < r_12)) then
            bif inR y62.1.1 l_7.length then
            bif (!(decide (((l_7.getD y62.1.1.toNat ((0 : Int), ([] : List UInt8), ([] : List D45), ())).1) = (1 : Int)))) then
              some (.rt (.rt ((false, ()), (()))))
            else
              some (.go ((outbound_2, i_9, r_12, (w64 (n_18 + (1 : Int))), ()), (l_7, y34.2.1, p_10, ports_13, ())))
            else none
          else
            some (.go ((outbound_2, i_9, r_12, (w64 (n_18 + (1 : Int))), ()), (l_7, y34.2.1, p_10, ports_13, ())))
        else
          some (.go ((outbound_2, i_9, r_12, (w64 (n_18 + (1 : Int))), ()), (l_7, y34.2.1, p_10, ports_13, ())))
    else none
    else none
  else
    some (.br ((outbound_2, i_9, ()), (l_7, c_8, ())))
noncomputable def law22_LookupHides_s19 (N : Nat) (outbound_2 : Bool) (i_9 : Int) (r_12 : Int) (n_18 : Int) (l_7 : (List D59)) (c_8 : ((List UInt8) × (Int × Unit))) (p_10 : D29) (ports_13 : (List Int)) : Option (Lo ((Bool × Int × Int × Int × Unit) × ((List D59) × ((List UInt8) × (Int × Unit)) × D29 × (List Int) × Unit)) ((Bool × Int × Unit) × ((List D59) × ((List UInt8) × (Int × Unit)) × Unit)) (Lo ((Bool × Int × Unit) × ((List D59) × ((List UInt8) × (Int × Unit)) × Unit)) ((Unit) × (Unit)) law22_LookupHides_R)) :=
  bif (decide (n_18 < (24 : Int))) then
    law22_LookupHides_20 N outbound_2 i_9 r_12 n_18 (decide ((0 : Int) < (ports_13.length : Int))) l_7 c_8 p_10 ports_13
  else
    law22_LookupHides_20 N outbound_2 i_9 r_12 n_18 false l_7 c_8 p_10 ports_13
noncomputable def law22_LookupHides_18 (N : Nat) (outbound_2 : Bool) (i_9 : Int) (r_12 : Int) (n_18 : Int) (l_7 : (List D59)) (c_8 : ((List UInt8) × (Int × Unit))) (p_10 : D29) (ports_13 : (List Int)) : Option (Lo ((Bool × Int × Unit) × ((List D59) × ((List UInt8) × (Int × Unit)) × Unit)) ((Unit) × (Unit)) law22_LookupHides_R) :=
  loopK N (fun y => law22_LookupHides_s19 N y.1.1 y.1.2.1 y.1.2.2.1 y.1.2.2.2.1 y.2.1 y.2.2.1 y.2.2.2.1 y.2.2.2.2.1) (fun (e : ((Bool × Int × Unit) × ((List D59) × ((List UInt8) × (Int × Unit)) × Unit))) => law22_LookupHides_8 N e.1.1 e.1.2.1 e.2.1 e.2.2.1) ((outbound_2, i_9, r_12, n_18, ()), (l_7, c_8, p_10, ports_13, ()))
noncomputable def law22_LookupHides_17 (N : Nat) (outbound_2 : Bool) (i_9 : Int) (r_12 : Int) (l_7 : (List D59)) (c_8 : ((List UInt8) × (Int × Unit))) (p_10 : D29) (ports_13 : (List Int)) : Option (Lo ((Bool × Int × Unit) × ((List D59) × ((List UInt8) × (Int × Unit)) × Unit)) ((Unit) × (Unit)) law22_LookupHides_R) :=
  law22_LookupHides_18 N outbound_2 i_9 r_12 (0 : Int) l_7 c_8 p_10 ports_13
noncomputable def law22_LookupHides_9 (N : Nat) (outbound_2 : Bool) (i_9 : Int) (r_12 : Int) (t_61 : Int) (t_62 : Int) (l_7 : (List D59)) (c_8 : ((List UInt8) × (Int × Unit))) (p_10 : D29) (ports_13 : (List Int)) : Option (Lo ((Bool × Int × Unit) × ((List D59) × ((List UInt8) × (Int × Unit)) × Unit)) ((Unit) × (Unit)) law22_LookupHides_R) :=
  loopK N (fun y => law22_LookupHides_s10 N y.1.1 y.1.2.1 y.1.2.2.1 y.1.2.2.2.1 y.1.2.2.2.2.1 y.2.1 y.2.2.1 y.2.2.2.1 y.2.2.2.2.1) (fun (e : ((Bool × Int × Int × Unit) × ((List D59) × ((List UInt8) × (Int × Unit)) × D29 × (List Int) × Unit))) => law22_LookupHides_17 N e.1.1 e.1.2.1 e.1.2.2.1 e.2.1 e.2.2.1 e.2.2.2.1 e.2.2.2.2.1) ((outbound_2, i_9, r_12, t_61, t_62, ()), (l_7, c_8, p_10, ports_13, ()))
noncomputable def law22_LookupHides_7 (N : Nat) (outbound_2 : Bool) (i_9 : Int) (l_7 : (List D59)) (c_8 : ((List UInt8) × (Int × Unit))) (p_10 : D29) : Option (Lo ((Bool × Int × Unit) × ((List D59) × ((List UInt8) × (Int × Unit)) × Unit)) ((Unit) × (Unit)) law22_LookupHides_R) :=
  Option.bind (lookup_Action N l_7 p_10 outbound_2) fun y11 =>
  bif (!(decide (y11.1.1 = (1 : Int)))) then
    law22_LookupHides_8 N outbound_2 i_9 l_7 c_8
  else
    law22_LookupHides_9 N outbound_2 i_9 y11.1.2.1 (l_7.length : Int) (0 : Int) l_7 c_8 p_10 ([] : List Int)
noncomputable def law22_LookupHides_6 (N : Nat) (outbound_2 : Bool) (i_9 : Int) (t_49 : Bool) (l_7 : (List D59)) (c_8 : ((List UInt8) × (Int × Unit))) (p_10 : D29) : Option (Lo ((Bool × Int × Unit) × ((List D59) × ((List UInt8) × (Int × Unit)) × Unit)) ((Unit) × (Unit)) law22_LookupHides_R) :=
  bif t_49 then
    law22_LookupHides_7 N outbound_2 i_9 l_7 c_8 (p_10.1, p_10.2.1, p_10.2.2.1, p_10.2.2.2.1, (-1 : Int), ())
  else
    law22_LookupHides_7 N outbound_2 i_9 l_7 c_8 p_10
noncomputable def law22_LookupHides_5 (N : Nat) (outbound_2 : Bool) (i_9 : Int) (l_7 : (List D59)) (c_8 : ((List UInt8) × (Int × Unit))) : Option (Lo ((Bool × Int × Unit) × ((List D59) × ((List UInt8) × (Int × Unit)) × Unit)) ((Unit) × (Unit)) law22_LookupHides_R) :=
  Option.bind (make_Codes_Packet N c_8) fun y7 =>
  Option.bind (make_Codes_Next N (4 : Int) y7.2.1) fun y8 =>
  bif inR y8.1.1 (([(6 : Int), (17 : Int), (1 : Int), (58 : Int)] : List Int).length) then
  let x9 := (([(6 : Int), (17 : Int), (1 : Int), (58 : Int)] : List Int).getD y8.1.1.toNat (0 : Int))
  bif (decide (x9 = (6 : Int))) then
    law22_LookupHides_6 N outbound_2 i_9 true l_7 y8.2.1 (y7.1.1.1, y7.1.1.2.1, x9, (-1 : Int), y7.1.1.2.2.2.2.1, ())
  else
    law22_LookupHides_6 N outbound_2 i_9 (decide (x9 = (17 : Int))) l_7 y8.2.1 (y7.1.1.1, y7.1.1.2.1, x9, (-1 : Int), y7.1.1.2.2.2.2.1, ())
  else none
noncomputable def law22_LookupHides_3 (N : Nat) (outbound_2 : Bool) (i_9 : Int) (l_7 : (List D59)) (c_8 : ((List UInt8) × (Int × Unit))) : Option (Lo ((Bool × Int × Unit) × ((List D59) × ((List UInt8) × (Int × Unit)) × Unit)) ((Unit) × (Unit)) law22_LookupHides_R) :=
  law22_LookupHides_5 N outbound_2 i_9 l_7 c_8
noncomputable def law22_LookupHides_s2 (N : Nat) (outbound_2 : Bool) (i_9 : Int) (l_7 : (List D59)) (c_8 : ((List UInt8) × (Int × Unit))) : Option (Lo ((Bool × Int × Unit) × ((List D59) × ((List UInt8) × (Int × Unit)) × Unit)) ((Unit) × (Unit)) law22_LookupHides_R) :=
  bif (decide (i_9 < (6 : Int))) then
    law22_LookupHides_3 N outbound_2 i_9 l_7 c_8
  else
    some (.br ((()), (())))
noncomputable def law22_LookupHides_21 (N : Nat) : Option law22_LookupHides_R :=
  some ((true, ()), (()))
noncomputable def law22_LookupHides_1 (N : Nat) (outbound_2 : Bool) (i_9 : Int) (l_7 : (List D59)) (c_8 : ((List UInt8) × (Int × Unit))) : Option law22_LookupHides_R :=
  loopK N (fun y => law22_LookupHides_s2 N y.1.1 y.1.2.1 y.2.1 y.2.2.1) (fun (e : ((Unit) × (Unit))) => law22_LookupHides_21 N) ((outbound_2, i_9, ()), (l_7, c_8, ()))
noncomputable def law22_LookupHides (N : Nat) (codes_0 : (List UInt8)) (packets_1 : (List UInt8)) (outbound_2 : Bool) : Option law22_LookupHides_R :=
  Option.bind (law22_awake N) fun y1 =>
  bif (!y1.1.1) then
    some ((false, ()), (()))
  else
    Option.bind (make_New N codes_0 (240 : Int)) fun y3 =>
    Option.bind (make_Codes_Rules N (4 : Int) y3.2.1) fun y4 =>
    Option.bind (make_New N packets_1 (160 : Int)) fun y5 =>
    law22_LookupHides_1 N outbound_2 (0 : Int) y4.2.2.1 y5.2.1
noncomputable def law22_LookupHides_C (N : Nat) : Ctx := ⟨151, G_tys, [(33, law22_awake_ctr N), (28, make_New_ctr N), (34, make_Codes_Rules_ctr N), (35, make_Codes_Packet_ctr N), (36, make_Codes_Next_ctr N), (37, lookup_Action_ctr N), (38, lookup_Rule_ctr N)], G_globs⟩
noncomputable def law22_LookupHides_S0 : Spec := ⟨[.val .bool, .row 0, .ref 1 (.pair (.sl .u8) (.pair .i64 .unit)), .val .i64], [(.row 60 T59, .pos 1), (.box 113 (.pair (.sl .u8) (.pair .i64 .unit)), .pos 2)]⟩
noncomputable def law22_LookupHides_S1 : Spec := ⟨[.val .bool, .row 0, .ref 1 (.pair (.sl .u8) (.pair .i64 .unit)), .val .i64, .ref 2 T29, .val .i64, .row 3, .row 0, .val .i64, .val .i64, .val (.sl T45), .val .i64, .val .i64], [(.row 60 T59, .pos 1), (.box 113 (.pair (.sl .u8) (.pair .i64 .unit)), .pos 2), (.box 30 T29, .pos 4), (.row 3 .i64, .pos 6)]⟩
noncomputable def law22_LookupHides_S2 : Spec := ⟨[.val .bool, .row 0, .ref 1 (.pair (.sl .u8) (.pair .i64 .unit)), .val .i64, .ref 2 T29, .val .i64, .row 3, .row 0, .val .i64, .val .i64], [(.row 60 T59, .pos 1), (.box 113 (.pair (.sl .u8) (.pair .i64 .unit)), .pos 2), (.box 30 T29, .pos 4), (.row 3 .i64, .pos 6)]⟩
noncomputable def law22_LookupHides_S3 : Spec := ⟨[.val .bool, .row 0, .ref 1 (.pair (.sl .u8) (.pair .i64 .unit)), .val .i64, .ref 2 T29, .val .i64, .row 3, .val .i64, .val .bool], [(.row 60 T59, .pos 1), (.box 113 (.pair (.sl .u8) (.pair .i64 .unit)), .pos 2), (.box 30 T29, .pos 4), (.row 3 .i64, .pos 6)]⟩
noncomputable def law22_LookupHides_S4 : Spec := ⟨[.val .bool, .row 0, .ref 1 (.pair (.sl .u8) (.pair .i64 .unit)), .val .i64, .ref 2 T29, .val .i64, .row 3, .val .i64], [(.row 60 T59, .pos 1), (.box 113 (.pair (.sl .u8) (.pair .i64 .unit)), .pos 2), (.box 30 T29, .pos 4), (.row 3 .i64, .pos 6)]⟩
noncomputable def law22_LookupHides_S5 : Spec := ⟨[.val .bool, .row 0, .ref 1 (.pair (.sl .u8) (.pair .i64 .unit)), .val .i64, .ref 2 T29, .val .i64, .row 3], [(.row 60 T59, .pos 1), (.box 113 (.pair (.sl .u8) (.pair .i64 .unit)), .pos 2), (.box 30 T29, .pos 4), (.row 3 .i64, .pos 6)]⟩
noncomputable def law22_LookupHides_S6 : Spec := ⟨[.val .bool, .row 0, .ref 1 (.pair (.sl .u8) (.pair .i64 .unit)), .val .i64, .ref 2 T29], [(.row 60 T59, .pos 1), (.box 113 (.pair (.sl .u8) (.pair .i64 .unit)), .pos 2), (.box 30 T29, .pos 4)]⟩
noncomputable def law22_LookupHides_S7 : Spec := ⟨[.val .bool, .row 0, .ref 1 (.pair (.sl .u8) (.pair .i64 .unit)), .val .i64, .ref 2 T29, .val .bool], [(.row 60 T59, .pos 1), (.box 113 (.pair (.sl .u8) (.pair .i64 .unit)), .pos 2), (.box 30 T29, .pos 4)]⟩
noncomputable def law22_LookupHides_S8 : Spec := ⟨[], []⟩
noncomputable def law22_LookupHides_S9 : Spec := ⟨[.val (.sl .u8), .val (.sl .u8), .val .bool], []⟩
noncomputable def law22_LookupHides_S10 : Spec := ⟨[.val .bool], []⟩
noncomputable def law22_LookupHides_K (_N : Nat) : XE → GS → Option law22_LookupHides_R := retK 0 [6] [false] law22_LookupHides_S10
noncomputable def law22_LookupHides_L : List Code := (bodyOf (some Try.f5))
noncomputable def law22_LookupHides_L2 : List Code := (loopOf (law22_LookupHides_L[6]?))
noncomputable def law22_LookupHides_L4b : List Code := (blockOf (law22_LookupHides_L2[2]?))
noncomputable def law22_LookupHides_L10 : List Code := (loopOf (law22_LookupHides_L4b[10]?))
noncomputable def law22_LookupHides_L12b : List Code := (blockOf (law22_LookupHides_L10[2]?))
noncomputable def law22_LookupHides_L15 : List Code := (loopOf (law22_LookupHides_L12b[2]?))
noncomputable def law22_LookupHides_L19 : List Code := (loopOf (law22_LookupHides_L4b[12]?))
noncomputable def law22_LookupHides_K2 (N : Nat) : XE → GS → Option (Lo ((Bool × Int × Unit) × ((List D59) × ((List UInt8) × (Int × Unit)) × Unit)) ((Unit) × (Unit)) law22_LookupHides_R) := roundK (some 0) (fit 0 [2, 7, 8, 9] law22_LookupHides_S0) (fit 0 [] law22_LookupHides_S8) (law22_LookupHides_K N)
noncomputable def law22_LookupHides_K4 (N : Nat) : XE → GS → Option (Lo ((Bool × Int × Unit) × ((List D59) × ((List UInt8) × (Int × Unit)) × Unit)) ((Unit) × (Unit)) law22_LookupHides_R) := blockK 1 (goK 0 [2, 7, 8, 9] law22_LookupHides_S0 (fun y => law22_LookupHides_8 N y.1.1 y.1.2.1 y.2.1 y.2.2.1)) (law22_LookupHides_K2 N)
noncomputable def law22_LookupHides_K10 (N : Nat) : XE → GS → Option (Lo ((Bool × Int × Int × Int × Int × Unit) × ((List D59) × ((List UInt8) × (Int × Unit)) × D29 × (List Int) × Unit)) ((Bool × Int × Int × Unit) × ((List D59) × ((List UInt8) × (Int × Unit)) × D29 × (List Int) × Unit)) (Lo ((Bool × Int × Unit) × ((List D59) × ((List UInt8) × (Int × Unit)) × Unit)) ((Unit) × (Unit)) law22_LookupHides_R)) := roundK (some 2) (fit 0 [2, 7, 8, 9, 10, 12, 13, 60, 61, 62] law22_LookupHides_S2) (fit 0 [2, 7, 8, 9, 10, 12, 13] law22_LookupHides_S5) (law22_LookupHides_K4 N)
noncomputable def law22_LookupHides_K19 (N : Nat) : XE → GS → Option (Lo ((Bool × Int × Int × Int × Unit) × ((List D59) × ((List UInt8) × (Int × Unit)) × D29 × (List Int) × Unit)) ((Bool × Int × Unit) × ((List D59) × ((List UInt8) × (Int × Unit)) × Unit)) (Lo ((Bool × Int × Unit) × ((List D59) × ((List UInt8) × (Int × Unit)) × Unit)) ((Unit) × (Unit)) law22_LookupHides_R)) := roundK (some 6) (fit 0 [2, 7, 8, 9, 10, 12, 13, 18] law22_LookupHides_S4) (fit 0 [2, 7, 8, 9] law22_LookupHides_S0) (law22_LookupHides_K4 N)
noncomputable def law22_LookupHides_K12 (N : Nat) : XE → GS → Option (Lo ((Bool × Int × Int × Int × Int × Unit) × ((List D59) × ((List UInt8) × (Int × Unit)) × D29 × (List Int) × Unit)) ((Bool × Int × Int × Unit) × ((List D59) × ((List UInt8) × (Int × Unit)) × D29 × (List Int) × Unit)) (Lo ((Bool × Int × Unit) × ((List D59) × ((List UInt8) × (Int × Unit)) × Unit)) ((Unit) × (Unit)) law22_LookupHides_R)) := blockK 3 (goK 0 [2, 7, 8, 9, 10, 12, 13, 60, 61, 62] law22_LookupHides_S2 (fun y => law22_LookupHides_16 N y.1.1 y.1.2.1 y.1.2.2.1 y.1.2.2.2.1 y.1.2.2.2.2.1 y.2.1 y.2.2.1 y.2.2.2.1 y.2.2.2.2.1)) (law22_LookupHides_K10 N)
noncomputable def law22_LookupHides_K15 (N : Nat) : XE → GS → Option (Lo ((Bool × Int × Int × Int × Int × (List D45) × Int × Int × Unit) × ((List D59) × ((List UInt8) × (Int × Unit)) × D29 × (List Int) × Unit)) ((Bool × Int × Int × Int × Int × Unit) × ((List D59) × ((List UInt8) × (Int × Unit)) × D29 × (List Int) × Unit)) (Lo ((Bool × Int × Int × Int × Int × Unit) × ((List D59) × ((List UInt8) × (Int × Unit)) × D29 × (List Int) × Unit)) ((Bool × Int × Int × Unit) × ((List D59) × ((List UInt8) × (Int × Unit)) × D29 × (List Int) × Unit)) (Lo ((Bool × Int × Unit) × ((List D59) × ((List UInt8) × (Int × Unit)) × Unit)) ((Unit) × (Unit)) law22_LookupHides_R))) := roundK (some 4) (fit 0 [2, 7, 8, 9, 10, 12, 13, 60, 61, 62, 67, 68, 69] law22_LookupHides_S1) (fit 0 [2, 7, 8, 9, 10, 12, 13, 60, 61, 62] law22_LookupHides_S2) (law22_LookupHides_K12 N)
theorem law22_LookupHides_8_b {E : Env} (N : Nat) (hb : Base Try.prog (law22_LookupHides_C N) E 0) : Blk Try.prog (law22_LookupHides_C N) E [2, 7, 8, 9] law22_LookupHides_S0 (law22_LookupHides_L2.drop 3) (fun y => law22_LookupHides_8 N y.1.1 y.1.2.1 y.2.1 y.2.2.1) (law22_LookupHides_K2 N) :=
  Blk.chunkAt hb 1 (X := (law22_LookupHides_K2 N .normal)) (NxOk.end (by kernel_rfl)) rfl (fun x => by kernel_rfl)
theorem law22_LookupHides_s15_b {E : Env} (N : Nat) (hb : Base Try.prog (law22_LookupHides_C N) E 0) : Blk Try.prog (law22_LookupHides_C N) E [2, 7, 8, 9, 10, 12, 13, 60, 61, 62, 67, 68, 69] law22_LookupHides_S1 (law22_LookupHides_L15.drop 0) (fun y => law22_LookupHides_s15 N y.1.1 y.1.2.1 y.1.2.2.1 y.1.2.2.2.1 y.1.2.2.2.2.1 y.1.2.2.2.2.2.1 y.1.2.2.2.2.2.2.1 y.1.2.2.2.2.2.2.2.1 y.2.1 y.2.2.1 y.2.2.2.1 y.2.2.2.2.1) (law22_LookupHides_K15 N) :=
  Blk.chunkAt hb 4 (X := (law22_LookupHides_K15 N .normal)) (NxOk.end (by kernel_rfl)) rfl (fun x => by kernel_rfl)
theorem law22_LookupHides_16_b {E : Env} (N : Nat) (hb : Base Try.prog (law22_LookupHides_C N) E 0) : Blk Try.prog (law22_LookupHides_C N) E [2, 7, 8, 9, 10, 12, 13, 60, 61, 62] law22_LookupHides_S2 (law22_LookupHides_L10.drop 3) (fun y => law22_LookupHides_16 N y.1.1 y.1.2.1 y.1.2.2.1 y.1.2.2.2.1 y.1.2.2.2.2.1 y.2.1 y.2.2.1 y.2.2.2.1 y.2.2.2.2.1) (law22_LookupHides_K10 N) :=
  Blk.chunkAt hb 1 (X := (law22_LookupHides_K10 N .normal)) (NxOk.end (by kernel_rfl)) rfl (fun x => by kernel_rfl)
theorem law22_LookupHides_14_b {E : Env} (N : Nat) (hb : Base Try.prog (law22_LookupHides_C N) E 0) : Blk Try.prog (law22_LookupHides_C N) E [2, 7, 8, 9, 10, 12, 13, 60, 61, 62, 67, 68, 69] law22_LookupHides_S1 (law22_LookupHides_L12b.drop 2) (fun y => law22_LookupHides_14 N y.1.1 y.1.2.1 y.1.2.2.1 y.1.2.2.2.1 y.1.2.2.2.2.1 y.1.2.2.2.2.2.1 y.1.2.2.2.2.2.2.1 y.1.2.2.2.2.2.2.2.1 y.2.1 y.2.2.1 y.2.2.2.1 y.2.2.2.2.1) (law22_LookupHides_K12 N) :=
  Blk.loopAt (Nf := N) (hns := [2, 7, 8, 9, 10, 12, 13, 60, 61, 62, 67, 68, 69]) (ans := [2, 7, 8, 9, 10, 12, 13, 60, 61, 62]) (hc := law22_LookupHides_S1) (ac := law22_LookupHides_S2) (bid := 4) (step := (fun y => law22_LookupHides_s15 N y.1.1 y.1.2.1 y.1.2.2.1 y.1.2.2.2.1 y.1.2.2.2.2.1 y.1.2.2.2.2.2.1 y.1.2.2.2.2.2.2.1 y.1.2.2.2.2.2.2.2.1 y.2.1 y.2.2.1 y.2.2.2.1 y.2.2.2.2.1)) (J := (fun e => (law22_LookupHides_K12 N .normal) (law22_LookupHides_S2.st [2, 7, 8, 9, 10, 12, 13, 60, 61, 62] e))) hb (by kernel_rfl) (Blk.into (X := (law22_LookupHides_K12 N .normal)) (NxOk.end (by kernel_rfl)) (fun x => by kernel_rfl)) (law22_LookupHides_s15_b N hb) (fun x => by kernel_rfl)
theorem law22_LookupHides_13_b {E : Env} (N : Nat) (hb : Base Try.prog (law22_LookupHides_C N) E 0) : Blk Try.prog (law22_LookupHides_C N) E [2, 7, 8, 9, 10, 12, 13, 60, 61, 62] law22_LookupHides_S2 (law22_LookupHides_L12b.drop 0) (fun y => law22_LookupHides_13 N y.1.1 y.1.2.1 y.1.2.2.1 y.1.2.2.2.1 y.1.2.2.2.2.1 y.2.1 y.2.2.1 y.2.2.2.1 y.2.2.2.2.1) (law22_LookupHides_K12 N) :=
  Blk.chunkAt hb 2 (X := (goK 0 [2, 7, 8, 9, 10, 12, 13, 60, 61, 62, 67, 68, 69] law22_LookupHides_S1 (fun y => law22_LookupHides_14 N y.1.1 y.1.2.1 y.1.2.2.1 y.1.2.2.2.1 y.1.2.2.2.2.1 y.1.2.2.2.2.2.1 y.1.2.2.2.2.2.2.1 y.1.2.2.2.2.2.2.2.1 y.2.1 y.2.2.1 y.2.2.2.1 y.2.2.2.2.1))) (NxOk.go hb (law22_LookupHides_14_b N hb)) rfl (fun x => by kernel_rfl)
theorem law22_LookupHides_11_b {E : Env} (N : Nat) (hb : Base Try.prog (law22_LookupHides_C N) E 0) : Blk Try.prog (law22_LookupHides_C N) E [2, 7, 8, 9, 10, 12, 13, 60, 61, 62] law22_LookupHides_S2 (law22_LookupHides_L10.drop 2) (fun y => law22_LookupHides_11 N y.1.1 y.1.2.1 y.1.2.2.1 y.1.2.2.2.1 y.1.2.2.2.2.1 y.2.1 y.2.2.1 y.2.2.2.1 y.2.2.2.2.1) (law22_LookupHides_K10 N) :=
  Blk.blockAt (bid := 3) (X := (goK 0 [2, 7, 8, 9, 10, 12, 13, 60, 61, 62] law22_LookupHides_S2 (fun y => law22_LookupHides_16 N y.1.1 y.1.2.1 y.1.2.2.1 y.1.2.2.2.1 y.1.2.2.2.2.1 y.2.1 y.2.2.1 y.2.2.2.1 y.2.2.2.2.1))) (Y := (goK 0 [2, 7, 8, 9, 10, 12, 13, 60, 61, 62] law22_LookupHides_S2 (fun y => law22_LookupHides_13 N y.1.1 y.1.2.1 y.1.2.2.1 y.1.2.2.2.1 y.1.2.2.2.2.1 y.2.1 y.2.2.1 y.2.2.2.1 y.2.2.2.2.1))) (by kernel_rfl) (NxOk.go hb (law22_LookupHides_16_b N hb)) (NxOk.go hb (law22_LookupHides_13_b N hb)) (fun x => by kernel_rfl)
theorem law22_LookupHides_s10_b {E : Env} (N : Nat) (hb : Base Try.prog (law22_LookupHides_C N) E 0) : Blk Try.prog (law22_LookupHides_C N) E [2, 7, 8, 9, 10, 12, 13, 60, 61, 62] law22_LookupHides_S2 (law22_LookupHides_L10.drop 0) (fun y => law22_LookupHides_s10 N y.1.1 y.1.2.1 y.1.2.2.1 y.1.2.2.2.1 y.1.2.2.2.2.1 y.2.1 y.2.2.1 y.2.2.2.1 y.2.2.2.2.1) (law22_LookupHides_K10 N) :=
  Blk.chunkAt hb 2 (X := (goK 0 [2, 7, 8, 9, 10, 12, 13, 60, 61, 62] law22_LookupHides_S2 (fun y => law22_LookupHides_11 N y.1.1 y.1.2.1 y.1.2.2.1 y.1.2.2.2.1 y.1.2.2.2.2.1 y.2.1 y.2.2.1 y.2.2.2.1 y.2.2.2.2.1))) (NxOk.go hb (law22_LookupHides_11_b N hb)) rfl (fun x => by kernel_rfl)
theorem law22_LookupHides_20_b {E : Env} (N : Nat) (hb : Base Try.prog (law22_LookupHides_C N) E 0) : Blk Try.prog (law22_LookupHides_C N) E [2, 7, 8, 9, 10, 12, 13, 18, 100] law22_LookupHides_S3 (law22_LookupHides_L19.drop 1) (fun y => law22_LookupHides_20 N y.1.1 y.1.2.1 y.1.2.2.1 y.1.2.2.2.1 y.1.2.2.2.2.1 y.2.1 y.2.2.1 y.2.2.2.1 y.2.2.2.2.1) (law22_LookupHides_K19 N) :=
  Blk.chunkAt hb 3 (X := (law22_LookupHides_K19 N .normal)) (NxOk.end (by kernel_rfl)) rfl (fun x => by kernel_rfl)
theorem law22_LookupHides_s19_b {E : Env} (N : Nat) (hb : Base Try.prog (law22_LookupHides_C N) E 0) : Blk Try.prog (law22_LookupHides_C N) E [2, 7, 8, 9, 10, 12, 13, 18] law22_LookupHides_S4 (law22_LookupHides_L19.drop 0) (fun y => law22_LookupHides_s19 N y.1.1 y.1.2.1 y.1.2.2.1 y.1.2.2.2.1 y.2.1 y.2.2.1 y.2.2.2.1 y.2.2.2.2.1) (law22_LookupHides_K19 N) :=
  Blk.chunkAt hb 1 (X := (goK 0 [2, 7, 8, 9, 10, 12, 13, 18, 100] law22_LookupHides_S3 (fun y => law22_LookupHides_20 N y.1.1 y.1.2.1 y.1.2.2.1 y.1.2.2.2.1 y.1.2.2.2.2.1 y.2.1 y.2.2.1 y.2.2.2.1 y.2.2.2.2.1))) (NxOk.go hb (law22_LookupHides_20_b N hb)) rfl (fun x => by kernel_rfl)
theorem law22_LookupHides_18_b {E : Env} (N : Nat) (hb : Base Try.prog (law22_LookupHides_C N) E 0) : Blk Try.prog (law22_LookupHides_C N) E [2, 7, 8, 9, 10, 12, 13, 18] law22_LookupHides_S4 (law22_LookupHides_L4b.drop 12) (fun y => law22_LookupHides_18 N y.1.1 y.1.2.1 y.1.2.2.1 y.1.2.2.2.1 y.2.1 y.2.2.1 y.2.2.2.1 y.2.2.2.2.1) (law22_LookupHides_K4 N) :=
  Blk.loopAt (Nf := N) (hns := [2, 7, 8, 9, 10, 12, 13, 18]) (ans := [2, 7, 8, 9]) (hc := law22_LookupHides_S4) (ac := law22_LookupHides_S0) (bid := 6) (step := (fun y => law22_LookupHides_s19 N y.1.1 y.1.2.1 y.1.2.2.1 y.1.2.2.2.1 y.2.1 y.2.2.1 y.2.2.2.1 y.2.2.2.2.1)) (J := (fun e => (law22_LookupHides_K4 N .normal) (law22_LookupHides_S0.st [2, 7, 8, 9] e))) hb (by kernel_rfl) (Blk.into (X := (law22_LookupHides_K4 N .normal)) (NxOk.end (by kernel_rfl)) (fun x => by kernel_rfl)) (law22_LookupHides_s19_b N hb) (fun x => by kernel_rfl)
theorem law22_LookupHides_17_b {E : Env} (N : Nat) (hb : Base Try.prog (law22_LookupHides_C N) E 0) : Blk Try.prog (law22_LookupHides_C N) E [2, 7, 8, 9, 10, 12, 13] law22_LookupHides_S5 (law22_LookupHides_L4b.drop 11) (fun y => law22_LookupHides_17 N y.1.1 y.1.2.1 y.1.2.2.1 y.2.1 y.2.2.1 y.2.2.2.1 y.2.2.2.2.1) (law22_LookupHides_K4 N) :=
  Blk.chunkAt hb 1 (X := (goK 0 [2, 7, 8, 9, 10, 12, 13, 18] law22_LookupHides_S4 (fun y => law22_LookupHides_18 N y.1.1 y.1.2.1 y.1.2.2.1 y.1.2.2.2.1 y.2.1 y.2.2.1 y.2.2.2.1 y.2.2.2.2.1))) (NxOk.go hb (law22_LookupHides_18_b N hb)) rfl (fun x => by kernel_rfl)
theorem law22_LookupHides_9_b {E : Env} (N : Nat) (hb : Base Try.prog (law22_LookupHides_C N) E 0) : Blk Try.prog (law22_LookupHides_C N) E [2, 7, 8, 9, 10, 12, 13, 60, 61, 62] law22_LookupHides_S2 (law22_LookupHides_L4b.drop 10) (fun y => law22_LookupHides_9 N y.1.1 y.1.2.1 y.1.2.2.1 y.1.2.2.2.1 y.1.2.2.2.2.1 y.2.1 y.2.2.1 y.2.2.2.1 y.2.2.2.2.1) (law22_LookupHides_K4 N) :=
  Blk.loopAt (Nf := N) (hns := [2, 7, 8, 9, 10, 12, 13, 60, 61, 62]) (ans := [2, 7, 8, 9, 10, 12, 13]) (hc := law22_LookupHides_S2) (ac := law22_LookupHides_S5) (bid := 2) (step := (fun y => law22_LookupHides_s10 N y.1.1 y.1.2.1 y.1.2.2.1 y.1.2.2.2.1 y.1.2.2.2.2.1 y.2.1 y.2.2.1 y.2.2.2.1 y.2.2.2.2.1)) (J := (fun e => (goK 0 [2, 7, 8, 9, 10, 12, 13] law22_LookupHides_S5 (fun y => law22_LookupHides_17 N y.1.1 y.1.2.1 y.1.2.2.1 y.2.1 y.2.2.1 y.2.2.2.1 y.2.2.2.2.1)) (law22_LookupHides_S5.st [2, 7, 8, 9, 10, 12, 13] e))) hb (by kernel_rfl) (Blk.into (X := (goK 0 [2, 7, 8, 9, 10, 12, 13] law22_LookupHides_S5 (fun y => law22_LookupHides_17 N y.1.1 y.1.2.1 y.1.2.2.1 y.2.1 y.2.2.1 y.2.2.2.1 y.2.2.2.2.1))) (NxOk.go hb (law22_LookupHides_17_b N hb)) (fun x => by kernel_rfl)) (law22_LookupHides_s10_b N hb) (fun x => by kernel_rfl)
theorem law22_LookupHides_7_b {E : Env} (N : Nat) (hb : Base Try.prog (law22_LookupHides_C N) E 0) : Blk Try.prog (law22_LookupHides_C N) E [2, 7, 8, 9, 10] law22_LookupHides_S6 (law22_LookupHides_L4b.drop 5) (fun y => law22_LookupHides_7 N y.1.1 y.1.2.1 y.2.1 y.2.2.1 y.2.2.2.1) (law22_LookupHides_K4 N) :=
  Blk.chunkAt hb 5 (X := (goK 0 [2, 7, 8, 9, 10, 12, 13, 60, 61, 62] law22_LookupHides_S2 (fun y => law22_LookupHides_9 N y.1.1 y.1.2.1 y.1.2.2.1 y.1.2.2.2.1 y.1.2.2.2.2.1 y.2.1 y.2.2.1 y.2.2.2.1 y.2.2.2.2.1))) (NxOk.go hb (law22_LookupHides_9_b N hb)) rfl (fun x => by kernel_rfl)
theorem law22_LookupHides_6_b {E : Env} (N : Nat) (hb : Base Try.prog (law22_LookupHides_C N) E 0) : Blk Try.prog (law22_LookupHides_C N) E [2, 7, 8, 9, 10, 49] law22_LookupHides_S7 (law22_LookupHides_L4b.drop 4) (fun y => law22_LookupHides_6 N y.1.1 y.1.2.1 y.1.2.2.1 y.2.1 y.2.2.1 y.2.2.2.1) (law22_LookupHides_K4 N) :=
  Blk.chunkAt hb 1 (X := (goK 0 [2, 7, 8, 9, 10] law22_LookupHides_S6 (fun y => law22_LookupHides_7 N y.1.1 y.1.2.1 y.2.1 y.2.2.1 y.2.2.2.1))) (NxOk.go hb (law22_LookupHides_7_b N hb)) rfl (fun x => by kernel_rfl)
theorem law22_LookupHides_5_b {E : Env} (N : Nat) (hb : Base Try.prog (law22_LookupHides_C N) E 0) : Blk Try.prog (law22_LookupHides_C N) E [2, 7, 8, 9] law22_LookupHides_S0 (law22_LookupHides_L4b.drop 0) (fun y => law22_LookupHides_5 N y.1.1 y.1.2.1 y.2.1 y.2.2.1) (law22_LookupHides_K4 N) :=
  Blk.chunkAt hb 4 (X := (goK 0 [2, 7, 8, 9, 10, 49] law22_LookupHides_S7 (fun y => law22_LookupHides_6 N y.1.1 y.1.2.1 y.1.2.2.1 y.2.1 y.2.2.1 y.2.2.2.1))) (NxOk.go hb (law22_LookupHides_6_b N hb)) rfl (fun x => by kernel_rfl)
theorem law22_LookupHides_3_b {E : Env} (N : Nat) (hb : Base Try.prog (law22_LookupHides_C N) E 0) : Blk Try.prog (law22_LookupHides_C N) E [2, 7, 8, 9] law22_LookupHides_S0 (law22_LookupHides_L2.drop 2) (fun y => law22_LookupHides_3 N y.1.1 y.1.2.1 y.2.1 y.2.2.1) (law22_LookupHides_K2 N) :=
  Blk.blockAt (bid := 1) (X := (goK 0 [2, 7, 8, 9] law22_LookupHides_S0 (fun y => law22_LookupHides_8 N y.1.1 y.1.2.1 y.2.1 y.2.2.1))) (Y := (goK 0 [2, 7, 8, 9] law22_LookupHides_S0 (fun y => law22_LookupHides_5 N y.1.1 y.1.2.1 y.2.1 y.2.2.1))) (by kernel_rfl) (NxOk.go hb (law22_LookupHides_8_b N hb)) (NxOk.go hb (law22_LookupHides_5_b N hb)) (fun x => by kernel_rfl)
theorem law22_LookupHides_s2_b {E : Env} (N : Nat) (hb : Base Try.prog (law22_LookupHides_C N) E 0) : Blk Try.prog (law22_LookupHides_C N) E [2, 7, 8, 9] law22_LookupHides_S0 (law22_LookupHides_L2.drop 0) (fun y => law22_LookupHides_s2 N y.1.1 y.1.2.1 y.2.1 y.2.2.1) (law22_LookupHides_K2 N) :=
  Blk.chunkAt hb 2 (X := (goK 0 [2, 7, 8, 9] law22_LookupHides_S0 (fun y => law22_LookupHides_3 N y.1.1 y.1.2.1 y.2.1 y.2.2.1))) (NxOk.go hb (law22_LookupHides_3_b N hb)) rfl (fun x => by kernel_rfl)
theorem law22_LookupHides_21_b {E : Env} (N : Nat) (hb : Base Try.prog (law22_LookupHides_C N) E 0) : Blk Try.prog (law22_LookupHides_C N) E [] law22_LookupHides_S8 (law22_LookupHides_L.drop 7) (fun y => law22_LookupHides_21 N) (law22_LookupHides_K N) :=
  Blk.chunkAt hb 2 (X := (law22_LookupHides_K N .normal)) (NxOk.end (by kernel_rfl)) rfl (fun x => by kernel_rfl)
theorem law22_LookupHides_1_b {E : Env} (N : Nat) (hb : Base Try.prog (law22_LookupHides_C N) E 0) : Blk Try.prog (law22_LookupHides_C N) E [2, 7, 8, 9] law22_LookupHides_S0 (law22_LookupHides_L.drop 6) (fun y => law22_LookupHides_1 N y.1.1 y.1.2.1 y.2.1 y.2.2.1) (law22_LookupHides_K N) :=
  Blk.loopAt (Nf := N) (hns := [2, 7, 8, 9]) (ans := []) (hc := law22_LookupHides_S0) (ac := law22_LookupHides_S8) (bid := 0) (step := (fun y => law22_LookupHides_s2 N y.1.1 y.1.2.1 y.2.1 y.2.2.1)) (J := (fun e => (goK 0 [] law22_LookupHides_S8 (fun y => law22_LookupHides_21 N)) (law22_LookupHides_S8.st [] e))) hb (by kernel_rfl) (Blk.into (X := (goK 0 [] law22_LookupHides_S8 (fun y => law22_LookupHides_21 N))) (NxOk.go hb (law22_LookupHides_21_b N hb)) (fun x => by kernel_rfl)) (law22_LookupHides_s2_b N hb) (fun x => by kernel_rfl)
theorem law22_LookupHides_b {E : Env} (N : Nat) (hb : Base Try.prog (law22_LookupHides_C N) E 0) : Blk Try.prog (law22_LookupHides_C N) E (List.range law22_LookupHides_S9.ks.length) law22_LookupHides_S9 (law22_LookupHides_L.drop 0) (fun y => law22_LookupHides N y.1.1 y.1.2.1 y.1.2.2.1) (law22_LookupHides_K N) :=
  Blk.chunkAt hb 6 (X := (goK 0 [2, 7, 8, 9] law22_LookupHides_S0 (fun y => law22_LookupHides_1 N y.1.1 y.1.2.1 y.2.1 y.2.2.1))) (NxOk.go hb (law22_LookupHides_1_b N hb)) rfl (fun x => by kernel_rfl)
noncomputable def law22_LookupHides_ctr (N : Nat) : Ctr := ⟨law22_LookupHides_S9, law22_LookupHides_S10.un [false], 0, (fun y => law22_LookupHides N y.1.1 y.1.2.1 y.1.2.2.1)⟩
theorem law22_LookupHides_ctrs (N : Nat) : CtrsOk Try.prog (law22_LookupHides_C N) := ctrs_of (Γ := law22_LookupHides_C N) (by
  intro p hp
  simp only [law22_LookupHides_C, List.mem_cons, List.not_mem_nil, or_false] at hp
  rcases hp with rfl | rfl | rfl | rfl | rfl | rfl | rfl
  · exact law22_awake_ok N
  · exact make_New_ok N
  · exact make_Codes_Rules_ok N
  · exact make_Codes_Packet_ok N
  · exact make_Codes_Next_ok N
  · exact lookup_Action_ok N
  · exact lookup_Rule_ok N)
theorem law22_LookupHides_ok (N : Nat) : Ctr.ok Try.prog G_globs 5 (law22_LookupHides_ctr N) :=
  ctr_fn (Γ := law22_LookupHides_C N) (rfit := law22_LookupHides_S10) (bs := [false]) (res := [6]) (by kernel_rfl) (tys_ok G_tys_ok) (law22_LookupHides_ctrs N) Try.func5 (by kernel_rfl) (by kernel_rfl) Try.ntmps5 (by kernel_rfl) (by kernel_rfl) (by kernel_rfl) (by kernel_rfl) (fun E hb => law22_LookupHides_b N hb)
end Go.Proofs.Ytgbkkfpheahdfaa
namespace Go.Proofs.Ytgbkkfpheahdfaa
open Go
set_option maxRecDepth 100000
set_option linter.unusedVariables false
/-! ipsecgate/lookup.Entry -/
abbrev lookup_Entry_R : Type := ((Int × Bool × Unit) × (Unit))
noncomputable def lookup_Entry_s2 (N : Nat) (outbound_2 : Bool) (t_10 : (List D85)) (t_11 : Int) (t_12 : Int) (p_4 : D29) : Option (Lo ((Bool × (List D85) × Int × Int × Unit) × (D29 × Unit)) ((Unit) × (Unit)) lookup_Entry_R) :=
  bif (decide (t_12 < t_11)) then
    bif inR t_12 t_10.length then
    Option.bind (decorrelate_Has N (t_10.getD t_12.toNat ((((0 : Int), (0 : UInt64), (0 : UInt64), ()), ((0 : Int), (0 : UInt64), (0 : UInt64), ()), ((0 : Int), (0 : UInt64), (0 : UInt64), ()), ((0 : Int), (0 : UInt64), (0 : UInt64), ()), (0 : Int), (0 : Int), (List.replicate 2 (0 : Int)), (List.replicate 2 (0 : Int)), ()), (0 : Int), ())).1 p_4 outbound_2) fun y4 =>
    bif y4.1.1 then
      some (.rt ((t_12, true, ()), (())))
    else
      some (.go ((outbound_2, t_10, t_11, (w64 (t_12 + (1 : Int))), ()), (p_4, ())))
    else none
  else
    some (.br ((()), (())))
noncomputable def lookup_Entry_3 (N : Nat) : Option lookup_Entry_R :=
  some (((0 : Int), false, ()), (()))
noncomputable def lookup_Entry_1 (N : Nat) (outbound_2 : Bool) (t_10 : (List D85)) (t_11 : Int) (t_12 : Int) (p_4 : D29) : Option lookup_Entry_R :=
  loopK N (fun y => lookup_Entry_s2 N y.1.1 y.1.2.1 y.1.2.2.1 y.1.2.2.2.1 y.2.1) (fun (e : ((Unit) × (Unit))) => lookup_Entry_3 N) ((outbound_2, t_10, t_11, t_12, ()), (p_4, ()))
noncomputable def lookup_Entry (N : Nat) (l_0 : (List D85)) (p_1 : D29) (outbound_2 : Bool) : Option lookup_Entry_R :=
  lookup_Entry_1 N outbound_2 l_0 (l_0.length : Int) (0 : Int) p_1
noncomputable def lookup_Entry_C (N : Nat) : Ctx := ⟨24, G_tys, [(51, decorrelate_Has_ctr N)], G_globs⟩
noncomputable def lookup_Entry_S0 : Spec := ⟨[.val .bool, .ref 0 T29, .val (.sl T85), .val .i64, .val .i64], [(.box 30 T29, .pos 1)]⟩
noncomputable def lookup_Entry_S1 : Spec := ⟨[], []⟩
noncomputable def lookup_Entry_S2 : Spec := ⟨[.val (.sl T85), .val T29, .val .bool], []⟩
noncomputable def lookup_Entry_S3 : Spec := ⟨[.val .i64, .val .bool], []⟩
noncomputable def lookup_Entry_K (_N : Nat) : XE → GS → Option lookup_Entry_R := retK 0 [6, 7] [false, false] lookup_Entry_S3
noncomputable def lookup_Entry_L : List Code := (bodyOf (some Try.f42))
noncomputable def lookup_Entry_L2 : List Code := (loopOf (lookup_Entry_L[2]?))
noncomputable def lookup_Entry_K2 (N : Nat) : XE → GS → Option (Lo ((Bool × (List D85) × Int × Int × Unit) × (D29 × Unit)) ((Unit) × (Unit)) lookup_Entry_R) := roundK (some 0) (fit 0 [2, 4, 10, 11, 12] lookup_Entry_S0) (fit 0 [] lookup_Entry_S1) (lookup_Entry_K N)
theorem lookup_Entry_s2_b {E : Env} (N : Nat) (hb : Base Try.prog (lookup_Entry_C N) E 0) : Blk Try.prog (lookup_Entry_C N) E [2, 4, 10, 11, 12] lookup_Entry_S0 (lookup_Entry_L2.drop 0) (fun y => lookup_Entry_s2 N y.1.1 y.1.2.1 y.1.2.2.1 y.1.2.2.2.1 y.2.1) (lookup_Entry_K2 N) :=
  Blk.chunkAt hb 4 (X := (lookup_Entry_K2 N .normal)) (NxOk.end (by kernel_rfl)) rfl (fun x => by kernel_rfl)
theorem lookup_Entry_3_b {E : Env} (N : Nat) (hb : Base Try.prog (lookup_Entry_C N) E 0) : Blk Try.prog (lookup_Entry_C N) E [] lookup_Entry_S1 (lookup_Entry_L.drop 3) (fun y => lookup_Entry_3 N) (lookup_Entry_K N) :=
  Blk.chunkAt hb 2 (X := (lookup_Entry_K N .normal)) (NxOk.end (by kernel_rfl)) rfl (fun x => by kernel_rfl)
theorem lookup_Entry_1_b {E : Env} (N : Nat) (hb : Base Try.prog (lookup_Entry_C N) E 0) : Blk Try.prog (lookup_Entry_C N) E [2, 4, 10, 11, 12] lookup_Entry_S0 (lookup_Entry_L.drop 2) (fun y => lookup_Entry_1 N y.1.1 y.1.2.1 y.1.2.2.1 y.1.2.2.2.1 y.2.1) (lookup_Entry_K N) :=
  Blk.loopAt (Nf := N) (hns := [2, 4, 10, 11, 12]) (ans := []) (hc := lookup_Entry_S0) (ac := lookup_Entry_S1) (bid := 0) (step := (fun y => lookup_Entry_s2 N y.1.1 y.1.2.1 y.1.2.2.1 y.1.2.2.2.1 y.2.1)) (J := (fun e => (goK 0 [] lookup_Entry_S1 (fun y => lookup_Entry_3 N)) (lookup_Entry_S1.st [] e))) hb (by kernel_rfl) (Blk.into (X := (goK 0 [] lookup_Entry_S1 (fun y => lookup_Entry_3 N))) (NxOk.go hb (lookup_Entry_3_b N hb)) (fun x => by kernel_rfl)) (lookup_Entry_s2_b N hb) (fun x => by kernel_rfl)
theorem lookup_Entry_b {E : Env} (N : Nat) (hb : Base Try.prog (lookup_Entry_C N) E 0) : Blk Try.prog (lookup_Entry_C N) E (List.range lookup_Entry_S2.ks.length) lookup_Entry_S2 (lookup_Entry_L.drop 0) (fun y => lookup_Entry N y.1.1 y.1.2.1 y.1.2.2.1) (lookup_Entry_K N) :=
  Blk.chunkAt hb 2 (X := (goK 0 [2, 4, 10, 11, 12] lookup_Entry_S0 (fun y => lookup_Entry_1 N y.1.1 y.1.2.1 y.1.2.2.1 y.1.2.2.2.1 y.2.1))) (NxOk.go hb (lookup_Entry_1_b N hb)) rfl (fun x => by kernel_rfl)
noncomputable def lookup_Entry_ctr (N : Nat) : Ctr := ⟨lookup_Entry_S2, lookup_Entry_S3.un [false, false], 0, (fun y => lookup_Entry N y.1.1 y.1.2.1 y.1.2.2.1)⟩
theorem lookup_Entry_ctrs (N : Nat) : CtrsOk Try.prog (lookup_Entry_C N) := ctrs_of (Γ := lookup_Entry_C N) (by
  intro p hp
  simp only [lookup_Entry_C, List.mem_cons, List.not_mem_nil, or_false] at hp
  rcases hp with rfl
  · exact decorrelate_Has_ok N)
theorem lookup_Entry_ok (N : Nat) : Ctr.ok Try.prog G_globs 42 (lookup_Entry_ctr N) :=
  ctr_fn (Γ := lookup_Entry_C N) (rfit := lookup_Entry_S3) (bs := [false, false]) (res := [6, 7]) (by kernel_rfl) (tys_ok G_tys_ok) (lookup_Entry_ctrs N) Try.func42 (by kernel_rfl) (by kernel_rfl) Try.ntmps42 (by kernel_rfl) (by kernel_rfl) (by kernel_rfl) (by kernel_rfl) (fun E hb => lookup_Entry_b N hb)
end Go.Proofs.Ytgbkkfpheahdfaa
namespace Go.Proofs.Ytgbkkfpheahdfaa
open Go
set_option maxRecDepth 100000
set_option linter.unusedVariables false
/-! ipsecgate/ipsecgateref22.Entry -/
abbrev ref22_Entry_R : Type := ((Int × Bool × Unit) × (Unit))
noncomputable def ref22_Entry_s2 (N : Nat) (l_0 : (List D85)) (outbound_2 : Bool) (i_8 : Int) (p_4 : D29) : Option (Lo (((List D85) × Bool × Int × Unit) × (D29 × Unit)) ((Unit) × (Unit)) ref22_Entry_R) :=
  bif (decide (i_8 < (l_0.length : Int))) then
    bif inR i_8 l_0.length then
    Option.bind (ref20_Has N (l_0.getD i_8.toNat ((((0 : Int), (0 : UInt64), (0 : UInt64), ()), ((0 : Int), (0 : UInt64), (0 : UInt64), ()), ((0 : Int), (0 : UInt64), (0 : UInt64), ()), ((0 : Int), (0 : UInt64), (0 : UInt64), ()), (0 : Int), (0 : Int), (List.replicate 2 (0 : Int)), (List.replicate 2 (0 : Int)), ()), (0 : Int), ())).1 p_4 outbound_2) fun y4 =>
    bif y4.1.1 then
      some (.rt ((i_8, true, ()), (())))
    else
      some (.go ((l_0, outbound_2, (w64 (i_8 + (1 : Int))), ()), (p_4, ())))
    else none
  else
    some (.br ((()), (())))
noncomputable def ref22_Entry_3 (N : Nat) : Option ref22_Entry_R :=
  some (((0 : Int), false, ()), (()))
noncomputable def ref22_Entry_1 (N : Nat) (l_0 : (List D85)) (outbound_2 : Bool) (i_8 : Int) (p_4 : D29) : Option ref22_Entry_R :=
  loopK N (fun y => ref22_Entry_s2 N y.1.1 y.1.2.1 y.1.2.2.1 y.2.1) (fun (e : ((Unit) × (Unit))) => ref22_Entry_3 N) ((l_0, outbound_2, i_8, ()), (p_4, ()))
noncomputable def ref22_Entry (N : Nat) (l_0 : (List D85)) (p_1 : D29) (outbound_2 : Bool) : Option ref22_Entry_R :=
  ref22_Entry_1 N l_0 outbound_2 (0 : Int) p_1
noncomputable def ref22_Entry_C (N : Nat) : Ctx := ⟨24, G_tys, [(52, ref20_Has_ctr N)], G_globs⟩
noncomputable def ref22_Entry_S0 : Spec := ⟨[.val (.sl T85), .val .bool, .ref 0 T29, .val .i64], [(.box 30 T29, .pos 2)]⟩
noncomputable def ref22_Entry_S1 : Spec := ⟨[], []⟩
noncomputable def ref22_Entry_S2 : Spec := ⟨[.val (.sl T85), .val T29, .val .bool], []⟩
noncomputable def ref22_Entry_S3 : Spec := ⟨[.val .i64, .val .bool], []⟩
noncomputable def ref22_Entry_K (_N : Nat) : XE → GS → Option ref22_Entry_R := retK 0 [6, 7] [false, false] ref22_Entry_S3
noncomputable def ref22_Entry_L : List Code := (bodyOf (some Try.f43))
noncomputable def ref22_Entry_L2 : List Code := (loopOf (ref22_Entry_L[2]?))
noncomputable def ref22_Entry_K2 (N : Nat) : XE → GS → Option (Lo (((List D85) × Bool × Int × Unit) × (D29 × Unit)) ((Unit) × (Unit)) ref22_Entry_R) := roundK (some 0) (fit 0 [0, 2, 4, 8] ref22_Entry_S0) (fit 0 [] ref22_Entry_S1) (ref22_Entry_K N)
theorem ref22_Entry_s2_b {E : Env} (N : Nat) (hb : Base Try.prog (ref22_Entry_C N) E 0) : Blk Try.prog (ref22_Entry_C N) E [0, 2, 4, 8] ref22_Entry_S0 (ref22_Entry_L2.drop 0) (fun y => ref22_Entry_s2 N y.1.1 y.1.2.1 y.1.2.2.1 y.2.1) (ref22_Entry_K2 N) :=
  Blk.chunkAt hb 4 (X := (ref22_Entry_K2 N .normal)) (NxOk.end (by kernel_rfl)) rfl (fun x => by kernel_rfl)
theorem ref22_Entry_3_b {E : Env} (N : Nat) (hb : Base Try.prog (ref22_Entry_C N) E 0) : Blk Try.prog (ref22_Entry_C N) E [] ref22_Entry_S1 (ref22_Entry_L.drop 3) (fun y => ref22_Entry_3 N) (ref22_Entry_K N) :=
  Blk.chunkAt hb 2 (X := (ref22_Entry_K N .normal)) (NxOk.end (by kernel_rfl)) rfl (fun x => by kernel_rfl)
theorem ref22_Entry_1_b {E : Env} (N : Nat) (hb : Base Try.prog (ref22_Entry_C N) E 0) : Blk Try.prog (ref22_Entry_C N) E [0, 2, 4, 8] ref22_Entry_S0 (ref22_Entry_L.drop 2) (fun y => ref22_Entry_1 N y.1.1 y.1.2.1 y.1.2.2.1 y.2.1) (ref22_Entry_K N) :=
  Blk.loopAt (Nf := N) (hns := [0, 2, 4, 8]) (ans := []) (hc := ref22_Entry_S0) (ac := ref22_Entry_S1) (bid := 0) (step := (fun y => ref22_Entry_s2 N y.1.1 y.1.2.1 y.1.2.2.1 y.2.1)) (J := (fun e => (goK 0 [] ref22_Entry_S1 (fun y => ref22_Entry_3 N)) (ref22_Entry_S1.st [] e))) hb (by kernel_rfl) (Blk.into (X := (goK 0 [] ref22_Entry_S1 (fun y => ref22_Entry_3 N))) (NxOk.go hb (ref22_Entry_3_b N hb)) (fun x => by kernel_rfl)) (ref22_Entry_s2_b N hb) (fun x => by kernel_rfl)
theorem ref22_Entry_b {E : Env} (N : Nat) (hb : Base Try.prog (ref22_Entry_C N) E 0) : Blk Try.prog (ref22_Entry_C N) E (List.range ref22_Entry_S2.ks.length) ref22_Entry_S2 (ref22_Entry_L.drop 0) (fun y => ref22_Entry N y.1.1 y.1.2.1 y.1.2.2.1) (ref22_Entry_K N) :=
  Blk.chunkAt hb 2 (X := (goK 0 [0, 2, 4, 8] ref22_Entry_S0 (fun y => ref22_Entry_1 N y.1.1 y.1.2.1 y.1.2.2.1 y.2.1))) (NxOk.go hb (ref22_Entry_1_b N hb)) rfl (fun x => by kernel_rfl)
noncomputable def ref22_Entry_ctr (N : Nat) : Ctr := ⟨ref22_Entry_S2, ref22_Entry_S3.un [false, false], 0, (fun y => ref22_Entry N y.1.1 y.1.2.1 y.1.2.2.1)⟩
theorem ref22_Entry_ctrs (N : Nat) : CtrsOk Try.prog (ref22_Entry_C N) := ctrs_of (Γ := ref22_Entry_C N) (by
  intro p hp
  simp only [ref22_Entry_C, List.mem_cons, List.not_mem_nil, or_false] at hp
  rcases hp with rfl
  · exact ref20_Has_ok N)
theorem ref22_Entry_ok (N : Nat) : Ctr.ok Try.prog G_globs 43 (ref22_Entry_ctr N) :=
  ctr_fn (Γ := ref22_Entry_C N) (rfit := ref22_Entry_S3) (bs := [false, false]) (res := [6, 7]) (by kernel_rfl) (tys_ok G_tys_ok) (ref22_Entry_ctrs N) Try.func43 (by kernel_rfl) (by kernel_rfl) Try.ntmps43 (by kernel_rfl) (by kernel_rfl) (by kernel_rfl) (by kernel_rfl) (fun E hb => ref22_Entry_b N hb)
end Go.Proofs.Ytgbkkfpheahdfaa
namespace Go.Proofs.Ytgbkkfpheahdfaa
open Go
set_option maxRecDepth 100000
set_option linter.unusedVariables false
/-! ipsecgate/ipsecgateref22.hidden -/
abbrev ref22_hidden_R : Type := ((Bool × Unit) × (Unit))
noncomputable def ref22_hidden (N : Nat) (p_0 : D29) : Option ref22_hidden_R :=
  bif (decide (p_0.2.2.1 = (6 : Int))) then
    bif (decide (p_0.2.2.2.1 = (-1 : Int))) then
      some ((true, ()), (()))
    else
      some (((decide (p_0.2.2.2.2.1 = (-1 : Int))), ()), (()))
  else
    bif (decide (p_0.2.2.1 = (17 : Int))) then
      bif (decide (p_0.2.2.2.1 = (-1 : Int))) then
        some ((true, ()), (()))
      else
        some (((decide (p_0.2.2.2.2.1 = (-1 : Int))), ()), (()))
    else
      bif (decide (p_0.2.2.1 = (1 : Int))) then
        some (((decide (p_0.2.2.2.1 = (-1 : Int))), ()), (()))
      else
        bif (decide (p_0.2.2.1 = (58 : Int))) then
          some (((decide (p_0.2.2.2.1 = (-1 : Int))), ()), (()))
        else
          some ((false, ()), (()))
noncomputable def ref22_hidden_C (N : Nat) : Ctx := ⟨22, G_tys, [], G_globs⟩
noncomputable def ref22_hidden_S0 : Spec := ⟨[.val T29], []⟩
noncomputable def ref22_hidden_S1 : Spec := ⟨[.val .bool], []⟩
noncomputable def ref22_hidden_K (_N : Nat) : XE → GS → Option ref22_hidden_R := retK 0 [2] [false] ref22_hidden_S1
noncomputable def ref22_hidden_L : List Code := (bodyOf (some Try.f91))
theorem ref22_hidden_b {E : Env} (N : Nat) (hb : Base Try.prog (ref22_hidden_C N) E 0) : Blk Try.prog (ref22_hidden_C N) E (List.range ref22_hidden_S0.ks.length) ref22_hidden_S0 (ref22_hidden_L.drop 0) (fun y => ref22_hidden N y.1.1) (ref22_hidden_K N) :=
  Blk.chunkAt hb 5 (X := (ref22_hidden_K N .normal)) (NxOk.end (by kernel_rfl)) rfl (fun x => by kernel_rfl)
noncomputable def ref22_hidden_ctr (N : Nat) : Ctr := ⟨ref22_hidden_S0, ref22_hidden_S1.un [false], 0, (fun y => ref22_hidden N y.1.1)⟩
theorem ref22_hidden_ctrs (N : Nat) : CtrsOk Try.prog (ref22_hidden_C N) := ctrs_nil rfl
theorem ref22_hidden_ok (N : Nat) : Ctr.ok Try.prog G_globs 91 (ref22_hidden_ctr N) :=
  ctr_fn (Γ := ref22_hidden_C N) (rfit := ref22_hidden_S1) (bs := [false]) (res := [2]) (by kernel_rfl) (tys_ok G_tys_ok) (ref22_hidden_ctrs N) Try.func91 (by kernel_rfl) (by kernel_rfl) Try.ntmps91 (by kernel_rfl) (by kernel_rfl) (by kernel_rfl) (by kernel_rfl) (fun E hb => ref22_hidden_b N hb)
end Go.Proofs.Ytgbkkfpheahdfaa
namespace Go.Proofs.Ytgbkkfpheahdfaa
open Go
set_option maxRecDepth 100000
set_option linter.unusedVariables false
/-! ipsecgate/ipsecgateref22.some -/
abbrev ref22_some_R : Type := ((Bool × Unit) × (Unit))
noncomputable def ref22_some_4 (N : Nat) (b_3 : D45) (q_9 : D29) : Option ref22_some_R :=
  Option.bind (ref20_Has N b_3 q_9 true) fun y10 =>
  some ((y10.1.1, ()), (()))
noncomputable def ref22_some_3 (N : Nat) (target_8 : Bool) (b_3 : D45) (q_9 : D29) : Option ref22_some_R :=
  bif target_8 then
    let x8 := (b_3.2.2.2.2.2.2.2.1.getD 1 (0 : Int))
    ref22_some_4 N b_3 (q_9.1, q_9.2.1, q_9.2.2.1, q_9.2.2.2.1, (bif decide ((0 : Int) < x8) then x8 else (0 : Int)), ())
  else
    ref22_some_4 N b_3 q_9
noncomputable def ref22_some_2 (N : Nat) (source_7 : Bool) (target_8 : Bool) (b_3 : D45) (q_9 : D29) : Option ref22_some_R :=
  bif source_7 then
    let x6 := (b_3.2.2.2.2.2.2.1.getD 1 (0 : Int))
    ref22_some_3 N target_8 b_3 (q_9.1, q_9.2.1, q_9.2.2.1, (bif decide ((0 : Int) < x6) then x6 else (0 : Int)), q_9.2.2.2.2.1, ())
  else
    ref22_some_3 N target_8 b_3 q_9
noncomputable def ref22_some_1 (N : Nat) (outbound_2 : Bool) (source_7 : Bool) (target_8 : Bool) (b_3 : D45) (p_4 : D29) : Option ref22_some_R :=
  Option.bind (ref20_Turn N p_4 outbound_2) fun y4 =>
  bif (!outbound_2) then
    ref22_some_2 N target_8 source_7 b_3 y4.1.1
  else
    ref22_some_2 N source_7 target_8 b_3 y4.1.1
noncomputable def ref22_some (N : Nat) (b_0 : D45) (p_1 : D29) (outbound_2 : Bool) : Option ref22_some_R :=
  let x1 := decide (p_1.2.2.2.1 = (-1 : Int))
  bif (decide (p_1.2.2.2.2.1 = (-1 : Int))) then
    bif (decide (p_1.2.2.1 = (6 : Int))) then
      ref22_some_1 N outbound_2 x1 true b_0 p_1
    else
      ref22_some_1 N outbound_2 x1 (decide (p_1.2.2.1 = (17 : Int))) b_0 p_1
  else
    ref22_some_1 N outbound_2 x1 false b_0 p_1
noncomputable def ref22_some_C (N : Nat) : Ctx := ⟨48, G_tys, [(106, ref20_Turn_ctr N), (52, ref20_Has_ctr N)], G_globs⟩
noncomputable def ref22_some_S0 : Spec := ⟨[.ref 0 T45, .ref 1 T29], [(.box 46 T45, .pos 0), (.box 30 T29, .pos 1)]⟩
noncomputable def ref22_some_S1 : Spec := ⟨[.ref 0 T45, .val .bool, .ref 1 T29], [(.box 46 T45, .pos 0), (.box 30 T29, .pos 2)]⟩
noncomputable def ref22_some_S2 : Spec := ⟨[.ref 0 T45, .val .bool, .val .bool, .ref 1 T29], [(.box 46 T45, .pos 0), (.box 30 T29, .pos 3)]⟩
noncomputable def ref22_some_S3 : Spec := ⟨[.val .bool, .ref 0 T45, .ref 1 T29, .val .bool, .val .bool], [(.box 46 T45, .pos 1), (.box 30 T29, .pos 2)]⟩
noncomputable def ref22_some_S4 : Spec := ⟨[.val T45, .val T29, .val .bool], []⟩
noncomputable def ref22_some_S5 : Spec := ⟨[.val .bool], []⟩
noncomputable def ref22_some_K (_N : Nat) : XE → GS → Option ref22_some_R := retK 0 [6] [false] ref22_some_S5
noncomputable def ref22_some_L : List Code := (bodyOf (some Try.f92))
theorem ref22_some_4_b {E : Env} (N : Nat) (hb : Base Try.prog (ref22_some_C N) E 0) : Blk Try.prog (ref22_some_C N) E [3, 9] ref22_some_S0 (ref22_some_L.drop 10) (fun y => ref22_some_4 N y.2.1 y.2.2.1) (ref22_some_K N) :=
  Blk.chunkAt hb 2 (X := (ref22_some_K N .normal)) (NxOk.end (by kernel_rfl)) rfl (fun x => by kernel_rfl)
theorem ref22_some_3_b {E : Env} (N : Nat) (hb : Base Try.prog (ref22_some_C N) E 0) : Blk Try.prog (ref22_some_C N) E [3, 8, 9] ref22_some_S1 (ref22_some_L.drop 8) (fun y => ref22_some_3 N y.1.1 y.2.1 y.2.2.1) (ref22_some_K N) :=
  Blk.chunkAt hb 2 (X := (goK 0 [3, 9] ref22_some_S0 (fun y => ref22_some_4 N y.2.1 y.2.2.1))) (NxOk.go hb (ref22_some_4_b N hb)) rfl (fun x => by kernel_rfl)
theorem ref22_some_2_b {E : Env} (N : Nat) (hb : Base Try.prog (ref22_some_C N) E 0) : Blk Try.prog (ref22_some_C N) E [3, 7, 8, 9] ref22_some_S2 (ref22_some_L.drop 6) (fun y => ref22_some_2 N y.1.1 y.1.2.1 y.2.1 y.2.2.1) (ref22_some_K N) :=
  Blk.chunkAt hb 2 (X := (goK 0 [3, 8, 9] ref22_some_S1 (fun y => ref22_some_3 N y.1.1 y.2.1 y.2.2.1))) (NxOk.go hb (ref22_some_3_b N hb)) rfl (fun x => by kernel_rfl)
theorem ref22_some_1_b {E : Env} (N : Nat) (hb : Base Try.prog (ref22_some_C N) E 0) : Blk Try.prog (ref22_some_C N) E [2, 3, 4, 7, 8] ref22_some_S3 (ref22_some_L.drop 3) (fun y => ref22_some_1 N y.1.1 y.1.2.1 y.1.2.2.1 y.2.1 y.2.2.1) (ref22_some_K N) :=
  Blk.chunkAt hb 3 (X := (goK 0 [3, 7, 8, 9] ref22_some_S2 (fun y => ref22_some_2 N y.1.1 y.1.2.1 y.2.1 y.2.2.1))) (NxOk.go hb (ref22_some_2_b N hb)) rfl (fun x => by kernel_rfl)
theorem ref22_some_b {E : Env} (N : Nat) (hb : Base Try.prog (ref22_some_C N) E 0) : Blk Try.prog (ref22_some_C N) E (List.range ref22_some_S4.ks.length) ref22_some_S4 (ref22_some_L.drop 0) (fun y => ref22_some N y.1.1 y.1.2.1 y.1.2.2.1) (ref22_some_K N) :=
  Blk.chunkAt hb 3 (X := (goK 0 [2, 3, 4, 7, 8] ref22_some_S3 (fun y => ref22_some_1 N y.1.1 y.1.2.1 y.1.2.2.1 y.2.1 y.2.2.1))) (NxOk.go hb (ref22_some_1_b N hb)) rfl (fun x => by kernel_rfl)
noncomputable def ref22_some_ctr (N : Nat) : Ctr := ⟨ref22_some_S4, ref22_some_S5.un [false], 0, (fun y => ref22_some N y.1.1 y.1.2.1 y.1.2.2.1)⟩
theorem ref22_some_ctrs (N : Nat) : CtrsOk Try.prog (ref22_some_C N) := ctrs_of (Γ := ref22_some_C N) (by
  intro p hp
  simp only [ref22_some_C, List.mem_cons, List.not_mem_nil, or_false] at hp
  rcases hp with rfl | rfl
  · exact ref20_Turn_ok N
  · exact ref20_Has_ok N)
theorem ref22_some_ok (N : Nat) : Ctr.ok Try.prog G_globs 92 (ref22_some_ctr N) :=
  ctr_fn (Γ := ref22_some_C N) (rfit := ref22_some_S5) (bs := [false]) (res := [6]) (by kernel_rfl) (tys_ok G_tys_ok) (ref22_some_ctrs N) Try.func92 (by kernel_rfl) (by kernel_rfl) Try.ntmps92 (by kernel_rfl) (by kernel_rfl) (by kernel_rfl) (by kernel_rfl) (fun E hb => ref22_some_b N hb)
end Go.Proofs.Ytgbkkfpheahdfaa