/- Functions of the program as plain functions, each with the proof that the text computes it. -/
import Derived.Test.YtajpblfinenmjaaGreatDoorFnsConcreteWritesA
import Derived.Test.YtajpblfinenmjaaGreatDoorRngConcreteWritesA
set_option linter.unusedVariables false
set_option linter.unusedSimpArgs false
namespace Go.Proofs.YtajpblfinenmjaaGreatDoor
open Go
set_option maxRecDepth 100000
set_option linter.unusedVariables false
noncomputable section
abbrev zq16_R : Type := (Unit × (List UInt8 × Unit))
def zq16_s2 (N : Nat) (rc : D24 → (List UInt8) → Option zq16_R) (t_25 : (List D24)) (t_26 : Int) (t_27 : Int) (b_0 : List UInt8) : Option (Lo (((List D24) × Int × Int × Unit) × (List UInt8 × Unit)) (Unit × (List UInt8 × Unit)) zq16_R) :=
 bif (decide (t_27 < t_26)) then
  bif inR t_27 t_25.length then
  Option.bind (rc (t_25.getD t_27.toNat ((0 : Int), (0 : Int), ([] : List Tree), ())) b_0) fun y13 =>
  some (.go ((t_25, t_26, (w64 (t_27 + (1 : Int))), ()), (y13.2.1, ())))
  else none
 else
  some (.br ((), (b_0, ())))
def zq16_3 (N : Nat) (rc : D24 → (List UInt8) → Option zq16_R) (b_0 : List UInt8) : Option zq16_R :=
 some ((), (b_0, ()))
def zq16_1 (N : Nat) (rc : D24 → (List UInt8) → Option zq16_R) (t_25 : (List D24)) (t_26 : Int) (t_27 : Int) (b_0 : List UInt8) : Option zq16_R :=
 loopK N (fun y => zq16_s2 N rc y.1.1 y.1.2.1 y.1.2.2.1 y.2.1) (fun (e : (Unit × (List UInt8 × Unit))) => zq16_3 N rc e.2.1) ((t_25, t_26, t_27, ()), (b_0, ()))
def zq16 (N : Nat) (rc : D24 → (List UInt8) → Option zq16_R) (t_1 : D24) (b_0 : List UInt8) : Option zq16_R :=
 bif room (b_0.length + ([(iu8 t_1.1)] : List UInt8).length) 1 then
 Option.bind (zq118 N (iu64 t_1.2.1) (8 : Int) (b_0 ++ ([(iu8 t_1.1)] : List UInt8))) fun y4 =>
 Option.bind (zq118 N (iu64 ((List.map Tree.un t_1.2.2.1).length : Int)) (2 : Int) y4.2.1) fun y8 =>
 let x9 := List.map Tree.un t_1.2.2.1
 zq16_1 N rc x9 (x9.length : Int) (0 : Int) y8.2.1
 else none
def zq16_S0 : Spec := ⟨[.row 0, .val (.sl T24), .val .i64, .val .i64], [(.row 5 .u8, .pos 0)]⟩
def zq16_S1 : Spec := ⟨[.row 0], [(.row 5 .u8, .pos 0)]⟩
def zq16_S2 : Spec := ⟨[.row 0, .val T24], [(.row 5 .u8, .pos 0)]⟩
def zq16_ftr (N : Nat) (rc : D24 → (List UInt8) → Option zq16_R) : Ctr := ⟨zq16_S2, zq16_S1.un [false], 0, (fun y => rc y.1.1 y.2.1)⟩
def zq16_C (N : Nat) (rc : D24 → (List UInt8) → Option zq16_R) := Cx 36 [(67, zq118_ctr N), (40, zq16_ftr N rc)]
def zq16_K : XE → GS → Option zq16_R := retK 0 [4] [false] zq16_S1
noncomputable def zq16_L : List Code := (bodyOf (some Tryz.f40))
def zq16_L2 : List Code := (loopOf (zq16_L[5]?))
def zq16_K2 (N : Nat) (rc : D24 → (List UInt8) → Option zq16_R) := roundK (some 0) (fit 0 [0, 25, 26, 27] zq16_S0) (fit 0 [0] zq16_S1) zq16_K
theorem zq16_s2_b (N) (rc) : Bk 0 (zq16_C N rc) [0, 25, 26, 27] zq16_S0 (zq16_L2.drop 0) (fun y => zq16_s2 N rc y.1.1 y.1.2.1 y.1.2.2.1 y.2.1) (zq16_K2 N rc) :=
 cE 4
theorem zq16_3_b (N) (rc) : Bk 0 (zq16_C N rc) [0] zq16_S1 (zq16_L.drop 6) (fun y => zq16_3 N rc y.2.1) zq16_K :=
 cE 2
theorem zq16_1_b (N) (rc) : Bk 0 (zq16_C N rc) [0, 25, 26, 27] zq16_S0 (zq16_L.drop 5) (fun y => zq16_1 N rc y.1.1 y.1.2.1 y.1.2.2.1 y.2.1) zq16_K :=
 lG N zq16_S0 [0] zq16_S1 (zq16_3_b N rc) (zq16_s2_b N rc)
theorem zq16_b (N) (rc) : Bk 0 (zq16_C N rc) (List.range zq16_S2.ks.length) zq16_S2 (zq16_L.drop 0) (fun y => zq16 N rc y.1.1 y.2.1) zq16_K :=
 cG 5 (zq16_1_b N rc)
def zq16_octr (N : Nat) (rc : D24 → (List UInt8) → Option zq16_R) : Ctr := ⟨zq16_S2, zq16_S1.un [false], 0, (fun y => zq16 N rc y.1.1 y.2.1)⟩
theorem zq16_ook (N : Nat) (rc : D24 → (List UInt8) → Option zq16_R) (hf : COk 40 (zq16_ftr N rc))  : COk 40 (zq16_octr N rc) :=
 cF (zw3 (Γ := zq16_C N rc) zw2 (csc (zq118_ok N) (csc hf csn))) Tryz.func40 Tryz.ntmps40 (zq16_b N rc)
def zw1z (N : Nat) : Nat → D24 → (List UInt8) → Option zq16_R
 | 0 => fun _ _ => none
 | n + 1 => fun t_1 b_0 => zq16 N (zw1z N n) t_1 b_0
theorem zw96 (N : Nat) : ∀ n : Nat, COk 40 (zq16_ftr N (zw1z N n))
 | 0 => zw14 Tryz.func40 (by kernel_rfl) (by kernel_rfl) (fun x => rfl)
 | n + 1 => zq16_ook N (zw1z N n) (zw96 N n)
def zq16_ctr (N : Nat) : Ctr := zq16_ftr N (zw1z N N)
theorem zq16_ok (N : Nat) : COk 40 (zq16_ctr N) := zw96 N N
abbrev zq18_R : Type := ((Int × Unit) × (List UInt8 × Unit))
def zq18 (N : Nat) (t_0 : D24) : Option zq18_R :=
 Option.bind (zq97 N t_0) fun y1 =>
 bif (!y1.1.1) then
  some (((26 : Int), ()), (([] : List UInt8), ()))
 else
  Option.bind (zw1z N N t_0 ([] : List UInt8)) fun y3 =>
  some (((0 : Int), ()), (y3.2.1, ()))
def zq18_C (N : Nat) := Cx 9 [(34, zq97_ctr N), (40, zq16_ctr N)]
def zq18_S0 : Spec := ⟨[.val T24], []⟩
def zq18_S1 : Spec := ⟨[.row 0, .val .i64], [(.row 5 .u8, .pos 0)]⟩
def zq18_K : XE → GS → Option zq18_R := retK 0 [2, 3] [false, false] zq18_S1
noncomputable def zq18_L : List Code := (bodyOf (some Tryz.f12))
theorem zq18_b (N) : Bk 0 (zq18_C N) (List.range zq18_S0.ks.length) zq18_S0 (zq18_L.drop 0) (fun y => zq18 N y.1.1) zq18_K :=
 cE 5
def zq18_ctr (N : Nat) : Ctr := ⟨zq18_S0, zq18_S1.un [false, false], 0, (fun y => zq18 N y.1.1)⟩
theorem zq18_ok (N : Nat) : COk 12 (zq18_ctr N) :=
 cF (zw3 (Γ := zq18_C N) zw2 (csc (zq97_ok N) (csc (zq16_ok N) csn))) Tryz.func12 Tryz.ntmps12 (zq18_b N)
abbrev zq99_R : Type := (Unit × (List UInt8 × Unit))
def zq99_s2 (N : Nat) (length_0 : Int) (b_3 : List UInt8) : Option (Lo ((Int × Unit) × (List UInt8 × Unit)) ((Int × Unit) × (List UInt8 × Unit)) zq99_R) :=
 bif (!(decide (((w64 ((length_0.tmod (64 : Int)) + (b_3.length : Int))).tmod (64 : Int)) = (56 : Int)))) then
  bif room (b_3.length + ([(0 : UInt8)] : List UInt8).length) 1 then
  some (.go ((length_0, ()), ((b_3 ++ ([(0 : UInt8)] : List UInt8)), ())))
  else none
 else
  some (.br ((length_0, ()), (b_3, ())))
def zq99_3 (N : Nat) (length_0 : Int) (b_3 : List UInt8) : Option zq99_R :=
 Option.bind (zq118 N ((iu64 length_0) * (8 : UInt64)) (8 : Int) b_3) fun y10 =>
 some ((), (y10.2.1, ()))
def zq99_1 (N : Nat) (length_0 : Int) (b_3 : List UInt8) : Option zq99_R :=
 loopK N (fun y => zq99_s2 N y.1.1 y.2.1) (fun (e : ((Int × Unit) × (List UInt8 × Unit))) => zq99_3 N e.1.1 e.2.1) ((length_0, ()), (b_3, ()))
def zq99 (N : Nat) (length_0 : Int) : Option zq99_R :=
 bif (decide (length_0 < (0 : Int))) then
  some ((), (([] : List UInt8), ()))
 else
  zq99_1 N length_0 ([(128 : UInt8)] : List UInt8)
def zq99_C (N : Nat) := Cx 22 [(67, zq118_ctr N)]
def zq99_S0 : Spec := ⟨[.val .i64, .row 0], [(.row 5 .u8, .pos 1)]⟩
def zq99_S1 : Spec := ⟨[.val .i64], []⟩
def zq99_S2 : Spec := ⟨[.row 0], [(.row 5 .u8, .pos 0)]⟩
def zq99_K : XE → GS → Option zq99_R := retK 0 [2] [false] zq99_S2
noncomputable def zq99_L : List Code := (bodyOf (some Tryz.f68))
def zq99_L2 : List Code := (loopOf (zq99_L[4]?))
def zq99_K2 (N : Nat) := roundK (some 0) (fit 0 [0, 3] zq99_S0) (fit 0 [0, 3] zq99_S0) zq99_K
theorem zq99_s2_b (N) : Bk 0 (zq99_C N) [0, 3] zq99_S0 (zq99_L2.drop 0) (fun y => zq99_s2 N y.1.1 y.2.1) (zq99_K2 N) :=
 cE 3
theorem zq99_3_b (N) : Bk 0 (zq99_C N) [0, 3] zq99_S0 (zq99_L.drop 5) (fun y => zq99_3 N y.1.1 y.2.1) zq99_K :=
 cE 2
theorem zq99_1_b (N) : Bk 0 (zq99_C N) [0, 3] zq99_S0 (zq99_L.drop 4) (fun y => zq99_1 N y.1.1 y.2.1) zq99_K :=
 lG N zq99_S0 [0, 3] zq99_S0 (zq99_3_b N) (zq99_s2_b N)
theorem zq99_b (N) : Bk 0 (zq99_C N) (List.range zq99_S1.ks.length) zq99_S1 (zq99_L.drop 0) (fun y => zq99 N y.1.1) zq99_K :=
 cG 4 (zq99_1_b N)
def zq99_ctr (N : Nat) : Ctr := ⟨zq99_S1, zq99_S2.un [false], 0, (fun y => zq99 N y.1.1)⟩
theorem zq99_ok (N : Nat) : COk 68 (zq99_ctr N) :=
 cF (zw3 (Γ := zq99_C N) zw2 (csc (zq118_ok N) csn)) Tryz.func68 Tryz.ntmps68 (zq99_b N)
abbrev zq88_R : Type := ((List UInt8 × Bool × Unit) × Unit)
def zq88_1 (N : Nat) (b_0 : List UInt8) (at_1 : Int) (n_2 : Int) (t_27 : Bool) : Option zq88_R :=
 bif t_27 then
  some ((([] : List UInt8), false, ()), ())
 else
  let x2 := w64 (at_1 + n_2)
  let x3 := w64 (at_1 + n_2)
  bif decide (0 ≤ at_1) && decide (at_1 ≤ x2) && decide (x2 ≤ (b_0.length : Int)) && (decide (x2 ≤ x3) && decide (x3 ≤ (b_0.length : Int))) then
  some (((cut b_0 at_1.toNat x2.toNat), true, ()), ())
  else none
def zq88 (N : Nat) (b_0 : List UInt8) (at_1 : Int) (n_2 : Int) : Option zq88_R :=
 bif (decide (at_1 < (0 : Int))) then
  zq88_1 N b_0 at_1 n_2 true
 else
  bif (decide (n_2 < (0 : Int))) then
   zq88_1 N b_0 at_1 n_2 true
  else
   bif (decide ((b_0.length : Int) < at_1)) then
    zq88_1 N b_0 at_1 n_2 true
   else
    zq88_1 N b_0 at_1 n_2 (decide ((w64 ((b_0.length : Int) - at_1)) < n_2))
def zq88_C (N : Nat) := Cx 37 []
def zq88_S0 : Spec := ⟨[.val (.sl .u8), .val .i64, .val .i64, .val .bool], []⟩
def zq88_S1 : Spec := ⟨[.val (.sl .u8), .val .i64, .val .i64], []⟩
def zq88_S2 : Spec := ⟨[.val (.sl .u8), .val .bool], []⟩
def zq88_K : XE → GS → Option zq88_R := retK 0 [6, 7] [false, false] zq88_S2
noncomputable def zq88_L : List Code := (bodyOf (some Tryz.f73))
theorem zq88_1_b (N) : Bk 0 (zq88_C N) [0, 1, 2, 27] zq88_S0 (zq88_L.drop 2) (fun y => zq88_1 N y.1.1 y.1.2.1 y.1.2.2.1 y.1.2.2.2.1) zq88_K :=
 cE 3
theorem zq88_b (N) : Bk 0 (zq88_C N) (List.range zq88_S1.ks.length) zq88_S1 (zq88_L.drop 0) (fun y => zq88 N y.1.1 y.1.2.1 y.1.2.2.1) zq88_K :=
 cG 2 (zq88_1_b N)
def zq88_ctr (N : Nat) : Ctr := ⟨zq88_S1, zq88_S2.un [false, false], 0, (fun y => zq88 N y.1.1 y.1.2.1 y.1.2.2.1)⟩
theorem zq88_ok (N : Nat) : COk 73 (zq88_ctr N) :=
 cF (zw3 (Γ := zq88_C N) zw2 csn) Tryz.func73 Tryz.ntmps73 (zq88_b N)
abbrev zq69_R : Type := ((UInt64 × Bool × Unit) × Unit)
def zq69_s3 (N : Nat) (v_10 : UInt64) (t_28 : List UInt8) (t_29 : Int) (t_30 : Int) : Option (Lo ((UInt64 × List UInt8 × Int × Int × Unit) × Unit) ((UInt64 × Unit) × Unit) zq69_R) :=
 bif (decide (t_30 < t_29)) then
  bif inR t_30 t_28.length then
  some (.go ((((shl64 v_10 8) ||| (t_28.getD t_30.toNat (0 : UInt8)).toUInt64), t_28, t_29, (w64 (t_30 + (1 : Int))), ()), ()))
  else none
 else
  some (.br ((v_10, ()), ()))
def zq69_4 (N : Nat) (v_10 : UInt64) : Option zq69_R :=
 some ((v_10, true, ()), ())
def zq69_2 (N : Nat) (v_10 : UInt64) (t_28 : List UInt8) (t_29 : Int) (t_30 : Int) : Option zq69_R :=
 loopK N (fun y => zq69_s3 N y.1.1 y.1.2.1 y.1.2.2.1 y.1.2.2.2.1) (fun (e : ((UInt64 × Unit) × Unit)) => zq69_4 N e.1.1) ((v_10, t_28, t_29, t_30, ()), ())
def zq69_1 (N : Nat) (b_0 : List UInt8) (at_1 : Int) (width_2 : Int) (t_18 : Bool) : Option zq69_R :=
 bif t_18 then
  some (((0 : UInt64), false, ()), ())
 else
  Option.bind (zq88 N b_0 at_1 width_2) fun y2 =>
  bif (!y2.1.2.1) then
   some (((0 : UInt64), false, ()), ())
  else
   zq69_2 N (0 : UInt64) y2.1.1 (y2.1.1.length : Int) (0 : Int)
def zq69 (N : Nat) (b_0 : List UInt8) (at_1 : Int) (width_2 : Int) : Option zq69_R :=
 bif (decide (width_2 < (1 : Int))) then
  zq69_1 N b_0 at_1 width_2 true
 else
  zq69_1 N b_0 at_1 width_2 (decide ((8 : Int) < width_2))
def zq69_C (N : Nat) := Cx 41 [(73, zq88_ctr N)]
def zq69_S0 : Spec := ⟨[.val .u64, .val (.sl .u8), .val .i64, .val .i64], []⟩
def zq69_S1 : Spec := ⟨[.val .u64], []⟩
def zq69_S2 : Spec := ⟨[.val (.sl .u8), .val .i64, .val .i64, .val .bool], []⟩
def zq69_S3 : Spec := ⟨[.val (.sl .u8), .val .i64, .val .i64], []⟩
def zq69_S4 : Spec := ⟨[.val .u64, .val .bool], []⟩
def zq69_K : XE → GS → Option zq69_R := retK 0 [6, 7] [false, false] zq69_S4
noncomputable def zq69_L : List Code := (bodyOf (some Tryz.f44))
def zq69_L3 : List Code := (loopOf (zq69_L[8]?))
def zq69_K3 (N : Nat) := roundK (some 0) (fit 0 [10, 28, 29, 30] zq69_S0) (fit 0 [10] zq69_S1) zq69_K
theorem zq69_s3_b (N) : Bk 0 (zq69_C N) [10, 28, 29, 30] zq69_S0 (zq69_L3.drop 0) (fun y => zq69_s3 N y.1.1 y.1.2.1 y.1.2.2.1 y.1.2.2.2.1) (zq69_K3 N) :=
 cE 4
theorem zq69_4_b (N) : Bk 0 (zq69_C N) [10] zq69_S1 (zq69_L.drop 9) (fun y => zq69_4 N y.1.1) zq69_K :=
 cE 2
theorem zq69_2_b (N) : Bk 0 (zq69_C N) [10, 28, 29, 30] zq69_S0 (zq69_L.drop 8) (fun y => zq69_2 N y.1.1 y.1.2.1 y.1.2.2.1 y.1.2.2.2.1) zq69_K :=
 lG N zq69_S0 [10] zq69_S1 (zq69_4_b N) (zq69_s3_b N)
theorem zq69_1_b (N) : Bk 0 (zq69_C N) [0, 1, 2, 18] zq69_S2 (zq69_L.drop 2) (fun y => zq69_1 N y.1.1 y.1.2.1 y.1.2.2.1 y.1.2.2.2.1) zq69_K :=
 cG 6 (zq69_2_b N)
theorem zq69_b (N) : Bk 0 (zq69_C N) (List.range zq69_S3.ks.length) zq69_S3 (zq69_L.drop 0) (fun y => zq69 N y.1.1 y.1.2.1 y.1.2.2.1) zq69_K :=
 cG 2 (zq69_1_b N)
def zq69_ctr (N : Nat) : Ctr := ⟨zq69_S3, zq69_S4.un [false, false], 0, (fun y => zq69 N y.1.1 y.1.2.1 y.1.2.2.1)⟩
theorem zq69_ok (N : Nat) : COk 44 (zq69_ctr N) :=
 cF (zw3 (Γ := zq69_C N) zw2 (csc (zq88_ok N) csn)) Tryz.func44 Tryz.ntmps44 (zq69_b N)
abbrev zq2_R : Type := ((UInt32 × Unit) × Unit)
def zq2 (N : Nat) (x_0 : UInt32) (k_1 : Int) : Option zq2_R :=
 let x2 := (iu64 k_1) &&& (31 : UInt64)
 some ((((shl32 x_0 x2.toNat) ||| (shr32 x_0 ((32 : UInt64) - x2).toNat)), ()), ())
def zq2_C (N : Nat) := Cx 17 []
def zq2_S0 : Spec := ⟨[.val .u32, .val .i64], []⟩
def zq2_S1 : Spec := ⟨[.val .u32], []⟩
def zq2_K : XE → GS → Option zq2_R := retK 0 [4] [false] zq2_S1
noncomputable def zq2_L : List Code := (bodyOf (some Tryz.f119))
theorem zq2_b (N) : Bk 0 (zq2_C N) (List.range zq2_S0.ks.length) zq2_S0 (zq2_L.drop 0) (fun y => zq2 N y.1.1 y.1.2.1) zq2_K :=
 cE 4
def zq2_ctr (N : Nat) : Ctr := ⟨zq2_S0, zq2_S1.un [false], 0, (fun y => zq2 N y.1.1 y.1.2.1)⟩
theorem zq2_ok (N : Nat) : COk 119 (zq2_ctr N) :=
 cF (zw3 (Γ := zq2_C N) zw2 csn) Tryz.func119 Tryz.ntmps119 (zq2_b N)
abbrev zq55_R : Type := ((UInt32 × Unit) × Unit)
def zq55 (N : Nat) (x_0 : UInt32) (n_1 : Int) : Option zq55_R :=
 Option.bind (zq2 N x_0 (w64 (0 - n_1))) fun y2 =>
 some ((y2.1.1, ()), ())
def zq55_C (N : Nat) := Cx 9 [(119, zq2_ctr N)]
def zq55_S0 : Spec := ⟨[.val .u32, .val .i64], []⟩
def zq55_S1 : Spec := ⟨[.val .u32], []⟩
def zq55_K : XE → GS → Option zq55_R := retK 0 [4] [false] zq55_S1
noncomputable def zq55_L : List Code := (bodyOf (some Tryz.f95))
theorem zq55_b (N) : Bk 0 (zq55_C N) (List.range zq55_S0.ks.length) zq55_S0 (zq55_L.drop 0) (fun y => zq55 N y.1.1 y.1.2.1) zq55_K :=
 cE 3
def zq55_ctr (N : Nat) : Ctr := ⟨zq55_S0, zq55_S1.un [false], 0, (fun y => zq55 N y.1.1 y.1.2.1)⟩
theorem zq55_ok (N : Nat) : COk 95 (zq55_ctr N) :=
 cF (zw3 (Γ := zq55_C N) zw2 (csc (zq2_ok N) csn)) Tryz.func95 Tryz.ntmps95 (zq55_b N)
abbrev zq29_R : Type := (((List UInt32) × Unit) × Unit)
def zq29_s2 (N : Nat) (block_0 : List UInt8) (t_9 : Int) (t_2 : (List UInt32)) (w_3 : (List UInt32)) : Option (Lo ((List UInt8 × Int × Unit) × ((List UInt32) × (List UInt32) × Unit)) (Unit × ((List UInt32) × (List UInt32) × Unit)) zq29_R) :=
 bif (decide (t_9 < (64 : Int))) then
  bif (decide (t_9 < (16 : Int))) then
   Option.bind (zq69 N block_0 (w64 ((4 : Int) * t_9)) (4 : Int)) fun y4 =>
   bif inR t_9 64 then
   some (.go ((block_0, (w64 (t_9 + (1 : Int))), ()), (t_2, (w_3.set t_9.toNat y4.1.1.toUInt32), ())))
   else none
  else
   let x7 := w64 (t_9 - (2 : Int))
   bif inR x7 64 then
   let x8 := (w_3.getD x7.toNat (0 : UInt32))
   let x9 := w64 (t_9 - (15 : Int))
   bif inR x9 64 then
   let x10 := (w_3.getD x9.toNat (0 : UInt32))
   Option.bind (zq55 N x8 (17 : Int)) fun y11 =>
   Option.bind (zq55 N x8 (19 : Int)) fun y12 =>
   let x16 := w64 (t_9 - (7 : Int))
   bif inR x16 64 then
   Option.bind (zq55 N x10 (7 : Int)) fun y19 =>
   Option.bind (zq55 N x10 (18 : Int)) fun y20 =>
   let x25 := w64 (t_9 - (16 : Int))
   bif inR x25 64 then
   bif inR t_9 64 then
   some (.go ((block_0, (w64 (t_9 + (1 : Int))), ()), (t_2, (w_3.set t_9.toNat (((((y11.1.1 ^^^ y12.1.1) ^^^ (shr32 x8 10)) + (w_3.getD x16.toNat (0 : UInt32))) + ((y19.1.1 ^^^ y20.1.1) ^^^ (shr32 x10 3))) + (w_3.getD x25.toNat (0 : UInt32)))), ())))
   else none
   else none
   else none
   else none
   else none
 else
  some (.br ((), (t_2, w_3, ())))
def zq29_3 (N : Nat) (t_2 : (List UInt32)) (w_3 : (List UInt32)) : Option zq29_R :=
 some ((w_3, ()), ())
def zq29_1 (N : Nat) (block_0 : List UInt8) (t_9 : Int) (t_2 : (List UInt32)) (w_3 : (List UInt32)) : Option zq29_R :=
 loopK N (fun y => zq29_s2 N y.1.1 y.1.2.1 y.2.1 y.2.2.1) (fun (e : (Unit × ((List UInt32) × (List UInt32) × Unit))) => zq29_3 N e.2.1 e.2.2.1) ((block_0, t_9, ()), (t_2, w_3, ()))
def zq29 (N : Nat) (block_0 : List UInt8) : Option zq29_R :=
 zq29_1 N block_0 (0 : Int) (List.replicate 64 (0 : UInt32)) (List.replicate 64 (0 : UInt32))
def zq29_C (N : Nat) := Cx 64 [(44, zq69_ctr N), (95, zq55_ctr N)]
def zq29_S0 : Spec := ⟨[.val (.sl .u8), .ref 0 (.arr 64 .u32), .ref 1 (.arr 64 .u32), .val .i64], [(.box 100 (.arr 64 .u32), .pos 1), (.box 100 (.arr 64 .u32), .pos 2)]⟩
def zq29_S1 : Spec := ⟨[.ref 0 (.arr 64 .u32), .ref 1 (.arr 64 .u32)], [(.box 100 (.arr 64 .u32), .pos 0), (.box 100 (.arr 64 .u32), .pos 1)]⟩
def zq29_S2 : Spec := ⟨[.val (.sl .u8)], []⟩
def zq29_S3 : Spec := ⟨[.fp (.arr 64 .u32)], []⟩
def zq29_K : XE → GS → Option zq29_R := retK 0 [2] [true] zq29_S3
noncomputable def zq29_L : List Code := (bodyOf (some Tryz.f94))
def zq29_L2 : List Code := (loopOf (zq29_L[3]?))
def zq29_K2 (N : Nat) := roundK (some 0) (fit 0 [0, 2, 3, 9] zq29_S0) (fit 0 [2, 3] zq29_S1) zq29_K
theorem zq29_s2_b (N) : Bk 0 (zq29_C N) [0, 2, 3, 9] zq29_S0 (zq29_L2.drop 0) (fun y => zq29_s2 N y.1.1 y.1.2.1 y.2.1 y.2.2.1) (zq29_K2 N) :=
 cE 4
theorem zq29_3_b (N) : Bk 0 (zq29_C N) [2, 3] zq29_S1 (zq29_L.drop 4) (fun y => zq29_3 N y.2.1 y.2.2.1) zq29_K :=
 cE 2
theorem zq29_1_b (N) : Bk 0 (zq29_C N) [0, 2, 3, 9] zq29_S0 (zq29_L.drop 3) (fun y => zq29_1 N y.1.1 y.1.2.1 y.2.1 y.2.2.1) zq29_K :=
 lG N zq29_S0 [2, 3] zq29_S1 (zq29_3_b N) (zq29_s2_b N)
theorem zq29_b (N) : Bk 0 (zq29_C N) (List.range zq29_S2.ks.length) zq29_S2 (zq29_L.drop 0) (fun y => zq29 N y.1.1) zq29_K :=
 cG 3 (zq29_1_b N)
def zq29_ctr (N : Nat) : Ctr := ⟨zq29_S2, zq29_S3.un [true], 0, (fun y => zq29 N y.1.1)⟩
theorem zq29_ok (N : Nat) : COk 94 (zq29_ctr N) :=
 cF (zw3 (Γ := zq29_C N) zw2 (csc (zq69_ok N) (csc (zq55_ok N) csn))) Tryz.func94 Tryz.ntmps94 (zq29_b N)
abbrev zq46_R : Type := (((List UInt32) × Bool × Unit) × Unit)
def zq46_s2 (N : Nat) (a_6 : UInt32) (b_7 : UInt32) (c_8 : UInt32) (d_9 : UInt32) (e_10 : UInt32) (f_11 : UInt32) (g_12 : UInt32) (h_13 : UInt32) (t_41 : (List UInt32)) (t_42 : Int) (state_2 : (List UInt32)) (t_4 : (List UInt32)) : Option (Lo ((UInt32 × UInt32 × UInt32 × UInt32 × UInt32 × UInt32 × UInt32 × UInt32 × (List UInt32) × Int × Unit) × ((List UInt32) × (List UInt32) × Unit)) ((UInt32 × UInt32 × UInt32 × UInt32 × UInt32 × UInt32 × UInt32 × UInt32 × Unit) × ((List UInt32) × (List UInt32) × Unit)) zq46_R) :=
 bif (decide (t_42 < (64 : Int))) then
  bif inR t_42 64 then
  let x14 := t_41.getD t_42.toNat (0 : UInt32)
  Option.bind (zq55 N e_10 (6 : Int)) fun y15 =>
  Option.bind (zq55 N e_10 (11 : Int)) fun y16 =>
  Option.bind (zq55 N e_10 (25 : Int)) fun y18 =>
  let x19 := (y15.1.1 ^^^ y16.1.1) ^^^ y18.1.1
  bif inR t_42 64 then
  let x26 := zw1x.getD t_42.toNat (0 : UInt32)
  Option.bind (zq55 N a_6 (2 : Int)) fun y29 =>
  Option.bind (zq55 N a_6 (13 : Int)) fun y30 =>
  Option.bind (zq55 N a_6 (22 : Int)) fun y32 =>
  some (.go (((((((h_13 + x19) + ((e_10 &&& f_11) ^^^ ((~~~ e_10) &&& g_12))) + x26) + x14) + (((y29.1.1 ^^^ y30.1.1) ^^^ y32.1.1) + (((a_6 &&& b_7) ^^^ (a_6 &&& c_8)) ^^^ (b_7 &&& c_8)))), a_6, b_7, c_8, (d_9 + ((((h_13 + x19) + ((e_10 &&& f_11) ^^^ ((~~~ e_10) &&& g_12))) + x26) + x14)), e_10, f_11, g_12, t_41, (w64 (t_42 + (1 : Int))), ()), (state_2, t_4, ())))
  else none
  else none
 else
  some (.br ((a_6, b_7, c_8, d_9, e_10, f_11, g_12, h_13, ()), (state_2, t_4, ())))
def zq46_s5 (N : Nat) (t_112 : (List UInt32)) (t_113 : Int) (state_2 : (List UInt32)) (t_4 : (List UInt32)) : Option (Lo (((List UInt32) × Int × Unit) × ((List UInt32) × (List UInt32) × Unit)) (Unit × ((List UInt32) × (List UInt32) × Unit)) zq46_R) :=
 bif (decide (t_113 < (8 : Int))) then
  bif inR t_113 8 then
  bif inR t_113 8 then
  bif inR t_113 8 then
  some (.go ((t_112, (w64 (t_113 + (1 : Int))), ()), ((state_2.set t_113.toNat ((state_2.getD t_113.toNat (0 : UInt32)) + (t_112.getD t_113.toNat (0 : UInt32)))), t_4, ())))
  else none
  else none
  else none
 else
  some (.br ((), (state_2, t_4, ())))
def zq46_6 (N : Nat) (state_2 : (List UInt32)) (t_4 : (List UInt32)) : Option zq46_R :=
 some ((state_2, true, ()), ())
def zq46_4 (N : Nat) (t_112 : (List UInt32)) (t_113 : Int) (state_2 : (List UInt32)) (t_4 : (List UInt32)) : Option zq46_R :=
 loopK N (fun y => zq46_s5 N y.1.1 y.1.2.1 y.2.1 y.2.2.1) (fun (e : (Unit × ((List UInt32) × (List UInt32) × Unit))) => zq46_6 N e.2.1 e.2.2.1) ((t_112, t_113, ()), (state_2, t_4, ()))
def zq46_3 (N : Nat) (a_6 : UInt32) (b_7 : UInt32) (c_8 : UInt32) (d_9 : UInt32) (e_10 : UInt32) (f_11 : UInt32) (g_12 : UInt32) (h_13 : UInt32) (state_2 : (List UInt32)) (t_4 : (List UInt32)) : Option zq46_R :=
 zq46_4 N ([a_6, b_7, c_8, d_9, e_10, f_11, g_12, h_13] : List UInt32) (0 : Int) state_2 t_4
def zq46_1 (N : Nat) (a_6 : UInt32) (b_7 : UInt32) (c_8 : UInt32) (d_9 : UInt32) (e_10 : UInt32) (f_11 : UInt32) (g_12 : UInt32) (h_13 : UInt32) (t_41 : (List UInt32)) (t_42 : Int) (state_2 : (List UInt32)) (t_4 : (List UInt32)) : Option zq46_R :=
 loopK N (fun y => zq46_s2 N y.1.1 y.1.2.1 y.1.2.2.1 y.1.2.2.2.1 y.1.2.2.2.2.1 y.1.2.2.2.2.2.1 y.1.2.2.2.2.2.2.1 y.1.2.2.2.2.2.2.2.1 y.1.2.2.2.2.2.2.2.2.1 y.1.2.2.2.2.2.2.2.2.2.1 y.2.1 y.2.2.1) (fun (e : ((UInt32 × UInt32 × UInt32 × UInt32 × UInt32 × UInt32 × UInt32 × UInt32 × Unit) × ((List UInt32) × (List UInt32) × Unit))) => zq46_3 N e.1.1 e.1.2.1 e.1.2.2.1 e.1.2.2.2.1 e.1.2.2.2.2.1 e.1.2.2.2.2.2.1 e.1.2.2.2.2.2.2.1 e.1.2.2.2.2.2.2.2.1 e.2.1 e.2.2.1) ((a_6, b_7, c_8, d_9, e_10, f_11, g_12, h_13, t_41, t_42, ()), (state_2, t_4, ()))
def zq46 (N : Nat) (state_0 : (List UInt32)) (block_1 : List UInt8) : Option zq46_R :=
 bif (!(decide ((block_1.length : Int) = (64 : Int)))) then
  some (((List.replicate 8 (0 : UInt32)), false, ()), ())
 else
  Option.bind (zq29 N block_1) fun y12 =>
  zq46_1 N (state_0.getD 0 (0 : UInt32)) (state_0.getD 1 (0 : UInt32)) (state_0.getD 2 (0 : UInt32)) (state_0.getD 3 (0 : UInt32)) (state_0.getD 4 (0 : UInt32)) (state_0.getD 5 (0 : UInt32)) (state_0.getD 6 (0 : UInt32)) (state_0.getD 7 (0 : UInt32)) y12.1.1 (0 : Int) state_0 (List.replicate 8 (0 : UInt32))
def zq46_C (N : Nat) := Cx 125 [(94, zq29_ctr N), (95, zq55_ctr N)]
def zq46_S0 : Spec := ⟨[.ref 0 (.arr 8 .u32), .ref 1 (.arr 8 .u32), .val .u32, .val .u32, .val .u32, .val .u32, .val .u32, .val .u32, .val .u32, .val .u32, .val (.arr 64 .u32), .val .i64], [(.box 84 (.arr 8 .u32), .pos 0), (.box 84 (.arr 8 .u32), .pos 1)]⟩
def zq46_S1 : Spec := ⟨[.ref 0 (.arr 8 .u32), .ref 1 (.arr 8 .u32), .val (.arr 8 .u32), .val .i64], [(.box 84 (.arr 8 .u32), .pos 0), (.box 84 (.arr 8 .u32), .pos 1)]⟩
def zq46_S2 : Spec := ⟨[.ref 0 (.arr 8 .u32), .ref 1 (.arr 8 .u32)], [(.box 84 (.arr 8 .u32), .pos 0), (.box 84 (.arr 8 .u32), .pos 1)]⟩
def zq46_S3 : Spec := ⟨[.ref 0 (.arr 8 .u32), .ref 1 (.arr 8 .u32), .val .u32, .val .u32, .val .u32, .val .u32, .val .u32, .val .u32, .val .u32, .val .u32], [(.box 84 (.arr 8 .u32), .pos 0), (.box 84 (.arr 8 .u32), .pos 1)]⟩
def zq46_S4 : Spec := ⟨[.val (.arr 8 .u32), .val (.sl .u8)], []⟩
def zq46_S5 : Spec := ⟨[.fp (.arr 8 .u32), .val .bool], []⟩
def zq46_K : XE → GS → Option zq46_R := retK 0 [4, 5] [true, false] zq46_S5
noncomputable def zq46_L : List Code := (bodyOf (some Tryz.f69))
def zq46_L2 : List Code := (loopOf (zq46_L[5]?))
def zq46_L5 : List Code := (loopOf (zq46_L[7]?))
def zq46_K2 (N : Nat) := roundK (some 0) (fit 0 [2, 4, 6, 7, 8, 9, 10, 11, 12, 13, 41, 42] zq46_S0) (fit 0 [2, 4, 6, 7, 8, 9, 10, 11, 12, 13] zq46_S3) zq46_K
def zq46_K5 (N : Nat) := roundK (some 2) (fit 0 [2, 4, 112, 113] zq46_S1) (fit 0 [2, 4] zq46_S2) zq46_K
theorem zq46_s2_b (N) : Bk 0 (zq46_C N) [2, 4, 6, 7, 8, 9, 10, 11, 12, 13, 41, 42] zq46_S0 (zq46_L2.drop 0) (fun y => zq46_s2 N y.1.1 y.1.2.1 y.1.2.2.1 y.1.2.2.2.1 y.1.2.2.2.2.1 y.1.2.2.2.2.2.1 y.1.2.2.2.2.2.2.1 y.1.2.2.2.2.2.2.2.1 y.1.2.2.2.2.2.2.2.2.1 y.1.2.2.2.2.2.2.2.2.2.1 y.2.1 y.2.2.1) (zq46_K2 N) :=
 cE 4
theorem zq46_s5_b (N) : Bk 0 (zq46_C N) [2, 4, 112, 113] zq46_S1 (zq46_L5.drop 0) (fun y => zq46_s5 N y.1.1 y.1.2.1 y.2.1 y.2.2.1) (zq46_K5 N) :=
 cE 4
theorem zq46_6_b (N) : Bk 0 (zq46_C N) [2, 4] zq46_S2 (zq46_L.drop 8) (fun y => zq46_6 N y.2.1 y.2.2.1) zq46_K :=
 cE 2
theorem zq46_4_b (N) : Bk 0 (zq46_C N) [2, 4, 112, 113] zq46_S1 (zq46_L.drop 7) (fun y => zq46_4 N y.1.1 y.1.2.1 y.2.1 y.2.2.1) zq46_K :=
 lG N zq46_S1 [2, 4] zq46_S2 (zq46_6_b N) (zq46_s5_b N)
theorem zq46_3_b (N) : Bk 0 (zq46_C N) [2, 4, 6, 7, 8, 9, 10, 11, 12, 13] zq46_S3 (zq46_L.drop 6) (fun y => zq46_3 N y.1.1 y.1.2.1 y.1.2.2.1 y.1.2.2.2.1 y.1.2.2.2.2.1 y.1.2.2.2.2.2.1 y.1.2.2.2.2.2.2.1 y.1.2.2.2.2.2.2.2.1 y.2.1 y.2.2.1) zq46_K :=
 cG 1 (zq46_4_b N)
theorem zq46_1_b (N) : Bk 0 (zq46_C N) [2, 4, 6, 7, 8, 9, 10, 11, 12, 13, 41, 42] zq46_S0 (zq46_L.drop 5) (fun y => zq46_1 N y.1.1 y.1.2.1 y.1.2.2.1 y.1.2.2.2.1 y.1.2.2.2.2.1 y.1.2.2.2.2.2.1 y.1.2.2.2.2.2.2.1 y.1.2.2.2.2.2.2.2.1 y.1.2.2.2.2.2.2.2.2.1 y.1.2.2.2.2.2.2.2.2.2.1 y.2.1 y.2.2.1) zq46_K :=
 lG N zq46_S0 [2, 4, 6, 7, 8, 9, 10, 11, 12, 13] zq46_S3 (zq46_3_b N) (zq46_s2_b N)
theorem zq46_b (N) : Bk 0 (zq46_C N) (List.range zq46_S4.ks.length) zq46_S4 (zq46_L.drop 0) (fun y => zq46 N y.1.1 y.1.2.1) zq46_K :=
 cG 5 (zq46_1_b N)
def zq46_ctr (N : Nat) : Ctr := ⟨zq46_S4, zq46_S5.un [true, false], 0, (fun y => zq46 N y.1.1 y.1.2.1)⟩
theorem zq46_ok (N : Nat) : COk 69 (zq46_ctr N) :=
 cF (zw3 (Γ := zq46_C N) zw2 (csc (zq29_ok N) (csc (zq55_ok N) csn))) Tryz.func69 Tryz.ntmps69 (zq46_b N)
abbrev zq89_R : Type := (Unit × (List UInt8 × Unit))
def zq89_s2 (N : Nat) (all_3 : List UInt8) (at_5 : Int) (state_4 : (List UInt32)) : Option (Lo ((List UInt8 × Int × Unit) × ((List UInt32) × Unit)) (Unit × ((List UInt32) × Unit)) zq89_R) :=
 bif (decide (at_5 < (all_3.length : Int))) then
  let x6 := w64 (at_5 + (64 : Int))
  bif decide (0 ≤ at_5) && decide (at_5 ≤ x6) && decide (x6 ≤ (all_3.length : Int)) && true then
  Option.bind (zq46 N state_4 (cut all_3 at_5.toNat x6.toNat)) fun y8 =>
  some (.go ((all_3, (w64 (at_5 + (64 : Int))), ()), (y8.1.1, ())))
  else none
 else
  some (.br ((), (state_4, ())))
def zq89_s5 (N : Nat) (t_32 : (List UInt32)) (t_33 : Int) (out_6 : List UInt8) : Option (Lo (((List UInt32) × Int × Unit) × (List UInt8 × Unit)) (Unit × (List UInt8 × Unit)) zq89_R) :=
 bif (decide (t_33 < (8 : Int))) then
  bif inR t_33 8 then
  Option.bind (zq118 N (t_32.getD t_33.toNat (0 : UInt32)).toUInt64 (4 : Int) out_6) fun y12 =>
  some (.go ((t_32, (w64 (t_33 + (1 : Int))), ()), (y12.2.1, ())))
  else none
 else
  some (.br ((), (out_6, ())))
def zq89_6 (N : Nat) (out_6 : List UInt8) : Option zq89_R :=
 some ((), (out_6, ()))
def zq89_4 (N : Nat) (t_32 : (List UInt32)) (t_33 : Int) (out_6 : List UInt8) : Option zq89_R :=
 loopK N (fun y => zq89_s5 N y.1.1 y.1.2.1 y.2.1) (fun (e : (Unit × (List UInt8 × Unit))) => zq89_6 N e.2.1) ((t_32, t_33, ()), (out_6, ()))
def zq89_3 (N : Nat) (state_4 : (List UInt32)) : Option zq89_R :=
 zq89_4 N state_4 (0 : Int) ([] : List UInt8)
def zq89_1 (N : Nat) (at_5 : Int) (all_3 : List UInt8) (state_4 : (List UInt32)) : Option zq89_R :=
 loopK N (fun y => zq89_s2 N y.1.1 y.1.2.1 y.2.1) (fun (e : (Unit × ((List UInt32) × Unit))) => zq89_3 N e.2.1) ((all_3, at_5, ()), (state_4, ()))
def zq89 (N : Nat) (b_0 : List UInt8) : Option zq89_R :=
 bif room (0 + b_0.length) 1 then
 Option.bind (zq99 N (b_0.length : Int)) fun y2 =>
 bif room (b_0.length + y2.2.1.length) 1 then
 zq89_1 N (0 : Int) (b_0 ++ y2.2.1) zw15
 else none
 else none
def zq89_C (N : Nat) := Cx 42 [(68, zq99_ctr N), (69, zq46_ctr N), (67, zq118_ctr N)]
def zq89_S0 : Spec := ⟨[.val (.sl .u8), .ref 0 (.arr 8 .u32), .val .i64], [(.box 84 (.arr 8 .u32), .pos 1)]⟩
def zq89_S1 : Spec := ⟨[.row 0, .val (.arr 8 .u32), .val .i64], [(.row 5 .u8, .pos 0)]⟩
def zq89_S2 : Spec := ⟨[.row 0], [(.row 5 .u8, .pos 0)]⟩
def zq89_S3 : Spec := ⟨[.ref 0 (.arr 8 .u32)], [(.box 84 (.arr 8 .u32), .pos 0)]⟩
def zq89_S4 : Spec := ⟨[.row 0, .ref 1 (.arr 8 .u32), .val .i64], [(.row 5 .u8, .pos 0), (.box 84 (.arr 8 .u32), .pos 1)]⟩
def zq89_S5 : Spec := ⟨[.val (.sl .u8)], []⟩
def zq89_K : XE → GS → Option zq89_R := retK 0 [2] [false] zq89_S2
noncomputable def zq89_L : List Code := (bodyOf (some Tryz.f42))
def zq89_L2 : List Code := (loopOf (zq89_L[4]?))
def zq89_L5 : List Code := (loopOf (zq89_L[7]?))
def zq89_K2 (N : Nat) := roundK (some 0) (fit 0 [3, 4, 5] zq89_S0) (fit 0 [4] zq89_S3) zq89_K
def zq89_K5 (N : Nat) := roundK (some 2) (fit 0 [6, 32, 33] zq89_S1) (fit 0 [6] zq89_S2) zq89_K
theorem zq89_s2_b (N) : Bk 0 (zq89_C N) [3, 4, 5] zq89_S0 (zq89_L2.drop 0) (fun y => zq89_s2 N y.1.1 y.1.2.1 y.2.1) (zq89_K2 N) :=
 cE 4
theorem zq89_s5_b (N) : Bk 0 (zq89_C N) [6, 32, 33] zq89_S1 (zq89_L5.drop 0) (fun y => zq89_s5 N y.1.1 y.1.2.1 y.2.1) (zq89_K5 N) :=
 cE 4
theorem zq89_6_b (N) : Bk 0 (zq89_C N) [6] zq89_S2 (zq89_L.drop 8) (fun y => zq89_6 N y.2.1) zq89_K :=
 cE 2
theorem zq89_4_b (N) : Bk 0 (zq89_C N) [6, 32, 33] zq89_S1 (zq89_L.drop 7) (fun y => zq89_4 N y.1.1 y.1.2.1 y.2.1) zq89_K :=
 lG N zq89_S1 [6] zq89_S2 (zq89_6_b N) (zq89_s5_b N)
theorem zq89_3_b (N) : Bk 0 (zq89_C N) [4] zq89_S3 (zq89_L.drop 5) (fun y => zq89_3 N y.2.1) zq89_K :=
 cG 2 (zq89_4_b N)
theorem zq89_1_b (N) : Bk 0 (zq89_C N) [3, 4, 5] zq89_S4 (zq89_L.drop 4) (fun y => zq89_1 N y.1.1 y.2.1 y.2.2.1) zq89_K :=
 lG N zq89_S0 [4] zq89_S3 (zq89_3_b N) (zq89_s2_b N)
theorem zq89_b (N) : Bk 0 (zq89_C N) (List.range zq89_S5.ks.length) zq89_S5 (zq89_L.drop 0) (fun y => zq89 N y.1.1) zq89_K :=
 cG 4 (zq89_1_b N)
def zq89_ctr (N : Nat) : Ctr := ⟨zq89_S5, zq89_S2.un [false], 0, (fun y => zq89 N y.1.1)⟩
theorem zq89_ok (N : Nat) : COk 42 (zq89_ctr N) :=
 cF (zw3 (Γ := zq89_C N) zw2 (csc (zq99_ok N) (csc (zq46_ok N) (csc (zq118_ok N) csn)))) Tryz.func42 Tryz.ntmps42 (zq89_b N)
abbrev zq17_R : Type := ((Int × Unit) × (List UInt8 × Unit))
def zq17 (N : Nat) (t_0 : D24) : Option zq17_R :=
 Option.bind (zq18 N t_0) fun y1 =>
 bif (!(decide (y1.1.1 = (0 : Int)))) then
  some ((y1.1.1, ()), (([] : List UInt8), ()))
 else
  Option.bind (zq89 N y1.2.1) fun y3 =>
  some (((0 : Int), ()), (y3.2.1, ()))
def zq17_C (N : Nat) := Cx 16 [(12, zq18_ctr N), (42, zq89_ctr N)]
def zq17_S0 : Spec := ⟨[.val T24], []⟩
def zq17_S1 : Spec := ⟨[.row 0, .val .i64], [(.row 5 .u8, .pos 0)]⟩
def zq17_K : XE → GS → Option zq17_R := retK 0 [2, 3] [false, false] zq17_S1
noncomputable def zq17_L : List Code := (bodyOf (some Tryz.f14))
theorem zq17_b (N) : Bk 0 (zq17_C N) (List.range zq17_S0.ks.length) zq17_S0 (zq17_L.drop 0) (fun y => zq17 N y.1.1) zq17_K :=
 cE 6
def zq17_ctr (N : Nat) : Ctr := ⟨zq17_S0, zq17_S1.un [false, false], 0, (fun y => zq17 N y.1.1)⟩
theorem zq17_ok (N : Nat) : COk 14 (zq17_ctr N) :=
 cF (zw3 (Γ := zq17_C N) zw2 (csc (zq18_ok N) (csc (zq89_ok N) csn))) Tryz.func14 Tryz.ntmps14 (zq17_b N)
abbrev zq37_R : Type := (Unit × (List UInt8 × Unit))
def zq37 (N : Nat) (t_0 : D24) : Option zq37_R :=
 Option.bind (zq17 N t_0) fun y1 =>
 bif (!(decide (y1.1.1 = (0 : Int)))) then
  none
 else
  some ((), (y1.2.1, ()))
def zq37_C (N : Nat) := Cx 15 [(14, zq17_ctr N)]
def zq37_S0 : Spec := ⟨[.val T24], []⟩
def zq37_S1 : Spec := ⟨[.row 0], [(.row 5 .u8, .pos 0)]⟩
def zq37_K : XE → GS → Option zq37_R := retK 0 [2] [false] zq37_S1
noncomputable def zq37_L : List Code := (bodyOf (some Tryz.f84))
theorem zq37_b (N) : Bk 0 (zq37_C N) (List.range zq37_S0.ks.length) zq37_S0 (zq37_L.drop 0) (fun y => zq37 N y.1.1) zq37_K :=
 cE 6
def zq37_ctr (N : Nat) : Ctr := ⟨zq37_S0, zq37_S1.un [false], 0, (fun y => zq37 N y.1.1)⟩
theorem zq37_ok (N : Nat) : COk 84 (zq37_ctr N) :=
 cF (zw3 (Γ := zq37_C N) zw2 (csc (zq17_ok N) csn)) Tryz.func84 Tryz.ntmps84 (zq37_b N)
abbrev zq7_R : Type := (Unit × (List UInt8 × Unit))
def zq7 (N : Nat) (t_1 : D24) (b_0 : List UInt8) : Option zq7_R :=
 Option.bind (zq37 N t_1) fun y1 =>
 bif room (b_0.length + y1.2.1.length) 1 then
 some ((), ((b_0 ++ y1.2.1), ()))
 else none
def zq7_C (N : Nat) := Cx 9 [(84, zq37_ctr N)]
def zq7_S0 : Spec := ⟨[.row 0, .val T24], [(.row 5 .u8, .pos 0)]⟩
def zq7_S1 : Spec := ⟨[.row 0], [(.row 5 .u8, .pos 0)]⟩
def zq7_K : XE → GS → Option zq7_R := retK 0 [4] [false] zq7_S1
noncomputable def zq7_L : List Code := (bodyOf (some Tryz.f83))
theorem zq7_b (N) : Bk 0 (zq7_C N) (List.range zq7_S0.ks.length) zq7_S0 (zq7_L.drop 0) (fun y => zq7 N y.1.1 y.2.1) zq7_K :=
 cE 3
def zq7_ctr (N : Nat) : Ctr := ⟨zq7_S0, zq7_S1.un [false], 0, (fun y => zq7 N y.1.1 y.2.1)⟩
theorem zq7_ok (N : Nat) : COk 83 (zq7_ctr N) :=
 cF (zw3 (Γ := zq7_C N) zw2 (csc (zq37_ok N) csn)) Tryz.func83 Tryz.ntmps83 (zq7_b N)
abbrev zq12_R : Type := (Unit × (List UInt8 × Unit))
def zq12_s2 (N : Nat) (rc : D24 → Option (Unit × (List UInt8 × Unit))) (t_15 : (List D24)) (t_16 : Int) (t_17 : Int) (b_0 : List UInt8) : Option (Lo (((List D24) × Int × Int × Unit) × (List UInt8 × Unit)) (Unit × (List UInt8 × Unit)) zq12_R) :=
 bif (decide (t_17 < t_16)) then
  bif inR t_17 t_15.length then
  Option.bind (rc (t_15.getD t_17.toNat ((0 : Int), (0 : Int), ([] : List Tree), ()))) fun y9 =>
  Option.bind (zq118 N (iu64 (y9.2.1.length : Int)) (2 : Int) b_0) fun y12 =>
  bif room (y12.2.1.length + y9.2.1.length) 1 then
  some (.go ((t_15, t_16, (w64 (t_17 + (1 : Int))), ()), ((y12.2.1 ++ y9.2.1), ())))
  else none
  else none
 else
  some (.br ((), (b_0, ())))
def zq12_3 (N : Nat) (rc : D24 → Option (Unit × (List UInt8 × Unit))) (b_0 : List UInt8) : Option zq12_R :=
 some ((), (b_0, ()))
def zq12_1 (N : Nat) (rc : D24 → Option (Unit × (List UInt8 × Unit))) (t_15 : (List D24)) (t_16 : Int) (t_17 : Int) (b_0 : List UInt8) : Option zq12_R :=
 loopK N (fun y => zq12_s2 N rc y.1.1 y.1.2.1 y.1.2.2.1 y.2.1) (fun (e : (Unit × (List UInt8 × Unit))) => zq12_3 N rc e.2.1) ((t_15, t_16, t_17, ()), (b_0, ()))
def zq12 (N : Nat) (rc : D24 → Option (Unit × (List UInt8 × Unit))) (t_1 : D24) (b_0 : List UInt8) : Option zq12_R :=
 Option.bind (zq118 N (iu64 ((List.map Tree.un t_1.2.2.1).length : Int)) (2 : Int) b_0) fun y4 =>
 let x5 := List.map Tree.un t_1.2.2.1
 zq12_1 N rc x5 (x5.length : Int) (0 : Int) y4.2.1
def zq12_S0 : Spec := ⟨[.row 0, .val (.sl T24), .val .i64, .val .i64], [(.row 5 .u8, .pos 0)]⟩
def zq12_S1 : Spec := ⟨[.row 0], [(.row 5 .u8, .pos 0)]⟩
def zq12_S2 : Spec := ⟨[.row 0, .val T24], [(.row 5 .u8, .pos 0)]⟩
def zq12_S3 : Spec := ⟨[.val T24], []⟩
def zq12_ftr (N : Nat) (rc : D24 → Option (Unit × (List UInt8 × Unit))) : Ctr := ⟨zq12_S3, zq12_S1.un [false], 0, (fun y => rc y.1.1)⟩
def zq12_C (N : Nat) (rc : D24 → Option (Unit × (List UInt8 × Unit))) (xv : Option Value) := Cxx xv 32 [(67, zq118_ctr N), (37, zq12_ftr N rc)]
def zq12_K : XE → GS → Option zq12_R := retK 0 [4] [false] zq12_S1
noncomputable def zq12_L : List Code := (bodyOf (some Tryz.f86))
def zq12_L2 : List Code := (loopOf (zq12_L[3]?))
def zq12_K2 (N : Nat) (rc : D24 → Option (Unit × (List UInt8 × Unit))) := roundK (some 0) (fit 0 [0, 15, 16, 17] zq12_S0) (fit 0 [0] zq12_S1) zq12_K
theorem zq12_s2_b (N) (rc) (xv) : Bk 0 (zq12_C N rc xv) [0, 15, 16, 17] zq12_S0 (zq12_L2.drop 0) (fun y => zq12_s2 N rc y.1.1 y.1.2.1 y.1.2.2.1 y.2.1) (zq12_K2 N rc) :=
 cE 4
theorem zq12_3_b (N) (rc) (xv) : Bk 0 (zq12_C N rc xv) [0] zq12_S1 (zq12_L.drop 4) (fun y => zq12_3 N rc y.2.1) zq12_K :=
 cE 2
theorem zq12_1_b (N) (rc) (xv) : Bk 0 (zq12_C N rc xv) [0, 15, 16, 17] zq12_S0 (zq12_L.drop 3) (fun y => zq12_1 N rc y.1.1 y.1.2.1 y.1.2.2.1 y.2.1) zq12_K :=
 lG N zq12_S0 [0] zq12_S1 (zq12_3_b N rc xv) (zq12_s2_b N rc xv)
theorem zq12_b (N) (rc) (xv) : Bk 0 (zq12_C N rc xv) (List.range zq12_S2.ks.length) zq12_S2 (zq12_L.drop 0) (fun y => zq12 N rc y.1.1 y.2.1) zq12_K :=
 cG 3 (zq12_1_b N rc xv)
def zq12_octr (N : Nat) (rc : D24 → Option (Unit × (List UInt8 × Unit))) : Ctr := ⟨zq12_S2, zq12_S1.un [false], 0, (fun y => zq12 N rc y.1.1 y.2.1)⟩
theorem zq12_okx (N : Nat) (rc : D24 → Option (Unit × (List UInt8 × Unit))) (xv : Option Value) (hf : Ctr.okx xv Tryz.prog zw8 37 (zq12_ftr N rc)) : Ctr.okx xv Tryz.prog zw8 86 (zq12_octr N rc) :=
 cFx (xv := xv) (zw5g (Γ := zq12_C N rc xv) zw2 (cxc (zq118_ok N).okx (cxc hf cxn))) Tryz.func86 Tryz.ntmps86 (zq12_b N rc xv)
theorem zq12_ook (N : Nat) (rc : D24 → Option (Unit × (List UInt8 × Unit))) (hf : COk 37 (zq12_ftr N rc)) : COk 86 (zq12_octr N rc) := (zq12_okx N rc none hf.okx).strict
abbrev zq14_R : Type := ((UInt64 × Unit) × Unit)
def zq14 (N : Nat) (t_0 : D24) : Option zq14_R :=
 Option.bind (zq17 N t_0) fun y1 =>
 bif (!(decide (y1.1.1 = (0 : Int)))) then
  some (((1 : UInt64), ()), ())
 else
  Option.bind (zq69 N y1.2.1 (0 : Int) (8 : Int)) fun y3 =>
  some ((((1 : UInt64) + (y3.1.1 % (2305843009213688668 : UInt64))), ()), ())
def zq14_C (N : Nat) := Cx 22 [(14, zq17_ctr N), (44, zq69_ctr N)]
def zq14_S0 : Spec := ⟨[.val T24], []⟩
def zq14_S1 : Spec := ⟨[.val .u64], []⟩
def zq14_K : XE → GS → Option zq14_R := retK 0 [2] [false] zq14_S1
noncomputable def zq14_L : List Code := (bodyOf (some Tryz.f17))
theorem zq14_b (N) : Bk 0 (zq14_C N) (List.range zq14_S0.ks.length) zq14_S0 (zq14_L.drop 0) (fun y => zq14 N y.1.1) zq14_K :=
 cE 7
def zq14_ctr (N : Nat) : Ctr := ⟨zq14_S0, zq14_S1.un [false], 0, (fun y => zq14 N y.1.1)⟩
theorem zq14_ok (N : Nat) : COk 17 (zq14_ctr N) :=
 cF (zw3 (Γ := zq14_C N) zw2 (csc (zq17_ok N) (csc (zq69_ok N) csn))) Tryz.func17 Tryz.ntmps17 (zq14_b N)
abbrev zq75_R : Type := ((Bool × Unit) × Unit)
def zq75 (N : Nat) (secret_0 : UInt64) : Option zq75_R :=
 bif (decide ((1 : UInt64) ≤ secret_0)) then
  some (((decide (secret_0 < (2305843009213688669 : UInt64))), ()), ())
 else
  some ((false, ()), ())
def zq75_C (N : Nat) := Cx 9 []
def zq75_S0 : Spec := ⟨[.val .u64], []⟩
def zq75_S1 : Spec := ⟨[.val .bool], []⟩
def zq75_K : XE → GS → Option zq75_R := retK 0 [2] [false] zq75_S1
noncomputable def zq75_L : List Code := (bodyOf (some Tryz.f137))
theorem zq75_b (N) : Bk 0 (zq75_C N) (List.range zq75_S0.ks.length) zq75_S0 (zq75_L.drop 0) (fun y => zq75 N y.1.1) zq75_K :=
 cE 3
def zq75_ctr (N : Nat) : Ctr := ⟨zq75_S0, zq75_S1.un [false], 0, (fun y => zq75 N y.1.1)⟩
theorem zq75_ok (N : Nat) : COk 137 (zq75_ctr N) :=
 cF (zw3 (Γ := zq75_C N) zw2 csn) Tryz.func137 Tryz.ntmps137 (zq75_b N)
abbrev zq23_R : Type := ((UInt64 × UInt64 × Unit) × Unit)
def zq23 (N : Nat) (x_0 : UInt64) (y_1 : UInt64) : Option zq23_R :=
 let x1 := x_0 &&& (4294967295 : UInt64)
 let x3 := y_1 &&& (4294967295 : UInt64)
 some ((((((shr64 x_0 32) * (shr64 y_1 32)) + (shr64 (((shr64 x_0 32) * x3) + (shr64 (x1 * x3) 32)) 32)) + (shr64 (((((shr64 x_0 32) * x3) + (shr64 (x1 * x3) 32)) &&& (4294967295 : UInt64)) + (x1 * (shr64 y_1 32))) 32)), (x_0 * y_1), ()), ())
def zq23_C (N : Nat) := Cx 51 []
def zq23_S0 : Spec := ⟨[.val .u64, .val .u64], []⟩
def zq23_K : XE → GS → Option zq23_R := retK 0 [4, 5] [false, false] zq23_S0
noncomputable def zq23_L : List Code := (bodyOf (some Tryz.f154))
theorem zq23_b (N) : Bk 0 (zq23_C N) (List.range zq23_S0.ks.length) zq23_S0 (zq23_L.drop 0) (fun y => zq23 N y.1.1 y.1.2.1) zq23_K :=
 cE 13
def zq23_ctr (N : Nat) : Ctr := ⟨zq23_S0, zq23_S0.un [false, false], 0, (fun y => zq23 N y.1.1 y.1.2.1)⟩
theorem zq23_ok (N : Nat) : COk 154 (zq23_ctr N) :=
 cF (zw3 (Γ := zq23_C N) zw2 csn) Tryz.func154 Tryz.ntmps154 (zq23_b N)
abbrev zq26_R : Type := ((Int × Unit) × Unit)
def zq26_3 (N : Nat) (x_0 : UInt64) (n_2 : Int) : Option zq26_R :=
 bif inR (x_0.toUInt8.toNat : Int) (([0, 1, 2, 2, 3, 3, 3, 3, 4, 4, 4, 4, 4, 4, 4, 4, 5, 5, 5, 5, 5, 5, 5, 5, 5, 5, 5, 5, 5, 5, 5, 5, 6, 6, 6, 6, 6, 6, 6, 6, 6, 6, 6, 6, 6, 6, 6, 6, 6, 6, 6, 6, 6, 6, 6, 6, 6, 6, 6, 6, 6, 6, 6, 6, 7, 7, 7, 7, 7, 7, 7, 7, 7, 7, 7, 7, 7, 7, 7, 7, 7, 7, 7, 7, 7, 7, 7, 7, 7, 7, 7, 7, 7, 7, 7, 7, 7, 7, 7, 7, 7, 7, 7, 7, 7, 7, 7, 7, 7, 7, 7, 7, 7, 7, 7, 7, 7, 7, 7, 7, 7, 7, 7, 7, 7, 7, 7, 7, 8, 8, 8, 8, 8, 8, 8, 8, 8, 8, 8, 8, 8, 8, 8, 8, 8, 8, 8, 8, 8, 8, 8, 8, 8, 8, 8, 8, 8, 8, 8, 8, 8, 8, 8, 8, 8, 8, 8, 8, 8, 8, 8, 8, 8, 8, 8, 8, 8, 8, 8, 8, 8, 8, 8, 8, 8, 8, 8, 8, 8, 8, 8, 8, 8, 8, 8, 8, 8, 8, 8, 8, 8, 8, 8, 8, 8, 8, 8, 8, 8, 8, 8, 8, 8, 8, 8, 8, 8, 8, 8, 8, 8, 8, 8, 8, 8, 8, 8, 8, 8, 8, 8, 8, 8, 8, 8, 8, 8, 8, 8, 8, 8, 8, 8, 8, 8, 8, 8, 8, 8, 8, 8, 8, 8, 8, 8, 8] : List UInt8).length) then
 some (((w64 (n_2 + ((([0, 1, 2, 2, 3, 3, 3, 3, 4, 4, 4, 4, 4, 4, 4, 4, 5, 5, 5, 5, 5, 5, 5, 5, 5, 5, 5, 5, 5, 5, 5, 5, 6, 6, 6, 6, 6, 6, 6, 6, 6, 6, 6, 6, 6, 6, 6, 6, 6, 6, 6, 6, 6, 6, 6, 6, 6, 6, 6, 6, 6, 6, 6, 6, 7, 7, 7, 7, 7, 7, 7, 7, 7, 7, 7, 7, 7, 7, 7, 7, 7, 7, 7, 7, 7, 7, 7, 7, 7, 7, 7, 7, 7, 7, 7, 7, 7, 7, 7, 7, 7, 7, 7, 7, 7, 7, 7, 7, 7, 7, 7, 7, 7, 7, 7, 7, 7, 7, 7, 7, 7, 7, 7, 7, 7, 7, 7, 7, 8, 8, 8, 8, 8, 8, 8, 8, 8, 8, 8, 8, 8, 8, 8, 8, 8, 8, 8, 8, 8, 8, 8, 8, 8, 8, 8, 8, 8, 8, 8, 8, 8, 8, 8, 8, 8, 8, 8, 8, 8, 8, 8, 8, 8, 8, 8, 8, 8, 8, 8, 8, 8, 8, 8, 8, 8, 8, 8, 8, 8, 8, 8, 8, 8, 8, 8, 8, 8, 8, 8, 8, 8, 8, 8, 8, 8, 8, 8, 8, 8, 8, 8, 8, 8, 8, 8, 8, 8, 8, 8, 8, 8, 8, 8, 8, 8, 8, 8, 8, 8, 8, 8, 8, 8, 8, 8, 8, 8, 8, 8, 8, 8, 8, 8, 8, 8, 8, 8, 8, 8, 8, 8, 8, 8, 8, 8, 8] : List UInt8).getD ((x_0.toUInt8.toNat : Int).toNat) 0).toNat : Int))), ()), ())
 else none
def zq26_2 (N : Nat) (x_0 : UInt64) (n_2 : Int) : Option zq26_R :=
 bif (decide ((256 : UInt64) ≤ x_0)) then
  zq26_3 N (shr64 x_0 8) (w64 (n_2 + (8 : Int)))
 else
  zq26_3 N x_0 n_2
def zq26_1 (N : Nat) (x_0 : UInt64) (n_2 : Int) : Option zq26_R :=
 bif (decide ((65536 : UInt64) ≤ x_0)) then
  zq26_2 N (shr64 x_0 16) (w64 (n_2 + (16 : Int)))
 else
  zq26_2 N x_0 n_2
def zq26 (N : Nat) (x_0 : UInt64) : Option zq26_R :=
 bif (decide ((4294967296 : UInt64) ≤ x_0)) then
  zq26_1 N (shr64 x_0 32) (32 : Int)
 else
  zq26_1 N x_0 (0 : Int)
def zq26_C (N : Nat) := Cx 25 []
def zq26_S0 : Spec := ⟨[.val .u64, .val .i64], []⟩
def zq26_S1 : Spec := ⟨[.val .u64], []⟩
def zq26_S2 : Spec := ⟨[.val .i64], []⟩
def zq26_K : XE → GS → Option zq26_R := retK 0 [2] [false] zq26_S2
noncomputable def zq26_L : List Code := (bodyOf (some Tryz.f158))
theorem zq26_3_b (N) : Bk 0 (zq26_C N) [0, 2] zq26_S0 (zq26_L.drop 7) (fun y => zq26_3 N y.1.1 y.1.2.1) zq26_K :=
 cE 2
theorem zq26_2_b (N) : Bk 0 (zq26_C N) [0, 2] zq26_S0 (zq26_L.drop 5) (fun y => zq26_2 N y.1.1 y.1.2.1) zq26_K :=
 cG 2 (zq26_3_b N)
theorem zq26_1_b (N) : Bk 0 (zq26_C N) [0, 2] zq26_S0 (zq26_L.drop 3) (fun y => zq26_1 N y.1.1 y.1.2.1) zq26_K :=
 cG 2 (zq26_2_b N)
theorem zq26_b (N) : Bk 0 (zq26_C N) (List.range zq26_S1.ks.length) zq26_S1 (zq26_L.drop 0) (fun y => zq26 N y.1.1) zq26_K :=
 cG 3 (zq26_1_b N)
def zq26_ctr (N : Nat) : Ctr := ⟨zq26_S1, zq26_S2.un [false], 0, (fun y => zq26 N y.1.1)⟩
theorem zq26_ok (N : Nat) : COk 158 (zq26_ctr N) :=
 cF (zw3 (Γ := zq26_C N) zw2 csn) Tryz.func158 Tryz.ntmps158 (zq26_b N)
abbrev zq1_R : Type := ((Int × Unit) × Unit)
def zq1 (N : Nat) (x_0 : UInt64) : Option zq1_R :=
 Option.bind (zq26 N x_0) fun y1 =>
 some (((w64 ((64 : Int) - y1.1.1)), ()), ())
def zq1_C (N : Nat) := Cx 6 [(158, zq26_ctr N)]
def zq1_S0 : Spec := ⟨[.val .u64], []⟩
def zq1_S1 : Spec := ⟨[.val .i64], []⟩
def zq1_K : XE → GS → Option zq1_R := retK 0 [2] [false] zq1_S1
noncomputable def zq1_L : List Code := (bodyOf (some Tryz.f157))
theorem zq1_b (N) : Bk 0 (zq1_C N) (List.range zq1_S0.ks.length) zq1_S0 (zq1_L.drop 0) (fun y => zq1 N y.1.1) zq1_K :=
 cE 3
def zq1_ctr (N : Nat) : Ctr := ⟨zq1_S0, zq1_S1.un [false], 0, (fun y => zq1 N y.1.1)⟩
theorem zq1_ok (N : Nat) : COk 157 (zq1_ctr N) :=
 cF (zw3 (Γ := zq1_C N) zw2 (csc (zq26_ok N) csn)) Tryz.func157 Tryz.ntmps157 (zq1_b N)
abbrev zq19_R : Type := ((UInt64 × UInt64 × Unit) × Unit)
def zq19_5 (N : Nat) (y_2 : UInt64) (s_8 : UInt64) (yn1_9 : UInt64) (yn0_10 : UInt64) (un32_11 : UInt64) (un1_13 : UInt64) (un0_14 : UInt64) (q1_15 : UInt64) (rhat_16 : UInt64) (t_78 : Bool) : Option (Lo ((UInt64 × UInt64 × UInt64 × UInt64 × UInt64 × UInt64 × UInt64 × UInt64 × UInt64 × Unit) × Unit) ((UInt64 × UInt64 × UInt64 × UInt64 × UInt64 × UInt64 × UInt64 × UInt64 × Unit) × Unit) zq19_R) :=
 bif t_78 then
  let x22 := q1_15 - (1 : UInt64)
  let x23 := rhat_16 + yn1_9
  bif (decide ((4294967296 : UInt64) ≤ x23)) then
   some (.br ((y_2, s_8, yn1_9, yn0_10, un32_11, un1_13, un0_14, x22, ()), ()))
  else
   some (.go ((y_2, s_8, yn1_9, yn0_10, un32_11, un1_13, un0_14, x22, x23, ()), ()))
 else
  some (.br ((y_2, s_8, yn1_9, yn0_10, un32_11, un1_13, un0_14, q1_15, ()), ()))
def zq19_s4 (N : Nat) (y_2 : UInt64) (s_8 : UInt64) (yn1_9 : UInt64) (yn0_10 : UInt64) (un32_11 : UInt64) (un1_13 : UInt64) (un0_14 : UInt64) (q1_15 : UInt64) (rhat_16 : UInt64) : Option (Lo ((UInt64 × UInt64 × UInt64 × UInt64 × UInt64 × UInt64 × UInt64 × UInt64 × UInt64 × Unit) × Unit) ((UInt64 × UInt64 × UInt64 × UInt64 × UInt64 × UInt64 × UInt64 × UInt64 × Unit) × Unit) zq19_R) :=
 bif (decide ((4294967296 : UInt64) ≤ q1_15)) then
  zq19_5 N y_2 s_8 yn1_9 yn0_10 un32_11 un1_13 un0_14 q1_15 rhat_16 true
 else
  zq19_5 N y_2 s_8 yn1_9 yn0_10 un32_11 un1_13 un0_14 q1_15 rhat_16 (decide ((((4294967296 : UInt64) * rhat_16) + un1_13) < (q1_15 * yn0_10)))
def zq19_9 (N : Nat) (y_2 : UInt64) (s_8 : UInt64) (yn1_9 : UInt64) (yn0_10 : UInt64) (un0_14 : UInt64) (q1_15 : UInt64) (rhat_16 : UInt64) (un21_17 : UInt64) (q0_18 : UInt64) (t_113 : Bool) : Option (Lo ((UInt64 × UInt64 × UInt64 × UInt64 × UInt64 × UInt64 × UInt64 × UInt64 × UInt64 × Unit) × Unit) ((UInt64 × UInt64 × UInt64 × UInt64 × UInt64 × UInt64 × Unit) × Unit) zq19_R) :=
 bif t_113 then
  let x37 := q0_18 - (1 : UInt64)
  let x38 := rhat_16 + yn1_9
  bif (decide ((4294967296 : UInt64) ≤ x38)) then
   some (.br ((y_2, s_8, un0_14, q1_15, un21_17, x37, ()), ()))
  else
   some (.go ((y_2, s_8, yn1_9, yn0_10, un0_14, q1_15, x38, un21_17, x37, ()), ()))
 else
  some (.br ((y_2, s_8, un0_14, q1_15, un21_17, q0_18, ()), ()))
def zq19_s8 (N : Nat) (y_2 : UInt64) (s_8 : UInt64) (yn1_9 : UInt64) (yn0_10 : UInt64) (un0_14 : UInt64) (q1_15 : UInt64) (rhat_16 : UInt64) (un21_17 : UInt64) (q0_18 : UInt64) : Option (Lo ((UInt64 × UInt64 × UInt64 × UInt64 × UInt64 × UInt64 × UInt64 × UInt64 × UInt64 × Unit) × Unit) ((UInt64 × UInt64 × UInt64 × UInt64 × UInt64 × UInt64 × Unit) × Unit) zq19_R) :=
 bif (decide ((4294967296 : UInt64) ≤ q0_18)) then
  zq19_9 N y_2 s_8 yn1_9 yn0_10 un0_14 q1_15 rhat_16 un21_17 q0_18 true
 else
  zq19_9 N y_2 s_8 yn1_9 yn0_10 un0_14 q1_15 rhat_16 un21_17 q0_18 (decide ((((4294967296 : UInt64) * rhat_16) + un0_14) < (q0_18 * yn0_10)))
def zq19_10 (N : Nat) (y_2 : UInt64) (s_8 : UInt64) (un0_14 : UInt64) (q1_15 : UInt64) (un21_17 : UInt64) (q0_18 : UInt64) : Option zq19_R :=
 some ((((q1_15 * (4294967296 : UInt64)) + q0_18), (shr64 (((un21_17 * (4294967296 : UInt64)) + un0_14) - (q0_18 * y_2)) s_8.toNat), ()), ())
def zq19_7 (N : Nat) (y_2 : UInt64) (s_8 : UInt64) (yn1_9 : UInt64) (yn0_10 : UInt64) (un0_14 : UInt64) (q1_15 : UInt64) (rhat_16 : UInt64) (un21_17 : UInt64) (q0_18 : UInt64) : Option zq19_R :=
 loopK N (fun y => zq19_s8 N y.1.1 y.1.2.1 y.1.2.2.1 y.1.2.2.2.1 y.1.2.2.2.2.1 y.1.2.2.2.2.2.1 y.1.2.2.2.2.2.2.1 y.1.2.2.2.2.2.2.2.1 y.1.2.2.2.2.2.2.2.2.1) (fun (e : ((UInt64 × UInt64 × UInt64 × UInt64 × UInt64 × UInt64 × Unit) × Unit)) => zq19_10 N e.1.1 e.1.2.1 e.1.2.2.1 e.1.2.2.2.1 e.1.2.2.2.2.1 e.1.2.2.2.2.2.1) ((y_2, s_8, yn1_9, yn0_10, un0_14, q1_15, rhat_16, un21_17, q0_18, ()), ())
def zq19_6 (N : Nat) (y_2 : UInt64) (s_8 : UInt64) (yn1_9 : UInt64) (yn0_10 : UInt64) (un32_11 : UInt64) (un1_13 : UInt64) (un0_14 : UInt64) (q1_15 : UInt64) : Option zq19_R :=
 let x29 := un32_11 * (4294967296 : UInt64)
 bif !(decide (yn1_9 = 0)) then
 zq19_7 N y_2 s_8 yn1_9 yn0_10 un0_14 q1_15 (((x29 + un1_13) - (q1_15 * y_2)) - ((((x29 + un1_13) - (q1_15 * y_2)) / yn1_9) * yn1_9)) ((x29 + un1_13) - (q1_15 * y_2)) (((x29 + un1_13) - (q1_15 * y_2)) / yn1_9)
 else none
def zq19_3 (N : Nat) (y_2 : UInt64) (s_8 : UInt64) (yn1_9 : UInt64) (yn0_10 : UInt64) (un32_11 : UInt64) (un1_13 : UInt64) (un0_14 : UInt64) (q1_15 : UInt64) (rhat_16 : UInt64) : Option zq19_R :=
 loopK N (fun y => zq19_s4 N y.1.1 y.1.2.1 y.1.2.2.1 y.1.2.2.2.1 y.1.2.2.2.2.1 y.1.2.2.2.2.2.1 y.1.2.2.2.2.2.2.1 y.1.2.2.2.2.2.2.2.1 y.1.2.2.2.2.2.2.2.2.1) (fun (e : ((UInt64 × UInt64 × UInt64 × UInt64 × UInt64 × UInt64 × UInt64 × UInt64 × Unit) × Unit)) => zq19_6 N e.1.1 e.1.2.1 e.1.2.2.1 e.1.2.2.2.1 e.1.2.2.2.2.1 e.1.2.2.2.2.2.1 e.1.2.2.2.2.2.2.1 e.1.2.2.2.2.2.2.2.1) ((y_2, s_8, yn1_9, yn0_10, un32_11, un1_13, un0_14, q1_15, rhat_16, ()), ())
def zq19_2 (N : Nat) (hi_0 : UInt64) (lo_1 : UInt64) (y_2 : UInt64) : Option zq19_R :=
 bif (decide (hi_0 = (0 : UInt64))) then
  bif !(decide (y_2 = 0)) then
  bif !(decide (y_2 = 0)) then
  some (((lo_1 / y_2), (lo_1 % y_2), ()), ())
  else none
  else none
 else
  Option.bind (zq1 N y_2) fun y6 =>
  let x8 := shl64 y_2 (iu64 y6.1.1).toNat
  let x11 := shl64 hi_0 (iu64 y6.1.1).toNat
  let x13 := shr64 lo_1 ((64 : UInt64) - (iu64 y6.1.1)).toNat
  let x15 := shl64 lo_1 (iu64 y6.1.1).toNat
  bif !(decide ((shr64 x8 32) = 0)) then
  zq19_3 N x8 (iu64 y6.1.1) (shr64 x8 32) (x8 &&& (4294967295 : UInt64)) (x11 ||| x13) (shr64 x15 32) (x15 &&& (4294967295 : UInt64)) ((x11 ||| x13) / (shr64 x8 32)) ((x11 ||| x13) - (((x11 ||| x13) / (shr64 x8 32)) * (shr64 x8 32)))
  else none
def zq19_1 (N : Nat) (hi_0 : UInt64) (lo_1 : UInt64) (y_2 : UInt64) : Option zq19_R :=
 bif (decide (y_2 ≤ hi_0)) then
  none
 else
  zq19_2 N hi_0 lo_1 y_2
def zq19 (N : Nat) (hi_0 : UInt64) (lo_1 : UInt64) (y_2 : UInt64) : Option zq19_R :=
 bif (decide (y_2 = (0 : UInt64))) then
  none
 else
  zq19_1 N hi_0 lo_1 y_2
def zq19_C (N : Nat) := Cx 135 [(157, zq1_ctr N)]
def zq19_S0 : Spec := ⟨[.val .u64, .val .u64, .val .u64, .val .u64, .val .u64, .val .u64, .val .u64, .val .u64, .val .u64, .val .bool], []⟩
def zq19_S1 : Spec := ⟨[.val .u64, .val .u64, .val .u64, .val .u64, .val .u64, .val .u64, .val .u64, .val .u64, .val .u64], []⟩
def zq19_S2 : Spec := ⟨[.val .u64, .val .u64, .val .u64, .val .u64, .val .u64, .val .u64], []⟩
def zq19_S3 : Spec := ⟨[.val .u64, .val .u64, .val .u64, .val .u64, .val .u64, .val .u64, .val .u64, .val .u64], []⟩
def zq19_S4 : Spec := ⟨[.val .u64, .val .u64, .val .u64], []⟩
def zq19_S5 : Spec := ⟨[.val .u64, .val .u64], []⟩
def zq19_K : XE → GS → Option zq19_R := retK 0 [6, 7] [false, false] zq19_S5
noncomputable def zq19_L : List Code := (bodyOf (some Tryz.f155))
def zq19_L4 : List Code := (loopOf (zq19_L[17]?))
def zq19_L8 : List Code := (loopOf (zq19_L[21]?))
def zq19_K4 (N : Nat) := roundK (some 0) (fit 0 [2, 8, 9, 10, 11, 13, 14, 15, 16] zq19_S1) (fit 0 [2, 8, 9, 10, 11, 13, 14, 15] zq19_S3) zq19_K
def zq19_K8 (N : Nat) := roundK (some 2) (fit 0 [2, 8, 9, 10, 14, 15, 16, 17, 18] zq19_S1) (fit 0 [2, 8, 14, 15, 17, 18] zq19_S2) zq19_K
theorem zq19_5_b (N) : Bk 0 (zq19_C N) [2, 8, 9, 10, 11, 13, 14, 15, 16, 78] zq19_S0 (zq19_L4.drop 1) (fun y => zq19_5 N y.1.1 y.1.2.1 y.1.2.2.1 y.1.2.2.2.1 y.1.2.2.2.2.1 y.1.2.2.2.2.2.1 y.1.2.2.2.2.2.2.1 y.1.2.2.2.2.2.2.2.1 y.1.2.2.2.2.2.2.2.2.1 y.1.2.2.2.2.2.2.2.2.2.1) (zq19_K4 N) :=
 cE 2
theorem zq19_s4_b (N) : Bk 0 (zq19_C N) [2, 8, 9, 10, 11, 13, 14, 15, 16] zq19_S1 (zq19_L4.drop 0) (fun y => zq19_s4 N y.1.1 y.1.2.1 y.1.2.2.1 y.1.2.2.2.1 y.1.2.2.2.2.1 y.1.2.2.2.2.2.1 y.1.2.2.2.2.2.2.1 y.1.2.2.2.2.2.2.2.1 y.1.2.2.2.2.2.2.2.2.1) (zq19_K4 N) :=
 cG 1 (zq19_5_b N)
theorem zq19_9_b (N) : Bk 0 (zq19_C N) [2, 8, 9, 10, 14, 15, 16, 17, 18, 113] zq19_S0 (zq19_L8.drop 1) (fun y => zq19_9 N y.1.1 y.1.2.1 y.1.2.2.1 y.1.2.2.2.1 y.1.2.2.2.2.1 y.1.2.2.2.2.2.1 y.1.2.2.2.2.2.2.1 y.1.2.2.2.2.2.2.2.1 y.1.2.2.2.2.2.2.2.2.1 y.1.2.2.2.2.2.2.2.2.2.1) (zq19_K8 N) :=
 cE 2
theorem zq19_s8_b (N) : Bk 0 (zq19_C N) [2, 8, 9, 10, 14, 15, 16, 17, 18] zq19_S1 (zq19_L8.drop 0) (fun y => zq19_s8 N y.1.1 y.1.2.1 y.1.2.2.1 y.1.2.2.2.1 y.1.2.2.2.2.1 y.1.2.2.2.2.2.1 y.1.2.2.2.2.2.2.1 y.1.2.2.2.2.2.2.2.1 y.1.2.2.2.2.2.2.2.2.1) (zq19_K8 N) :=
 cG 1 (zq19_9_b N)
theorem zq19_10_b (N) : Bk 0 (zq19_C N) [2, 8, 14, 15, 17, 18] zq19_S2 (zq19_L.drop 22) (fun y => zq19_10 N y.1.1 y.1.2.1 y.1.2.2.1 y.1.2.2.2.1 y.1.2.2.2.2.1 y.1.2.2.2.2.2.1) zq19_K :=
 cE 2
theorem zq19_7_b (N) : Bk 0 (zq19_C N) [2, 8, 9, 10, 14, 15, 16, 17, 18] zq19_S1 (zq19_L.drop 21) (fun y => zq19_7 N y.1.1 y.1.2.1 y.1.2.2.1 y.1.2.2.2.1 y.1.2.2.2.2.1 y.1.2.2.2.2.2.1 y.1.2.2.2.2.2.2.1 y.1.2.2.2.2.2.2.2.1 y.1.2.2.2.2.2.2.2.2.1) zq19_K :=
 lG N zq19_S1 [2, 8, 14, 15, 17, 18] zq19_S2 (zq19_10_b N) (zq19_s8_b N)
theorem zq19_6_b (N) : Bk 0 (zq19_C N) [2, 8, 9, 10, 11, 13, 14, 15] zq19_S3 (zq19_L.drop 18) (fun y => zq19_6 N y.1.1 y.1.2.1 y.1.2.2.1 y.1.2.2.2.1 y.1.2.2.2.2.1 y.1.2.2.2.2.2.1 y.1.2.2.2.2.2.2.1 y.1.2.2.2.2.2.2.2.1) zq19_K :=
 cG 3 (zq19_7_b N)
theorem zq19_3_b (N) : Bk 0 (zq19_C N) [2, 8, 9, 10, 11, 13, 14, 15, 16] zq19_S1 (zq19_L.drop 17) (fun y => zq19_3 N y.1.1 y.1.2.1 y.1.2.2.1 y.1.2.2.2.1 y.1.2.2.2.2.1 y.1.2.2.2.2.2.1 y.1.2.2.2.2.2.2.1 y.1.2.2.2.2.2.2.2.1 y.1.2.2.2.2.2.2.2.2.1) zq19_K :=
 lG N zq19_S1 [2, 8, 9, 10, 11, 13, 14, 15] zq19_S3 (zq19_6_b N) (zq19_s4_b N)
theorem zq19_2_b (N) : Bk 0 (zq19_C N) [0, 1, 2] zq19_S4 (zq19_L.drop 5) (fun y => zq19_2 N y.1.1 y.1.2.1 y.1.2.2.1) zq19_K :=
 cG 12 (zq19_3_b N)
theorem zq19_1_b (N) : Bk 0 (zq19_C N) [0, 1, 2] zq19_S4 (zq19_L.drop 3) (fun y => zq19_1 N y.1.1 y.1.2.1 y.1.2.2.1) zq19_K :=
 cG 2 (zq19_2_b N)
theorem zq19_b (N) : Bk 0 (zq19_C N) (List.range zq19_S4.ks.length) zq19_S4 (zq19_L.drop 0) (fun y => zq19 N y.1.1 y.1.2.1 y.1.2.2.1) zq19_K :=
 cG 3 (zq19_1_b N)
def zq19_ctr (N : Nat) : Ctr := ⟨zq19_S4, zq19_S5.un [false, false], 0, (fun y => zq19 N y.1.1 y.1.2.1 y.1.2.2.1)⟩
theorem zq19_ok (N : Nat) : COk 155 (zq19_ctr N) :=
 cF (zw3 (Γ := zq19_C N) zw2 (csc (zq1_ok N) csn)) Tryz.func155 Tryz.ntmps155 (zq19_b N)
abbrev zq110_R : Type := ((UInt64 × Unit) × Unit)
def zq110 (N : Nat) (a_0 : UInt64) (b_1 : UInt64) : Option zq110_R :=
 Option.bind (zq23 N (a_0 % (4611686018427377339 : UInt64)) (b_1 % (4611686018427377339 : UInt64))) fun y3 =>
 Option.bind (zq19 N y3.1.1 y3.1.2.1 (4611686018427377339 : UInt64)) fun y4 =>
 some ((y4.1.2.1, ()), ())
def zq110_C (N : Nat) := Cx 24 [(154, zq23_ctr N), (155, zq19_ctr N)]
def zq110_S0 : Spec := ⟨[.val .u64, .val .u64], []⟩
def zq110_S1 : Spec := ⟨[.val .u64], []⟩
def zq110_K : XE → GS → Option zq110_R := retK 0 [4] [false] zq110_S1
noncomputable def zq110_L : List Code := (bodyOf (some Tryz.f145))
theorem zq110_b (N) : Bk 0 (zq110_C N) (List.range zq110_S0.ks.length) zq110_S0 (zq110_L.drop 0) (fun y => zq110 N y.1.1 y.1.2.1) zq110_K :=
 cE 5
def zq110_ctr (N : Nat) : Ctr := ⟨zq110_S0, zq110_S1.un [false], 0, (fun y => zq110 N y.1.1 y.1.2.1)⟩
theorem zq110_ok (N : Nat) : COk 145 (zq110_ctr N) :=
 cF (zw3 (Γ := zq110_C N) zw2 (csc (zq23_ok N) (csc (zq19_ok N) csn))) Tryz.func145 Tryz.ntmps145 (zq110_b N)
abbrev zq77_R : Type := ((UInt64 × Unit) × Unit)
def zq77_s2 (N : Nat) (a_0 : UInt64) (e_1 : UInt64) (r_5 : UInt64) : Option (Lo ((UInt64 × UInt64 × UInt64 × Unit) × Unit) ((UInt64 × Unit) × Unit) zq77_R) :=
 bif (decide ((0 : UInt64) < e_1)) then
  bif (decide ((e_1 &&& (1 : UInt64)) = (1 : UInt64))) then
   Option.bind (zq110 N r_5 a_0) fun y4 =>
   Option.bind (zq110 N a_0 a_0) fun y5 =>
   some (.go ((y5.1.1, (shr64 e_1 1), y4.1.1, ()), ()))
  else
   Option.bind (zq110 N a_0 a_0) fun y7 =>
   some (.go ((y7.1.1, (shr64 e_1 1), r_5, ()), ()))
 else
  some (.br ((r_5, ()), ()))
def zq77_3 (N : Nat) (r_5 : UInt64) : Option zq77_R :=
 some ((r_5, ()), ())
def zq77_1 (N : Nat) (a_0 : UInt64) (e_1 : UInt64) (r_5 : UInt64) : Option zq77_R :=
 loopK N (fun y => zq77_s2 N y.1.1 y.1.2.1 y.1.2.2.1) (fun (e : ((UInt64 × Unit) × Unit)) => zq77_3 N e.1.1) ((a_0, e_1, r_5, ()), ())
def zq77 (N : Nat) (a_0 : UInt64) (e_1 : UInt64) : Option zq77_R :=
 zq77_1 N a_0 e_1 (1 : UInt64)
def zq77_C (N : Nat) := Cx 20 [(145, zq110_ctr N)]
def zq77_S0 : Spec := ⟨[.val .u64, .val .u64, .val .u64], []⟩
def zq77_S1 : Spec := ⟨[.val .u64], []⟩
def zq77_S2 : Spec := ⟨[.val .u64, .val .u64], []⟩
def zq77_K : XE → GS → Option zq77_R := retK 0 [4] [false] zq77_S1
noncomputable def zq77_L : List Code := (bodyOf (some Tryz.f138))
def zq77_L2 : List Code := (loopOf (zq77_L[2]?))
def zq77_K2 (N : Nat) := roundK (some 0) (fit 0 [0, 1, 5] zq77_S0) (fit 0 [5] zq77_S1) zq77_K
theorem zq77_s2_b (N) : Bk 0 (zq77_C N) [0, 1, 5] zq77_S0 (zq77_L2.drop 0) (fun y => zq77_s2 N y.1.1 y.1.2.1 y.1.2.2.1) (zq77_K2 N) :=
 cE 4
theorem zq77_3_b (N) : Bk 0 (zq77_C N) [5] zq77_S1 (zq77_L.drop 3) (fun y => zq77_3 N y.1.1) zq77_K :=
 cE 2
theorem zq77_1_b (N) : Bk 0 (zq77_C N) [0, 1, 5] zq77_S0 (zq77_L.drop 2) (fun y => zq77_1 N y.1.1 y.1.2.1 y.1.2.2.1) zq77_K :=
 lG N zq77_S0 [5] zq77_S1 (zq77_3_b N) (zq77_s2_b N)
theorem zq77_b (N) : Bk 0 (zq77_C N) (List.range zq77_S2.ks.length) zq77_S2 (zq77_L.drop 0) (fun y => zq77 N y.1.1 y.1.2.1) zq77_K :=
 cG 2 (zq77_1_b N)
def zq77_ctr (N : Nat) : Ctr := ⟨zq77_S2, zq77_S1.un [false], 0, (fun y => zq77 N y.1.1 y.1.2.1)⟩
theorem zq77_ok (N : Nat) : COk 138 (zq77_ctr N) :=
 cF (zw3 (Γ := zq77_C N) zw2 (csc (zq110_ok N) csn)) Tryz.func138 Tryz.ntmps138 (zq77_b N)
abbrev zq40_R : Type := ((UInt64 × Int × Unit) × Unit)
def zq40 (N : Nat) (secret_0 : UInt64) : Option zq40_R :=
 Option.bind (zq75 N secret_0) fun y1 =>
 bif (!y1.1.1) then
  some (((0 : UInt64), (13 : Int), ()), ())
 else
  Option.bind (zq77 N (4 : UInt64) secret_0) fun y3 =>
  some ((y3.1.1, (0 : Int), ()), ())
def zq40_C (N : Nat) := Cx 9 [(137, zq75_ctr N), (138, zq77_ctr N)]
def zq40_S0 : Spec := ⟨[.val .u64], []⟩
def zq40_S1 : Spec := ⟨[.val .u64, .val .i64], []⟩
def zq40_K : XE → GS → Option zq40_R := retK 0 [2, 3] [false, false] zq40_S1
noncomputable def zq40_L : List Code := (bodyOf (some Tryz.f124))
theorem zq40_b (N) : Bk 0 (zq40_C N) (List.range zq40_S0.ks.length) zq40_S0 (zq40_L.drop 0) (fun y => zq40 N y.1.1) zq40_K :=
 cE 5
def zq40_ctr (N : Nat) : Ctr := ⟨zq40_S0, zq40_S1.un [false, false], 0, (fun y => zq40 N y.1.1)⟩
theorem zq40_ok (N : Nat) : COk 124 (zq40_ctr N) :=
 cF (zw3 (Γ := zq40_C N) zw2 (csc (zq75_ok N) (csc (zq77_ok N) csn))) Tryz.func124 Tryz.ntmps124 (zq40_b N)
abbrev zq27_R : Type := ((UInt64 × Unit) × Unit)
def zq27 (N : Nat) (exponent_0 : D24) : Option zq27_R :=
 Option.bind (zq14 N exponent_0) fun y1 =>
 Option.bind (zq40 N y1.1.1) fun y2 =>
 some ((y2.1.1, ()), ())
def zq27_C (N : Nat) := Cx 12 [(17, zq14_ctr N), (124, zq40_ctr N)]
def zq27_S0 : Spec := ⟨[.val T24], []⟩
def zq27_S1 : Spec := ⟨[.val .u64], []⟩
def zq27_K : XE → GS → Option zq27_R := retK 0 [2] [false] zq27_S1
noncomputable def zq27_L : List Code := (bodyOf (some Tryz.f108))
theorem zq27_b (N) : Bk 0 (zq27_C N) (List.range zq27_S0.ks.length) zq27_S0 (zq27_L.drop 0) (fun y => zq27 N y.1.1) zq27_K :=
 cE 4
def zq27_ctr (N : Nat) : Ctr := ⟨zq27_S0, zq27_S1.un [false], 0, (fun y => zq27 N y.1.1)⟩
theorem zq27_ok (N : Nat) : COk 108 (zq27_ctr N) :=
 cF (zw3 (Γ := zq27_C N) zw2 (csc (zq14_ok N) (csc (zq40_ok N) csn))) Tryz.func108 Tryz.ntmps108 (zq27_b N)
abbrev zq6_R : Type := (Unit × (List UInt8 × Unit))
def zq6_1 (N : Nat) (owner_5 : Int) (b_0 : List UInt8) (t_3 : D24) : Option zq6_R :=
 Option.bind (zq118 N (iu64 owner_5) (8 : Int) b_0) fun y7 =>
 let x8 := List.map Tree.un t_3.2.2.1
 bif inR (0 : Int) x8.length then
 Option.bind (zq27 N (x8.getD 0 ((0 : Int), (0 : Int), ([] : List Tree), ()))) fun y10 =>
 Option.bind (zq118 N y10.1.1 (8 : Int) y7.2.1) fun y11 =>
 some ((), (y11.2.1, ()))
 else none
def zq6 (N : Nat) (t_1 : D24) (b_0 : List UInt8) : Option zq6_R :=
 let x1 := List.map Tree.un t_1.2.2.1
 bif inR (0 : Int) x1.length then
 bif (decide ((x1.getD 0 ((0 : Int), (0 : Int), ([] : List Tree), ())).1 = (2 : Int))) then
  let x4 := List.map Tree.un t_1.2.2.1
  bif inR (0 : Int) x4.length then
  zq6_1 N (x4.getD 0 ((0 : Int), (0 : Int), ([] : List Tree), ())).2.1 b_0 t_1
  else none
 else
  zq6_1 N (0 : Int) b_0 t_1
 else none
def zq6_C (N : Nat) := Cx 27 [(67, zq118_ctr N), (108, zq27_ctr N)]
def zq6_S0 : Spec := ⟨[.row 0, .ref 1 T24, .val .i64], [(.row 5 .u8, .pos 0), (.box 24 T24, .pos 1)]⟩
def zq6_S1 : Spec := ⟨[.row 0, .val T24], [(.row 5 .u8, .pos 0)]⟩
def zq6_S2 : Spec := ⟨[.row 0], [(.row 5 .u8, .pos 0)]⟩
def zq6_K : XE → GS → Option zq6_R := retK 0 [4] [false] zq6_S2
noncomputable def zq6_L : List Code := (bodyOf (some Tryz.f87))
theorem zq6_1_b (N) : Bk 0 (zq6_C N) [0, 3, 5] zq6_S0 (zq6_L.drop 4) (fun y => zq6_1 N y.1.1 y.2.1 y.2.2.1) zq6_K :=
 cE 2
theorem zq6_b (N) : Bk 0 (zq6_C N) (List.range zq6_S1.ks.length) zq6_S1 (zq6_L.drop 0) (fun y => zq6 N y.1.1 y.2.1) zq6_K :=
 cG 4 (zq6_1_b N)
def zq6_ctr (N : Nat) : Ctr := ⟨zq6_S1, zq6_S2.un [false], 0, (fun y => zq6 N y.1.1 y.2.1)⟩
theorem zq6_ok (N : Nat) : COk 87 (zq6_ctr N) :=
 cF (zw3 (Γ := zq6_C N) zw2 (csc (zq118_ok N) (csc (zq27_ok N) csn))) Tryz.func87 Tryz.ntmps87 (zq6_b N)
abbrev zq66_R : Type := (Unit × (List UInt8 × Unit))
def zq66_s2 (N : Nat) (mask_0 : UInt8) (b_1 : List UInt8) (t_9 : List UInt8) (t_10 : Int) (l_6 : List UInt8) : Option (Lo ((UInt8 × List UInt8 × List UInt8 × Int × Unit) × (List UInt8 × Unit)) ((List UInt8 × Unit) × (List UInt8 × Unit)) zq66_R) :=
 bif (decide (t_10 < (64 : Int))) then
  bif inR t_10 64 then
  let x2 := t_9.getD t_10.toNat (0 : UInt8)
  bif room (l_6.length + ([(x2 ^^^ mask_0)] : List UInt8).length) 1 then
  some (.go ((mask_0, b_1, t_9, (w64 (t_10 + (1 : Int))), ()), ((l_6 ++ ([(x2 ^^^ mask_0)] : List UInt8)), ())))
  else none
  else none
 else
  some (.br ((b_1, ()), (l_6, ())))
def zq66_3 (N : Nat) (b_1 : List UInt8) (l_6 : List UInt8) : Option zq66_R :=
 bif room (l_6.length + b_1.length) 1 then
 Option.bind (zq89 N (l_6 ++ b_1)) fun y7 =>
 some ((), (y7.2.1, ()))
 else none
def zq66_1 (N : Nat) (mask_0 : UInt8) (b_1 : List UInt8) (t_9 : List UInt8) (t_10 : Int) (l_6 : List UInt8) : Option zq66_R :=
 loopK N (fun y => zq66_s2 N y.1.1 y.1.2.1 y.1.2.2.1 y.1.2.2.2.1 y.2.1) (fun (e : ((List UInt8 × Unit) × (List UInt8 × Unit))) => zq66_3 N e.1.1 e.2.1) ((mask_0, b_1, t_9, t_10, ()), (l_6, ()))
def zq66 (N : Nat) (mask_0 : UInt8) (b_1 : List UInt8) (t_2 : List UInt8) : Option zq66_R :=
 zq66_1 N mask_0 b_1 t_2 (0 : Int) ([] : List UInt8)
def zq66_C (N : Nat) := Cx 24 [(42, zq89_ctr N)]
def zq66_S0 : Spec := ⟨[.val .u8, .val (.sl .u8), .row 0, .val (.arr 64 .u8), .val .i64], [(.row 5 .u8, .pos 2)]⟩
def zq66_S1 : Spec := ⟨[.val (.sl .u8), .row 0], [(.row 5 .u8, .pos 1)]⟩
def zq66_S2 : Spec := ⟨[.val .u8, .val (.sl .u8), .fp (.arr 64 .u8)], []⟩
def zq66_S3 : Spec := ⟨[.row 0], [(.row 5 .u8, .pos 0)]⟩
def zq66_K : XE → GS → Option zq66_R := retK 0 [5] [false] zq66_S3
noncomputable def zq66_L : List Code := (bodyOf (some Tryz.f125))
def zq66_L2 : List Code := (loopOf (zq66_L[3]?))
def zq66_K2 (N : Nat) := roundK (some 0) (fit 0 [0, 1, 6, 9, 10] zq66_S0) (fit 0 [1, 6] zq66_S1) zq66_K
theorem zq66_s2_b (N) : Bk 0 (zq66_C N) [0, 1, 6, 9, 10] zq66_S0 (zq66_L2.drop 0) (fun y => zq66_s2 N y.1.1 y.1.2.1 y.1.2.2.1 y.1.2.2.2.1 y.2.1) (zq66_K2 N) :=
 cE 4
theorem zq66_3_b (N) : Bk 0 (zq66_C N) [1, 6] zq66_S1 (zq66_L.drop 4) (fun y => zq66_3 N y.1.1 y.2.1) zq66_K :=
 cE 2
theorem zq66_1_b (N) : Bk 0 (zq66_C N) [0, 1, 6, 9, 10] zq66_S0 (zq66_L.drop 3) (fun y => zq66_1 N y.1.1 y.1.2.1 y.1.2.2.1 y.1.2.2.2.1 y.2.1) zq66_K :=
 lG N zq66_S0 [1, 6] zq66_S1 (zq66_3_b N) (zq66_s2_b N)
theorem zq66_b (N) : Bk 0 (zq66_C N) (List.range zq66_S2.ks.length) zq66_S2 (zq66_L.drop 0) (fun y => zq66 N y.1.1 y.1.2.1 y.1.2.2.1) zq66_K :=
 cG 3 (zq66_1_b N)
def zq66_ctr (N : Nat) : Ctr := ⟨zq66_S2, zq66_S3.un [false], 0, (fun y => zq66 N y.1.1 y.1.2.1 y.1.2.2.1)⟩
theorem zq66_ok (N : Nat) : COk 125 (zq66_ctr N) :=
 cF (zw3 (Γ := zq66_C N) zw2 (csc (zq89_ok N) csn)) Tryz.func125 Tryz.ntmps125 (zq66_b N)
abbrev zq119_R : Type := (Unit × (List UInt8 × Unit))
def zq119_1 (N : Nat) (key_0 : List UInt8) (b_1 : List UInt8) (padded_5 : List UInt8) : Option zq119_R :=
 let x4 := splice padded_5 key_0
 Option.bind (zq66 N (54 : UInt8) b_1 x4) fun y5 =>
 Option.bind (zq66 N (92 : UInt8) y5.2.1 x4) fun y6 =>
 some ((), (y6.2.1, ()))
def zq119 (N : Nat) (key_0 : List UInt8) (b_1 : List UInt8) : Option zq119_R :=
 bif (decide ((64 : Int) < (key_0.length : Int))) then
  Option.bind (zq89 N key_0) fun y3 =>
  zq119_1 N y3.2.1 b_1 (List.replicate 64 (0 : UInt8))
 else
  zq119_1 N key_0 b_1 (List.replicate 64 (0 : UInt8))
def zq119_C (N : Nat) := Cx 21 [(42, zq89_ctr N), (125, zq66_ctr N)]
def zq119_S0 : Spec := ⟨[.val (.sl .u8), .val (.sl .u8), .ref 0 (.arr 64 .u8)], [(.box 114 (.arr 64 .u8), .pos 2)]⟩
def zq119_S1 : Spec := ⟨[.val (.sl .u8), .val (.sl .u8)], []⟩
def zq119_S2 : Spec := ⟨[.row 0], [(.row 5 .u8, .pos 0)]⟩
def zq119_K : XE → GS → Option zq119_R := retK 0 [4] [false] zq119_S2
noncomputable def zq119_L : List Code := (bodyOf (some Tryz.f109))
theorem zq119_1_b (N) : Bk 0 (zq119_C N) [0, 1, 5] zq119_S0 (zq119_L.drop 4) (fun y => zq119_1 N y.1.1 y.1.2.1 y.2.1) zq119_K :=
 cE 4
theorem zq119_b (N) : Bk 0 (zq119_C N) (List.range zq119_S1.ks.length) zq119_S1 (zq119_L.drop 0) (fun y => zq119 N y.1.1 y.1.2.1) zq119_K :=
 cG 4 (zq119_1_b N)
def zq119_ctr (N : Nat) : Ctr := ⟨zq119_S1, zq119_S2.un [false], 0, (fun y => zq119 N y.1.1 y.1.2.1)⟩
theorem zq119_ok (N : Nat) : COk 109 (zq119_ctr N) :=
 cF (zw3 (Γ := zq119_C N) zw2 (csc (zq89_ok N) (csc (zq66_ok N) csn))) Tryz.func109 Tryz.ntmps109 (zq119_b N)
abbrev zq83_R : Type := ((Bool × Unit) × Unit)
def zq83 (N : Nat) (key_0 : List UInt8) (nonce_1 : List UInt8) : Option zq83_R :=
 bif (decide ((key_0.length : Int) = (32 : Int))) then
  some (((decide ((nonce_1.length : Int) = (12 : Int))), ()), ())
 else
  some ((false, ()), ())
def zq83_C (N : Nat) := Cx 13 []
def zq83_S0 : Spec := ⟨[.val (.sl .u8), .val (.sl .u8)], []⟩
def zq83_S1 : Spec := ⟨[.val .bool], []⟩
def zq83_K : XE → GS → Option zq83_R := retK 0 [4] [false] zq83_S1
noncomputable def zq83_L : List Code := (bodyOf (some Tryz.f126))
theorem zq83_b (N) : Bk 0 (zq83_C N) (List.range zq83_S0.ks.length) zq83_S0 (zq83_L.drop 0) (fun y => zq83 N y.1.1 y.1.2.1) zq83_K :=
 cE 3
def zq83_ctr (N : Nat) : Ctr := ⟨zq83_S0, zq83_S1.un [false], 0, (fun y => zq83 N y.1.1 y.1.2.1)⟩
theorem zq83_ok (N : Nat) : COk 126 (zq83_ctr N) :=
 cF (zw3 (Γ := zq83_C N) zw2 csn) Tryz.func126 Tryz.ntmps126 (zq83_b N)
abbrev zq76_R : Type := ((UInt32 × Unit) × Unit)
def zq76 (N : Nat) (b_0 : List UInt8) : Option zq76_R :=
 bif inR (0 : Int) b_0.length then
 bif inR (1 : Int) b_0.length then
 bif inR (2 : Int) b_0.length then
 bif inR (3 : Int) b_0.length then
 some ((((((b_0.getD 0 (0 : UInt8)).toUInt32 ||| (shl32 (b_0.getD 1 (0 : UInt8)).toUInt32 8)) ||| (shl32 (b_0.getD 2 (0 : UInt8)).toUInt32 16)) ||| (shl32 (b_0.getD 3 (0 : UInt8)).toUInt32 24)), ()), ())
 else none
 else none
 else none
 else none
def zq76_C (N : Nat) := Cx 25 []
def zq76_S0 : Spec := ⟨[.val (.sl .u8)], []⟩
def zq76_S1 : Spec := ⟨[.val .u32], []⟩
def zq76_K : XE → GS → Option zq76_R := retK 0 [2] [false] zq76_S1
noncomputable def zq76_L : List Code := (bodyOf (some Tryz.f146))
theorem zq76_b (N) : Bk 0 (zq76_C N) (List.range zq76_S0.ks.length) zq76_S0 (zq76_L.drop 0) (fun y => zq76 N y.1.1) zq76_K :=
 cE 3
def zq76_ctr (N : Nat) : Ctr := ⟨zq76_S0, zq76_S1.un [false], 0, (fun y => zq76 N y.1.1)⟩
theorem zq76_ok (N : Nat) : COk 146 (zq76_ctr N) :=
 cF (zw3 (Γ := zq76_C N) zw2 csn) Tryz.func146 Tryz.ntmps146 (zq76_b N)
abbrev zq50_R : Type := (((List UInt32) × Bool × Unit) × Unit)
def zq50_s3 (N : Nat) (key_0 : List UInt8) (nonce_2 : List UInt8) (t_22 : Int) (t_6 : (List UInt32)) (s_8 : (List UInt32)) : Option (Lo ((List UInt8 × List UInt8 × Int × Unit) × ((List UInt32) × (List UInt32) × Unit)) ((List UInt8 × Unit) × ((List UInt32) × (List UInt32) × Unit)) zq50_R) :=
 bif (decide (t_22 < (8 : Int))) then
  let x6 := w64 ((4 : Int) + t_22)
  let x7 := w64 ((4 : Int) * t_22)
  bif decide (0 ≤ x7) && decide (x7 ≤ (key_0.length : Int)) && decide ((key_0.length : Int) ≤ (key_0.length : Int)) && true then
  Option.bind (zq76 N (cut key_0 x7.toNat key_0.length)) fun y9 =>
  bif inR x6 16 then
  some (.go ((key_0, nonce_2, (w64 (t_22 + (1 : Int))), ()), (t_6, (s_8.set x6.toNat y9.1.1), ())))
  else none
  else none
 else
  some (.br ((nonce_2, ()), (t_6, s_8, ())))
def zq50_s6 (N : Nat) (nonce_2 : List UInt8) (t_34 : Int) (t_6 : (List UInt32)) (s_8 : (List UInt32)) : Option (Lo ((List UInt8 × Int × Unit) × ((List UInt32) × (List UInt32) × Unit)) (Unit × ((List UInt32) × (List UInt32) × Unit)) zq50_R) :=
 bif (decide (t_34 < (3 : Int))) then
  let x13 := w64 ((13 : Int) + t_34)
  let x14 := w64 ((4 : Int) * t_34)
  bif decide (0 ≤ x14) && decide (x14 ≤ (nonce_2.length : Int)) && decide ((nonce_2.length : Int) ≤ (nonce_2.length : Int)) && true then
  Option.bind (zq76 N (cut nonce_2 x14.toNat nonce_2.length)) fun y16 =>
  bif inR x13 16 then
  some (.go ((nonce_2, (w64 (t_34 + (1 : Int))), ()), (t_6, (s_8.set x13.toNat y16.1.1), ())))
  else none
  else none
 else
  some (.br ((), (t_6, s_8, ())))
def zq50_7 (N : Nat) (t_6 : (List UInt32)) (s_8 : (List UInt32)) : Option zq50_R :=
 some ((s_8, true, ()), ())
def zq50_5 (N : Nat) (nonce_2 : List UInt8) (t_34 : Int) (t_6 : (List UInt32)) (s_8 : (List UInt32)) : Option zq50_R :=
 loopK N (fun y => zq50_s6 N y.1.1 y.1.2.1 y.2.1 y.2.2.1) (fun (e : (Unit × ((List UInt32) × (List UInt32) × Unit))) => zq50_7 N e.2.1 e.2.2.1) ((nonce_2, t_34, ()), (t_6, s_8, ()))
def zq50_4 (N : Nat) (nonce_2 : List UInt8) (t_6 : (List UInt32)) (s_8 : (List UInt32)) : Option zq50_R :=
 zq50_5 N nonce_2 (0 : Int) t_6 s_8
def zq50_2 (N : Nat) (key_0 : List UInt8) (nonce_2 : List UInt8) (t_22 : Int) (t_6 : (List UInt32)) (s_8 : (List UInt32)) : Option zq50_R :=
 loopK N (fun y => zq50_s3 N y.1.1 y.1.2.1 y.1.2.2.1 y.2.1 y.2.2.1) (fun (e : ((List UInt8 × Unit) × ((List UInt32) × (List UInt32) × Unit))) => zq50_4 N e.1.1 e.2.1 e.2.2.1) ((key_0, nonce_2, t_22, ()), (t_6, s_8, ()))
def zq50_1 (N : Nat) (key_0 : List UInt8) (counter_1 : UInt32) (nonce_2 : List UInt8) (t_18 : Bool) (t_6 : (List UInt32)) : Option zq50_R :=
 bif t_18 then
  some (((List.replicate 16 (0 : UInt32)), false, ()), ())
 else
  zq50_2 N key_0 nonce_2 (0 : Int) t_6 ((((((List.replicate 16 (0 : UInt32)).set 0 (1634760805 : UInt32)).set 1 (857760878 : UInt32)).set 2 (2036477234 : UInt32)).set 3 (1797285236 : UInt32)).set 12 counter_1)
def zq50 (N : Nat) (key_0 : List UInt8) (counter_1 : UInt32) (nonce_2 : List UInt8) : Option zq50_R :=
 bif (!(decide ((key_0.length : Int) = (32 : Int)))) then
  zq50_1 N key_0 counter_1 nonce_2 true (List.replicate 16 (0 : UInt32))
 else
  zq50_1 N key_0 counter_1 nonce_2 (!(decide ((nonce_2.length : Int) = (12 : Int)))) (List.replicate 16 (0 : UInt32))
def zq50_C (N : Nat) := Cx 47 [(146, zq76_ctr N)]
def zq50_S0 : Spec := ⟨[.val (.sl .u8), .val (.sl .u8), .ref 0 (.arr 16 .u32), .ref 1 (.arr 16 .u32), .val .i64], [(.box 116 (.arr 16 .u32), .pos 2), (.box 116 (.arr 16 .u32), .pos 3)]⟩
def zq50_S1 : Spec := ⟨[.val (.sl .u8), .ref 0 (.arr 16 .u32), .ref 1 (.arr 16 .u32), .val .i64], [(.box 116 (.arr 16 .u32), .pos 1), (.box 116 (.arr 16 .u32), .pos 2)]⟩
def zq50_S2 : Spec := ⟨[.ref 0 (.arr 16 .u32), .ref 1 (.arr 16 .u32)], [(.box 116 (.arr 16 .u32), .pos 0), (.box 116 (.arr 16 .u32), .pos 1)]⟩
def zq50_S3 : Spec := ⟨[.val (.sl .u8), .ref 0 (.arr 16 .u32), .ref 1 (.arr 16 .u32)], [(.box 116 (.arr 16 .u32), .pos 1), (.box 116 (.arr 16 .u32), .pos 2)]⟩
def zq50_S4 : Spec := ⟨[.val (.sl .u8), .val .u32, .val (.sl .u8), .ref 0 (.arr 16 .u32), .val .bool], [(.box 116 (.arr 16 .u32), .pos 3)]⟩
def zq50_S5 : Spec := ⟨[.val (.sl .u8), .val .u32, .val (.sl .u8)], []⟩
def zq50_S6 : Spec := ⟨[.fp (.arr 16 .u32), .val .bool], []⟩
def zq50_K : XE → GS → Option zq50_R := retK 0 [6, 7] [true, false] zq50_S6
noncomputable def zq50_L : List Code := (bodyOf (some Tryz.f139))
def zq50_L3 : List Code := (loopOf (zq50_L[5]?))
def zq50_L6 : List Code := (loopOf (zq50_L[7]?))
def zq50_K3 (N : Nat) := roundK (some 0) (fit 0 [0, 2, 6, 8, 22] zq50_S0) (fit 0 [2, 6, 8] zq50_S3) zq50_K
def zq50_K6 (N : Nat) := roundK (some 2) (fit 0 [2, 6, 8, 34] zq50_S1) (fit 0 [6, 8] zq50_S2) zq50_K
theorem zq50_s3_b (N) : Bk 0 (zq50_C N) [0, 2, 6, 8, 22] zq50_S0 (zq50_L3.drop 0) (fun y => zq50_s3 N y.1.1 y.1.2.1 y.1.2.2.1 y.2.1 y.2.2.1) (zq50_K3 N) :=
 cE 4
theorem zq50_s6_b (N) : Bk 0 (zq50_C N) [2, 6, 8, 34] zq50_S1 (zq50_L6.drop 0) (fun y => zq50_s6 N y.1.1 y.1.2.1 y.2.1 y.2.2.1) (zq50_K6 N) :=
 cE 4
theorem zq50_7_b (N) : Bk 0 (zq50_C N) [6, 8] zq50_S2 (zq50_L.drop 8) (fun y => zq50_7 N y.2.1 y.2.2.1) zq50_K :=
 cE 2
theorem zq50_5_b (N) : Bk 0 (zq50_C N) [2, 6, 8, 34] zq50_S1 (zq50_L.drop 7) (fun y => zq50_5 N y.1.1 y.1.2.1 y.2.1 y.2.2.1) zq50_K :=
 lG N zq50_S1 [6, 8] zq50_S2 (zq50_7_b N) (zq50_s6_b N)
theorem zq50_4_b (N) : Bk 0 (zq50_C N) [2, 6, 8] zq50_S3 (zq50_L.drop 6) (fun y => zq50_4 N y.1.1 y.2.1 y.2.2.1) zq50_K :=
 cG 1 (zq50_5_b N)
theorem zq50_2_b (N) : Bk 0 (zq50_C N) [0, 2, 6, 8, 22] zq50_S0 (zq50_L.drop 5) (fun y => zq50_2 N y.1.1 y.1.2.1 y.1.2.2.1 y.2.1 y.2.2.1) zq50_K :=
 lG N zq50_S0 [2, 6, 8] zq50_S3 (zq50_4_b N) (zq50_s3_b N)
theorem zq50_1_b (N) : Bk 0 (zq50_C N) [0, 1, 2, 6, 18] zq50_S4 (zq50_L.drop 2) (fun y => zq50_1 N y.1.1 y.1.2.1 y.1.2.2.1 y.1.2.2.2.1 y.2.1) zq50_K :=
 cG 3 (zq50_2_b N)
theorem zq50_b (N) : Bk 0 (zq50_C N) (List.range zq50_S5.ks.length) zq50_S5 (zq50_L.drop 0) (fun y => zq50 N y.1.1 y.1.2.1 y.1.2.2.1) zq50_K :=
 cG 2 (zq50_1_b N)
def zq50_ctr (N : Nat) : Ctr := ⟨zq50_S5, zq50_S6.un [true, false], 0, (fun y => zq50 N y.1.1 y.1.2.1 y.1.2.2.1)⟩
theorem zq50_ok (N : Nat) : COk 139 (zq50_ctr N) :=
 cF (zw3 (Γ := zq50_C N) zw2 (csc (zq76_ok N) csn)) Tryz.func139 Tryz.ntmps139 (zq50_b N)
abbrev zq30_R : Type := ((UInt32 × UInt32 × UInt32 × UInt32 × Unit) × Unit)
def zq30 (N : Nat) (a_0 : UInt32) (b_1 : UInt32) (c_2 : UInt32) (d_3 : UInt32) : Option zq30_R :=
 Option.bind (zq2 N (d_3 ^^^ (a_0 + b_1)) (16 : Int)) fun y3 =>
 Option.bind (zq2 N (b_1 ^^^ (c_2 + y3.1.1)) (12 : Int)) fun y6 =>
 Option.bind (zq2 N (y3.1.1 ^^^ ((a_0 + b_1) + y6.1.1)) (8 : Int)) fun y9 =>
 Option.bind (zq2 N (y6.1.1 ^^^ ((c_2 + y3.1.1) + y9.1.1)) (7 : Int)) fun y12 =>
 some ((((a_0 + b_1) + y6.1.1), y12.1.1, ((c_2 + y3.1.1) + y9.1.1), y9.1.1, ()), ())
def zq30_C (N : Nat) := Cx 49 [(119, zq2_ctr N)]
def zq30_S0 : Spec := ⟨[.val .u32, .val .u32, .val .u32, .val .u32], []⟩
def zq30_K : XE → GS → Option zq30_R := retK 0 [8, 9, 10, 11] [false, false, false, false] zq30_S0
noncomputable def zq30_L : List Code := (bodyOf (some Tryz.f147))
theorem zq30_b (N) : Bk 0 (zq30_C N) (List.range zq30_S0.ks.length) zq30_S0 (zq30_L.drop 0) (fun y => zq30 N y.1.1 y.1.2.1 y.1.2.2.1 y.1.2.2.2.1) zq30_K :=
 cE 12
def zq30_ctr (N : Nat) : Ctr := ⟨zq30_S0, zq30_S0.un [false, false, false, false], 0, (fun y => zq30 N y.1.1 y.1.2.1 y.1.2.2.1 y.1.2.2.2.1)⟩
theorem zq30_ok (N : Nat) : COk 147 (zq30_ctr N) :=
 cF (zw3 (Γ := zq30_C N) zw2 (csc (zq2_ok N) csn)) Tryz.func147 Tryz.ntmps147 (zq30_b N)
abbrev zq45_R : Type := ((Bool × Unit) × (List UInt8 × Unit))
def zq45_s7 (N : Nat) (t_26 : Int) (t_28 : (List (List Int))) (t_29 : Int) (first_8 : (List UInt32)) (s_10 : (List UInt32)) : Option (Lo ((Int × (List (List Int)) × Int × Unit) × ((List UInt32) × (List UInt32) × Unit)) ((Int × Unit) × ((List UInt32) × (List UInt32) × Unit)) (Lo ((Int × Unit) × ((List UInt32) × (List UInt32) × Unit)) (Unit × ((List UInt32) × (List UInt32) × Unit)) zq45_R)) :=
 bif (decide (t_29 < (8 : Int))) then
  bif inR t_29 8 then
  let x5 := t_28.getD t_29.toNat (List.replicate 4 (0 : Int))
  let x6 := (x5.getD 0 (0 : Int))
  let x7 := (x5.getD 1 (0 : Int))
  let x8 := (x5.getD 2 (0 : Int))
  let x9 := (x5.getD 3 (0 : Int))
  let x10 := (x5.getD 0 (0 : Int))
  bif inR x10 16 then
  let x12 := (x5.getD 1 (0 : Int))
  bif inR x12 16 then
  let x14 := (x5.getD 2 (0 : Int))
  bif inR x14 16 then
  let x16 := (x5.getD 3 (0 : Int))
  bif inR x16 16 then
  Option.bind (zq30 N (s_10.getD x10.toNat (0 : UInt32)) (s_10.getD x12.toNat (0 : UInt32)) (s_10.getD x14.toNat (0 : UInt32)) (s_10.getD x16.toNat (0 : UInt32))) fun y18 =>
  bif inR x6 16 then
  bif inR x7 16 then
  bif inR x8 16 then
  bif inR x9 16 then
  some (.go ((t_26, t_28, (w64 (t_29 + (1 : Int))), ()), (first_8, ((((s_10.set x6.toNat y18.1.1).set x7.toNat y18.1.2.1).set x8.toNat y18.1.2.2.1).set x9.toNat y18.1.2.2.2.1), ())))
  else none
  else none
  else none
  else none
  else none
  else none
  else none
  else none
  else none
 else
  some (.br ((t_26, ()), (first_8, s_10, ())))
def zq45_8 (N : Nat) (t_26 : Int) (first_8 : (List UInt32)) (s_10 : (List UInt32)) : Option (Lo ((Int × Unit) × ((List UInt32) × (List UInt32) × Unit)) (Unit × ((List UInt32) × (List UInt32) × Unit)) zq45_R) :=
 some (.go (((w64 (t_26 + (1 : Int))), ()), (first_8, s_10, ())))
def zq45_6 (N : Nat) (t_26 : Int) (t_28 : (List (List Int))) (t_29 : Int) (first_8 : (List UInt32)) (s_10 : (List UInt32)) : Option (Lo ((Int × Unit) × ((List UInt32) × (List UInt32) × Unit)) (Unit × ((List UInt32) × (List UInt32) × Unit)) zq45_R) :=
 loopK N (fun y => zq45_s7 N y.1.1 y.1.2.1 y.1.2.2.1 y.2.1 y.2.2.1) (fun (e : ((Int × Unit) × ((List UInt32) × (List UInt32) × Unit))) => zq45_8 N e.1.1 e.2.1 e.2.2.1) ((t_26, t_28, t_29, ()), (first_8, s_10, ()))
def zq45_5 (N : Nat) (t_26 : Int) (first_8 : (List UInt32)) (s_10 : (List UInt32)) : Option (Lo ((Int × Unit) × ((List UInt32) × (List UInt32) × Unit)) (Unit × ((List UInt32) × (List UInt32) × Unit)) zq45_R) :=
 zq45_6 N t_26 zwd (0 : Int) first_8 s_10
def zq45_3 (N : Nat) (t_26 : Int) (first_8 : (List UInt32)) (s_10 : (List UInt32)) : Option (Lo ((Int × Unit) × ((List UInt32) × (List UInt32) × Unit)) (Unit × ((List UInt32) × (List UInt32) × Unit)) zq45_R) :=
 zq45_5 N t_26 first_8 s_10
def zq45_s2 (N : Nat) (t_26 : Int) (first_8 : (List UInt32)) (s_10 : (List UInt32)) : Option (Lo ((Int × Unit) × ((List UInt32) × (List UInt32) × Unit)) (Unit × ((List UInt32) × (List UInt32) × Unit)) zq45_R) :=
 bif (decide (t_26 < (10 : Int))) then
  zq45_3 N t_26 first_8 s_10
 else
  some (.br ((), (first_8, s_10, ())))
def zq45_s11 (N : Nat) (t_68 : (List UInt32)) (t_69 : Int) (first_8 : (List UInt32)) (out_13 : List UInt8) : Option (Lo (((List UInt32) × Int × Unit) × ((List UInt32) × List UInt8 × Unit)) (Unit × (List UInt8 × Unit)) zq45_R) :=
 bif (decide (t_69 < (16 : Int))) then
  bif inR t_69 16 then
  let x26 := t_68.getD t_69.toNat (0 : UInt32)
  bif inR t_69 16 then
  let x27 := (first_8.getD t_69.toNat (0 : UInt32))
  bif room (out_13.length + ([(x26 + x27).toUInt8, (shr32 (x26 + x27) 8).toUInt8, (shr32 (x26 + x27) 16).toUInt8, (shr32 (x26 + x27) 24).toUInt8] : List UInt8).length) 1 then
  some (.go ((t_68, (w64 (t_69 + (1 : Int))), ()), (first_8, (out_13 ++ ([(x26 + x27).toUInt8, (shr32 (x26 + x27) 8).toUInt8, (shr32 (x26 + x27) 16).toUInt8, (shr32 (x26 + x27) 24).toUInt8] : List UInt8)), ())))
  else none
  else none
  else none
 else
  some (.br ((), (out_13, ())))
def zq45_12 (N : Nat) (out_13 : List UInt8) : Option zq45_R :=
 some ((true, ()), (out_13, ()))
def zq45_10 (N : Nat) (t_68 : (List UInt32)) (t_69 : Int) (first_8 : (List UInt32)) (out_13 : List UInt8) : Option zq45_R :=
 loopK N (fun y => zq45_s11 N y.1.1 y.1.2.1 y.2.1 y.2.2.1) (fun (e : (Unit × (List UInt8 × Unit))) => zq45_12 N e.2.1) ((t_68, t_69, ()), (first_8, out_13, ()))
def zq45_9 (N : Nat) (first_8 : (List UInt32)) (s_10 : (List UInt32)) : Option zq45_R :=
 zq45_10 N s_10 (0 : Int) first_8 ([] : List UInt8)
def zq45_1 (N : Nat) (t_26 : Int) (first_8 : (List UInt32)) (s_10 : (List UInt32)) : Option zq45_R :=
 loopK N (fun y => zq45_s2 N y.1.1 y.2.1 y.2.2.1) (fun (e : (Unit × ((List UInt32) × (List UInt32) × Unit))) => zq45_9 N e.2.1 e.2.2.1) ((t_26, ()), (first_8, s_10, ()))
def zq45 (N : Nat) (key_0 : List UInt8) (counter_1 : UInt32) (nonce_2 : List UInt8) : Option zq45_R :=
 Option.bind (zq50 N key_0 counter_1 nonce_2) fun y1 =>
 bif (!y1.1.2.1) then
  some ((false, ()), (([] : List UInt8), ()))
 else
  zq45_1 N (0 : Int) y1.1.1 y1.1.1
def zq45_C (N : Nat) := Cx 94 [(139, zq50_ctr N), (147, zq30_ctr N)]
def zq45_S0 : Spec := ⟨[.ref 0 (.arr 16 .u32), .ref 1 (.arr 16 .u32), .val .i64, .val (.arr 8 (.arr 4 .i64)), .val .i64], [(.box 116 (.arr 16 .u32), .pos 0), (.box 116 (.arr 16 .u32), .pos 1)]⟩
def zq45_S1 : Spec := ⟨[.ref 0 (.arr 16 .u32), .ref 1 (.arr 16 .u32), .val .i64], [(.box 116 (.arr 16 .u32), .pos 0), (.box 116 (.arr 16 .u32), .pos 1)]⟩
def zq45_S2 : Spec := ⟨[.ref 0 (.arr 16 .u32), .row 1, .val (.arr 16 .u32), .val .i64], [(.box 116 (.arr 16 .u32), .pos 0), (.row 5 .u8, .pos 1)]⟩
def zq45_S3 : Spec := ⟨[.row 0], [(.row 5 .u8, .pos 0)]⟩
def zq45_S4 : Spec := ⟨[.ref 0 (.arr 16 .u32), .ref 1 (.arr 16 .u32)], [(.box 116 (.arr 16 .u32), .pos 0), (.box 116 (.arr 16 .u32), .pos 1)]⟩
def zq45_S5 : Spec := ⟨[.val (.sl .u8), .val .u32, .val (.sl .u8)], []⟩
def zq45_S6 : Spec := ⟨[.row 0, .val .bool], [(.row 5 .u8, .pos 0)]⟩
def zq45_K : XE → GS → Option zq45_R := retK 0 [6, 7] [false, false] zq45_S6
noncomputable def zq45_L : List Code := (bodyOf (some Tryz.f140))
def zq45_L2 : List Code := (loopOf (zq45_L[6]?))
def zq45_L4b : List Code := (zw17 (zq45_L2[2]?))
def zq45_L7 : List Code := (loopOf (zq45_L4b[1]?))
def zq45_L11 : List Code := (loopOf (zq45_L[9]?))
def zq45_K2 (N : Nat) := roundK (some 0) (fit 0 [8, 10, 26] zq45_S1) (fit 0 [8, 10] zq45_S4) zq45_K
def zq45_K11 (N : Nat) := roundK (some 4) (fit 0 [8, 13, 68, 69] zq45_S2) (fit 0 [13] zq45_S3) zq45_K
def zq45_K4 (N : Nat) : XE → GS → Option (Lo ((Int × Unit) × ((List UInt32) × (List UInt32) × Unit)) (Unit × ((List UInt32) × (List UInt32) × Unit)) zq45_R) := blockK 1 (goK 0 [8, 10, 26] zq45_S1 (fun y => zq45_8 N y.1.1 y.2.1 y.2.2.1)) (zq45_K2 N)
def zq45_K7 (N : Nat) := roundK (some 2) (fit 0 [8, 10, 26, 28, 29] zq45_S0) (fit 0 [8, 10, 26] zq45_S1) (zq45_K4 N)
theorem zq45_s7_b (N) : Bk 0 (zq45_C N) [8, 10, 26, 28, 29] zq45_S0 (zq45_L7.drop 0) (fun y => zq45_s7 N y.1.1 y.1.2.1 y.1.2.2.1 y.2.1 y.2.2.1) (zq45_K7 N) :=
 cE 4
theorem zq45_8_b (N) : Bk 0 (zq45_C N) [8, 10, 26] zq45_S1 (zq45_L2.drop 3) (fun y => zq45_8 N y.1.1 y.2.1 y.2.2.1) (zq45_K2 N) :=
 cE 1
theorem zq45_6_b (N) : Bk 0 (zq45_C N) [8, 10, 26, 28, 29] zq45_S0 (zq45_L4b.drop 1) (fun y => zq45_6 N y.1.1 y.1.2.1 y.1.2.2.1 y.2.1 y.2.2.1) (zq45_K4 N) :=
 lE N zq45_S0 [8, 10, 26] zq45_S1 (zq45_s7_b N)
theorem zq45_5_b (N) : Bk 0 (zq45_C N) [8, 10, 26] zq45_S1 (zq45_L4b.drop 0) (fun y => zq45_5 N y.1.1 y.2.1 y.2.2.1) (zq45_K4 N) :=
 cG 1 (zq45_6_b N)
theorem zq45_3_b (N) : Bk 0 (zq45_C N) [8, 10, 26] zq45_S1 (zq45_L2.drop 2) (fun y => zq45_3 N y.1.1 y.2.1 y.2.2.1) (zq45_K2 N) :=
 fun hb => Blk.blockAt (bid := 1) (X := (goK 0 [8, 10, 26] zq45_S1 (fun y => zq45_8 N y.1.1 y.2.1 y.2.2.1))) (Y := (goK 0 [8, 10, 26] zq45_S1 (fun y => zq45_5 N y.1.1 y.2.1 y.2.2.1))) (by kernel_rfl) (NxOk.go hb (zq45_8_b N hb)) (NxOk.go hb (zq45_5_b N hb)) (fun x => by kernel_rfl)
theorem zq45_s2_b (N) : Bk 0 (zq45_C N) [8, 10, 26] zq45_S1 (zq45_L2.drop 0) (fun y => zq45_s2 N y.1.1 y.2.1 y.2.2.1) (zq45_K2 N) :=
 cG 2 (zq45_3_b N)
theorem zq45_s11_b (N) : Bk 0 (zq45_C N) [8, 13, 68, 69] zq45_S2 (zq45_L11.drop 0) (fun y => zq45_s11 N y.1.1 y.1.2.1 y.2.1 y.2.2.1) (zq45_K11 N) :=
 cE 4
theorem zq45_12_b (N) : Bk 0 (zq45_C N) [13] zq45_S3 (zq45_L.drop 10) (fun y => zq45_12 N y.2.1) zq45_K :=
 cE 2
theorem zq45_10_b (N) : Bk 0 (zq45_C N) [8, 13, 68, 69] zq45_S2 (zq45_L.drop 9) (fun y => zq45_10 N y.1.1 y.1.2.1 y.2.1 y.2.2.1) zq45_K :=
 lG N zq45_S2 [13] zq45_S3 (zq45_12_b N) (zq45_s11_b N)
theorem zq45_9_b (N) : Bk 0 (zq45_C N) [8, 10] zq45_S4 (zq45_L.drop 7) (fun y => zq45_9 N y.2.1 y.2.2.1) zq45_K :=
 cG 2 (zq45_10_b N)
theorem zq45_1_b (N) : Bk 0 (zq45_C N) [8, 10, 26] zq45_S1 (zq45_L.drop 6) (fun y => zq45_1 N y.1.1 y.2.1 y.2.2.1) zq45_K :=
 lG N zq45_S1 [8, 10] zq45_S4 (zq45_9_b N) (zq45_s2_b N)
theorem zq45_b (N) : Bk 0 (zq45_C N) (List.range zq45_S5.ks.length) zq45_S5 (zq45_L.drop 0) (fun y => zq45 N y.1.1 y.1.2.1 y.1.2.2.1) zq45_K :=
 cG 6 (zq45_1_b N)
def zq45_ctr (N : Nat) : Ctr := ⟨zq45_S5, zq45_S6.un [false, false], 0, (fun y => zq45 N y.1.1 y.1.2.1 y.1.2.2.1)⟩
theorem zq45_ok (N : Nat) : COk 140 (zq45_ctr N) :=
 cF (zw3 (Γ := zq45_C N) zw2 (csc (zq50_ok N) (csc (zq30_ok N) csn))) Tryz.func140 Tryz.ntmps140 (zq45_b N)
abbrev zq93_R : Type := ((Bool × Unit) × (List UInt8 × Unit))
def zq93_s2 (N : Nat) (key_0 : List UInt8) (counter_1 : UInt32) (nonce_2 : List UInt8) (t_25 : List UInt8) (t_26 : Int) (t_27 : Int) (out_12 : List UInt8) (mask_13 : List UInt8) : Option (Lo ((List UInt8 × UInt32 × List UInt8 × List UInt8 × Int × Int × Unit) × (List UInt8 × List UInt8 × Unit)) (Unit × (List UInt8 × Unit)) zq93_R) :=
 bif (decide (t_27 < t_26)) then
  bif inR t_27 t_25.length then
  let x5 := t_25.getD t_27.toNat (0 : UInt8)
  bif (decide ((t_27.tmod (64 : Int)) = (0 : Int))) then
   Option.bind (zq45 N key_0 counter_1 nonce_2) fun y8 =>
   let x10 := t_27.tmod (64 : Int)
   bif inR x10 y8.2.1.length then
   let x11 := (y8.2.1.getD x10.toNat (0 : UInt8))
   bif room (out_12.length + ([(x5 ^^^ x11)] : List UInt8).length) 1 then
   some (.go ((key_0, (counter_1 + (1 : UInt32)), nonce_2, t_25, t_26, (w64 (t_27 + (1 : Int))), ()), ((out_12 ++ ([(x5 ^^^ x11)] : List UInt8)), y8.2.1, ())))
   else none
   else none
  else
   let x15 := t_27.tmod (64 : Int)
   bif inR x15 mask_13.length then
   let x16 := (mask_13.getD x15.toNat (0 : UInt8))
   bif room (out_12.length + ([(x5 ^^^ x16)] : List UInt8).length) 1 then
   some (.go ((key_0, counter_1, nonce_2, t_25, t_26, (w64 (t_27 + (1 : Int))), ()), ((out_12 ++ ([(x5 ^^^ x16)] : List UInt8)), mask_13, ())))
   else none
   else none
  else none
 else
  some (.br ((), (out_12, ())))
def zq93_3 (N : Nat) (out_12 : List UInt8) : Option zq93_R :=
 some ((true, ()), (out_12, ()))
def zq93_1 (N : Nat) (key_0 : List UInt8) (counter_1 : UInt32) (nonce_2 : List UInt8) (t_25 : List UInt8) (t_26 : Int) (t_27 : Int) (out_12 : List UInt8) (mask_13 : List UInt8) : Option zq93_R :=
 loopK N (fun y => zq93_s2 N y.1.1 y.1.2.1 y.1.2.2.1 y.1.2.2.2.1 y.1.2.2.2.2.1 y.1.2.2.2.2.2.1 y.2.1 y.2.2.1) (fun (e : (Unit × (List UInt8 × Unit))) => zq93_3 N e.2.1) ((key_0, counter_1, nonce_2, t_25, t_26, t_27, ()), (out_12, mask_13, ()))
def zq93 (N : Nat) (key_0 : List UInt8) (counter_1 : UInt32) (nonce_2 : List UInt8) (b_3 : List UInt8) : Option zq93_R :=
 Option.bind (zq50 N key_0 counter_1 nonce_2) fun y1 =>
 bif (!y1.1.2.1) then
  some ((false, ()), (([] : List UInt8), ()))
 else
  zq93_1 N key_0 counter_1 nonce_2 b_3 (b_3.length : Int) (0 : Int) ([] : List UInt8) ([] : List UInt8)
def zq93_C (N : Nat) := Cx 56 [(139, zq50_ctr N), (140, zq45_ctr N)]
def zq93_S0 : Spec := ⟨[.val (.sl .u8), .val .u32, .val (.sl .u8), .row 0, .row 1, .val (.sl .u8), .val .i64, .val .i64], [(.row 5 .u8, .pos 3), (.row 5 .u8, .pos 4)]⟩
def zq93_S1 : Spec := ⟨[.row 0], [(.row 5 .u8, .pos 0)]⟩
def zq93_S2 : Spec := ⟨[.val (.sl .u8), .val .u32, .val (.sl .u8), .val (.sl .u8)], []⟩
def zq93_S3 : Spec := ⟨[.row 0, .val .bool], [(.row 5 .u8, .pos 0)]⟩
def zq93_K : XE → GS → Option zq93_R := retK 0 [8, 9] [false, false] zq93_S3
noncomputable def zq93_L : List Code := (bodyOf (some Tryz.f127))
def zq93_L2 : List Code := (loopOf (zq93_L[6]?))
def zq93_K2 (N : Nat) := roundK (some 0) (fit 0 [0, 1, 2, 12, 13, 25, 26, 27] zq93_S0) (fit 0 [12] zq93_S1) zq93_K
theorem zq93_s2_b (N) : Bk 0 (zq93_C N) [0, 1, 2, 12, 13, 25, 26, 27] zq93_S0 (zq93_L2.drop 0) (fun y => zq93_s2 N y.1.1 y.1.2.1 y.1.2.2.1 y.1.2.2.2.1 y.1.2.2.2.2.1 y.1.2.2.2.2.2.1 y.2.1 y.2.2.1) (zq93_K2 N) :=
 cE 4
theorem zq93_3_b (N) : Bk 0 (zq93_C N) [12] zq93_S1 (zq93_L.drop 7) (fun y => zq93_3 N y.2.1) zq93_K :=
 cE 2
theorem zq93_1_b (N) : Bk 0 (zq93_C N) [0, 1, 2, 12, 13, 25, 26, 27] zq93_S0 (zq93_L.drop 6) (fun y => zq93_1 N y.1.1 y.1.2.1 y.1.2.2.1 y.1.2.2.2.1 y.1.2.2.2.2.1 y.1.2.2.2.2.2.1 y.2.1 y.2.2.1) zq93_K :=
 lG N zq93_S0 [12] zq93_S1 (zq93_3_b N) (zq93_s2_b N)
theorem zq93_b (N) : Bk 0 (zq93_C N) (List.range zq93_S2.ks.length) zq93_S2 (zq93_L.drop 0) (fun y => zq93 N y.1.1 y.1.2.1 y.1.2.2.1 y.1.2.2.2.1) zq93_K :=
 cG 6 (zq93_1_b N)
def zq93_ctr (N : Nat) : Ctr := ⟨zq93_S2, zq93_S3.un [false, false], 0, (fun y => zq93 N y.1.1 y.1.2.1 y.1.2.2.1 y.1.2.2.2.1)⟩
theorem zq93_ok (N : Nat) : COk 127 (zq93_ctr N) :=
 cF (zw3 (Γ := zq93_C N) zw2 (csc (zq50_ok N) (csc (zq45_ok N) csn))) Tryz.func127 Tryz.ntmps127 (zq93_b N)
abbrev zq80_R : Type := (Unit × (List UInt8 × Unit))
def zq80 (N : Nat) (b_1 : List UInt8) (l_0 : List UInt8) : Option zq80_R :=
 bif room (l_0.length + b_1.length) 1 then
 let x5 := (w64 ((16 : Int) - ((b_1.length : Int).tmod (16 : Int)))).tmod (16 : Int)
 bif decide (0 ≤ x5) then
 bif room ((l_0 ++ b_1).length + (List.replicate x5.toNat (0 : UInt8)).length) 1 then
 some ((), (((l_0 ++ b_1) ++ (List.replicate x5.toNat (0 : UInt8))), ()))
 else none
 else none
 else none
def zq80_C (N : Nat) := Cx 15 []
def zq80_S0 : Spec := ⟨[.row 0, .val (.sl .u8)], [(.row 5 .u8, .pos 0)]⟩
def zq80_S1 : Spec := ⟨[.row 0], [(.row 5 .u8, .pos 0)]⟩
def zq80_K : XE → GS → Option zq80_R := retK 0 [4] [false] zq80_S1
noncomputable def zq80_L : List Code := (bodyOf (some Tryz.f141))
theorem zq80_b (N) : Bk 0 (zq80_C N) (List.range zq80_S0.ks.length) zq80_S0 (zq80_L.drop 0) (fun y => zq80 N y.1.1 y.2.1) zq80_K :=
 cE 4
def zq80_ctr (N : Nat) : Ctr := ⟨zq80_S0, zq80_S1.un [false], 0, (fun y => zq80 N y.1.1 y.2.1)⟩
theorem zq80_ok (N : Nat) : COk 141 (zq80_ctr N) :=
 cF (zw3 (Γ := zq80_C N) zw2 csn) Tryz.func141 Tryz.ntmps141 (zq80_b N)
abbrev zq62_R : Type := (Unit × (List UInt8 × Unit))
def zq62_s2 (N : Nat) (n_1 : Int) (t_6 : Int) (l_0 : List UInt8) : Option (Lo ((Int × Int × Unit) × (List UInt8 × Unit)) (Unit × (List UInt8 × Unit)) zq62_R) :=
 bif (decide (t_6 < (8 : Int))) then
  let x3 := w64 ((8 : Int) * t_6)
  bif decide (0 ≤ x3) then
  let x4 := shr64 (iu64 n_1) x3.toNat
  bif room (l_0.length + ([x4.toUInt8] : List UInt8).length) 1 then
  some (.go ((n_1, (w64 (t_6 + (1 : Int))), ()), ((l_0 ++ ([x4.toUInt8] : List UInt8)), ())))
  else none
  else none
 else
  some (.br ((), (l_0, ())))
def zq62_3 (N : Nat) (l_0 : List UInt8) : Option zq62_R :=
 some ((), (l_0, ()))
def zq62_1 (N : Nat) (n_1 : Int) (t_6 : Int) (l_0 : List UInt8) : Option zq62_R :=
 loopK N (fun y => zq62_s2 N y.1.1 y.1.2.1 y.2.1) (fun (e : (Unit × (List UInt8 × Unit))) => zq62_3 N e.2.1) ((n_1, t_6, ()), (l_0, ()))
def zq62 (N : Nat) (n_1 : Int) (l_0 : List UInt8) : Option zq62_R :=
 zq62_1 N n_1 (0 : Int) l_0
def zq62_C (N : Nat) := Cx 20 []
def zq62_S0 : Spec := ⟨[.row 0, .val .i64, .val .i64], [(.row 5 .u8, .pos 0)]⟩
def zq62_S1 : Spec := ⟨[.row 0], [(.row 5 .u8, .pos 0)]⟩
def zq62_S2 : Spec := ⟨[.row 0, .val .i64], [(.row 5 .u8, .pos 0)]⟩
def zq62_K : XE → GS → Option zq62_R := retK 0 [4] [false] zq62_S1
noncomputable def zq62_L : List Code := (bodyOf (some Tryz.f143))
def zq62_L2 : List Code := (loopOf (zq62_L[2]?))
def zq62_K2 (N : Nat) := roundK (some 0) (fit 0 [0, 1, 6] zq62_S0) (fit 0 [0] zq62_S1) zq62_K
theorem zq62_s2_b (N) : Bk 0 (zq62_C N) [0, 1, 6] zq62_S0 (zq62_L2.drop 0) (fun y => zq62_s2 N y.1.1 y.1.2.1 y.2.1) (zq62_K2 N) :=
 cE 4
theorem zq62_3_b (N) : Bk 0 (zq62_C N) [0] zq62_S1 (zq62_L.drop 3) (fun y => zq62_3 N y.2.1) zq62_K :=
 cE 2
theorem zq62_1_b (N) : Bk 0 (zq62_C N) [0, 1, 6] zq62_S0 (zq62_L.drop 2) (fun y => zq62_1 N y.1.1 y.1.2.1 y.2.1) zq62_K :=
 lG N zq62_S0 [0] zq62_S1 (zq62_3_b N) (zq62_s2_b N)
theorem zq62_b (N) : Bk 0 (zq62_C N) (List.range zq62_S2.ks.length) zq62_S2 (zq62_L.drop 0) (fun y => zq62 N y.1.1 y.2.1) zq62_K :=
 cG 2 (zq62_1_b N)
def zq62_ctr (N : Nat) : Ctr := ⟨zq62_S2, zq62_S1.un [false], 0, (fun y => zq62 N y.1.1 y.2.1)⟩
theorem zq62_ok (N : Nat) : COk 143 (zq62_ctr N) :=
 cF (zw3 (Γ := zq62_C N) zw2 csn) Tryz.func143 Tryz.ntmps143 (zq62_b N)
abbrev zq32_R : Type := (Unit × (List UInt8 × Unit))
def zq32_s2 (N : Nat) (t_8 : Int) (t_9 : Int) (r_3 : List UInt8) : Option (Lo ((Int × Int × Unit) × (List UInt8 × Unit)) (Unit × (List UInt8 × Unit)) zq32_R) :=
 bif (decide (t_9 < t_8)) then
  bif (decide ((t_9.tmod (4 : Int)) = (3 : Int))) then
   bif inR t_9 r_3.length then
   bif inR t_9 r_3.length then
   let x7 := (r_3.set t_9.toNat ((r_3.getD t_9.toNat (0 : UInt8)) &&& (15 : UInt8)))
   bif (decide ((t_9.tmod (4 : Int)) = (0 : Int))) then
    bif (decide ((0 : Int) < t_9)) then
     bif inR t_9 x7.length then
     bif inR t_9 x7.length then
     some (.go ((t_8, (w64 (t_9 + (1 : Int))), ()), ((x7.set t_9.toNat ((x7.getD t_9.toNat (0 : UInt8)) &&& (252 : UInt8))), ())))
     else none
     else none
    else
     some (.go ((t_8, (w64 (t_9 + (1 : Int))), ()), (x7, ())))
   else
    some (.go ((t_8, (w64 (t_9 + (1 : Int))), ()), (x7, ())))
   else none
   else none
  else
   bif (decide ((t_9.tmod (4 : Int)) = (0 : Int))) then
    bif (decide ((0 : Int) < t_9)) then
     bif inR t_9 r_3.length then
     bif inR t_9 r_3.length then
     some (.go ((t_8, (w64 (t_9 + (1 : Int))), ()), ((r_3.set t_9.toNat ((r_3.getD t_9.toNat (0 : UInt8)) &&& (252 : UInt8))), ())))
     else none
     else none
    else
     some (.go ((t_8, (w64 (t_9 + (1 : Int))), ()), (r_3, ())))
   else
    some (.go ((t_8, (w64 (t_9 + (1 : Int))), ()), (r_3, ())))
 else
  some (.br ((), (r_3, ())))
def zq32_3 (N : Nat) (r_3 : List UInt8) : Option zq32_R :=
 some ((), (r_3, ()))
def zq32_1 (N : Nat) (t_8 : Int) (t_9 : Int) (r_3 : List UInt8) : Option zq32_R :=
 loopK N (fun y => zq32_s2 N y.1.1 y.1.2.1 y.2.1) (fun (e : (Unit × (List UInt8 × Unit))) => zq32_3 N e.2.1) ((t_8, t_9, ()), (r_3, ()))
def zq32 (N : Nat) (key_0 : List UInt8) : Option zq32_R :=
 bif room (0 + key_0.length) 1 then
 zq32_1 N (key_0.length : Int) (0 : Int) key_0
 else none
def zq32_C (N : Nat) := Cx 36 []
def zq32_S0 : Spec := ⟨[.row 0, .val .i64, .val .i64], [(.row 5 .u8, .pos 0)]⟩
def zq32_S1 : Spec := ⟨[.row 0], [(.row 5 .u8, .pos 0)]⟩
def zq32_S2 : Spec := ⟨[.val (.sl .u8)], []⟩
def zq32_K : XE → GS → Option zq32_R := retK 0 [2] [false] zq32_S1
noncomputable def zq32_L : List Code := (bodyOf (some Tryz.f149))
def zq32_L2 : List Code := (loopOf (zq32_L[3]?))
def zq32_K2 (N : Nat) := roundK (some 0) (fit 0 [3, 8, 9] zq32_S0) (fit 0 [3] zq32_S1) zq32_K
theorem zq32_s2_b (N) : Bk 0 (zq32_C N) [3, 8, 9] zq32_S0 (zq32_L2.drop 0) (fun y => zq32_s2 N y.1.1 y.1.2.1 y.2.1) (zq32_K2 N) :=
 cE 4
theorem zq32_3_b (N) : Bk 0 (zq32_C N) [3] zq32_S1 (zq32_L.drop 4) (fun y => zq32_3 N y.2.1) zq32_K :=
 cE 2
theorem zq32_1_b (N) : Bk 0 (zq32_C N) [3, 8, 9] zq32_S0 (zq32_L.drop 3) (fun y => zq32_1 N y.1.1 y.1.2.1 y.2.1) zq32_K :=
 lG N zq32_S0 [3] zq32_S1 (zq32_3_b N) (zq32_s2_b N)
theorem zq32_b (N) : Bk 0 (zq32_C N) (List.range zq32_S2.ks.length) zq32_S2 (zq32_L.drop 0) (fun y => zq32 N y.1.1) zq32_K :=
 cG 3 (zq32_1_b N)
def zq32_ctr (N : Nat) : Ctr := ⟨zq32_S2, zq32_S1.un [false], 0, (fun y => zq32 N y.1.1)⟩
theorem zq32_ok (N : Nat) : COk 149 (zq32_ctr N) :=
 cF (zw3 (Γ := zq32_C N) zw2 csn) Tryz.func149 Tryz.ntmps149 (zq32_b N)
abbrev zq25_R : Type := (((List UInt64) × Unit) × Unit)
def zq25_s2 (N : Nat) (t_7 : List UInt8) (t_8 : Int) (t_9 : Int) (t_2 : (List UInt64)) (l_3 : (List UInt64)) : Option (Lo ((List UInt8 × Int × Int × Unit) × ((List UInt64) × (List UInt64) × Unit)) (Unit × ((List UInt64) × (List UInt64) × Unit)) zq25_R) :=
 bif (decide (t_9 < t_8)) then
  bif inR t_9 t_7.length then
  let x3 := t_7.getD t_9.toNat (0 : UInt8)
  let x4 := w64 ((8 : Int) * t_9)
  let x5 := w64 (x4.tdiv (26 : Int))
  bif inR x5 5 then
  let x7 := x4.tmod (26 : Int)
  bif decide (0 ≤ x7) then
  bif inR x5 5 then
  let x11 := (l_3.set x5.toNat ((l_3.getD x5.toNat (0 : UInt64)) + ((shl64 x3.toUInt64 x7.toNat) &&& (67108863 : UInt64))))
  bif (decide ((18 : Int) < (x4.tmod (26 : Int)))) then
   bif (decide ((w64 (x4.tdiv (26 : Int))) < (4 : Int))) then
    let x17 := w64 ((w64 (x4.tdiv (26 : Int))) + (1 : Int))
    bif inR x17 5 then
    let x20 := w64 ((26 : Int) - (x4.tmod (26 : Int)))
    bif decide (0 ≤ x20) then
    bif inR x17 5 then
    some (.go ((t_7, t_8, (w64 (t_9 + (1 : Int))), ()), (t_2, (x11.set x17.toNat ((x11.getD x17.toNat (0 : UInt64)) + (shr64 x3.toUInt64 x20.toNat))), ())))
    else none
    else none
    else none
   else
    some (.go ((t_7, t_8, (w64 (t_9 + (1 : Int))), ()), (t_2, x11, ())))
  else
   some (.go ((t_7, t_8, (w64 (t_9 + (1 : Int))), ()), (t_2, x11, ())))
  else none
  else none
  else none
  else none
 else
  some (.br ((), (t_2, l_3, ())))
def zq25_3 (N : Nat) (t_2 : (List UInt64)) (l_3 : (List UInt64)) : Option zq25_R :=
 some ((l_3, ()), ())
def zq25_1 (N : Nat) (t_7 : List UInt8) (t_8 : Int) (t_9 : Int) (t_2 : (List UInt64)) (l_3 : (List UInt64)) : Option zq25_R :=
 loopK N (fun y => zq25_s2 N y.1.1 y.1.2.1 y.1.2.2.1 y.2.1 y.2.2.1) (fun (e : (Unit × ((List UInt64) × (List UInt64) × Unit))) => zq25_3 N e.2.1 e.2.2.1) ((t_7, t_8, t_9, ()), (t_2, l_3, ()))
def zq25 (N : Nat) (b_0 : List UInt8) : Option zq25_R :=
 zq25_1 N b_0 (b_0.length : Int) (0 : Int) (List.replicate 5 (0 : UInt64)) (List.replicate 5 (0 : UInt64))
def zq25_C (N : Nat) := Cx 51 []
def zq25_S0 : Spec := ⟨[.ref 0 (.arr 5 .u64), .ref 1 (.arr 5 .u64), .val (.sl .u8), .val .i64, .val .i64], [(.box 133 (.arr 5 .u64), .pos 0), (.box 133 (.arr 5 .u64), .pos 1)]⟩
def zq25_S1 : Spec := ⟨[.ref 0 (.arr 5 .u64), .ref 1 (.arr 5 .u64)], [(.box 133 (.arr 5 .u64), .pos 0), (.box 133 (.arr 5 .u64), .pos 1)]⟩
def zq25_S2 : Spec := ⟨[.val (.sl .u8)], []⟩
def zq25_S3 : Spec := ⟨[.fp (.arr 5 .u64)], []⟩
def zq25_K : XE → GS → Option zq25_R := retK 0 [2] [true] zq25_S3
noncomputable def zq25_L : List Code := (bodyOf (some Tryz.f148))
def zq25_L2 : List Code := (loopOf (zq25_L[3]?))
def zq25_K2 (N : Nat) := roundK (some 0) (fit 0 [2, 3, 7, 8, 9] zq25_S0) (fit 0 [2, 3] zq25_S1) zq25_K
theorem zq25_s2_b (N) : Bk 0 (zq25_C N) [2, 3, 7, 8, 9] zq25_S0 (zq25_L2.drop 0) (fun y => zq25_s2 N y.1.1 y.1.2.1 y.1.2.2.1 y.2.1 y.2.2.1) (zq25_K2 N) :=
 cE 4
theorem zq25_3_b (N) : Bk 0 (zq25_C N) [2, 3] zq25_S1 (zq25_L.drop 4) (fun y => zq25_3 N y.2.1 y.2.2.1) zq25_K :=
 cE 2
theorem zq25_1_b (N) : Bk 0 (zq25_C N) [2, 3, 7, 8, 9] zq25_S0 (zq25_L.drop 3) (fun y => zq25_1 N y.1.1 y.1.2.1 y.1.2.2.1 y.2.1 y.2.2.1) zq25_K :=
 lG N zq25_S0 [2, 3] zq25_S1 (zq25_3_b N) (zq25_s2_b N)
theorem zq25_b (N) : Bk 0 (zq25_C N) (List.range zq25_S2.ks.length) zq25_S2 (zq25_L.drop 0) (fun y => zq25 N y.1.1) zq25_K :=
 cG 3 (zq25_1_b N)
def zq25_ctr (N : Nat) : Ctr := ⟨zq25_S2, zq25_S3.un [true], 0, (fun y => zq25 N y.1.1)⟩
theorem zq25_ok (N : Nat) : COk 148 (zq25_ctr N) :=
 cF (zw3 (Γ := zq25_C N) zw2 csn) Tryz.func148 Tryz.ntmps148 (zq25_b N)
abbrev zq4_R : Type := (((List UInt64) × Unit) × Unit)
def zq4_s7 (N : Nat) (c_3 : UInt64) (t_5 : Int) (t_7 : Int) (a_1 : (List UInt64)) (t_2 : (List UInt64)) : Option (Lo ((UInt64 × Int × Int × Unit) × ((List UInt64) × (List UInt64) × Unit)) ((UInt64 × Int × Unit) × ((List UInt64) × (List UInt64) × Unit)) (Lo ((Int × Unit) × ((List UInt64) × (List UInt64) × Unit)) (Unit × ((List UInt64) × (List UInt64) × Unit)) zq4_R)) :=
 bif (decide (t_7 < (5 : Int))) then
  bif inR t_7 5 then
  bif inR t_7 5 then
  let x5 := (a_1.set t_7.toNat ((a_1.getD t_7.toNat (0 : UInt64)) + c_3))
  bif inR t_7 5 then
  bif inR t_7 5 then
  bif inR t_7 5 then
  some (.go (((shr64 (x5.getD t_7.toNat (0 : UInt64)) 26), t_5, (w64 (t_7 + (1 : Int))), ()), ((x5.set t_7.toNat ((x5.getD t_7.toNat (0 : UInt64)) &&& (67108863 : UInt64))), t_2, ())))
  else none
  else none
  else none
  else none
  else none
 else
  some (.br ((c_3, t_5, ()), (a_1, t_2, ())))
def zq4_9 (N : Nat) (t_5 : Int) (a_1 : (List UInt64)) (t_2 : (List UInt64)) : Option (Lo ((Int × Unit) × ((List UInt64) × (List UInt64) × Unit)) (Unit × ((List UInt64) × (List UInt64) × Unit)) zq4_R) :=
 some (.go (((w64 (t_5 + (1 : Int))), ()), (a_1, t_2, ())))
def zq4_8 (N : Nat) (c_3 : UInt64) (t_5 : Int) (a_1 : (List UInt64)) (t_2 : (List UInt64)) : Option (Lo ((Int × Unit) × ((List UInt64) × (List UInt64) × Unit)) (Unit × ((List UInt64) × (List UInt64) × Unit)) zq4_R) :=
 zq4_9 N t_5 (a_1.set 0 ((a_1.getD 0 (0 : UInt64)) + ((5 : UInt64) * c_3))) t_2
def zq4_6 (N : Nat) (c_3 : UInt64) (t_5 : Int) (t_7 : Int) (a_1 : (List UInt64)) (t_2 : (List UInt64)) : Option (Lo ((Int × Unit) × ((List UInt64) × (List UInt64) × Unit)) (Unit × ((List UInt64) × (List UInt64) × Unit)) zq4_R) :=
 loopK N (fun y => zq4_s7 N y.1.1 y.1.2.1 y.1.2.2.1 y.2.1 y.2.2.1) (fun (e : ((UInt64 × Int × Unit) × ((List UInt64) × (List UInt64) × Unit))) => zq4_8 N e.1.1 e.1.2.1 e.2.1 e.2.2.1) ((c_3, t_5, t_7, ()), (a_1, t_2, ()))
def zq4_5 (N : Nat) (t_5 : Int) (a_1 : (List UInt64)) (t_2 : (List UInt64)) : Option (Lo ((Int × Unit) × ((List UInt64) × (List UInt64) × Unit)) (Unit × ((List UInt64) × (List UInt64) × Unit)) zq4_R) :=
 zq4_6 N (0 : UInt64) t_5 (0 : Int) a_1 t_2
def zq4_3 (N : Nat) (t_5 : Int) (a_1 : (List UInt64)) (t_2 : (List UInt64)) : Option (Lo ((Int × Unit) × ((List UInt64) × (List UInt64) × Unit)) (Unit × ((List UInt64) × (List UInt64) × Unit)) zq4_R) :=
 zq4_5 N t_5 a_1 t_2
def zq4_s2 (N : Nat) (t_5 : Int) (a_1 : (List UInt64)) (t_2 : (List UInt64)) : Option (Lo ((Int × Unit) × ((List UInt64) × (List UInt64) × Unit)) (Unit × ((List UInt64) × (List UInt64) × Unit)) zq4_R) :=
 bif (decide (t_5 < (2 : Int))) then
  zq4_3 N t_5 a_1 t_2
 else
  some (.br ((), (a_1, t_2, ())))
def zq4_10 (N : Nat) (a_1 : (List UInt64)) (t_2 : (List UInt64)) : Option zq4_R :=
 some ((a_1, ()), ())
def zq4_1 (N : Nat) (t_5 : Int) (a_1 : (List UInt64)) (t_2 : (List UInt64)) : Option zq4_R :=
 loopK N (fun y => zq4_s2 N y.1.1 y.2.1 y.2.2.1) (fun (e : (Unit × ((List UInt64) × (List UInt64) × Unit))) => zq4_10 N e.2.1 e.2.2.1) ((t_5, ()), (a_1, t_2, ()))
def zq4 (N : Nat) (a_0 : (List UInt64)) : Option zq4_R :=
 zq4_1 N (0 : Int) a_0 (List.replicate 5 (0 : UInt64))
def zq4_C (N : Nat) := Cx 34 []
def zq4_S0 : Spec := ⟨[.ref 0 (.arr 5 .u64), .ref 1 (.arr 5 .u64), .val .u64, .val .i64, .val .i64], [(.box 133 (.arr 5 .u64), .pos 0), (.box 133 (.arr 5 .u64), .pos 1)]⟩
def zq4_S1 : Spec := ⟨[.ref 0 (.arr 5 .u64), .ref 1 (.arr 5 .u64), .val .i64], [(.box 133 (.arr 5 .u64), .pos 0), (.box 133 (.arr 5 .u64), .pos 1)]⟩
def zq4_S2 : Spec := ⟨[.ref 0 (.arr 5 .u64), .ref 1 (.arr 5 .u64), .val .u64, .val .i64], [(.box 133 (.arr 5 .u64), .pos 0), (.box 133 (.arr 5 .u64), .pos 1)]⟩
def zq4_S3 : Spec := ⟨[.ref 0 (.arr 5 .u64), .ref 1 (.arr 5 .u64)], [(.box 133 (.arr 5 .u64), .pos 0), (.box 133 (.arr 5 .u64), .pos 1)]⟩
def zq4_S4 : Spec := ⟨[.val (.arr 5 .u64)], []⟩
def zq4_S5 : Spec := ⟨[.fp (.arr 5 .u64)], []⟩
def zq4_K : XE → GS → Option zq4_R := retK 0 [2] [true] zq4_S5
noncomputable def zq4_L : List Code := (bodyOf (some Tryz.f156))
def zq4_L2 : List Code := (loopOf (zq4_L[2]?))
def zq4_L4b : List Code := (zw17 (zq4_L2[2]?))
def zq4_L7 : List Code := (loopOf (zq4_L4b[2]?))
def zq4_K2 (N : Nat) := roundK (some 0) (fit 0 [1, 2, 5] zq4_S1) (fit 0 [1, 2] zq4_S3) zq4_K
def zq4_K4 (N : Nat) : XE → GS → Option (Lo ((Int × Unit) × ((List UInt64) × (List UInt64) × Unit)) (Unit × ((List UInt64) × (List UInt64) × Unit)) zq4_R) := blockK 1 (goK 0 [1, 2, 5] zq4_S1 (fun y => zq4_9 N y.1.1 y.2.1 y.2.2.1)) (zq4_K2 N)
def zq4_K7 (N : Nat) := roundK (some 2) (fit 0 [1, 2, 3, 5, 7] zq4_S0) (fit 0 [1, 2, 3, 5] zq4_S2) (zq4_K4 N)
theorem zq4_s7_b (N) : Bk 0 (zq4_C N) [1, 2, 3, 5, 7] zq4_S0 (zq4_L7.drop 0) (fun y => zq4_s7 N y.1.1 y.1.2.1 y.1.2.2.1 y.2.1 y.2.2.1) (zq4_K7 N) :=
 cE 4
theorem zq4_9_b (N) : Bk 0 (zq4_C N) [1, 2, 5] zq4_S1 (zq4_L2.drop 3) (fun y => zq4_9 N y.1.1 y.2.1 y.2.2.1) (zq4_K2 N) :=
 cE 1
theorem zq4_8_b (N) : Bk 0 (zq4_C N) [1, 2, 3, 5] zq4_S2 (zq4_L4b.drop 3) (fun y => zq4_8 N y.1.1 y.1.2.1 y.2.1 y.2.2.1) (zq4_K4 N) :=
 cE 1
theorem zq4_6_b (N) : Bk 0 (zq4_C N) [1, 2, 3, 5, 7] zq4_S0 (zq4_L4b.drop 2) (fun y => zq4_6 N y.1.1 y.1.2.1 y.1.2.2.1 y.2.1 y.2.2.1) (zq4_K4 N) :=
 lG N zq4_S0 [1, 2, 3, 5] zq4_S2 (zq4_8_b N) (zq4_s7_b N)
theorem zq4_5_b (N) : Bk 0 (zq4_C N) [1, 2, 5] zq4_S1 (zq4_L4b.drop 0) (fun y => zq4_5 N y.1.1 y.2.1 y.2.2.1) (zq4_K4 N) :=
 cG 2 (zq4_6_b N)
theorem zq4_3_b (N) : Bk 0 (zq4_C N) [1, 2, 5] zq4_S1 (zq4_L2.drop 2) (fun y => zq4_3 N y.1.1 y.2.1 y.2.2.1) (zq4_K2 N) :=
 fun hb => Blk.blockAt (bid := 1) (X := (goK 0 [1, 2, 5] zq4_S1 (fun y => zq4_9 N y.1.1 y.2.1 y.2.2.1))) (Y := (goK 0 [1, 2, 5] zq4_S1 (fun y => zq4_5 N y.1.1 y.2.1 y.2.2.1))) (by kernel_rfl) (NxOk.go hb (zq4_9_b N hb)) (NxOk.go hb (zq4_5_b N hb)) (fun x => by kernel_rfl)
theorem zq4_s2_b (N) : Bk 0 (zq4_C N) [1, 2, 5] zq4_S1 (zq4_L2.drop 0) (fun y => zq4_s2 N y.1.1 y.2.1 y.2.2.1) (zq4_K2 N) :=
 cG 2 (zq4_3_b N)
theorem zq4_10_b (N) : Bk 0 (zq4_C N) [1, 2] zq4_S3 (zq4_L.drop 3) (fun y => zq4_10 N y.2.1 y.2.2.1) zq4_K :=
 cE 2
theorem zq4_1_b (N) : Bk 0 (zq4_C N) [1, 2, 5] zq4_S1 (zq4_L.drop 2) (fun y => zq4_1 N y.1.1 y.2.1 y.2.2.1) zq4_K :=
 lG N zq4_S1 [1, 2] zq4_S3 (zq4_10_b N) (zq4_s2_b N)
theorem zq4_b (N) : Bk 0 (zq4_C N) (List.range zq4_S4.ks.length) zq4_S4 (zq4_L.drop 0) (fun y => zq4 N y.1.1) zq4_K :=
 cG 2 (zq4_1_b N)
def zq4_ctr (N : Nat) : Ctr := ⟨zq4_S4, zq4_S5.un [true], 0, (fun y => zq4 N y.1.1)⟩
theorem zq4_ok (N : Nat) : COk 156 (zq4_ctr N) :=
 cF (zw3 (Γ := zq4_C N) zw2 csn) Tryz.func156 Tryz.ntmps156 (zq4_b N)
abbrev zq10_R : Type := (((List UInt64) × Unit) × Unit)
def zq10_s2 (N : Nat) (t_6 : Int) (a_2 : (List UInt64)) (b_3 : (List UInt64)) (t_4 : (List UInt64)) : Option (Lo ((Int × Unit) × ((List UInt64) × (List UInt64) × (List UInt64) × Unit)) (Unit × ((List UInt64) × (List UInt64) × Unit)) zq10_R) :=
 bif (decide (t_6 < (5 : Int))) then
  bif inR t_6 5 then
  bif inR t_6 5 then
  bif inR t_6 5 then
  some (.go (((w64 (t_6 + (1 : Int))), ()), ((a_2.set t_6.toNat ((a_2.getD t_6.toNat (0 : UInt64)) + (b_3.getD t_6.toNat (0 : UInt64)))), b_3, t_4, ())))
  else none
  else none
  else none
 else
  some (.br ((), (a_2, t_4, ())))
def zq10_3 (N : Nat) (a_2 : (List UInt64)) (t_4 : (List UInt64)) : Option zq10_R :=
 Option.bind (zq4 N a_2) fun y7 =>
 some ((y7.1.1, ()), ())
def zq10_1 (N : Nat) (t_6 : Int) (a_2 : (List UInt64)) (b_3 : (List UInt64)) (t_4 : (List UInt64)) : Option zq10_R :=
 loopK N (fun y => zq10_s2 N y.1.1 y.2.1 y.2.2.1 y.2.2.2.1) (fun (e : (Unit × ((List UInt64) × (List UInt64) × Unit))) => zq10_3 N e.2.1 e.2.2.1) ((t_6, ()), (a_2, b_3, t_4, ()))
def zq10 (N : Nat) (a_0 : (List UInt64)) (b_1 : (List UInt64)) : Option zq10_R :=
 zq10_1 N (0 : Int) a_0 b_1 (List.replicate 5 (0 : UInt64))
def zq10_C (N : Nat) := Cx 20 [(156, zq4_ctr N)]
def zq10_S0 : Spec := ⟨[.ref 0 (.arr 5 .u64), .ref 1 (.arr 5 .u64), .ref 2 (.arr 5 .u64), .val .i64], [(.box 133 (.arr 5 .u64), .pos 0), (.box 133 (.arr 5 .u64), .pos 1), (.box 133 (.arr 5 .u64), .pos 2)]⟩
def zq10_S1 : Spec := ⟨[.ref 0 (.arr 5 .u64), .ref 1 (.arr 5 .u64)], [(.box 133 (.arr 5 .u64), .pos 0), (.box 133 (.arr 5 .u64), .pos 1)]⟩
def zq10_S2 : Spec := ⟨[.val (.arr 5 .u64), .val (.arr 5 .u64)], []⟩
def zq10_S3 : Spec := ⟨[.fp (.arr 5 .u64)], []⟩
def zq10_K : XE → GS → Option zq10_R := retK 0 [4] [true] zq10_S3
noncomputable def zq10_L : List Code := (bodyOf (some Tryz.f150))
def zq10_L2 : List Code := (loopOf (zq10_L[2]?))
def zq10_K2 (N : Nat) := roundK (some 0) (fit 0 [2, 3, 4, 6] zq10_S0) (fit 0 [2, 4] zq10_S1) zq10_K
theorem zq10_s2_b (N) : Bk 0 (zq10_C N) [2, 3, 4, 6] zq10_S0 (zq10_L2.drop 0) (fun y => zq10_s2 N y.1.1 y.2.1 y.2.2.1 y.2.2.2.1) (zq10_K2 N) :=
 cE 4
theorem zq10_3_b (N) : Bk 0 (zq10_C N) [2, 4] zq10_S1 (zq10_L.drop 3) (fun y => zq10_3 N y.2.1 y.2.2.1) zq10_K :=
 cE 2
theorem zq10_1_b (N) : Bk 0 (zq10_C N) [2, 3, 4, 6] zq10_S0 (zq10_L.drop 2) (fun y => zq10_1 N y.1.1 y.2.1 y.2.2.1 y.2.2.2.1) zq10_K :=
 lG N zq10_S0 [2, 4] zq10_S1 (zq10_3_b N) (zq10_s2_b N)
theorem zq10_b (N) : Bk 0 (zq10_C N) (List.range zq10_S2.ks.length) zq10_S2 (zq10_L.drop 0) (fun y => zq10 N y.1.1 y.1.2.1) zq10_K :=
 cG 2 (zq10_1_b N)
def zq10_ctr (N : Nat) : Ctr := ⟨zq10_S2, zq10_S3.un [true], 0, (fun y => zq10 N y.1.1 y.1.2.1)⟩
theorem zq10_ok (N : Nat) : COk 150 (zq10_ctr N) :=
 cF (zw3 (Γ := zq10_C N) zw2 (csc (zq4_ok N) csn)) Tryz.func150 Tryz.ntmps150 (zq10_b N)
abbrev zq9_R : Type := (((List UInt64) × Unit) × Unit)
def zq9_s7 (N : Nat) (i_6 : Int) (t_9 : Int) (t_12 : Int) (a_2 : (List UInt64)) (b_3 : (List UInt64)) (t_4 : (List UInt64)) (out_5 : (List UInt64)) : Option (Lo ((Int × Int × Int × Unit) × ((List UInt64) × (List UInt64) × (List UInt64) × (List UInt64) × Unit)) ((Int × Unit) × ((List UInt64) × (List UInt64) × (List UInt64) × (List UInt64) × Unit)) (Lo ((Int × Unit) × ((List UInt64) × (List UInt64) × (List UInt64) × (List UInt64) × Unit)) (Unit × ((List UInt64) × (List UInt64) × Unit)) zq9_R)) :=
 bif (decide (t_12 < (5 : Int))) then
  bif inR i_6 5 then
  let x3 := (a_2.getD i_6.toNat (0 : UInt64))
  bif inR t_12 5 then
  let x4 := (b_3.getD t_12.toNat (0 : UInt64))
  bif (decide ((5 : Int) ≤ (w64 (i_6 + t_12)))) then
   let x10 := (w64 (i_6 + t_12)).tmod (5 : Int)
   bif inR x10 5 then
   bif inR x10 5 then
   some (.go ((i_6, t_9, (w64 (t_12 + (1 : Int))), ()), (a_2, b_3, t_4, (out_5.set x10.toNat ((out_5.getD x10.toNat (0 : UInt64)) + ((x3 * x4) * (5 : UInt64)))), ())))
   else none
   else none
  else
   let x16 := (w64 (i_6 + t_12)).tmod (5 : Int)
   bif inR x16 5 then
   bif inR x16 5 then
   some (.go ((i_6, t_9, (w64 (t_12 + (1 : Int))), ()), (a_2, b_3, t_4, (out_5.set x16.toNat ((out_5.getD x16.toNat (0 : UInt64)) + (x3 * x4))), ())))
   else none
   else none
  else none
  else none
 else
  some (.br ((t_9, ()), (a_2, b_3, t_4, out_5, ())))
def zq9_8 (N : Nat) (t_9 : Int) (a_2 : (List UInt64)) (b_3 : (List UInt64)) (t_4 : (List UInt64)) (out_5 : (List UInt64)) : Option (Lo ((Int × Unit) × ((List UInt64) × (List UInt64) × (List UInt64) × (List UInt64) × Unit)) (Unit × ((List UInt64) × (List UInt64) × Unit)) zq9_R) :=
 some (.go (((w64 (t_9 + (1 : Int))), ()), (a_2, b_3, t_4, out_5, ())))
def zq9_6 (N : Nat) (i_6 : Int) (t_9 : Int) (t_12 : Int) (a_2 : (List UInt64)) (b_3 : (List UInt64)) (t_4 : (List UInt64)) (out_5 : (List UInt64)) : Option (Lo ((Int × Unit) × ((List UInt64) × (List UInt64) × (List UInt64) × (List UInt64) × Unit)) (Unit × ((List UInt64) × (List UInt64) × Unit)) zq9_R) :=
 loopK N (fun y => zq9_s7 N y.1.1 y.1.2.1 y.1.2.2.1 y.2.1 y.2.2.1 y.2.2.2.1 y.2.2.2.2.1) (fun (e : ((Int × Unit) × ((List UInt64) × (List UInt64) × (List UInt64) × (List UInt64) × Unit))) => zq9_8 N e.1.1 e.2.1 e.2.2.1 e.2.2.2.1 e.2.2.2.2.1) ((i_6, t_9, t_12, ()), (a_2, b_3, t_4, out_5, ()))
def zq9_5 (N : Nat) (t_9 : Int) (a_2 : (List UInt64)) (b_3 : (List UInt64)) (t_4 : (List UInt64)) (out_5 : (List UInt64)) : Option (Lo ((Int × Unit) × ((List UInt64) × (List UInt64) × (List UInt64) × (List UInt64) × Unit)) (Unit × ((List UInt64) × (List UInt64) × Unit)) zq9_R) :=
 zq9_6 N t_9 t_9 (0 : Int) a_2 b_3 t_4 out_5
def zq9_3 (N : Nat) (t_9 : Int) (a_2 : (List UInt64)) (b_3 : (List UInt64)) (t_4 : (List UInt64)) (out_5 : (List UInt64)) : Option (Lo ((Int × Unit) × ((List UInt64) × (List UInt64) × (List UInt64) × (List UInt64) × Unit)) (Unit × ((List UInt64) × (List UInt64) × Unit)) zq9_R) :=
 zq9_5 N t_9 a_2 b_3 t_4 out_5
def zq9_s2 (N : Nat) (t_9 : Int) (a_2 : (List UInt64)) (b_3 : (List UInt64)) (t_4 : (List UInt64)) (out_5 : (List UInt64)) : Option (Lo ((Int × Unit) × ((List UInt64) × (List UInt64) × (List UInt64) × (List UInt64) × Unit)) (Unit × ((List UInt64) × (List UInt64) × Unit)) zq9_R) :=
 bif (decide (t_9 < (5 : Int))) then
  zq9_3 N t_9 a_2 b_3 t_4 out_5
 else
  some (.br ((), (t_4, out_5, ())))
def zq9_9 (N : Nat) (t_4 : (List UInt64)) (out_5 : (List UInt64)) : Option zq9_R :=
 Option.bind (zq4 N out_5) fun y22 =>
 some ((y22.1.1, ()), ())
def zq9_1 (N : Nat) (t_9 : Int) (a_2 : (List UInt64)) (b_3 : (List UInt64)) (t_4 : (List UInt64)) (out_5 : (List UInt64)) : Option zq9_R :=
 loopK N (fun y => zq9_s2 N y.1.1 y.2.1 y.2.2.1 y.2.2.2.1 y.2.2.2.2.1) (fun (e : (Unit × ((List UInt64) × (List UInt64) × Unit))) => zq9_9 N e.2.1 e.2.2.1) ((t_9, ()), (a_2, b_3, t_4, out_5, ()))
def zq9 (N : Nat) (a_0 : (List UInt64)) (b_1 : (List UInt64)) : Option zq9_R :=
 zq9_1 N (0 : Int) a_0 b_1 (List.replicate 5 (0 : UInt64)) (List.replicate 5 (0 : UInt64))
def zq9_C (N : Nat) := Cx 41 [(156, zq4_ctr N)]
def zq9_S0 : Spec := ⟨[.ref 0 (.arr 5 .u64), .ref 1 (.arr 5 .u64), .ref 2 (.arr 5 .u64), .ref 3 (.arr 5 .u64), .val .i64, .val .i64, .val .i64], [(.box 133 (.arr 5 .u64), .pos 0), (.box 133 (.arr 5 .u64), .pos 1), (.box 133 (.arr 5 .u64), .pos 2), (.box 133 (.arr 5 .u64), .pos 3)]⟩
def zq9_S1 : Spec := ⟨[.ref 0 (.arr 5 .u64), .ref 1 (.arr 5 .u64), .ref 2 (.arr 5 .u64), .ref 3 (.arr 5 .u64), .val .i64], [(.box 133 (.arr 5 .u64), .pos 0), (.box 133 (.arr 5 .u64), .pos 1), (.box 133 (.arr 5 .u64), .pos 2), (.box 133 (.arr 5 .u64), .pos 3)]⟩
def zq9_S2 : Spec := ⟨[.ref 0 (.arr 5 .u64), .ref 1 (.arr 5 .u64)], [(.box 133 (.arr 5 .u64), .pos 0), (.box 133 (.arr 5 .u64), .pos 1)]⟩
def zq9_S3 : Spec := ⟨[.val (.arr 5 .u64), .val (.arr 5 .u64)], []⟩
def zq9_S4 : Spec := ⟨[.fp (.arr 5 .u64)], []⟩
def zq9_K : XE → GS → Option zq9_R := retK 0 [4] [true] zq9_S4
noncomputable def zq9_L : List Code := (bodyOf (some Tryz.f151))
def zq9_L2 : List Code := (loopOf (zq9_L[3]?))
def zq9_L4b : List Code := (zw17 (zq9_L2[2]?))
def zq9_L7 : List Code := (loopOf (zq9_L4b[2]?))
def zq9_K2 (N : Nat) := roundK (some 0) (fit 0 [2, 3, 4, 5, 9] zq9_S1) (fit 0 [4, 5] zq9_S2) zq9_K
def zq9_K4 (N : Nat) : XE → GS → Option (Lo ((Int × Unit) × ((List UInt64) × (List UInt64) × (List UInt64) × (List UInt64) × Unit)) (Unit × ((List UInt64) × (List UInt64) × Unit)) zq9_R) := blockK 1 (goK 0 [2, 3, 4, 5, 9] zq9_S1 (fun y => zq9_8 N y.1.1 y.2.1 y.2.2.1 y.2.2.2.1 y.2.2.2.2.1)) (zq9_K2 N)
def zq9_K7 (N : Nat) := roundK (some 2) (fit 0 [2, 3, 4, 5, 6, 9, 12] zq9_S0) (fit 0 [2, 3, 4, 5, 9] zq9_S1) (zq9_K4 N)
theorem zq9_s7_b (N) : Bk 0 (zq9_C N) [2, 3, 4, 5, 6, 9, 12] zq9_S0 (zq9_L7.drop 0) (fun y => zq9_s7 N y.1.1 y.1.2.1 y.1.2.2.1 y.2.1 y.2.2.1 y.2.2.2.1 y.2.2.2.2.1) (zq9_K7 N) :=
 cE 4
theorem zq9_8_b (N) : Bk 0 (zq9_C N) [2, 3, 4, 5, 9] zq9_S1 (zq9_L2.drop 3) (fun y => zq9_8 N y.1.1 y.2.1 y.2.2.1 y.2.2.2.1 y.2.2.2.2.1) (zq9_K2 N) :=
 cE 1
theorem zq9_6_b (N) : Bk 0 (zq9_C N) [2, 3, 4, 5, 6, 9, 12] zq9_S0 (zq9_L4b.drop 2) (fun y => zq9_6 N y.1.1 y.1.2.1 y.1.2.2.1 y.2.1 y.2.2.1 y.2.2.2.1 y.2.2.2.2.1) (zq9_K4 N) :=
 lE N zq9_S0 [2, 3, 4, 5, 9] zq9_S1 (zq9_s7_b N)
theorem zq9_5_b (N) : Bk 0 (zq9_C N) [2, 3, 4, 5, 9] zq9_S1 (zq9_L4b.drop 0) (fun y => zq9_5 N y.1.1 y.2.1 y.2.2.1 y.2.2.2.1 y.2.2.2.2.1) (zq9_K4 N) :=
 cG 2 (zq9_6_b N)
theorem zq9_3_b (N) : Bk 0 (zq9_C N) [2, 3, 4, 5, 9] zq9_S1 (zq9_L2.drop 2) (fun y => zq9_3 N y.1.1 y.2.1 y.2.2.1 y.2.2.2.1 y.2.2.2.2.1) (zq9_K2 N) :=
 fun hb => Blk.blockAt (bid := 1) (X := (goK 0 [2, 3, 4, 5, 9] zq9_S1 (fun y => zq9_8 N y.1.1 y.2.1 y.2.2.1 y.2.2.2.1 y.2.2.2.2.1))) (Y := (goK 0 [2, 3, 4, 5, 9] zq9_S1 (fun y => zq9_5 N y.1.1 y.2.1 y.2.2.1 y.2.2.2.1 y.2.2.2.2.1))) (by kernel_rfl) (NxOk.go hb (zq9_8_b N hb)) (NxOk.go hb (zq9_5_b N hb)) (fun x => by kernel_rfl)
theorem zq9_s2_b (N) : Bk 0 (zq9_C N) [2, 3, 4, 5, 9] zq9_S1 (zq9_L2.drop 0) (fun y => zq9_s2 N y.1.1 y.2.1 y.2.2.1 y.2.2.2.1 y.2.2.2.2.1) (zq9_K2 N) :=
 cG 2 (zq9_3_b N)
theorem zq9_9_b (N) : Bk 0 (zq9_C N) [4, 5] zq9_S2 (zq9_L.drop 4) (fun y => zq9_9 N y.2.1 y.2.2.1) zq9_K :=
 cE 2
theorem zq9_1_b (N) : Bk 0 (zq9_C N) [2, 3, 4, 5, 9] zq9_S1 (zq9_L.drop 3) (fun y => zq9_1 N y.1.1 y.2.1 y.2.2.1 y.2.2.2.1 y.2.2.2.2.1) zq9_K :=
 lG N zq9_S1 [4, 5] zq9_S2 (zq9_9_b N) (zq9_s2_b N)
theorem zq9_b (N) : Bk 0 (zq9_C N) (List.range zq9_S3.ks.length) zq9_S3 (zq9_L.drop 0) (fun y => zq9 N y.1.1 y.1.2.1) zq9_K :=
 cG 3 (zq9_1_b N)
def zq9_ctr (N : Nat) : Ctr := ⟨zq9_S3, zq9_S4.un [true], 0, (fun y => zq9 N y.1.1 y.1.2.1)⟩
theorem zq9_ok (N : Nat) : COk 151 (zq9_ctr N) :=
 cF (zw3 (Γ := zq9_C N) zw2 (csc (zq4_ok N) csn)) Tryz.func151 Tryz.ntmps151 (zq9_b N)
abbrev zq3_R : Type := (((List UInt64) × Unit) × Unit)
def zq3_s2 (N : Nat) (t_13 : Int) (a_1 : (List UInt64)) (t_2 : (List UInt64)) (b_3 : (List UInt64)) : Option (Lo ((Int × Unit) × ((List UInt64) × (List UInt64) × (List UInt64) × Unit)) (Unit × ((List UInt64) × (List UInt64) × (List UInt64) × Unit)) zq3_R) :=
 bif (decide (t_13 < (4 : Int))) then
  let x7 := w64 (t_13 + (1 : Int))
  bif inR x7 5 then
  bif inR t_13 5 then
  bif inR x7 5 then
  let x12 := (b_3.set x7.toNat ((b_3.getD x7.toNat (0 : UInt64)) + (shr64 (b_3.getD t_13.toNat (0 : UInt64)) 26)))
  bif inR t_13 5 then
  bif inR t_13 5 then
  some (.go (((w64 (t_13 + (1 : Int))), ()), (a_1, t_2, (x12.set t_13.toNat ((x12.getD t_13.toNat (0 : UInt64)) &&& (67108863 : UInt64))), ())))
  else none
  else none
  else none
  else none
  else none
 else
  some (.br ((), (a_1, t_2, b_3, ())))
def zq3_3 (N : Nat) (a_1 : (List UInt64)) (t_2 : (List UInt64)) (b_3 : (List UInt64)) : Option zq3_R :=
 bif (decide ((shr64 (b_3.getD 4 (0 : UInt64)) 26) = (0 : UInt64))) then
  some ((a_1, ()), ())
 else
  some (((b_3.set 4 ((b_3.getD 4 (0 : UInt64)) &&& (67108863 : UInt64))), ()), ())
def zq3_1 (N : Nat) (t_13 : Int) (a_1 : (List UInt64)) (t_2 : (List UInt64)) (b_3 : (List UInt64)) : Option zq3_R :=
 loopK N (fun y => zq3_s2 N y.1.1 y.2.1 y.2.2.1 y.2.2.2.1) (fun (e : (Unit × ((List UInt64) × (List UInt64) × (List UInt64) × Unit))) => zq3_3 N e.2.1 e.2.2.1 e.2.2.2.1) ((t_13, ()), (a_1, t_2, b_3, ()))
def zq3 (N : Nat) (a_0 : (List UInt64)) : Option zq3_R :=
 Option.bind (zq4 N a_0) fun y1 =>
 Option.bind (zq4 N y1.1.1) fun y2 =>
 zq3_1 N (0 : Int) y2.1.1 (List.replicate 5 (0 : UInt64)) (y2.1.1.set 0 ((y2.1.1.getD 0 (0 : UInt64)) + (5 : UInt64)))
def zq3_C (N : Nat) := Cx 42 [(156, zq4_ctr N)]
def zq3_S0 : Spec := ⟨[.ref 0 (.arr 5 .u64), .ref 1 (.arr 5 .u64), .ref 2 (.arr 5 .u64), .val .i64], [(.box 133 (.arr 5 .u64), .pos 0), (.box 133 (.arr 5 .u64), .pos 1), (.box 133 (.arr 5 .u64), .pos 2)]⟩
def zq3_S1 : Spec := ⟨[.ref 0 (.arr 5 .u64), .ref 1 (.arr 5 .u64), .ref 2 (.arr 5 .u64)], [(.box 133 (.arr 5 .u64), .pos 0), (.box 133 (.arr 5 .u64), .pos 1), (.box 133 (.arr 5 .u64), .pos 2)]⟩
def zq3_S2 : Spec := ⟨[.val (.arr 5 .u64)], []⟩
def zq3_S3 : Spec := ⟨[.fp (.arr 5 .u64)], []⟩
def zq3_K : XE → GS → Option zq3_R := retK 0 [2] [true] zq3_S3
noncomputable def zq3_L : List Code := (bodyOf (some Tryz.f152))
def zq3_L2 : List Code := (loopOf (zq3_L[5]?))
def zq3_K2 (N : Nat) := roundK (some 0) (fit 0 [1, 2, 3, 13] zq3_S0) (fit 0 [1, 2, 3] zq3_S1) zq3_K
theorem zq3_s2_b (N) : Bk 0 (zq3_C N) [1, 2, 3, 13] zq3_S0 (zq3_L2.drop 0) (fun y => zq3_s2 N y.1.1 y.2.1 y.2.2.1 y.2.2.2.1) (zq3_K2 N) :=
 cE 4
theorem zq3_3_b (N) : Bk 0 (zq3_C N) [1, 2, 3] zq3_S1 (zq3_L.drop 6) (fun y => zq3_3 N y.2.1 y.2.2.1 y.2.2.2.1) zq3_K :=
 cE 5
theorem zq3_1_b (N) : Bk 0 (zq3_C N) [1, 2, 3, 13] zq3_S0 (zq3_L.drop 5) (fun y => zq3_1 N y.1.1 y.2.1 y.2.2.1 y.2.2.2.1) zq3_K :=
 lG N zq3_S0 [1, 2, 3] zq3_S1 (zq3_3_b N) (zq3_s2_b N)
theorem zq3_b (N) : Bk 0 (zq3_C N) (List.range zq3_S2.ks.length) zq3_S2 (zq3_L.drop 0) (fun y => zq3 N y.1.1) zq3_K :=
 cG 5 (zq3_1_b N)
def zq3_ctr (N : Nat) : Ctr := ⟨zq3_S2, zq3_S3.un [true], 0, (fun y => zq3 N y.1.1)⟩
theorem zq3_ok (N : Nat) : COk 152 (zq3_ctr N) :=
 cF (zw3 (Γ := zq3_C N) zw2 (csc (zq4_ok N) csn)) Tryz.func152 Tryz.ntmps152 (zq3_b N)
abbrev zq49_R : Type := ((Bool × Unit) × (List UInt8 × Unit))
def zq49_s2 (N : Nat) (key_0 : List UInt8) (b_1 : List UInt8) (r_6 : (List UInt64)) (v_7 : (List UInt64)) : Option (Lo ((List UInt8 × List UInt8 × Unit) × ((List UInt64) × (List UInt64) × Unit)) ((List UInt8 × Unit) × ((List UInt64) × Unit)) zq49_R) :=
 bif (decide ((0 : Int) < (b_1.length : Int))) then
  let x8 := (b_1.length : Int)
  let x9 := bif decide (x8 < (16 : Int)) then x8 else (16 : Int)
  bif decide (0 ≤ (0 : Int)) && decide ((0 : Int) ≤ x9) && decide (x9 ≤ (b_1.length : Int)) && true then
  let x10 := cut b_1 0 x9.toNat
  bif room (0 + x10.length) 1 then
  bif room (x10.length + ([(1 : UInt8)] : List UInt8).length) 1 then
  Option.bind (zq25 N (x10 ++ ([(1 : UInt8)] : List UInt8))) fun y12 =>
  Option.bind (zq10 N v_7 y12.1.1) fun y13 =>
  Option.bind (zq9 N y13.1.1 r_6) fun y14 =>
  bif decide (0 ≤ x9) && decide (x9 ≤ (b_1.length : Int)) && decide ((b_1.length : Int) ≤ (b_1.length : Int)) && true then
  some (.go ((key_0, (cut b_1 x9.toNat b_1.length), ()), (r_6, y14.1.1, ())))
  else none
  else none
  else none
  else none
 else
  some (.br ((key_0, ()), (v_7, ())))
def zq49_s5 (N : Nat) (t_50 : Int) (v_7 : (List UInt64)) (s_10 : (List UInt64)) : Option (Lo ((Int × Unit) × ((List UInt64) × (List UInt64) × Unit)) (Unit × ((List UInt64) × Unit)) zq49_R) :=
 bif (decide (t_50 < (5 : Int))) then
  bif inR t_50 5 then
  bif inR t_50 5 then
  bif inR t_50 5 then
  some (.go (((w64 (t_50 + (1 : Int))), ()), ((v_7.set t_50.toNat ((v_7.getD t_50.toNat (0 : UInt64)) + (s_10.getD t_50.toNat (0 : UInt64)))), s_10, ())))
  else none
  else none
  else none
 else
  some (.br ((), (v_7, ())))
def zq49_s8 (N : Nat) (t_62 : Int) (v_7 : (List UInt64)) : Option (Lo ((Int × Unit) × ((List UInt64) × Unit)) (Unit × ((List UInt64) × Unit)) zq49_R) :=
 bif (decide (t_62 < (4 : Int))) then
  let x26 := w64 (t_62 + (1 : Int))
  bif inR x26 5 then
  bif inR t_62 5 then
  bif inR x26 5 then
  let x31 := (v_7.set x26.toNat ((v_7.getD x26.toNat (0 : UInt64)) + (shr64 (v_7.getD t_62.toNat (0 : UInt64)) 26)))
  bif inR t_62 5 then
  bif inR t_62 5 then
  some (.go (((w64 (t_62 + (1 : Int))), ()), ((x31.set t_62.toNat ((x31.getD t_62.toNat (0 : UInt64)) &&& (67108863 : UInt64))), ())))
  else none
  else none
  else none
  else none
  else none
 else
  some (.br ((), (v_7, ())))
def zq49_s11 (N : Nat) (t_81 : Int) (v_7 : (List UInt64)) (out_13 : List UInt8) : Option (Lo ((Int × Unit) × ((List UInt64) × List UInt8 × Unit)) (Unit × (List UInt8 × Unit)) zq49_R) :=
 bif (decide (t_81 < (16 : Int))) then
  let x37 := w64 ((8 : Int) * t_81)
  let x38 := w64 (x37.tdiv (26 : Int))
  bif inR x38 5 then
  let x40 := x37.tmod (26 : Int)
  bif decide (0 ≤ x40) then
  let x41 := shr64 (v_7.getD x38.toNat (0 : UInt64)) x40.toNat
  bif (decide ((18 : Int) < (x37.tmod (26 : Int)))) then
   let x45 := w64 ((w64 (x37.tdiv (26 : Int))) + (1 : Int))
   bif inR x45 5 then
   let x48 := w64 ((26 : Int) - (x37.tmod (26 : Int)))
   bif decide (0 ≤ x48) then
   let x49 := shl64 (v_7.getD x45.toNat (0 : UInt64)) x48.toNat
   bif room (out_13.length + ([(x41 ||| x49).toUInt8] : List UInt8).length) 1 then
   some (.go (((w64 (t_81 + (1 : Int))), ()), (v_7, (out_13 ++ ([(x41 ||| x49).toUInt8] : List UInt8)), ())))
   else none
   else none
   else none
  else
   bif room (out_13.length + ([x41.toUInt8] : List UInt8).length) 1 then
   some (.go (((w64 (t_81 + (1 : Int))), ()), (v_7, (out_13 ++ ([x41.toUInt8] : List UInt8)), ())))
   else none
  else none
  else none
 else
  some (.br ((), (out_13, ())))
def zq49_12 (N : Nat) (out_13 : List UInt8) : Option zq49_R :=
 some ((true, ()), (out_13, ()))
def zq49_10 (N : Nat) (t_81 : Int) (v_7 : (List UInt64)) (out_13 : List UInt8) : Option zq49_R :=
 loopK N (fun y => zq49_s11 N y.1.1 y.2.1 y.2.2.1) (fun (e : (Unit × (List UInt8 × Unit))) => zq49_12 N e.2.1) ((t_81, ()), (v_7, out_13, ()))
def zq49_9 (N : Nat) (v_7 : (List UInt64)) : Option zq49_R :=
 zq49_10 N (0 : Int) v_7 ([] : List UInt8)
def zq49_7 (N : Nat) (t_62 : Int) (v_7 : (List UInt64)) : Option zq49_R :=
 loopK N (fun y => zq49_s8 N y.1.1 y.2.1) (fun (e : (Unit × ((List UInt64) × Unit))) => zq49_9 N e.2.1) ((t_62, ()), (v_7, ()))
def zq49_6 (N : Nat) (v_7 : (List UInt64)) : Option zq49_R :=
 zq49_7 N (0 : Int) v_7
def zq49_4 (N : Nat) (t_50 : Int) (v_7 : (List UInt64)) (s_10 : (List UInt64)) : Option zq49_R :=
 loopK N (fun y => zq49_s5 N y.1.1 y.2.1 y.2.2.1) (fun (e : (Unit × ((List UInt64) × Unit))) => zq49_6 N e.2.1) ((t_50, ()), (v_7, s_10, ()))
def zq49_3 (N : Nat) (key_0 : List UInt8) (v_7 : (List UInt64)) : Option zq49_R :=
 Option.bind (zq3 N v_7) fun y16 =>
 bif decide (0 ≤ (16 : Int)) && decide ((16 : Int) ≤ (key_0.length : Int)) && decide ((key_0.length : Int) ≤ (key_0.length : Int)) && true then
 Option.bind (zq25 N (cut key_0 16 key_0.length)) fun y18 =>
 zq49_4 N (0 : Int) y16.1.1 y18.1.1
 else none
def zq49_1 (N : Nat) (key_0 : List UInt8) (b_1 : List UInt8) (r_6 : (List UInt64)) (v_7 : (List UInt64)) : Option zq49_R :=
 loopK N (fun y => zq49_s2 N y.1.1 y.1.2.1 y.2.1 y.2.2.1) (fun (e : ((List UInt8 × Unit) × ((List UInt64) × Unit))) => zq49_3 N e.1.1 e.2.1) ((key_0, b_1, ()), (r_6, v_7, ()))
def zq49 (N : Nat) (key_0 : List UInt8) (b_1 : List UInt8) : Option zq49_R :=
 bif (!(decide ((key_0.length : Int) = (32 : Int)))) then
  some ((false, ()), (([] : List UInt8), ()))
 else
  bif decide (0 ≤ (0 : Int)) && decide ((0 : Int) ≤ (16 : Int)) && decide ((16 : Int) ≤ (key_0.length : Int)) && true then
  Option.bind (zq32 N (cut key_0 0 16)) fun y4 =>
  Option.bind (zq25 N y4.2.1) fun y5 =>
  zq49_1 N key_0 b_1 y5.1.1 (List.replicate 5 (0 : UInt64))
  else none
def zq49_C (N : Nat) := Cx 114 [(149, zq32_ctr N), (148, zq25_ctr N), (150, zq10_ctr N), (151, zq9_ctr N), (152, zq3_ctr N)]
def zq49_S0 : Spec := ⟨[.val (.sl .u8), .val (.sl .u8), .ref 0 (.arr 5 .u64), .ref 1 (.arr 5 .u64)], [(.box 133 (.arr 5 .u64), .pos 2), (.box 133 (.arr 5 .u64), .pos 3)]⟩
def zq49_S1 : Spec := ⟨[.ref 0 (.arr 5 .u64), .ref 1 (.arr 5 .u64), .val .i64], [(.box 133 (.arr 5 .u64), .pos 0), (.box 133 (.arr 5 .u64), .pos 1)]⟩
def zq49_S2 : Spec := ⟨[.ref 0 (.arr 5 .u64), .val .i64], [(.box 133 (.arr 5 .u64), .pos 0)]⟩
def zq49_S3 : Spec := ⟨[.ref 0 (.arr 5 .u64), .row 1, .val .i64], [(.box 133 (.arr 5 .u64), .pos 0), (.row 5 .u8, .pos 1)]⟩
def zq49_S4 : Spec := ⟨[.row 0], [(.row 5 .u8, .pos 0)]⟩
def zq49_S5 : Spec := ⟨[.ref 0 (.arr 5 .u64)], [(.box 133 (.arr 5 .u64), .pos 0)]⟩
def zq49_S6 : Spec := ⟨[.val (.sl .u8), .ref 0 (.arr 5 .u64)], [(.box 133 (.arr 5 .u64), .pos 1)]⟩
def zq49_S7 : Spec := ⟨[.val (.sl .u8), .val (.sl .u8)], []⟩
def zq49_S8 : Spec := ⟨[.row 0, .val .bool], [(.row 5 .u8, .pos 0)]⟩
def zq49_K : XE → GS → Option zq49_R := retK 0 [4, 5] [false, false] zq49_S8
noncomputable def zq49_L : List Code := (bodyOf (some Tryz.f142))
def zq49_L2 : List Code := (loopOf (zq49_L[5]?))
def zq49_L5 : List Code := (loopOf (zq49_L[9]?))
def zq49_L8 : List Code := (loopOf (zq49_L[11]?))
def zq49_L11 : List Code := (loopOf (zq49_L[14]?))
def zq49_K2 (N : Nat) := roundK (some 0) (fit 0 [0, 1, 6, 7] zq49_S0) (fit 0 [0, 7] zq49_S6) zq49_K
def zq49_K5 (N : Nat) := roundK (some 2) (fit 0 [7, 10, 50] zq49_S1) (fit 0 [7] zq49_S5) zq49_K
def zq49_K8 (N : Nat) := roundK (some 4) (fit 0 [7, 62] zq49_S2) (fit 0 [7] zq49_S5) zq49_K
def zq49_K11 (N : Nat) := roundK (some 6) (fit 0 [7, 13, 81] zq49_S3) (fit 0 [13] zq49_S4) zq49_K
theorem zq49_s2_b (N) : Bk 0 (zq49_C N) [0, 1, 6, 7] zq49_S0 (zq49_L2.drop 0) (fun y => zq49_s2 N y.1.1 y.1.2.1 y.2.1 y.2.2.1) (zq49_K2 N) :=
 cE 3
theorem zq49_s5_b (N) : Bk 0 (zq49_C N) [7, 10, 50] zq49_S1 (zq49_L5.drop 0) (fun y => zq49_s5 N y.1.1 y.2.1 y.2.2.1) (zq49_K5 N) :=
 cE 4
theorem zq49_s8_b (N) : Bk 0 (zq49_C N) [7, 62] zq49_S2 (zq49_L8.drop 0) (fun y => zq49_s8 N y.1.1 y.2.1) (zq49_K8 N) :=
 cE 4
theorem zq49_s11_b (N) : Bk 0 (zq49_C N) [7, 13, 81] zq49_S3 (zq49_L11.drop 0) (fun y => zq49_s11 N y.1.1 y.2.1 y.2.2.1) (zq49_K11 N) :=
 cE 4
theorem zq49_12_b (N) : Bk 0 (zq49_C N) [13] zq49_S4 (zq49_L.drop 15) (fun y => zq49_12 N y.2.1) zq49_K :=
 cE 2
theorem zq49_10_b (N) : Bk 0 (zq49_C N) [7, 13, 81] zq49_S3 (zq49_L.drop 14) (fun y => zq49_10 N y.1.1 y.2.1 y.2.2.1) zq49_K :=
 lG N zq49_S3 [13] zq49_S4 (zq49_12_b N) (zq49_s11_b N)
theorem zq49_9_b (N) : Bk 0 (zq49_C N) [7] zq49_S5 (zq49_L.drop 12) (fun y => zq49_9 N y.2.1) zq49_K :=
 cG 2 (zq49_10_b N)
theorem zq49_7_b (N) : Bk 0 (zq49_C N) [7, 62] zq49_S2 (zq49_L.drop 11) (fun y => zq49_7 N y.1.1 y.2.1) zq49_K :=
 lG N zq49_S2 [7] zq49_S5 (zq49_9_b N) (zq49_s8_b N)
theorem zq49_6_b (N) : Bk 0 (zq49_C N) [7] zq49_S5 (zq49_L.drop 10) (fun y => zq49_6 N y.2.1) zq49_K :=
 cG 1 (zq49_7_b N)
theorem zq49_4_b (N) : Bk 0 (zq49_C N) [7, 10, 50] zq49_S1 (zq49_L.drop 9) (fun y => zq49_4 N y.1.1 y.2.1 y.2.2.1) zq49_K :=
 lG N zq49_S1 [7] zq49_S5 (zq49_6_b N) (zq49_s5_b N)
theorem zq49_3_b (N) : Bk 0 (zq49_C N) [0, 7] zq49_S6 (zq49_L.drop 6) (fun y => zq49_3 N y.1.1 y.2.1) zq49_K :=
 cG 3 (zq49_4_b N)
theorem zq49_1_b (N) : Bk 0 (zq49_C N) [0, 1, 6, 7] zq49_S0 (zq49_L.drop 5) (fun y => zq49_1 N y.1.1 y.1.2.1 y.2.1 y.2.2.1) zq49_K :=
 lG N zq49_S0 [0, 7] zq49_S6 (zq49_3_b N) (zq49_s2_b N)
theorem zq49_b (N) : Bk 0 (zq49_C N) (List.range zq49_S7.ks.length) zq49_S7 (zq49_L.drop 0) (fun y => zq49 N y.1.1 y.1.2.1) zq49_K :=
 cG 5 (zq49_1_b N)
def zq49_ctr (N : Nat) : Ctr := ⟨zq49_S7, zq49_S8.un [false, false], 0, (fun y => zq49 N y.1.1 y.1.2.1)⟩
theorem zq49_ok (N : Nat) : COk 142 (zq49_ctr N) :=
 cF (zw3 (Γ := zq49_C N) zw2 (csc (zq32_ok N) (csc (zq25_ok N) (csc (zq10_ok N) (csc (zq9_ok N) (csc (zq3_ok N) csn)))))) Tryz.func142 Tryz.ntmps142 (zq49_b N)
abbrev zq120_R : Type := ((Bool × Unit) × (List UInt8 × Unit))
def zq120 (N : Nat) (key_0 : List UInt8) (nonce_1 : List UInt8) (data_2 : List UInt8) (cipher_3 : List UInt8) : Option zq120_R :=
 Option.bind (zq83 N key_0 nonce_1) fun y1 =>
 bif (!y1.1.1) then
  some ((false, ()), (([] : List UInt8), ()))
 else
  Option.bind (zq45 N key_0 (0 : UInt32) nonce_1) fun y3 =>
  Option.bind (zq80 N data_2 ([] : List UInt8)) fun y4 =>
  Option.bind (zq80 N cipher_3 y4.2.1) fun y5 =>
  bif decide (0 ≤ (0 : Int)) && decide ((0 : Int) ≤ (32 : Int)) && decide ((32 : Int) ≤ (y3.2.1.length : Int)) && true then
  Option.bind (zq62 N (data_2.length : Int) y5.2.1) fun y8 =>
  Option.bind (zq62 N (cipher_3.length : Int) y8.2.1) fun y10 =>
  Option.bind (zq49 N (cut y3.2.1 0 32) y10.2.1) fun y11 =>
  some ((y11.1.1, ()), (y11.2.1, ()))
  else none
def zq120_C (N : Nat) := Cx 39 [(126, zq83_ctr N), (140, zq45_ctr N), (141, zq80_ctr N), (143, zq62_ctr N), (142, zq49_ctr N)]
def zq120_S0 : Spec := ⟨[.val (.sl .u8), .val (.sl .u8), .val (.sl .u8), .val (.sl .u8)], []⟩
def zq120_S1 : Spec := ⟨[.row 0, .val .bool], [(.row 5 .u8, .pos 0)]⟩
def zq120_K : XE → GS → Option zq120_R := retK 0 [8, 9] [false, false] zq120_S1
noncomputable def zq120_L : List Code := (bodyOf (some Tryz.f128))
theorem zq120_b (N) : Bk 0 (zq120_C N) (List.range zq120_S0.ks.length) zq120_S0 (zq120_L.drop 0) (fun y => zq120 N y.1.1 y.1.2.1 y.1.2.2.1 y.1.2.2.2.1) zq120_K :=
 cE 7
def zq120_ctr (N : Nat) : Ctr := ⟨zq120_S0, zq120_S1.un [false, false], 0, (fun y => zq120 N y.1.1 y.1.2.1 y.1.2.2.1 y.1.2.2.2.1)⟩
theorem zq120_ok (N : Nat) : COk 128 (zq120_ctr N) :=
 cF (zw3 (Γ := zq120_C N) zw2 (csc (zq83_ok N) (csc (zq45_ok N) (csc (zq80_ok N) (csc (zq62_ok N) (csc (zq49_ok N) csn)))))) Tryz.func128 Tryz.ntmps128 (zq120_b N)
abbrev zq108_R : Type := ((Int × Unit) × (List UInt8 × Unit))
def zq108 (N : Nat) (key_0 : List UInt8) (nonce_1 : List UInt8) (data_2 : List UInt8) (plain_3 : List UInt8) : Option zq108_R :=
 Option.bind (zq83 N key_0 nonce_1) fun y1 =>
 bif (!y1.1.1) then
  some (((13 : Int), ()), (([] : List UInt8), ()))
 else
  Option.bind (zq93 N key_0 (1 : UInt32) nonce_1 plain_3) fun y3 =>
  Option.bind (zq120 N key_0 nonce_1 data_2 y3.2.1) fun y4 =>
  bif room (y3.2.1.length + y4.2.1.length) 1 then
  some (((0 : Int), ()), ((y3.2.1 ++ y4.2.1), ()))
  else none
def zq108_C (N : Nat) := Cx 36 [(126, zq83_ctr N), (127, zq93_ctr N), (128, zq120_ctr N)]
def zq108_S0 : Spec := ⟨[.val (.sl .u8), .val (.sl .u8), .val (.sl .u8), .val (.sl .u8)], []⟩
def zq108_S1 : Spec := ⟨[.row 0, .val .i64], [(.row 5 .u8, .pos 0)]⟩
def zq108_K : XE → GS → Option zq108_R := retK 0 [8, 9] [false, false] zq108_S1
noncomputable def zq108_L : List Code := (bodyOf (some Tryz.f110))
theorem zq108_b (N) : Bk 0 (zq108_C N) (List.range zq108_S0.ks.length) zq108_S0 (zq108_L.drop 0) (fun y => zq108 N y.1.1 y.1.2.1 y.1.2.2.1 y.1.2.2.2.1) zq108_K :=
 cE 7
def zq108_ctr (N : Nat) : Ctr := ⟨zq108_S0, zq108_S1.un [false, false], 0, (fun y => zq108 N y.1.1 y.1.2.1 y.1.2.2.1 y.1.2.2.2.1)⟩
theorem zq108_ok (N : Nat) : COk 110 (zq108_ctr N) :=
 cF (zw3 (Γ := zq108_C N) zw2 (csc (zq83_ok N) (csc (zq93_ok N) (csc (zq120_ok N) csn)))) Tryz.func110 Tryz.ntmps110 (zq108_b N)
abbrev zq31_R : Type := ((List UInt8 × Unit) × Unit)
def zq31 (N : Nat) (key_0 : List UInt8) : Option zq31_R :=
 Option.bind (zq119 N key_0 ([(1 : UInt8)] : List UInt8)) fun y1 =>
 bif decide (0 ≤ (0 : Int)) && decide ((0 : Int) ≤ (8 : Int)) && decide ((8 : Int) ≤ (y1.2.1.length : Int)) && true then
 some (((cut y1.2.1 0 8), ()), ())
 else none
def zq31_C (N : Nat) := Cx 7 [(109, zq119_ctr N)]
def zq31_S0 : Spec := ⟨[.val (.sl .u8)], []⟩
def zq31_K : XE → GS → Option zq31_R := retK 0 [2] [false] zq31_S0
noncomputable def zq31_L : List Code := (bodyOf (some Tryz.f111))
theorem zq31_b (N) : Bk 0 (zq31_C N) (List.range zq31_S0.ks.length) zq31_S0 (zq31_L.drop 0) (fun y => zq31 N y.1.1) zq31_K :=
 cE 3
def zq31_ctr (N : Nat) : Ctr := ⟨zq31_S0, zq31_S0.un [false], 0, (fun y => zq31 N y.1.1)⟩
theorem zq31_ok (N : Nat) : COk 111 (zq31_ctr N) :=
 cF (zw3 (Γ := zq31_C N) zw2 (csc (zq119_ok N) csn)) Tryz.func111 Tryz.ntmps111 (zq31_b N)
abbrev zq13_R : Type := (Unit × (List UInt8 × Unit))
def zq13_1 (N : Nat) (rc : D24 → Option (Unit × (List UInt8 × Unit))) (once_7 : List UInt8) (b_0 : List UInt8) (key_5 : List UInt8) (sealed_8 : List UInt8) : Option zq13_R :=
 Option.bind (zq31 N key_5) fun y11 =>
 bif room (b_0.length + y11.1.1.length) 1 then
 bif room ((b_0 ++ y11.1.1).length + once_7.length) 1 then
 bif room (((b_0 ++ y11.1.1) ++ once_7).length + sealed_8.length) 1 then
 some ((), ((((b_0 ++ y11.1.1) ++ once_7) ++ sealed_8), ()))
 else none
 else none
 else none
def zq13 (N : Nat) (rc : D24 → Option (Unit × (List UInt8 × Unit))) (t_1 : D24) (b_0 : List UInt8) : Option zq13_R :=
 let x1 := List.map Tree.un t_1.2.2.1
 bif inR (0 : Int) x1.length then
 Option.bind (zq37 N (x1.getD 0 ((0 : Int), (0 : Int), ([] : List Tree), ()))) fun y3 =>
 let x4 := List.map Tree.un t_1.2.2.1
 bif inR (1 : Int) x4.length then
 Option.bind (rc (x4.getD 1 ((0 : Int), (0 : Int), ([] : List Tree), ()))) fun y6 =>
 Option.bind (zq119 N y3.2.1 y6.2.1) fun y7 =>
 bif decide (0 ≤ (0 : Int)) && decide ((0 : Int) ≤ (12 : Int)) && decide ((12 : Int) ≤ (y7.2.1.length : Int)) && true then
 let x8 := cut y7.2.1 0 12
 Option.bind (zq108 N y3.2.1 x8 ([] : List UInt8) y6.2.1) fun y9 =>
 bif (!(decide (y9.1.1 = (0 : Int)))) then
  none
 else
  zq13_1 N rc x8 b_0 y3.2.1 y9.2.1
 else none
 else none
 else none
def zq13_S0 : Spec := ⟨[.row 0, .row 1, .val (.sl .u8), .row 2], [(.row 5 .u8, .pos 0), (.row 5 .u8, .pos 1), (.row 5 .u8, .pos 3)]⟩
def zq13_S1 : Spec := ⟨[.row 0, .val T24], [(.row 5 .u8, .pos 0)]⟩
def zq13_S2 : Spec := ⟨[.row 0], [(.row 5 .u8, .pos 0)]⟩
def zq13_S3 : Spec := ⟨[.val T24], []⟩
def zq13_ftr (N : Nat) (rc : D24 → Option (Unit × (List UInt8 × Unit))) : Ctr := ⟨zq13_S3, zq13_S2.un [false], 0, (fun y => rc y.1.1)⟩
def zq13_C (N : Nat) (rc : D24 → Option (Unit × (List UInt8 × Unit))) (xv : Option Value) := Cxx xv 43 [(84, zq37_ctr N), (109, zq119_ctr N), (110, zq108_ctr N), (111, zq31_ctr N), (37, zq13_ftr N rc)]
def zq13_K : XE → GS → Option zq13_R := retK 0 [4] [false] zq13_S2
noncomputable def zq13_L : List Code := (bodyOf (some Tryz.f88))
theorem zq13_1_b (N) (rc) (xv) : Bk 0 (zq13_C N rc xv) [0, 5, 7, 8] zq13_S0 (zq13_L.drop 6) (fun y => zq13_1 N rc y.1.1 y.2.1 y.2.2.1 y.2.2.2.1) zq13_K :=
 cE 2
theorem zq13_b (N) (rc) (xv) : Bk 0 (zq13_C N rc xv) (List.range zq13_S1.ks.length) zq13_S1 (zq13_L.drop 0) (fun y => zq13 N rc y.1.1 y.2.1) zq13_K :=
 cG 6 (zq13_1_b N rc xv)
def zq13_octr (N : Nat) (rc : D24 → Option (Unit × (List UInt8 × Unit))) : Ctr := ⟨zq13_S1, zq13_S2.un [false], 0, (fun y => zq13 N rc y.1.1 y.2.1)⟩
theorem zq13_okx (N : Nat) (rc : D24 → Option (Unit × (List UInt8 × Unit))) (xv : Option Value) (hf : Ctr.okx xv Tryz.prog zw8 37 (zq13_ftr N rc)) : Ctr.okx xv Tryz.prog zw8 88 (zq13_octr N rc) :=
 cFx (xv := xv) (zw5g (Γ := zq13_C N rc xv) zw2 (cxc (zq37_ok N).okx (cxc (zq119_ok N).okx (cxc (zq108_ok N).okx (cxc (zq31_ok N).okx (cxc hf cxn)))))) Tryz.func88 Tryz.ntmps88 (zq13_b N rc xv)
theorem zq13_ook (N : Nat) (rc : D24 → Option (Unit × (List UInt8 × Unit))) (hf : COk 37 (zq13_ftr N rc)) : COk 88 (zq13_octr N rc) := (zq13_okx N rc none hf.okx).strict
abbrev zq15_R : Type := ((Int × Unit) × (List UInt8 × Unit))
def zq15 (N : Nat) (identity_0 : Int) (body_1 : List UInt8) : Option zq15_R :=
 Option.bind (zq17 N ((9 : Int), identity_0, ([] : List Tree), ())) fun y1 =>
 bif (!(decide (y1.1.1 = (0 : Int)))) then
  some ((y1.1.1, ()), (([] : List UInt8), ()))
 else
  Option.bind (zq119 N y1.2.1 body_1) fun y3 =>
  some (((0 : Int), ()), (y3.2.1, ()))
def zq15_C (N : Nat) := Cx 20 [(14, zq17_ctr N), (109, zq119_ctr N)]
def zq15_S0 : Spec := ⟨[.val .i64, .val (.sl .u8)], []⟩
def zq15_S1 : Spec := ⟨[.row 0, .val .i64], [(.row 5 .u8, .pos 0)]⟩
def zq15_K : XE → GS → Option zq15_R := retK 0 [4, 5] [false, false] zq15_S1
noncomputable def zq15_L : List Code := (bodyOf (some Tryz.f112))
theorem zq15_b (N) : Bk 0 (zq15_C N) (List.range zq15_S0.ks.length) zq15_S0 (zq15_L.drop 0) (fun y => zq15 N y.1.1 y.1.2.1) zq15_K :=
 cE 6
def zq15_ctr (N : Nat) : Ctr := ⟨zq15_S0, zq15_S1.un [false, false], 0, (fun y => zq15 N y.1.1 y.1.2.1)⟩
theorem zq15_ok (N : Nat) : COk 112 (zq15_ctr N) :=
 cF (zw3 (Γ := zq15_C N) zw2 (csc (zq17_ok N) (csc (zq119_ok N) csn))) Tryz.func112 Tryz.ntmps112 (zq15_b N)
abbrev zq11_R : Type := (Unit × (List UInt8 × Unit))
def zq11_1 (N : Nat) (rc : D24 → Option (Unit × (List UInt8 × Unit))) (b_0 : List UInt8) (t_3 : D24) (body_5 : List UInt8) (proof_6 : List UInt8) : Option zq11_R :=
 Option.bind (zq118 N (iu64 t_3.2.1) (8 : Int) b_0) fun y7 =>
 Option.bind (zq118 N (iu64 (body_5.length : Int)) (2 : Int) y7.2.1) fun y10 =>
 bif room (y10.2.1.length + body_5.length) 1 then
 let x11 := y10.2.1 ++ body_5
 bif room (x11.length + proof_6.length) 1 then
 some ((), ((x11 ++ proof_6), ()))
 else none
 else none
def zq11 (N : Nat) (rc : D24 → Option (Unit × (List UInt8 × Unit))) (t_1 : D24) (b_0 : List UInt8) : Option zq11_R :=
 let x1 := List.map Tree.un t_1.2.2.1
 bif inR (0 : Int) x1.length then
 Option.bind (rc (x1.getD 0 ((0 : Int), (0 : Int), ([] : List Tree), ()))) fun y3 =>
 Option.bind (zq15 N t_1.2.1 y3.2.1) fun y4 =>
 bif (!(decide (y4.1.1 = (0 : Int)))) then
  none
 else
  zq11_1 N rc b_0 t_1 y3.2.1 y4.2.1
 else none
def zq11_S0 : Spec := ⟨[.row 0, .ref 1 T24, .row 2, .row 3], [(.row 5 .u8, .pos 0), (.box 24 T24, .pos 1), (.row 5 .u8, .pos 2), (.row 5 .u8, .pos 3)]⟩
def zq11_S1 : Spec := ⟨[.row 0, .val T24], [(.row 5 .u8, .pos 0)]⟩
def zq11_S2 : Spec := ⟨[.row 0], [(.row 5 .u8, .pos 0)]⟩
def zq11_S3 : Spec := ⟨[.val T24], []⟩
def zq11_ftr (N : Nat) (rc : D24 → Option (Unit × (List UInt8 × Unit))) : Ctr := ⟨zq11_S3, zq11_S2.un [false], 0, (fun y => rc y.1.1)⟩
def zq11_C (N : Nat) (rc : D24 → Option (Unit × (List UInt8 × Unit))) (xv : Option Value) := Cxx xv 38 [(112, zq15_ctr N), (67, zq118_ctr N), (37, zq11_ftr N rc)]
def zq11_K : XE → GS → Option zq11_R := retK 0 [4] [false] zq11_S2
noncomputable def zq11_L : List Code := (bodyOf (some Tryz.f89))
theorem zq11_1_b (N) (rc) (xv) : Bk 0 (zq11_C N rc xv) [0, 3, 5, 6] zq11_S0 (zq11_L.drop 5) (fun y => zq11_1 N rc y.2.1 y.2.2.1 y.2.2.2.1 y.2.2.2.2.1) zq11_K :=
 cE 3
theorem zq11_b (N) (rc) (xv) : Bk 0 (zq11_C N rc xv) (List.range zq11_S1.ks.length) zq11_S1 (zq11_L.drop 0) (fun y => zq11 N rc y.1.1 y.2.1) zq11_K :=
 cG 5 (zq11_1_b N rc xv)
def zq11_octr (N : Nat) (rc : D24 → Option (Unit × (List UInt8 × Unit))) : Ctr := ⟨zq11_S1, zq11_S2.un [false], 0, (fun y => zq11 N rc y.1.1 y.2.1)⟩
theorem zq11_okx (N : Nat) (rc : D24 → Option (Unit × (List UInt8 × Unit))) (xv : Option Value) (hf : Ctr.okx xv Tryz.prog zw8 37 (zq11_ftr N rc)) : Ctr.okx xv Tryz.prog zw8 89 (zq11_octr N rc) :=
 cFx (xv := xv) (zw5g (Γ := zq11_C N rc xv) zw2 (cxc (zq15_ok N).okx (cxc (zq118_ok N).okx (cxc hf cxn)))) Tryz.func89 Tryz.ntmps89 (zq11_b N rc xv)
theorem zq11_ook (N : Nat) (rc : D24 → Option (Unit × (List UInt8 × Unit))) (hf : COk 37 (zq11_ftr N rc)) : COk 89 (zq11_octr N rc) := (zq11_okx N rc none hf.okx).strict
end
end Go.Proofs.YtajpblfinenmjaaGreatDoor