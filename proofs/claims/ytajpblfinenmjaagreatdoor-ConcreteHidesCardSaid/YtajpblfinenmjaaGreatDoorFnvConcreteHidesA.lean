/- Functions of the program as plain functions, each with the proof that the text computes it. -/
import Derived.Test.YtajpblfinenmjaaGreatDoorFnsConcreteHidesA
import Derived.Test.YtajpblfinenmjaaGreatDoorRngConcreteHidesC
import Derived.Test.YtajpblfinenmjaaGreatDoorFntConcreteHidesA
import Derived.Test.YtajpblfinenmjaaGreatDoorGmX
import Derived.Test.YtajpblfinenmjaaGreatDoorRngConcreteHidesA
import Derived.Test.YtajpblfinenmjaaGreatDoorCrKa
set_option linter.unusedVariables false
set_option linter.unusedSimpArgs false
namespace Go.Proofs.YtajpblfinenmjaaGreatDoor
open Go
set_option maxRecDepth 100000
set_option linter.unusedVariables false
noncomputable section
abbrev zq72_R : Type := ((Bool × Unit) × (Unit))
def zq72 (N : Nat) : Option zq72_R :=
 Option.bind (zq57 N (5 : Int)) fun y1 =>
 Option.bind (zq46 N y1.1.1) fun y2 =>
 bif (decide (y2.1.1 = (0 : Int))) then
  bif (decide ((y2.2.1.length : Int) = (9 : Int))) then
   bif inR (0 : Int) y2.2.1.length then
   bif (decide ((y2.2.1.getD 0 (0 : UInt8)) = (1 : UInt8))) then
    bif inR (8 : Int) y2.2.1.length then
    some (((decide ((y2.2.1.getD 8 (0 : UInt8)) = (5 : UInt8))), ()), (()))
    else none
   else
    some ((false, ()), (()))
   else none
  else
   some ((false, ()), (()))
 else
  some ((false, ()), (()))
def zq72_C (N : Nat) := Cx 27 [(28, zq57_ctr N), (10, zq46_ctr N)]
def zq72_S0 : Spec := ⟨[], []⟩
def zq72_S1 : Spec := ⟨[.val .bool], []⟩
def zq72_K : XE → GS → Option zq72_R := retK 0 [0] [false] zq72_S1
noncomputable def zq72_L : List Code := (bodyOf (some Tryz.f6))
theorem zq72_b (N) : Bk 0 (zq72_C N) (List.range zq72_S0.ks.length) zq72_S0 (zq72_L.drop 0) (fun y => zq72 N) zq72_K :=
 cE 4
def zq72_ctr (N : Nat) : Ctr := ⟨zq72_S0, zq72_S1.un [false], 0, (fun y => zq72 N)⟩
theorem zq72_ok (N : Nat) : COk 6 (zq72_ctr N) :=
 cF (zw2 (Γ := zq72_C N) zw1 (csc (zq57_ok N) (csc (zq46_ok N) csn))) Tryz.func6 Tryz.ntmps6 (zq72_b N)
abbrev zq117_R : Type := ((Unit) × (((List UInt8) × (Int × Unit)) × Unit))
def zq117 (N : Nat) (list_0 : (List UInt8)) (most_1 : Int) : Option zq117_R :=
 let x1 := (list_0.length : Int)
 let x2 := bif decide (most_1 < x1) then most_1 else x1
 bif decide (0 ≤ (0 : Int)) && decide ((0 : Int) ≤ x2) && decide (x2 ≤ (list_0.length : Int)) && true then
 let x3 := cut list_0 0 x2.toNat
 bif room (0 + x3.length) 1 then
 some ((()), ((x3, (0 : Int), ()), ()))
 else none
 else none
def zq117_C (N : Nat) := Cx 14 []
def zq117_S0 : Spec := ⟨[.val (.sl .u8), .val .i64], []⟩
def zq117_S1 : Spec := ⟨[.ref 0 (.pair (.sl .u8) (.pair .i64 .unit))], [(.box 50 (.pair (.sl .u8) (.pair .i64 .unit)), .pos 0)]⟩
def zq117_K : XE → GS → Option zq117_R := retK 0 [4] [false] zq117_S1
noncomputable def zq117_L : List Code := (bodyOf (some Tryz.f8))
theorem zq117_b (N) : Bk 0 (zq117_C N) (List.range zq117_S0.ks.length) zq117_S0 (zq117_L.drop 0) (fun y => zq117 N y.1.1 y.1.2.1) zq117_K :=
 cE 3
def zq117_ctr (N : Nat) : Ctr := ⟨zq117_S0, zq117_S1.un [false], 0, (fun y => zq117 N y.1.1 y.1.2.1)⟩
theorem zq117_ok (N : Nat) : COk 8 (zq117_ctr N) :=
 cF (zw2 (Γ := zq117_C N) zw1 csn) Tryz.func8 Tryz.ntmps8 (zq117_b N)
abbrev zq104_R : Type := ((D24 × Unit) × (Unit))
def zq104 (N : Nat) (owner_0 : Int) (count_1 : Int) : Option zq104_R :=
 some ((((2 : Int), (w64 ((w64 (owner_0 * (1048576 : Int))) + count_1)), ([] : List Tree), ()), ()), (()))
def zq104_C (N : Nat) := Cx 10 []
def zq104_S0 : Spec := ⟨[.val .i64, .val .i64], []⟩
def zq104_S1 : Spec := ⟨[.fp T24], []⟩
def zq104_K : XE → GS → Option zq104_R := retK 0 [4] [true] zq104_S1
noncomputable def zq104_L : List Code := (bodyOf (some Tryz.f24))
theorem zq104_b (N) : Bk 0 (zq104_C N) (List.range zq104_S0.ks.length) zq104_S0 (zq104_L.drop 0) (fun y => zq104 N y.1.1 y.1.2.1) zq104_K :=
 cE 3
def zq104_ctr (N : Nat) : Ctr := ⟨zq104_S0, zq104_S1.un [true], 0, (fun y => zq104 N y.1.1 y.1.2.1)⟩
theorem zq104_ok (N : Nat) : COk 24 (zq104_ctr N) :=
 cF (zw2 (Γ := zq104_C N) zw1 csn) Tryz.func24 Tryz.ntmps24 (zq104_b N)
abbrev zq30_R : Type := ((Int × Unit) × (((List UInt8) × (Int × Unit)) × Unit))
def zq30 (N : Nat) (n_1 : Int) (c_0 : ((List UInt8) × (Int × Unit))) : Option zq30_R :=
 bif (decide ((c_0.1.length : Int) ≤ c_0.2.1)) then
  some (((0 : Int), ()), (c_0, ()))
 else
  let x3 := w64 (c_0.2.1 + (1 : Int))
  let x4 := w64 (x3 - (1 : Int))
  bif inR x4 c_0.1.length then
  some (((w64 ((w64 (((c_0.1.getD x4.toNat (0 : UInt8)).toNat : Int) * n_1)).tdiv (256 : Int))), ()), ((c_0.1, x3, ()), ()))
  else none
def zq30_C (N : Nat) := Cx 37 []
def zq30_S0 : Spec := ⟨[.ref 0 (.pair (.sl .u8) (.pair .i64 .unit)), .val .i64], [(.box 50 (.pair (.sl .u8) (.pair .i64 .unit)), .pos 0)]⟩
def zq30_S1 : Spec := ⟨[.val .i64], [(.box 50 (.pair (.sl .u8) (.pair .i64 .unit)), .fix 0)]⟩
def zq30_K : XE → GS → Option zq30_R := retK 1 [4] [false] zq30_S1
noncomputable def zq30_L : List Code := (bodyOf (some Tryz.f29))
theorem zq30_b (N) : Bk 1 (zq30_C N) (List.range zq30_S0.ks.length) zq30_S0 (zq30_L.drop 0) (fun y => zq30 N y.1.1 y.2.1) zq30_K :=
 cE 6
def zq30_ctr (N : Nat) : Ctr := ⟨zq30_S0, zq30_S1.un [false], 1, (fun y => zq30 N y.1.1 y.2.1)⟩
theorem zq30_ok (N : Nat) : COk 29 (zq30_ctr N) :=
 cF (zw2 (Γ := zq30_C N) zw1 csn) Tryz.func29 Tryz.ntmps29 (zq30_b N)
abbrev zq37_R : Type := ((D24 × Unit) × (((List UInt8) × (Int × Unit)) × Unit))
def zq37 (N : Nat) (c_0 : ((List UInt8) × (Int × Unit))) : Option zq37_R :=
 Option.bind (zq30 N (3 : Int) c_0) fun y1 =>
 Option.bind (zq30 N (5 : Int) y1.2.1) fun y2 =>
 Option.bind (zq104 N y1.1.1 (w64 ((1 : Int) + y2.1.1))) fun y4 =>
 some ((y4.1.1, ()), (y2.2.1, ()))
def zq37_C (N : Nat) := Cx 9 [(29, zq30_ctr N), (24, zq104_ctr N)]
def zq37_S0 : Spec := ⟨[.ref 0 (.pair (.sl .u8) (.pair .i64 .unit))], [(.box 50 (.pair (.sl .u8) (.pair .i64 .unit)), .pos 0)]⟩
def zq37_S1 : Spec := ⟨[.fp T24], [(.box 50 (.pair (.sl .u8) (.pair .i64 .unit)), .fix 0)]⟩
def zq37_K : XE → GS → Option zq37_R := retK 1 [2] [true] zq37_S1
noncomputable def zq37_L : List Code := (bodyOf (some Tryz.f25))
theorem zq37_b (N) : Bk 1 (zq37_C N) (List.range zq37_S0.ks.length) zq37_S0 (zq37_L.drop 0) (fun y => zq37 N y.2.1) zq37_K :=
 cE 3
def zq37_ctr (N : Nat) : Ctr := ⟨zq37_S0, zq37_S1.un [true], 1, (fun y => zq37 N y.2.1)⟩
theorem zq37_ok (N : Nat) : COk 25 (zq37_ctr N) :=
 cF (zw2 (Γ := zq37_C N) zw1 (csc (zq30_ok N) (csc (zq104_ok N) csn))) Tryz.func25 Tryz.ntmps25 (zq37_b N)
abbrev zq93_R : Type := ((D24 × Unit) × (Unit))
def zq93 (N : Nat) (l_0 : (List D24)) : Option zq93_R :=
 bif room (0 + l_0.length) 40 then
 some ((((3 : Int), (0 : Int), List.map mkT l_0, ()), ()), (()))
 else none
def zq93_C (N : Nat) := Cx 6 []
def zq93_S0 : Spec := ⟨[.val (.sl T24)], []⟩
def zq93_S1 : Spec := ⟨[.fp T24], []⟩
def zq93_K : XE → GS → Option zq93_R := retK 0 [2] [true] zq93_S1
noncomputable def zq93_L : List Code := (bodyOf (some Tryz.f27))
theorem zq93_b (N) : Bk 0 (zq93_C N) (List.range zq93_S0.ks.length) zq93_S0 (zq93_L.drop 0) (fun y => zq93 N y.1.1) zq93_K :=
 cE 3
def zq93_ctr (N : Nat) : Ctr := ⟨zq93_S0, zq93_S1.un [true], 0, (fun y => zq93 N y.1.1)⟩
theorem zq93_ok (N : Nat) : COk 27 (zq93_ctr N) :=
 cF (zw2 (Γ := zq93_C N) zw1 csn) Tryz.func27 Tryz.ntmps27 (zq93_b N)
abbrev zq62_R : Type := ((D24 × Unit) × (Unit))
def zq62 (N : Nat) (exponent_0 : D24) : Option zq62_R :=
 some ((((4 : Int), (0 : Int), List.map mkT ([exponent_0] : List D24), ()), ()), (()))
def zq62_C (N : Nat) := Cx 6 []
def zq62_S0 : Spec := ⟨[.val T24], []⟩
def zq62_S1 : Spec := ⟨[.fp T24], []⟩
def zq62_K : XE → GS → Option zq62_R := retK 0 [2] [true] zq62_S1
noncomputable def zq62_L : List Code := (bodyOf (some Tryz.f30))
theorem zq62_b (N) : Bk 0 (zq62_C N) (List.range zq62_S0.ks.length) zq62_S0 (zq62_L.drop 0) (fun y => zq62 N y.1.1) zq62_K :=
 cE 3
def zq62_ctr (N : Nat) : Ctr := ⟨zq62_S0, zq62_S1.un [true], 0, (fun y => zq62 N y.1.1)⟩
theorem zq62_ok (N : Nat) : COk 30 (zq62_ctr N) :=
 cF (zw2 (Γ := zq62_C N) zw1 csn) Tryz.func30 Tryz.ntmps30 (zq62_b N)
abbrev zq75_R : Type := ((Int × Unit) × (Unit))
def zq75_s2 (N : Nat) (rc : D24 → D24 → Option zq75_R) (i_5 : Int) (a_2 : D24) (b_3 : D24) : Option (Lo ((Int × Unit) × (D24 × D24 × Unit)) ((Unit) × (Unit)) zq75_R) :=
 bif (decide (i_5 < ((List.map Tree.un a_2.2.2.1).length : Int))) then
  let x18 := List.map Tree.un a_2.2.2.1
  bif inR i_5 x18.length then
  let x20 := List.map Tree.un b_3.2.2.1
  bif inR i_5 x20.length then
  Option.bind (rc (x18.getD i_5.toNat ((0 : Int), (0 : Int), ([] : List Tree), ())) (x20.getD i_5.toNat ((0 : Int), (0 : Int), ([] : List Tree), ()))) fun y22 =>
  bif (!(decide (y22.1.1 = (0 : Int)))) then
   some (.rt ((y22.1.1, ()), (())))
  else
   some (.go (((w64 (i_5 + (1 : Int))), ()), (a_2, b_3, ())))
  else none
  else none
 else
  some (.br ((()), (())))
def zq75_3 (N : Nat) (rc : D24 → D24 → Option zq75_R) : Option zq75_R :=
 some (((0 : Int), ()), (()))
def zq75_1 (N : Nat) (rc : D24 → D24 → Option zq75_R) (i_5 : Int) (a_2 : D24) (b_3 : D24) : Option zq75_R :=
 loopK N (fun y => zq75_s2 N rc y.1.1 y.2.1 y.2.2.1) (fun (e : ((Unit) × (Unit))) => zq75_3 N rc) ((i_5, ()), (a_2, b_3, ()))
def zq75 (N : Nat) (rc : D24 → D24 → Option zq75_R) (a_0 : D24) (b_1 : D24) : Option zq75_R :=
 bif (decide (a_0.1 < b_1.1)) then
  some (((-1 : Int), ()), (()))
 else
  bif (decide (b_1.1 < a_0.1)) then
   some (((1 : Int), ()), (()))
  else
   bif (decide (a_0.2.1 < b_1.2.1)) then
    some (((-1 : Int), ()), (()))
   else
    bif (decide (b_1.2.1 < a_0.2.1)) then
     some (((1 : Int), ()), (()))
    else
     bif (!(decide (((List.map Tree.un a_0.2.2.1).length : Int) = ((List.map Tree.un b_1.2.2.1).length : Int)))) then
      some (((w64 (((List.map Tree.un a_0.2.2.1).length : Int) - ((List.map Tree.un b_1.2.2.1).length : Int))), ()), (()))
     else
      zq75_1 N rc (0 : Int) a_0 b_1
def zq75_S0 : Spec := ⟨[.ref 0 T24, .ref 1 T24, .val .i64], [(.box 24 T24, .pos 0), (.box 24 T24, .pos 1)]⟩
def zq75_S1 : Spec := ⟨[], []⟩
def zq75_S2 : Spec := ⟨[.val T24, .val T24], []⟩
def zq75_S3 : Spec := ⟨[.val .i64], []⟩
def zq75_ftr (N : Nat) (rc : D24 → D24 → Option zq75_R) : Ctr := ⟨zq75_S2, zq75_S3.un [false], 0, (fun y => rc y.1.1 y.1.2.1)⟩
def zq75_C (N : Nat) (rc : D24 → D24 → Option zq75_R) := Cx 67 [(78, zq75_ftr N rc)]
def zq75_K : XE → GS → Option zq75_R := retK 0 [4] [false] zq75_S3
noncomputable def zq75_L : List Code := (bodyOf (some Tryz.f78))
def zq75_L2 : List Code := (loopOf (zq75_L[3]?))
def zq75_K2 (N : Nat) (rc : D24 → D24 → Option zq75_R) := roundK (some 1) (fit 0 [2, 3, 5] zq75_S0) (fit 0 [] zq75_S1) zq75_K
theorem zq75_s2_b (N) (rc) : Bk 0 (zq75_C N rc) [2, 3, 5] zq75_S0 (zq75_L2.drop 0) (fun y => zq75_s2 N rc y.1.1 y.2.1 y.2.2.1) (zq75_K2 N rc) :=
 cE 4
theorem zq75_3_b (N) (rc) : Bk 0 (zq75_C N rc) [] zq75_S1 (zq75_L.drop 4) (fun y => zq75_3 N rc) zq75_K :=
 cE 2
theorem zq75_1_b (N) (rc) : Bk 0 (zq75_C N rc) [2, 3, 5] zq75_S0 (zq75_L.drop 3) (fun y => zq75_1 N rc y.1.1 y.2.1 y.2.2.1) zq75_K :=
 lG N zq75_S0 [] zq75_S1 (zq75_3_b N rc) (zq75_s2_b N rc)
theorem zq75_b (N) (rc) : Bk 0 (zq75_C N rc) (List.range zq75_S2.ks.length) zq75_S2 (zq75_L.drop 0) (fun y => zq75 N rc y.1.1 y.1.2.1) zq75_K :=
 cG 3 (zq75_1_b N rc)
def zq75_octr (N : Nat) (rc : D24 → D24 → Option zq75_R) : Ctr := ⟨zq75_S2, zq75_S3.un [false], 0, (fun y => zq75 N rc y.1.1 y.1.2.1)⟩
theorem zq75_ook (N : Nat) (rc : D24 → D24 → Option zq75_R) (hf : COk 78 (zq75_ftr N rc))  : COk 78 (zq75_octr N rc) :=
 cF (zw2 (Γ := zq75_C N rc) zw1 (csc hf csn)) Tryz.func78 Tryz.ntmps78 (zq75_b N rc)
def zw3l (N : Nat) : Nat → D24 → D24 → Option zq75_R
 | 0 => fun _ _ => none
 | n + 1 => fun a_0 b_1 => zq75 N (zw3l N n) a_0 b_1
theorem zw8v (N : Nat) : ∀ n : Nat, COk 78 (zq75_ftr N (zw3l N n))
 | 0 => zw1a Tryz.func78 (by kernel_rfl) (by kernel_rfl) (fun x => rfl)
 | n + 1 => zq75_ook N (zw3l N n) (zw8v N n)
def zq75_ctr (N : Nat) : Ctr := zq75_ftr N (zw3l N N)
theorem zq75_ok (N : Nat) : COk 78 (zq75_ctr N) := zw8v N N
abbrev zq94_R : Type := ((Bool × Unit) × (Unit))
def zq94 (N : Nat) (a_0 : D24) (b_1 : D24) : Option zq94_R :=
 Option.bind (zw3l N N a_0 b_1) fun y1 =>
 some (((decide (y1.1.1 < (0 : Int))), ()), (()))
def zq94_C (N : Nat) := Cx 9 [(78, zq75_ctr N)]
def zq94_S0 : Spec := ⟨[.val T24, .val T24], []⟩
def zq94_S1 : Spec := ⟨[.val .bool], []⟩
def zq94_K : XE → GS → Option zq94_R := retK 0 [4] [false] zq94_S1
noncomputable def zq94_L : List Code := (bodyOf (some Tryz.f52))
theorem zq94_b (N) : Bk 0 (zq94_C N) (List.range zq94_S0.ks.length) zq94_S0 (zq94_L.drop 0) (fun y => zq94 N y.1.1 y.1.2.1) zq94_K :=
 cE 3
def zq94_ctr (N : Nat) : Ctr := ⟨zq94_S0, zq94_S1.un [false], 0, (fun y => zq94 N y.1.1 y.1.2.1)⟩
theorem zq94_ok (N : Nat) : COk 52 (zq94_ctr N) :=
 cF (zw2 (Γ := zq94_C N) zw1 (csc (zq75_ok N) csn)) Tryz.func52 Tryz.ntmps52 (zq94_b N)
abbrev zq76_R : Type := ((D24 × Bool × Unit) × (Unit))
def zq76_2 (N : Nat) (t_4 : D24) (a_6 : D24) (b_7 : D24) : Option zq76_R :=
 some ((((5 : Int), (0 : Int), List.map mkT ([a_6, b_7] : List D24), ()), true, ()), (()))
def zq76_1 (N : Nat) (t_16 : Bool) (public_2 : D24) (secret_3 : D24) (t_4 : D24) : Option zq76_R :=
 bif t_16 then
  some ((((0 : Int), (0 : Int), ([] : List Tree), ()), false, ()), (()))
 else
  let x2 := List.map Tree.un public_2.2.2.1
  bif inR (0 : Int) x2.length then
  let x3 := x2.getD 0 ((0 : Int), (0 : Int), ([] : List Tree), ())
  Option.bind (zq94 N secret_3 x3) fun y4 =>
  bif y4.1.1 then
   zq76_2 N t_4 secret_3 x3
  else
   zq76_2 N t_4 x3 secret_3
  else none
def zq76 (N : Nat) (public_0 : D24) (secret_1 : D24) : Option zq76_R :=
 bif (!(decide (public_0.1 = (4 : Int)))) then
  zq76_1 N true public_0 secret_1 ((0 : Int), (0 : Int), ([] : List Tree), ())
 else
  zq76_1 N (!(decide (((List.map Tree.un public_0.2.2.1).length : Int) = (1 : Int)))) public_0 secret_1 ((0 : Int), (0 : Int), ([] : List Tree), ())
def zq76_C (N : Nat) := Cx 32 [(52, zq94_ctr N)]
def zq76_S0 : Spec := ⟨[.ref 0 T24, .ref 1 T24, .ref 2 T24], [(.box 24 T24, .pos 0), (.box 24 T24, .pos 1), (.box 24 T24, .pos 2)]⟩
def zq76_S1 : Spec := ⟨[.ref 0 T24, .ref 1 T24, .ref 2 T24, .val .bool], [(.box 24 T24, .pos 0), (.box 24 T24, .pos 1), (.box 24 T24, .pos 2)]⟩
def zq76_S2 : Spec := ⟨[.val T24, .val T24], []⟩
def zq76_S3 : Spec := ⟨[.fp T24, .val .bool], []⟩
def zq76_K : XE → GS → Option zq76_R := retK 0 [4, 5] [true, false] zq76_S3
noncomputable def zq76_L : List Code := (bodyOf (some Tryz.f31))
theorem zq76_2_b (N) : Bk 0 (zq76_C N) [4, 6, 7] zq76_S0 (zq76_L.drop 6) (fun y => zq76_2 N y.2.1 y.2.2.1 y.2.2.2.1) zq76_K :=
 cE 2
theorem zq76_1_b (N) : Bk 0 (zq76_C N) [2, 3, 4, 16] zq76_S1 (zq76_L.drop 2) (fun y => zq76_1 N y.1.1 y.2.1 y.2.2.1 y.2.2.2.1) zq76_K :=
 cG 4 (zq76_2_b N)
theorem zq76_b (N) : Bk 0 (zq76_C N) (List.range zq76_S2.ks.length) zq76_S2 (zq76_L.drop 0) (fun y => zq76 N y.1.1 y.1.2.1) zq76_K :=
 cG 2 (zq76_1_b N)
def zq76_ctr (N : Nat) : Ctr := ⟨zq76_S2, zq76_S3.un [true, false], 0, (fun y => zq76 N y.1.1 y.1.2.1)⟩
theorem zq76_ok (N : Nat) : COk 31 (zq76_ctr N) :=
 cF (zw2 (Γ := zq76_C N) zw1 (csc (zq94_ok N) csn)) Tryz.func31 Tryz.ntmps31 (zq76_b N)
abbrev zq58_R : Type := ((D24 × Unit) × (Unit))
def zq58 (N : Nat) (label_0 : Int) (l_1 : (List D24)) : Option zq58_R :=
 bif room (0 + l_1.length) 40 then
 some ((((6 : Int), label_0, List.map mkT l_1, ()), ()), (()))
 else none
def zq58_C (N : Nat) := Cx 9 []
def zq58_S0 : Spec := ⟨[.val .i64, .val (.sl T24)], []⟩
def zq58_S1 : Spec := ⟨[.fp T24], []⟩
def zq58_K : XE → GS → Option zq58_R := retK 0 [4] [true] zq58_S1
noncomputable def zq58_L : List Code := (bodyOf (some Tryz.f32))
theorem zq58_b (N) : Bk 0 (zq58_C N) (List.range zq58_S0.ks.length) zq58_S0 (zq58_L.drop 0) (fun y => zq58 N y.1.1 y.1.2.1) zq58_K :=
 cE 3
def zq58_ctr (N : Nat) : Ctr := ⟨zq58_S0, zq58_S1.un [true], 0, (fun y => zq58 N y.1.1 y.1.2.1)⟩
theorem zq58_ok (N : Nat) : COk 32 (zq58_ctr N) :=
 cF (zw2 (Γ := zq58_C N) zw1 csn) Tryz.func32 Tryz.ntmps32 (zq58_b N)
abbrev zq105_R : Type := ((D24 × Unit) × (Unit))
def zq105 (N : Nat) (key_0 : D24) (body_1 : D24) : Option zq105_R :=
 some ((((7 : Int), (0 : Int), List.map mkT ([key_0, body_1] : List D24), ()), ()), (()))
def zq105_C (N : Nat) := Cx 9 []
def zq105_S0 : Spec := ⟨[.val T24, .val T24], []⟩
def zq105_S1 : Spec := ⟨[.fp T24], []⟩
def zq105_K : XE → GS → Option zq105_R := retK 0 [4] [true] zq105_S1
noncomputable def zq105_L : List Code := (bodyOf (some Tryz.f26))
theorem zq105_b (N) : Bk 0 (zq105_C N) (List.range zq105_S0.ks.length) zq105_S0 (zq105_L.drop 0) (fun y => zq105 N y.1.1 y.1.2.1) zq105_K :=
 cE 3
def zq105_ctr (N : Nat) : Ctr := ⟨zq105_S0, zq105_S1.un [true], 0, (fun y => zq105 N y.1.1 y.1.2.1)⟩
theorem zq105_ok (N : Nat) : COk 26 (zq105_ctr N) :=
 cF (zw2 (Γ := zq105_C N) zw1 csn) Tryz.func26 Tryz.ntmps26 (zq105_b N)
abbrev zq101_R : Type := ((D24 × Unit) × (Unit))
def zq101 (N : Nat) (identity_0 : Int) (body_1 : D24) : Option zq101_R :=
 some ((((8 : Int), identity_0, List.map mkT ([body_1] : List D24), ()), ()), (()))
def zq101_C (N : Nat) := Cx 9 []
def zq101_S0 : Spec := ⟨[.val .i64, .val T24], []⟩
def zq101_S1 : Spec := ⟨[.fp T24], []⟩
def zq101_K : XE → GS → Option zq101_R := retK 0 [4] [true] zq101_S1
noncomputable def zq101_L : List Code := (bodyOf (some Tryz.f33))
theorem zq101_b (N) : Bk 0 (zq101_C N) (List.range zq101_S0.ks.length) zq101_S0 (zq101_L.drop 0) (fun y => zq101 N y.1.1 y.1.2.1) zq101_K :=
 cE 3
def zq101_ctr (N : Nat) : Ctr := ⟨zq101_S0, zq101_S1.un [true], 0, (fun y => zq101 N y.1.1 y.1.2.1)⟩
theorem zq101_ok (N : Nat) : COk 33 (zq101_ctr N) :=
 cF (zw2 (Γ := zq101_C N) zw1 csn) Tryz.func33 Tryz.ntmps33 (zq101_b N)
abbrev zq36_R : Type := ((D24 × Unit) × (((List UInt8) × (Int × Unit)) × Unit))
def zq36_8 (N : Nat) (rc : Int → ((List UInt8) × (Int × Unit)) → Option zq36_R) (p0 : ((List UInt8) × (Int × Unit))) (t_4 : D24) : Option zq36_R :=
 Option.bind (zq30 N (6 : Int) p0) fun y6 =>
 Option.bind (zq57 N y6.1.1) fun y7 =>
 some ((y7.1.1, ()), (y6.2.1, ()))
def zq36_12 (N : Nat) (rc : Int → ((List UInt8) × (Int × Unit)) → Option zq36_R) (p0 : ((List UInt8) × (Int × Unit))) (t_4 : D24) : Option zq36_R :=
 Option.bind (zq37 N p0) fun y9 =>
 some ((y9.1.1, ()), (y9.2.1, ()))
def zq36_16 (N : Nat) (rc : Int → ((List UInt8) × (Int × Unit)) → Option zq36_R) (p0 : ((List UInt8) × (Int × Unit))) (t_4 : D24) : Option zq36_R :=
 Option.bind (zq30 N (3 : Int) p0) fun y11 =>
 some ((((9 : Int), y11.1.1, ([] : List Tree), ()), ()), (y11.2.1, ()))
def zq36_s22 (N : Nat) (rc : Int → ((List UInt8) × (Int × Unit)) → Option zq36_R) (depth_1 : Int) (n_7 : Int) (p0 : ((List UInt8) × (Int × Unit))) (t_4 : D24) (l_6 : (List D24)) : Option (Lo ((Int × Int × Unit) × (((List UInt8) × (Int × Unit)) × D24 × (List D24) × Unit)) ((Unit) × (((List UInt8) × (Int × Unit)) × D24 × (List D24) × Unit)) zq36_R) :=
 bif (decide ((0 : Int) < n_7)) then
  Option.bind (rc (w64 (depth_1 - (1 : Int))) p0) fun y16 =>
  bif room (l_6.length + ([y16.1.1] : List D24).length) 40 then
  some (.go ((depth_1, (w64 (n_7 - (1 : Int))), ()), (y16.2.1, t_4, (l_6 ++ ([y16.1.1] : List D24)), ())))
  else none
 else
  some (.br ((()), (p0, t_4, l_6, ())))
def zq36_23 (N : Nat) (rc : Int → ((List UInt8) × (Int × Unit)) → Option zq36_R) (p0 : ((List UInt8) × (Int × Unit))) (t_4 : D24) (l_6 : (List D24)) : Option zq36_R :=
 Option.bind (zq93 N l_6) fun y19 =>
 some ((y19.1.1, ()), (p0, ()))
def zq36_21 (N : Nat) (rc : Int → ((List UInt8) × (Int × Unit)) → Option zq36_R) (depth_1 : Int) (n_7 : Int) (p0 : ((List UInt8) × (Int × Unit))) (t_4 : D24) (l_6 : (List D24)) : Option zq36_R :=
 loopK N (fun y => zq36_s22 N rc y.1.1 y.1.2.1 y.2.1 y.2.2.1 y.2.2.2.1) (fun (e : ((Unit) × (((List UInt8) × (Int × Unit)) × D24 × (List D24) × Unit))) => zq36_23 N rc e.2.1 e.2.2.1 e.2.2.2.1) ((depth_1, n_7, ()), (p0, t_4, l_6, ()))
def zq36_20 (N : Nat) (rc : Int → ((List UInt8) × (Int × Unit)) → Option zq36_R) (depth_1 : Int) (p0 : ((List UInt8) × (Int × Unit))) (t_4 : D24) : Option zq36_R :=
 Option.bind (zq30 N (4 : Int) p0) fun y13 =>
 zq36_21 N rc depth_1 y13.1.1 y13.2.1 t_4 ([] : List D24)
def zq36_25 (N : Nat) (rc : Int → ((List UInt8) × (Int × Unit)) → Option zq36_R) (depth_1 : Int) (p0 : ((List UInt8) × (Int × Unit))) (t_4 : D24) : Option zq36_R :=
 Option.bind (zq30 N (3 : Int) p0) fun y46 =>
 Option.bind (rc (w64 (depth_1 - (1 : Int))) y46.2.1) fun y48 =>
 Option.bind (zq101 N y46.1.1 y48.1.1) fun y49 =>
 some ((y49.1.1, ()), (y48.2.1, ()))
def zq36_24 (N : Nat) (rc : Int → ((List UInt8) × (Int × Unit)) → Option zq36_R) (depth_1 : Int) (t_20 : Int) (p0 : ((List UInt8) × (Int × Unit))) (t_4 : D24) : Option zq36_R :=
 bif (decide (t_20 = (6 : Int))) then
  Option.bind (zq37 N p0) fun y21 =>
  Option.bind (zq62 N y21.1.1) fun y22 =>
  some ((y22.1.1, ()), (y21.2.1, ()))
 else
  bif (decide (t_20 = (7 : Int))) then
   Option.bind (zq37 N p0) fun y24 =>
   Option.bind (zq62 N y24.1.1) fun y25 =>
   Option.bind (zq37 N y24.2.1) fun y26 =>
   Option.bind (zq76 N y25.1.1 y26.1.1) fun y27 =>
   some ((y27.1.1, ()), (y26.2.1, ()))
  else
   bif (decide (t_20 = (8 : Int))) then
    Option.bind (zq30 N (9 : Int) p0) fun y29 =>
    Option.bind (rc (w64 (depth_1 - (1 : Int))) y29.2.1) fun y32 =>
    Option.bind (zq58 N (w64 ((1 : Int) + y29.1.1)) ([y32.1.1] : List D24)) fun y33 =>
    some ((y33.1.1, ()), (y32.2.1, ()))
   else
    bif (decide (t_20 = (9 : Int))) then
     Option.bind (rc (w64 (depth_1 - (1 : Int))) p0) fun y36 =>
     Option.bind (rc (w64 (depth_1 - (1 : Int))) y36.2.1) fun y38 =>
     Option.bind (zq105 N y36.1.1 y38.1.1) fun y39 =>
     some ((y39.1.1, ()), (y38.2.1, ()))
    else
     bif (decide (t_20 = (10 : Int))) then
      Option.bind (rc (w64 (depth_1 - (1 : Int))) p0) fun y42 =>
      Option.bind (rc (w64 (depth_1 - (1 : Int))) y42.2.1) fun y44 =>
      Option.bind (zq105 N y42.1.1 y44.1.1) fun y45 =>
      some ((y45.1.1, ()), (y44.2.1, ()))
     else
      zq36_25 N rc depth_1 p0 t_4
def zq36_18 (N : Nat) (rc : Int → ((List UInt8) × (Int × Unit)) → Option zq36_R) (depth_1 : Int) (t_20 : Int) (t_36 : Bool) (p0 : ((List UInt8) × (Int × Unit))) (t_4 : D24) : Option zq36_R :=
 bif t_36 then
  zq36_20 N rc depth_1 p0 t_4
 else
  zq36_24 N rc depth_1 t_20 p0 t_4
def zq36_17 (N : Nat) (rc : Int → ((List UInt8) × (Int × Unit)) → Option zq36_R) (depth_1 : Int) (t_20 : Int) (p0 : ((List UInt8) × (Int × Unit))) (t_4 : D24) : Option zq36_R :=
 bif (decide (t_20 = (4 : Int))) then
  zq36_18 N rc depth_1 t_20 true p0 t_4
 else
  zq36_18 N rc depth_1 t_20 (decide (t_20 = (5 : Int))) p0 t_4
def zq36_14 (N : Nat) (rc : Int → ((List UInt8) × (Int × Unit)) → Option zq36_R) (depth_1 : Int) (t_20 : Int) (t_31 : Bool) (p0 : ((List UInt8) × (Int × Unit))) (t_4 : D24) : Option zq36_R :=
 bif t_31 then
  zq36_16 N rc p0 t_4
 else
  zq36_17 N rc depth_1 t_20 p0 t_4
def zq36_13 (N : Nat) (rc : Int → ((List UInt8) × (Int × Unit)) → Option zq36_R) (depth_1 : Int) (t_20 : Int) (p0 : ((List UInt8) × (Int × Unit))) (t_4 : D24) : Option zq36_R :=
 zq36_14 N rc depth_1 t_20 (decide (t_20 = (3 : Int))) p0 t_4
def zq36_10 (N : Nat) (rc : Int → ((List UInt8) × (Int × Unit)) → Option zq36_R) (depth_1 : Int) (t_20 : Int) (t_26 : Bool) (p0 : ((List UInt8) × (Int × Unit))) (t_4 : D24) : Option zq36_R :=
 bif t_26 then
  zq36_12 N rc p0 t_4
 else
  zq36_13 N rc depth_1 t_20 p0 t_4
def zq36_9 (N : Nat) (rc : Int → ((List UInt8) × (Int × Unit)) → Option zq36_R) (depth_1 : Int) (t_20 : Int) (p0 : ((List UInt8) × (Int × Unit))) (t_4 : D24) : Option zq36_R :=
 bif (decide (t_20 = (1 : Int))) then
  zq36_10 N rc depth_1 t_20 true p0 t_4
 else
  zq36_10 N rc depth_1 t_20 (decide (t_20 = (2 : Int))) p0 t_4
def zq36_6 (N : Nat) (rc : Int → ((List UInt8) × (Int × Unit)) → Option zq36_R) (depth_1 : Int) (t_20 : Int) (t_21 : Bool) (p0 : ((List UInt8) × (Int × Unit))) (t_4 : D24) : Option zq36_R :=
 bif t_21 then
  zq36_8 N rc p0 t_4
 else
  zq36_9 N rc depth_1 t_20 p0 t_4
def zq36_5 (N : Nat) (rc : Int → ((List UInt8) × (Int × Unit)) → Option zq36_R) (depth_1 : Int) (t_20 : Int) (p0 : ((List UInt8) × (Int × Unit))) (t_4 : D24) : Option zq36_R :=
 zq36_6 N rc depth_1 t_20 (decide (t_20 = (0 : Int))) p0 t_4
def zq36_3 (N : Nat) (rc : Int → ((List UInt8) × (Int × Unit)) → Option zq36_R) (depth_1 : Int) (t_20 : Int) (p0 : ((List UInt8) × (Int × Unit))) (t_4 : D24) : Option zq36_R :=
 zq36_5 N rc depth_1 t_20 p0 t_4
def zq36_2 (N : Nat) (rc : Int → ((List UInt8) × (Int × Unit)) → Option zq36_R) (depth_1 : Int) (k_5 : Int) (p0 : ((List UInt8) × (Int × Unit))) (t_4 : D24) : Option zq36_R :=
 zq36_3 N rc depth_1 k_5 p0 t_4
def zq36_1 (N : Nat) (rc : Int → ((List UInt8) × (Int × Unit)) → Option zq36_R) (depth_1 : Int) (k_5 : Int) (t_17 : Bool) (p0 : ((List UInt8) × (Int × Unit))) (t_4 : D24) : Option zq36_R :=
 bif t_17 then
  zq36_2 N rc depth_1 (k_5.tmod (4 : Int)) p0 t_4
 else
  zq36_2 N rc depth_1 k_5 p0 t_4
def zq36 (N : Nat) (rc : Int → ((List UInt8) × (Int × Unit)) → Option zq36_R) (depth_1 : Int) (c_0 : ((List UInt8) × (Int × Unit))) : Option zq36_R :=
 Option.bind (zq30 N (12 : Int) c_0) fun y1 =>
 bif (decide (depth_1 ≤ (1 : Int))) then
  zq36_1 N rc depth_1 y1.1.1 (decide ((3 : Int) < y1.1.1)) y1.2.1 ((0 : Int), (0 : Int), ([] : List Tree), ())
 else
  zq36_1 N rc depth_1 y1.1.1 false y1.2.1 ((0 : Int), (0 : Int), ([] : List Tree), ())
def zq36_S0 : Spec := ⟨[.ref 0 (.pair (.sl .u8) (.pair .i64 .unit)), .ref 1 T24], [(.box 50 (.pair (.sl .u8) (.pair .i64 .unit)), .fix 0), (.box 24 T24, .pos 1)]⟩
def zq36_S1 : Spec := ⟨[.ref 0 (.pair (.sl .u8) (.pair .i64 .unit)), .val .i64, .ref 1 T24, .row 2, .val .i64], [(.box 50 (.pair (.sl .u8) (.pair .i64 .unit)), .fix 0), (.box 24 T24, .pos 2), (.row 24 T24, .pos 3)]⟩
def zq36_S2 : Spec := ⟨[.ref 1 T24, .row 2], [(.box 50 (.pair (.sl .u8) (.pair .i64 .unit)), .fix 0), (.box 24 T24, .pos 0), (.row 24 T24, .pos 1)]⟩
def zq36_S3 : Spec := ⟨[.ref 0 (.pair (.sl .u8) (.pair .i64 .unit)), .val .i64, .ref 1 T24], [(.box 50 (.pair (.sl .u8) (.pair .i64 .unit)), .fix 0), (.box 24 T24, .pos 2)]⟩
def zq36_S4 : Spec := ⟨[.ref 0 (.pair (.sl .u8) (.pair .i64 .unit)), .val .i64, .ref 1 T24, .val .i64], [(.box 50 (.pair (.sl .u8) (.pair .i64 .unit)), .fix 0), (.box 24 T24, .pos 2)]⟩
def zq36_S5 : Spec := ⟨[.ref 0 (.pair (.sl .u8) (.pair .i64 .unit)), .val .i64, .ref 1 T24, .val .i64, .val .bool], [(.box 50 (.pair (.sl .u8) (.pair .i64 .unit)), .fix 0), (.box 24 T24, .pos 2)]⟩
def zq36_S6 : Spec := ⟨[.ref 0 (.pair (.sl .u8) (.pair .i64 .unit)), .val .i64], [(.box 50 (.pair (.sl .u8) (.pair .i64 .unit)), .pos 0)]⟩
def zq36_S7 : Spec := ⟨[.fp T24], [(.box 50 (.pair (.sl .u8) (.pair .i64 .unit)), .fix 0)]⟩
def zq36_ftr (N : Nat) (rc : Int → ((List UInt8) × (Int × Unit)) → Option zq36_R) : Ctr := ⟨zq36_S6, zq36_S7.un [true], 1, (fun y => rc y.1.1 y.2.1)⟩
def zq36_C (N : Nat) (rc : Int → ((List UInt8) × (Int × Unit)) → Option zq36_R) := Cx 101 [(29, zq30_ctr N), (28, zq57_ctr N), (25, zq37_ctr N), (27, zq93_ctr N), (30, zq62_ctr N), (31, zq76_ctr N), (32, zq58_ctr N), (26, zq105_ctr N), (33, zq101_ctr N), (9, zq36_ftr N rc)]
def zq36_K : XE → GS → Option zq36_R := retK 1 [4] [true] zq36_S7
noncomputable def zq36_L : List Code := (bodyOf (some Tryz.f9))
def zq36_L4b : List Code := (zw2h (zq36_L[5]?))
def zq36_L7t : List Code := (thenOf (zq36_L4b[1]?))
def zq36_L7e : List Code := (elseOf (zq36_L4b[1]?))
def zq36_L11t : List Code := (thenOf (zq36_L7e[2]?))
def zq36_L11e : List Code := (elseOf (zq36_L7e[2]?))
def zq36_L15t : List Code := (thenOf (zq36_L11e[1]?))
def zq36_L15e : List Code := (elseOf (zq36_L11e[1]?))
def zq36_L19t : List Code := (thenOf (zq36_L15e[2]?))
def zq36_L22 : List Code := (loopOf (zq36_L19t[2]?))
def zq36_L19e : List Code := (elseOf (zq36_L15e[2]?))
def zq36_K4 (N : Nat) (rc : Int → ((List UInt8) × (Int × Unit)) → Option zq36_R) : XE → GS → Option zq36_R := blockK 0 (goK 1 [0, 1, 4] zq36_S3 (fun y => zq36_25 N rc y.1.1 y.2.1 y.2.2.1)) zq36_K
def zq36_K7 (N : Nat) (rc : Int → ((List UInt8) × (Int × Unit)) → Option zq36_R) : XE → GS → Option zq36_R := nextK (zq36_K4 N rc .normal) (zq36_K4 N rc)
def zq36_K11 (N : Nat) (rc : Int → ((List UInt8) × (Int × Unit)) → Option zq36_R) : XE → GS → Option zq36_R := nextK (zq36_K7 N rc .normal) (zq36_K7 N rc)
def zq36_K15 (N : Nat) (rc : Int → ((List UInt8) × (Int × Unit)) → Option zq36_R) : XE → GS → Option zq36_R := nextK (zq36_K11 N rc .normal) (zq36_K11 N rc)
def zq36_K19 (N : Nat) (rc : Int → ((List UInt8) × (Int × Unit)) → Option zq36_R) : XE → GS → Option zq36_R := nextK (zq36_K15 N rc .normal) (zq36_K15 N rc)
def zq36_K22 (N : Nat) (rc : Int → ((List UInt8) × (Int × Unit)) → Option zq36_R) := roundK (some 1) (fit 1 [0, 1, 4, 6, 7] zq36_S1) (fit 1 [4, 6] zq36_S2) (zq36_K19 N rc)
theorem zq36_8_b (N) (rc) : Bk 1 (zq36_C N rc) [0, 4] zq36_S0 (zq36_L7t.drop 0) (fun y => zq36_8 N rc y.2.1 y.2.2.1) (zq36_K7 N rc) :=
 cE 2
theorem zq36_12_b (N) (rc) : Bk 1 (zq36_C N rc) [0, 4] zq36_S0 (zq36_L11t.drop 0) (fun y => zq36_12 N rc y.2.1 y.2.2.1) (zq36_K11 N rc) :=
 cE 2
theorem zq36_16_b (N) (rc) : Bk 1 (zq36_C N rc) [0, 4] zq36_S0 (zq36_L15t.drop 0) (fun y => zq36_16 N rc y.2.1 y.2.2.1) (zq36_K15 N rc) :=
 cE 2
theorem zq36_s22_b (N) (rc) : Bk 1 (zq36_C N rc) [0, 1, 4, 6, 7] zq36_S1 (zq36_L22.drop 0) (fun y => zq36_s22 N rc y.1.1 y.1.2.1 y.2.1 y.2.2.1 y.2.2.2.1) (zq36_K22 N rc) :=
 cE 4
theorem zq36_23_b (N) (rc) : Bk 1 (zq36_C N rc) [4, 6] zq36_S2 (zq36_L19t.drop 3) (fun y => zq36_23 N rc y.2.1 y.2.2.1 y.2.2.2.1) (zq36_K19 N rc) :=
 cE 2
theorem zq36_21_b (N) (rc) : Bk 1 (zq36_C N rc) [0, 1, 4, 6, 7] zq36_S1 (zq36_L19t.drop 2) (fun y => zq36_21 N rc y.1.1 y.1.2.1 y.2.1 y.2.2.1 y.2.2.2.1) (zq36_K19 N rc) :=
 lG N zq36_S1 [4, 6] zq36_S2 (zq36_23_b N rc) (zq36_s22_b N rc)
theorem zq36_20_b (N) (rc) : Bk 1 (zq36_C N rc) [0, 1, 4] zq36_S3 (zq36_L19t.drop 0) (fun y => zq36_20 N rc y.1.1 y.2.1 y.2.2.1) (zq36_K19 N rc) :=
 cG 2 (zq36_21_b N rc)
theorem zq36_25_b (N) (rc) : Bk 1 (zq36_C N rc) [0, 1, 4] zq36_S3 (zq36_L.drop 6) (fun y => zq36_25 N rc y.1.1 y.2.1 y.2.2.1) zq36_K :=
 cE 2
theorem zq36_24_b (N) (rc) : Bk 1 (zq36_C N rc) [0, 1, 4, 20] zq36_S4 (zq36_L19e.drop 0) (fun y => zq36_24 N rc y.1.1 y.1.2.1 y.2.1 y.2.2.1) (zq36_K19 N rc) :=
 cE 2
theorem zq36_18_b (N) (rc) : Bk 1 (zq36_C N rc) [0, 1, 4, 20, 36] zq36_S5 (zq36_L15e.drop 2) (fun y => zq36_18 N rc y.1.1 y.1.2.1 y.1.2.2.1 y.2.1 y.2.2.1) (zq36_K15 N rc) :=
 fun hb => Blk.condAt (n := 36) (X := (zq36_K15 N rc .normal)) (A := (goK 1 [0, 1, 4] zq36_S3 (fun y => zq36_20 N rc y.1.1 y.2.1 y.2.2.1))) (B := (goK 1 [0, 1, 4, 20] zq36_S4 (fun y => zq36_24 N rc y.1.1 y.1.2.1 y.2.1 y.2.2.1))) (by kernel_rfl) (NxOk.end (by kernel_rfl)) (NxOk.go hb (zq36_20_b N rc hb)) (NxOk.go hb (zq36_24_b N rc hb)) (fun x => by kernel_rfl)
theorem zq36_17_b (N) (rc) : Bk 1 (zq36_C N rc) [0, 1, 4, 20] zq36_S4 (zq36_L15e.drop 0) (fun y => zq36_17 N rc y.1.1 y.1.2.1 y.2.1 y.2.2.1) (zq36_K15 N rc) :=
 cG 2 (zq36_18_b N rc)
theorem zq36_14_b (N) (rc) : Bk 1 (zq36_C N rc) [0, 1, 4, 20, 31] zq36_S5 (zq36_L11e.drop 1) (fun y => zq36_14 N rc y.1.1 y.1.2.1 y.1.2.2.1 y.2.1 y.2.2.1) (zq36_K11 N rc) :=
 fun hb => Blk.condAt (n := 31) (X := (zq36_K11 N rc .normal)) (A := (goK 1 [0, 4] zq36_S0 (fun y => zq36_16 N rc y.2.1 y.2.2.1))) (B := (goK 1 [0, 1, 4, 20] zq36_S4 (fun y => zq36_17 N rc y.1.1 y.1.2.1 y.2.1 y.2.2.1))) (by kernel_rfl) (NxOk.end (by kernel_rfl)) (NxOk.go hb (zq36_16_b N rc hb)) (NxOk.go hb (zq36_17_b N rc hb)) (fun x => by kernel_rfl)
theorem zq36_13_b (N) (rc) : Bk 1 (zq36_C N rc) [0, 1, 4, 20] zq36_S4 (zq36_L11e.drop 0) (fun y => zq36_13 N rc y.1.1 y.1.2.1 y.2.1 y.2.2.1) (zq36_K11 N rc) :=
 cG 1 (zq36_14_b N rc)
theorem zq36_10_b (N) (rc) : Bk 1 (zq36_C N rc) [0, 1, 4, 20, 26] zq36_S5 (zq36_L7e.drop 2) (fun y => zq36_10 N rc y.1.1 y.1.2.1 y.1.2.2.1 y.2.1 y.2.2.1) (zq36_K7 N rc) :=
 fun hb => Blk.condAt (n := 26) (X := (zq36_K7 N rc .normal)) (A := (goK 1 [0, 4] zq36_S0 (fun y => zq36_12 N rc y.2.1 y.2.2.1))) (B := (goK 1 [0, 1, 4, 20] zq36_S4 (fun y => zq36_13 N rc y.1.1 y.1.2.1 y.2.1 y.2.2.1))) (by kernel_rfl) (NxOk.end (by kernel_rfl)) (NxOk.go hb (zq36_12_b N rc hb)) (NxOk.go hb (zq36_13_b N rc hb)) (fun x => by kernel_rfl)
theorem zq36_9_b (N) (rc) : Bk 1 (zq36_C N rc) [0, 1, 4, 20] zq36_S4 (zq36_L7e.drop 0) (fun y => zq36_9 N rc y.1.1 y.1.2.1 y.2.1 y.2.2.1) (zq36_K7 N rc) :=
 cG 2 (zq36_10_b N rc)
theorem zq36_6_b (N) (rc) : Bk 1 (zq36_C N rc) [0, 1, 4, 20, 21] zq36_S5 (zq36_L4b.drop 1) (fun y => zq36_6 N rc y.1.1 y.1.2.1 y.1.2.2.1 y.2.1 y.2.2.1) (zq36_K4 N rc) :=
 fun hb => Blk.condAt (n := 21) (X := (zq36_K4 N rc .normal)) (A := (goK 1 [0, 4] zq36_S0 (fun y => zq36_8 N rc y.2.1 y.2.2.1))) (B := (goK 1 [0, 1, 4, 20] zq36_S4 (fun y => zq36_9 N rc y.1.1 y.1.2.1 y.2.1 y.2.2.1))) (by kernel_rfl) (NxOk.end (by kernel_rfl)) (NxOk.go hb (zq36_8_b N rc hb)) (NxOk.go hb (zq36_9_b N rc hb)) (fun x => by kernel_rfl)
theorem zq36_5_b (N) (rc) : Bk 1 (zq36_C N rc) [0, 1, 4, 20] zq36_S4 (zq36_L4b.drop 0) (fun y => zq36_5 N rc y.1.1 y.1.2.1 y.2.1 y.2.2.1) (zq36_K4 N rc) :=
 cG 1 (zq36_6_b N rc)
theorem zq36_3_b (N) (rc) : Bk 1 (zq36_C N rc) [0, 1, 4, 20] zq36_S4 (zq36_L.drop 5) (fun y => zq36_3 N rc y.1.1 y.1.2.1 y.2.1 y.2.2.1) zq36_K :=
 fun hb => Blk.blockAt (bid := 0) (X := (goK 1 [0, 1, 4] zq36_S3 (fun y => zq36_25 N rc y.1.1 y.2.1 y.2.2.1))) (Y := (goK 1 [0, 1, 4, 20] zq36_S4 (fun y => zq36_5 N rc y.1.1 y.1.2.1 y.2.1 y.2.2.1))) (by kernel_rfl) (NxOk.go hb (zq36_25_b N rc hb)) (NxOk.go hb (zq36_5_b N rc hb)) (fun x => by kernel_rfl)
theorem zq36_2_b (N) (rc) : Bk 1 (zq36_C N rc) [0, 1, 4, 5] zq36_S4 (zq36_L.drop 4) (fun y => zq36_2 N rc y.1.1 y.1.2.1 y.2.1 y.2.2.1) zq36_K :=
 cG 1 (zq36_3_b N rc)
theorem zq36_1_b (N) (rc) : Bk 1 (zq36_C N rc) [0, 1, 4, 5, 17] zq36_S5 (zq36_L.drop 3) (fun y => zq36_1 N rc y.1.1 y.1.2.1 y.1.2.2.1 y.2.1 y.2.2.1) zq36_K :=
 cG 1 (zq36_2_b N rc)
theorem zq36_b (N) (rc) : Bk 1 (zq36_C N rc) (List.range zq36_S6.ks.length) zq36_S6 (zq36_L.drop 0) (fun y => zq36 N rc y.1.1 y.2.1) zq36_K :=
 cG 3 (zq36_1_b N rc)
def zq36_octr (N : Nat) (rc : Int → ((List UInt8) × (Int × Unit)) → Option zq36_R) : Ctr := ⟨zq36_S6, zq36_S7.un [true], 1, (fun y => zq36 N rc y.1.1 y.2.1)⟩
theorem zq36_ook (N : Nat) (rc : Int → ((List UInt8) × (Int × Unit)) → Option zq36_R) (hf : COk 9 (zq36_ftr N rc))  : COk 9 (zq36_octr N rc) :=
 cF (zw2 (Γ := zq36_C N rc) zw1 (csc (zq30_ok N) (csc (zq57_ok N) (csc (zq37_ok N) (csc (zq93_ok N) (csc (zq62_ok N) (csc (zq76_ok N) (csc (zq58_ok N) (csc (zq105_ok N) (csc (zq101_ok N) (csc hf csn))))))))))) Tryz.func9 Tryz.ntmps9 (zq36_b N rc)
def zw1y (N : Nat) : Nat → Int → ((List UInt8) × (Int × Unit)) → Option zq36_R
 | 0 => fun _ _ => none
 | n + 1 => fun depth_1 c_0 => zq36 N (zw1y N n) depth_1 c_0
theorem zw8w (N : Nat) : ∀ n : Nat, COk 9 (zq36_ftr N (zw1y N n))
 | 0 => zw1a Tryz.func9 (by kernel_rfl) (by kernel_rfl) (fun x => rfl)
 | n + 1 => zq36_ook N (zw1y N n) (zw8w N n)
def zq36_ctr (N : Nat) : Ctr := zq36_ftr N (zw1y N N)
theorem zq36_ok (N : Nat) : COk 9 (zq36_ctr N) := zw8w N N
abbrev zq91_R : Type := ((Unit) × ((List D24) × Unit))
def zq91_6 (N : Nat) (rc : D24 → Option zq91_R) (t_1 : D24) : Option zq91_R :=
 let x2 := List.map Tree.un t_1.2.2.1
 bif inR (0 : Int) x2.length then
 let x3 := x2.getD 0 ((0 : Int), (0 : Int), ([] : List Tree), ())
 let x4 := List.map Tree.un t_1.2.2.1
 bif inR (1 : Int) x4.length then
 Option.bind (rc (x4.getD 1 ((0 : Int), (0 : Int), ([] : List Tree), ()))) fun y6 =>
 bif room (([x3] : List D24).length + y6.2.1.length) 40 then
 some ((()), ((([x3] : List D24) ++ y6.2.1), ()))
 else none
 else none
 else none
def zq91_10 (N : Nat) (rc : D24 → Option zq91_R) (t_1 : D24) : Option zq91_R :=
 some ((()), (([t_1] : List D24), ()))
def zq91_s16 (N : Nat) (rc : D24 → Option zq91_R) (i_4 : Int) (t_1 : D24) (l_3 : (List D24)) : Option (Lo ((Int × Unit) × (D24 × (List D24) × Unit)) ((Unit) × ((List D24) × Unit)) zq91_R) :=
 bif (decide (i_4 < ((List.map Tree.un t_1.2.2.1).length : Int))) then
  let x13 := List.map Tree.un t_1.2.2.1
  bif inR i_4 x13.length then
  Option.bind (rc (x13.getD i_4.toNat ((0 : Int), (0 : Int), ([] : List Tree), ()))) fun y15 =>
  bif room (l_3.length + y15.2.1.length) 40 then
  some (.go (((w64 (i_4 + (1 : Int))), ()), (t_1, (l_3 ++ y15.2.1), ())))
  else none
  else none
 else
  some (.br ((()), (l_3, ())))
def zq91_17 (N : Nat) (rc : D24 → Option zq91_R) (l_3 : (List D24)) : Option zq91_R :=
 some ((()), (l_3, ()))
def zq91_15 (N : Nat) (rc : D24 → Option zq91_R) (i_4 : Int) (t_1 : D24) (l_3 : (List D24)) : Option zq91_R :=
 loopK N (fun y => zq91_s16 N rc y.1.1 y.2.1 y.2.2.1) (fun (e : ((Unit) × ((List D24) × Unit))) => zq91_17 N rc e.2.1) ((i_4, ()), (t_1, l_3, ()))
def zq91_14 (N : Nat) (rc : D24 → Option zq91_R) (t_1 : D24) (l_3 : (List D24)) : Option zq91_R :=
 zq91_15 N rc (0 : Int) t_1 l_3
def zq91_12 (N : Nat) (rc : D24 → Option zq91_R) (t_26 : Bool) (t_1 : D24) (l_3 : (List D24)) : Option zq91_R :=
 bif t_26 then
  zq91_14 N rc t_1 l_3
 else
  zq91_17 N rc l_3
def zq91_11 (N : Nat) (rc : D24 → Option zq91_R) (t_6 : Int) (t_1 : D24) (l_3 : (List D24)) : Option zq91_R :=
 bif (decide (t_6 = (3 : Int))) then
  zq91_12 N rc true t_1 l_3
 else
  zq91_12 N rc (decide (t_6 = (8 : Int))) t_1 l_3
def zq91_8 (N : Nat) (rc : D24 → Option zq91_R) (t_6 : Int) (t_20 : Bool) (t_1 : D24) (l_3 : (List D24)) : Option zq91_R :=
 bif t_20 then
  zq91_10 N rc t_1
 else
  zq91_11 N rc t_6 t_1 l_3
def zq91_7 (N : Nat) (rc : D24 → Option zq91_R) (t_6 : Int) (t_1 : D24) (l_3 : (List D24)) : Option zq91_R :=
 bif (decide (t_6 = (6 : Int))) then
  zq91_8 N rc t_6 true t_1 l_3
 else
  bif (decide (t_6 = (5 : Int))) then
   zq91_8 N rc t_6 true t_1 l_3
  else
   zq91_8 N rc t_6 (decide (t_6 = (9 : Int))) t_1 l_3
def zq91_4 (N : Nat) (rc : D24 → Option zq91_R) (t_6 : Int) (t_7 : Bool) (t_1 : D24) (l_3 : (List D24)) : Option zq91_R :=
 bif t_7 then
  zq91_6 N rc t_1
 else
  zq91_7 N rc t_6 t_1 l_3
def zq91_3 (N : Nat) (rc : D24 → Option zq91_R) (t_6 : Int) (t_1 : D24) (l_3 : (List D24)) : Option zq91_R :=
 zq91_4 N rc t_6 (decide (t_6 = (7 : Int))) t_1 l_3
def zq91_1 (N : Nat) (rc : D24 → Option zq91_R) (t_6 : Int) (t_1 : D24) (l_3 : (List D24)) : Option zq91_R :=
 zq91_3 N rc t_6 t_1 l_3
def zq91 (N : Nat) (rc : D24 → Option zq91_R) (t_0 : D24) : Option zq91_R :=
 zq91_1 N rc t_0.1 t_0 ([] : List D24)
def zq91_S0 : Spec := ⟨[.ref 0 T24], [(.box 24 T24, .pos 0)]⟩
def zq91_S1 : Spec := ⟨[.ref 0 T24, .row 1, .val .i64], [(.box 24 T24, .pos 0), (.row 24 T24, .pos 1)]⟩
def zq91_S2 : Spec := ⟨[.row 0], [(.row 24 T24, .pos 0)]⟩
def zq91_S3 : Spec := ⟨[.ref 0 T24, .row 1], [(.box 24 T24, .pos 0), (.row 24 T24, .pos 1)]⟩
def zq91_S4 : Spec := ⟨[.ref 0 T24, .row 1, .val .bool], [(.box 24 T24, .pos 0), (.row 24 T24, .pos 1)]⟩
def zq91_S5 : Spec := ⟨[.ref 0 T24, .row 1, .val .i64, .val .bool], [(.box 24 T24, .pos 0), (.row 24 T24, .pos 1)]⟩
def zq91_S6 : Spec := ⟨[.val T24], []⟩
def zq91_ftr (N : Nat) (rc : D24 → Option zq91_R) : Ctr := ⟨zq91_S6, zq91_S2.un [false], 0, (fun y => rc y.1.1)⟩
def zq91_C (N : Nat) (rc : D24 → Option zq91_R) := Cx 45 [(22, zq91_ftr N rc)]
def zq91_K : XE → GS → Option zq91_R := retK 0 [2] [false] zq91_S2
noncomputable def zq91_L : List Code := (bodyOf (some Tryz.f22))
def zq91_L2b : List Code := (zw2h (zq91_L[3]?))
def zq91_L5t : List Code := (thenOf (zq91_L2b[1]?))
def zq91_L5e : List Code := (elseOf (zq91_L2b[1]?))
def zq91_L9t : List Code := (thenOf (zq91_L5e[2]?))
def zq91_L9e : List Code := (elseOf (zq91_L5e[2]?))
def zq91_L13t : List Code := (thenOf (zq91_L9e[2]?))
def zq91_L16 : List Code := (loopOf (zq91_L13t[1]?))
def zq91_L13e : List Code := (elseOf (zq91_L9e[2]?))
def zq91_K2 (N : Nat) (rc : D24 → Option zq91_R) : XE → GS → Option zq91_R := blockK 0 (goK 0 [3] zq91_S2 (fun y => zq91_17 N rc y.2.1)) zq91_K
def zq91_K5 (N : Nat) (rc : D24 → Option zq91_R) : XE → GS → Option zq91_R := nextK (zq91_K2 N rc .normal) (zq91_K2 N rc)
def zq91_K9 (N : Nat) (rc : D24 → Option zq91_R) : XE → GS → Option zq91_R := nextK (zq91_K5 N rc .normal) (zq91_K5 N rc)
def zq91_K13 (N : Nat) (rc : D24 → Option zq91_R) : XE → GS → Option zq91_R := nextK (zq91_K9 N rc .normal) (zq91_K9 N rc)
def zq91_K16 (N : Nat) (rc : D24 → Option zq91_R) := roundK (some 1) (fit 0 [1, 3, 4] zq91_S1) (fit 0 [3] zq91_S2) (zq91_K13 N rc)
theorem zq91_6_b (N) (rc) : Bk 0 (zq91_C N rc) [1] zq91_S0 (zq91_L5t.drop 0) (fun y => zq91_6 N rc y.2.1) (zq91_K5 N rc) :=
 cE 2
theorem zq91_10_b (N) (rc) : Bk 0 (zq91_C N rc) [1] zq91_S0 (zq91_L9t.drop 0) (fun y => zq91_10 N rc y.2.1) (zq91_K9 N rc) :=
 cE 2
theorem zq91_s16_b (N) (rc) : Bk 0 (zq91_C N rc) [1, 3, 4] zq91_S1 (zq91_L16.drop 0) (fun y => zq91_s16 N rc y.1.1 y.2.1 y.2.2.1) (zq91_K16 N rc) :=
 cE 4
theorem zq91_17_b (N) (rc) : Bk 0 (zq91_C N rc) [3] zq91_S2 (zq91_L.drop 4) (fun y => zq91_17 N rc y.2.1) zq91_K :=
 cE 2
theorem zq91_15_b (N) (rc) : Bk 0 (zq91_C N rc) [1, 3, 4] zq91_S1 (zq91_L13t.drop 1) (fun y => zq91_15 N rc y.1.1 y.2.1 y.2.2.1) (zq91_K13 N rc) :=
 lE N zq91_S1 [3] zq91_S2 (zq91_s16_b N rc)
theorem zq91_14_b (N) (rc) : Bk 0 (zq91_C N rc) [1, 3] zq91_S3 (zq91_L13t.drop 0) (fun y => zq91_14 N rc y.2.1 y.2.2.1) (zq91_K13 N rc) :=
 cG 1 (zq91_15_b N rc)
theorem zq91_12_b (N) (rc) : Bk 0 (zq91_C N rc) [1, 3, 26] zq91_S4 (zq91_L9e.drop 2) (fun y => zq91_12 N rc y.1.1 y.2.1 y.2.2.1) (zq91_K9 N rc) :=
 fun hb => Blk.condAt (n := 26) (X := (zq91_K9 N rc .normal)) (A := (goK 0 [1, 3] zq91_S3 (fun y => zq91_14 N rc y.2.1 y.2.2.1))) (B := (zq91_K13 N rc .normal)) (by kernel_rfl) (NxOk.end (by kernel_rfl)) (NxOk.go hb (zq91_14_b N rc hb)) (NxOk.skipAt (by kernel_rfl)) (fun x => by kernel_rfl)
theorem zq91_11_b (N) (rc) : Bk 0 (zq91_C N rc) [1, 3, 6] zq91_S1 (zq91_L9e.drop 0) (fun y => zq91_11 N rc y.1.1 y.2.1 y.2.2.1) (zq91_K9 N rc) :=
 cG 2 (zq91_12_b N rc)
theorem zq91_8_b (N) (rc) : Bk 0 (zq91_C N rc) [1, 3, 6, 20] zq91_S5 (zq91_L5e.drop 2) (fun y => zq91_8 N rc y.1.1 y.1.2.1 y.2.1 y.2.2.1) (zq91_K5 N rc) :=
 fun hb => Blk.condAt (n := 20) (X := (zq91_K5 N rc .normal)) (A := (goK 0 [1] zq91_S0 (fun y => zq91_10 N rc y.2.1))) (B := (goK 0 [1, 3, 6] zq91_S1 (fun y => zq91_11 N rc y.1.1 y.2.1 y.2.2.1))) (by kernel_rfl) (NxOk.end (by kernel_rfl)) (NxOk.go hb (zq91_10_b N rc hb)) (NxOk.go hb (zq91_11_b N rc hb)) (fun x => by kernel_rfl)
theorem zq91_7_b (N) (rc) : Bk 0 (zq91_C N rc) [1, 3, 6] zq91_S1 (zq91_L5e.drop 0) (fun y => zq91_7 N rc y.1.1 y.2.1 y.2.2.1) (zq91_K5 N rc) :=
 cG 2 (zq91_8_b N rc)
theorem zq91_4_b (N) (rc) : Bk 0 (zq91_C N rc) [1, 3, 6, 7] zq91_S5 (zq91_L2b.drop 1) (fun y => zq91_4 N rc y.1.1 y.1.2.1 y.2.1 y.2.2.1) (zq91_K2 N rc) :=
 fun hb => Blk.condAt (n := 7) (X := (zq91_K2 N rc .normal)) (A := (goK 0 [1] zq91_S0 (fun y => zq91_6 N rc y.2.1))) (B := (goK 0 [1, 3, 6] zq91_S1 (fun y => zq91_7 N rc y.1.1 y.2.1 y.2.2.1))) (by kernel_rfl) (NxOk.end (by kernel_rfl)) (NxOk.go hb (zq91_6_b N rc hb)) (NxOk.go hb (zq91_7_b N rc hb)) (fun x => by kernel_rfl)
theorem zq91_3_b (N) (rc) : Bk 0 (zq91_C N rc) [1, 3, 6] zq91_S1 (zq91_L2b.drop 0) (fun y => zq91_3 N rc y.1.1 y.2.1 y.2.2.1) (zq91_K2 N rc) :=
 cG 1 (zq91_4_b N rc)
theorem zq91_1_b (N) (rc) : Bk 0 (zq91_C N rc) [1, 3, 6] zq91_S1 (zq91_L.drop 3) (fun y => zq91_1 N rc y.1.1 y.2.1 y.2.2.1) zq91_K :=
 fun hb => Blk.blockAt (bid := 0) (X := (goK 0 [3] zq91_S2 (fun y => zq91_17 N rc y.2.1))) (Y := (goK 0 [1, 3, 6] zq91_S1 (fun y => zq91_3 N rc y.1.1 y.2.1 y.2.2.1))) (by kernel_rfl) (NxOk.go hb (zq91_17_b N rc hb)) (NxOk.go hb (zq91_3_b N rc hb)) (fun x => by kernel_rfl)
theorem zq91_b (N) (rc) : Bk 0 (zq91_C N rc) (List.range zq91_S6.ks.length) zq91_S6 (zq91_L.drop 0) (fun y => zq91 N rc y.1.1) zq91_K :=
 cG 3 (zq91_1_b N rc)
def zq91_octr (N : Nat) (rc : D24 → Option zq91_R) : Ctr := ⟨zq91_S6, zq91_S2.un [false], 0, (fun y => zq91 N rc y.1.1)⟩
theorem zq91_ook (N : Nat) (rc : D24 → Option zq91_R) (hf : COk 22 (zq91_ftr N rc))  : COk 22 (zq91_octr N rc) :=
 cF (zw2 (Γ := zq91_C N rc) zw1 (csc hf csn)) Tryz.func22 Tryz.ntmps22 (zq91_b N rc)
def zw1z (N : Nat) : Nat → D24 → Option zq91_R
 | 0 => fun _ => none
 | n + 1 => fun t_0 => zq91 N (zw1z N n) t_0
theorem zw8x (N : Nat) : ∀ n : Nat, COk 22 (zq91_ftr N (zw1z N n))
 | 0 => zw1a Tryz.func22 (by kernel_rfl) (by kernel_rfl) (fun x => rfl)
 | n + 1 => zq91_ook N (zw1z N n) (zw8x N n)
def zq91_ctr (N : Nat) : Ctr := zq91_ftr N (zw1z N N)
theorem zq91_ok (N : Nat) : COk 22 (zq91_ctr N) := zw8x N N
abbrev zq71_R : Type := ((Int × Unit) × (Unit))
def zq71_3 (N : Nat) (rc : D24 → Option zq71_R) (n_3 : Int) (i_4 : Int) (t_13 : Bool) (t_1 : D24) : Option (Lo ((Int × Int × Unit) × (D24 × Unit)) ((Int × Unit) × (Unit)) zq71_R) :=
 bif t_13 then
  let x5 := List.map Tree.un t_1.2.2.1
  bif inR i_4 x5.length then
  Option.bind (rc (x5.getD i_4.toNat ((0 : Int), (0 : Int), ([] : List Tree), ()))) fun y7 =>
  some (.go (((w64 (n_3 + y7.1.1)), (w64 (i_4 + (1 : Int))), ()), (t_1, ())))
  else none
 else
  some (.br ((n_3, ()), (())))
def zq71_s2 (N : Nat) (rc : D24 → Option zq71_R) (n_3 : Int) (i_4 : Int) (t_1 : D24) : Option (Lo ((Int × Int × Unit) × (D24 × Unit)) ((Int × Unit) × (Unit)) zq71_R) :=
 bif (decide (i_4 < ((List.map Tree.un t_1.2.2.1).length : Int))) then
  zq71_3 N rc n_3 i_4 (decide (n_3 ≤ (600 : Int))) t_1
 else
  zq71_3 N rc n_3 i_4 false t_1
def zq71_4 (N : Nat) (rc : D24 → Option zq71_R) (n_3 : Int) : Option zq71_R :=
 some (((bif decide ((601 : Int) < n_3) then (601 : Int) else n_3), ()), (()))
def zq71_1 (N : Nat) (rc : D24 → Option zq71_R) (n_3 : Int) (i_4 : Int) (t_1 : D24) : Option zq71_R :=
 loopK N (fun y => zq71_s2 N rc y.1.1 y.1.2.1 y.2.1) (fun (e : ((Int × Unit) × (Unit))) => zq71_4 N rc e.1.1) ((n_3, i_4, ()), (t_1, ()))
def zq71 (N : Nat) (rc : D24 → Option zq71_R) (t_0 : D24) : Option zq71_R :=
 zq71_1 N rc (1 : Int) (0 : Int) t_0
def zq71_S0 : Spec := ⟨[.ref 0 T24, .val .i64, .val .i64, .val .bool], [(.box 24 T24, .pos 0)]⟩
def zq71_S1 : Spec := ⟨[.ref 0 T24, .val .i64, .val .i64], [(.box 24 T24, .pos 0)]⟩
def zq71_S2 : Spec := ⟨[.val .i64], []⟩
def zq71_S3 : Spec := ⟨[.val T24], []⟩
def zq71_ftr (N : Nat) (rc : D24 → Option zq71_R) : Ctr := ⟨zq71_S3, zq71_S2.un [false], 0, (fun y => rc y.1.1)⟩
def zq71_C (N : Nat) (rc : D24 → Option zq71_R) := Cx 26 [(58, zq71_ftr N rc)]
def zq71_K : XE → GS → Option zq71_R := retK 0 [2] [false] zq71_S2
noncomputable def zq71_L : List Code := (bodyOf (some Tryz.f58))
def zq71_L2 : List Code := (loopOf (zq71_L[3]?))
def zq71_K2 (N : Nat) (rc : D24 → Option zq71_R) := roundK (some 0) (fit 0 [1, 3, 4] zq71_S1) (fit 0 [3] zq71_S2) zq71_K
theorem zq71_3_b (N) (rc) : Bk 0 (zq71_C N rc) [1, 3, 4, 13] zq71_S0 (zq71_L2.drop 1) (fun y => zq71_3 N rc y.1.1 y.1.2.1 y.1.2.2.1 y.2.1) (zq71_K2 N rc) :=
 cE 3
theorem zq71_s2_b (N) (rc) : Bk 0 (zq71_C N rc) [1, 3, 4] zq71_S1 (zq71_L2.drop 0) (fun y => zq71_s2 N rc y.1.1 y.1.2.1 y.2.1) (zq71_K2 N rc) :=
 cG 1 (zq71_3_b N rc)
theorem zq71_4_b (N) (rc) : Bk 0 (zq71_C N rc) [3] zq71_S2 (zq71_L.drop 4) (fun y => zq71_4 N rc y.1.1) zq71_K :=
 cE 2
theorem zq71_1_b (N) (rc) : Bk 0 (zq71_C N rc) [1, 3, 4] zq71_S1 (zq71_L.drop 3) (fun y => zq71_1 N rc y.1.1 y.1.2.1 y.2.1) zq71_K :=
 lG N zq71_S1 [3] zq71_S2 (zq71_4_b N rc) (zq71_s2_b N rc)
theorem zq71_b (N) (rc) : Bk 0 (zq71_C N rc) (List.range zq71_S3.ks.length) zq71_S3 (zq71_L.drop 0) (fun y => zq71 N rc y.1.1) zq71_K :=
 cG 3 (zq71_1_b N rc)
def zq71_octr (N : Nat) (rc : D24 → Option zq71_R) : Ctr := ⟨zq71_S3, zq71_S2.un [false], 0, (fun y => zq71 N rc y.1.1)⟩
theorem zq71_ook (N : Nat) (rc : D24 → Option zq71_R) (hf : COk 58 (zq71_ftr N rc))  : COk 58 (zq71_octr N rc) :=
 cF (zw2 (Γ := zq71_C N rc) zw1 (csc hf csn)) Tryz.func58 Tryz.ntmps58 (zq71_b N rc)
def zw20 (N : Nat) : Nat → D24 → Option zq71_R
 | 0 => fun _ => none
 | n + 1 => fun t_0 => zq71 N (zw20 N n) t_0
theorem zw8y (N : Nat) : ∀ n : Nat, COk 58 (zq71_ftr N (zw20 N n))
 | 0 => zw1a Tryz.func58 (by kernel_rfl) (by kernel_rfl) (fun x => rfl)
 | n + 1 => zq71_ook N (zw20 N n) (zw8y N n)
def zq71_ctr (N : Nat) : Ctr := zq71_ftr N (zw20 N N)
theorem zq71_ok (N : Nat) : COk 58 (zq71_ctr N) := zw8y N N
abbrev zq79_R : Type := ((Bool × Unit) × (Unit))
def zq79_s2 (N : Nat) (rc : D24 → Int → Option zq79_R) (most_1 : Int) (i_5 : Int) (t_2 : D24) : Option (Lo ((Int × Int × Unit) × (D24 × Unit)) ((Unit) × (Unit)) zq79_R) :=
 bif (decide (i_5 < ((List.map Tree.un t_2.2.2.1).length : Int))) then
  let x5 := List.map Tree.un t_2.2.2.1
  bif inR i_5 x5.length then
  Option.bind (rc (x5.getD i_5.toNat ((0 : Int), (0 : Int), ([] : List Tree), ())) (w64 (most_1 - (1 : Int)))) fun y8 =>
  bif (!y8.1.1) then
   some (.rt ((false, ()), (())))
  else
   some (.go ((most_1, (w64 (i_5 + (1 : Int))), ()), (t_2, ())))
  else none
 else
  some (.br ((()), (())))
def zq79_3 (N : Nat) (rc : D24 → Int → Option zq79_R) : Option zq79_R :=
 some ((true, ()), (()))
def zq79_1 (N : Nat) (rc : D24 → Int → Option zq79_R) (most_1 : Int) (i_5 : Int) (t_2 : D24) : Option zq79_R :=
 loopK N (fun y => zq79_s2 N rc y.1.1 y.1.2.1 y.2.1) (fun (e : ((Unit) × (Unit))) => zq79_3 N rc) ((most_1, i_5, ()), (t_2, ()))
def zq79 (N : Nat) (rc : D24 → Int → Option zq79_R) (t_0 : D24) (most_1 : Int) : Option zq79_R :=
 bif (decide (most_1 < (1 : Int))) then
  some ((false, ()), (()))
 else
  zq79_1 N rc most_1 (0 : Int) t_0
def zq79_S0 : Spec := ⟨[.val .i64, .ref 0 T24, .val .i64], [(.box 24 T24, .pos 1)]⟩
def zq79_S1 : Spec := ⟨[], []⟩
def zq79_S2 : Spec := ⟨[.val T24, .val .i64], []⟩
def zq79_S3 : Spec := ⟨[.val .bool], []⟩
def zq79_ftr (N : Nat) (rc : D24 → Int → Option zq79_R) : Ctr := ⟨zq79_S2, zq79_S3.un [false], 0, (fun y => rc y.1.1 y.1.2.1)⟩
def zq79_C (N : Nat) (rc : D24 → Int → Option zq79_R) := Cx 24 [(59, zq79_ftr N rc)]
def zq79_K : XE → GS → Option zq79_R := retK 0 [4] [false] zq79_S3
noncomputable def zq79_L : List Code := (bodyOf (some Tryz.f59))
def zq79_L2 : List Code := (loopOf (zq79_L[4]?))
def zq79_K2 (N : Nat) (rc : D24 → Int → Option zq79_R) := roundK (some 0) (fit 0 [1, 2, 5] zq79_S0) (fit 0 [] zq79_S1) zq79_K
theorem zq79_s2_b (N) (rc) : Bk 0 (zq79_C N rc) [1, 2, 5] zq79_S0 (zq79_L2.drop 0) (fun y => zq79_s2 N rc y.1.1 y.1.2.1 y.2.1) (zq79_K2 N rc) :=
 cE 4
theorem zq79_3_b (N) (rc) : Bk 0 (zq79_C N rc) [] zq79_S1 (zq79_L.drop 5) (fun y => zq79_3 N rc) zq79_K :=
 cE 2
theorem zq79_1_b (N) (rc) : Bk 0 (zq79_C N rc) [1, 2, 5] zq79_S0 (zq79_L.drop 4) (fun y => zq79_1 N rc y.1.1 y.1.2.1 y.2.1) zq79_K :=
 lG N zq79_S0 [] zq79_S1 (zq79_3_b N rc) (zq79_s2_b N rc)
theorem zq79_b (N) (rc) : Bk 0 (zq79_C N rc) (List.range zq79_S2.ks.length) zq79_S2 (zq79_L.drop 0) (fun y => zq79 N rc y.1.1 y.1.2.1) zq79_K :=
 cG 4 (zq79_1_b N rc)
def zq79_octr (N : Nat) (rc : D24 → Int → Option zq79_R) : Ctr := ⟨zq79_S2, zq79_S3.un [false], 0, (fun y => zq79 N rc y.1.1 y.1.2.1)⟩
theorem zq79_ook (N : Nat) (rc : D24 → Int → Option zq79_R) (hf : COk 59 (zq79_ftr N rc))  : COk 59 (zq79_octr N rc) :=
 cF (zw2 (Γ := zq79_C N rc) zw1 (csc hf csn)) Tryz.func59 Tryz.ntmps59 (zq79_b N rc)
def zw21 (N : Nat) : Nat → D24 → Int → Option zq79_R
 | 0 => fun _ _ => none
 | n + 1 => fun t_0 most_1 => zq79 N (zw21 N n) t_0 most_1
theorem zw8z (N : Nat) : ∀ n : Nat, COk 59 (zq79_ftr N (zw21 N n))
 | 0 => zw1a Tryz.func59 (by kernel_rfl) (by kernel_rfl) (fun x => rfl)
 | n + 1 => zq79_ook N (zw21 N n) (zw8z N n)
def zq79_ctr (N : Nat) : Ctr := zq79_ftr N (zw21 N N)
theorem zq79_ok (N : Nat) : COk 59 (zq79_ctr N) := zw8z N N
abbrev zq97_R : Type := ((Bool × Unit) × (Unit))
def zq97 (N : Nat) (t_0 : D24) : Option zq97_R :=
 let x2 := ((List.map Tree.un t_0.2.2.1).length : Int)
 bif (decide (t_0.1 = (1 : Int))) then
  some (((decide (x2 = (0 : Int))), ()), (()))
 else
  bif (decide (t_0.1 = (2 : Int))) then
   bif (decide (x2 = (0 : Int))) then
    some (((decide ((0 : Int) ≤ t_0.2.1)), ()), (()))
   else
    some ((false, ()), (()))
  else
   bif (decide (t_0.1 = (9 : Int))) then
    bif (decide (x2 = (0 : Int))) then
     some (((decide ((0 : Int) ≤ t_0.2.1)), ()), (()))
    else
     some ((false, ()), (()))
   else
    bif (decide (t_0.1 = (10 : Int))) then
     bif (decide (x2 = (0 : Int))) then
      some (((decide ((0 : Int) ≤ t_0.2.1)), ()), (()))
     else
      some ((false, ()), (()))
    else
     bif (decide (t_0.1 = (3 : Int))) then
      some (((decide (t_0.2.1 = (0 : Int))), ()), (()))
     else
      bif (decide (t_0.1 = (6 : Int))) then
       some (((decide ((0 : Int) ≤ t_0.2.1)), ()), (()))
      else
       bif (decide (t_0.1 = (4 : Int))) then
        bif (decide (x2 = (1 : Int))) then
         some (((decide (t_0.2.1 = (0 : Int))), ()), (()))
        else
         some ((false, ()), (()))
       else
        bif (decide (t_0.1 = (8 : Int))) then
         bif (decide (x2 = (1 : Int))) then
          some (((decide ((0 : Int) ≤ t_0.2.1)), ()), (()))
         else
          some ((false, ()), (()))
        else
         bif (decide (t_0.1 = (5 : Int))) then
          bif (decide (x2 = (2 : Int))) then
           bif (decide (t_0.2.1 = (0 : Int))) then
            let x27 := List.map Tree.un t_0.2.2.1
            bif inR (1 : Int) x27.length then
            let x29 := List.map Tree.un t_0.2.2.1
            bif inR (0 : Int) x29.length then
            Option.bind (zq94 N (x27.getD 1 ((0 : Int), (0 : Int), ([] : List Tree), ())) (x29.getD 0 ((0 : Int), (0 : Int), ([] : List Tree), ()))) fun y31 =>
            some (((!y31.1.1), ()), (()))
            else none
            else none
           else
            some ((false, ()), (()))
          else
           some ((false, ()), (()))
         else
          bif (decide (t_0.1 = (7 : Int))) then
           bif (decide (x2 = (2 : Int))) then
            some (((decide (t_0.2.1 = (0 : Int))), ()), (()))
           else
            some ((false, ()), (()))
          else
           some ((false, ()), (()))
def zq97_C (N : Nat) := Cx 82 [(52, zq94_ctr N)]
def zq97_S0 : Spec := ⟨[.val T24], []⟩
def zq97_S1 : Spec := ⟨[.val .bool], []⟩
def zq97_K : XE → GS → Option zq97_R := retK 0 [2] [false] zq97_S1
noncomputable def zq97_L : List Code := (bodyOf (some Tryz.f90))
theorem zq97_b (N) : Bk 0 (zq97_C N) (List.range zq97_S0.ks.length) zq97_S0 (zq97_L.drop 0) (fun y => zq97 N y.1.1) zq97_K :=
 cE 6
def zq97_ctr (N : Nat) : Ctr := ⟨zq97_S0, zq97_S1.un [false], 0, (fun y => zq97 N y.1.1)⟩
theorem zq97_ok (N : Nat) : COk 90 (zq97_ctr N) :=
 cF (zw2 (Γ := zq97_C N) zw1 (csc (zq94_ok N) csn)) Tryz.func90 Tryz.ntmps90 (zq97_b N)
abbrev zq85_R : Type := ((Bool × Unit) × (Unit))
def zq85_s2 (N : Nat) (rc : D24 → Option zq85_R) (i_3 : Int) (t_1 : D24) : Option (Lo ((Int × Unit) × (D24 × Unit)) ((Unit) × (D24 × Unit)) zq85_R) :=
 bif (decide (i_3 < ((List.map Tree.un t_1.2.2.1).length : Int))) then
  let x4 := List.map Tree.un t_1.2.2.1
  bif inR i_3 x4.length then
  Option.bind (rc (x4.getD i_3.toNat ((0 : Int), (0 : Int), ([] : List Tree), ()))) fun y6 =>
  bif (!y6.1.1) then
   some (.rt ((false, ()), (())))
  else
   some (.go (((w64 (i_3 + (1 : Int))), ()), (t_1, ())))
  else none
 else
  some (.br ((()), (t_1, ())))
def zq85_3 (N : Nat) (rc : D24 → Option zq85_R) (t_1 : D24) : Option zq85_R :=
 Option.bind (zq97 N t_1) fun y9 =>
 some ((y9.1.1, ()), (()))
def zq85_1 (N : Nat) (rc : D24 → Option zq85_R) (i_3 : Int) (t_1 : D24) : Option zq85_R :=
 loopK N (fun y => zq85_s2 N rc y.1.1 y.2.1) (fun (e : ((Unit) × (D24 × Unit))) => zq85_3 N rc e.2.1) ((i_3, ()), (t_1, ()))
def zq85 (N : Nat) (rc : D24 → Option zq85_R) (t_0 : D24) : Option zq85_R :=
 zq85_1 N rc (0 : Int) t_0
def zq85_S0 : Spec := ⟨[.ref 0 T24, .val .i64], [(.box 24 T24, .pos 0)]⟩
def zq85_S1 : Spec := ⟨[.ref 0 T24], [(.box 24 T24, .pos 0)]⟩
def zq85_S2 : Spec := ⟨[.val T24], []⟩
def zq85_S3 : Spec := ⟨[.val .bool], []⟩
def zq85_ftr (N : Nat) (rc : D24 → Option zq85_R) : Ctr := ⟨zq85_S2, zq85_S3.un [false], 0, (fun y => rc y.1.1)⟩
def zq85_C (N : Nat) (rc : D24 → Option zq85_R) := Cx 20 [(90, zq97_ctr N), (60, zq85_ftr N rc)]
def zq85_K : XE → GS → Option zq85_R := retK 0 [2] [false] zq85_S3
noncomputable def zq85_L : List Code := (bodyOf (some Tryz.f60))
def zq85_L2 : List Code := (loopOf (zq85_L[2]?))
def zq85_K2 (N : Nat) (rc : D24 → Option zq85_R) := roundK (some 0) (fit 0 [1, 3] zq85_S0) (fit 0 [1] zq85_S1) zq85_K
theorem zq85_s2_b (N) (rc) : Bk 0 (zq85_C N rc) [1, 3] zq85_S0 (zq85_L2.drop 0) (fun y => zq85_s2 N rc y.1.1 y.2.1) (zq85_K2 N rc) :=
 cE 4
theorem zq85_3_b (N) (rc) : Bk 0 (zq85_C N rc) [1] zq85_S1 (zq85_L.drop 3) (fun y => zq85_3 N rc y.2.1) zq85_K :=
 cE 2
theorem zq85_1_b (N) (rc) : Bk 0 (zq85_C N rc) [1, 3] zq85_S0 (zq85_L.drop 2) (fun y => zq85_1 N rc y.1.1 y.2.1) zq85_K :=
 lG N zq85_S0 [1] zq85_S1 (zq85_3_b N rc) (zq85_s2_b N rc)
theorem zq85_b (N) (rc) : Bk 0 (zq85_C N rc) (List.range zq85_S2.ks.length) zq85_S2 (zq85_L.drop 0) (fun y => zq85 N rc y.1.1) zq85_K :=
 cG 2 (zq85_1_b N rc)
def zq85_octr (N : Nat) (rc : D24 → Option zq85_R) : Ctr := ⟨zq85_S2, zq85_S3.un [false], 0, (fun y => zq85 N rc y.1.1)⟩
theorem zq85_ook (N : Nat) (rc : D24 → Option zq85_R) (hf : COk 60 (zq85_ftr N rc))  : COk 60 (zq85_octr N rc) :=
 cF (zw2 (Γ := zq85_C N rc) zw1 (csc (zq97_ok N) (csc hf csn))) Tryz.func60 Tryz.ntmps60 (zq85_b N rc)
def zw1q (N : Nat) : Nat → D24 → Option zq85_R
 | 0 => fun _ => none
 | n + 1 => fun t_0 => zq85 N (zw1q N n) t_0
theorem zw90 (N : Nat) : ∀ n : Nat, COk 60 (zq85_ftr N (zw1q N n))
 | 0 => zw1a Tryz.func60 (by kernel_rfl) (by kernel_rfl) (fun x => rfl)
 | n + 1 => zq85_ook N (zw1q N n) (zw90 N n)
def zq85_ctr (N : Nat) : Ctr := zq85_ftr N (zw1q N N)
theorem zq85_ok (N : Nat) : COk 60 (zq85_ctr N) := zw90 N N
abbrev zq77_R : Type := ((Bool × Unit) × (Unit))
def zq77 (N : Nat) (t_0 : D24) : Option zq77_R :=
 Option.bind (zw20 N N t_0) fun y1 =>
 bif (decide (y1.1.1 ≤ (600 : Int))) then
  Option.bind (zw21 N N t_0 (60 : Int)) fun y3 =>
  bif y3.1.1 then
   Option.bind (zw1q N N t_0) fun y4 =>
   some ((y4.1.1, ()), (()))
  else
   some ((false, ()), (()))
 else
  some ((false, ()), (()))
def zq77_C (N : Nat) := Cx 14 [(58, zq71_ctr N), (59, zq79_ctr N), (60, zq85_ctr N)]
def zq77_S0 : Spec := ⟨[.val T24], []⟩
def zq77_S1 : Spec := ⟨[.val .bool], []⟩
def zq77_K : XE → GS → Option zq77_R := retK 0 [2] [false] zq77_S1
noncomputable def zq77_L : List Code := (bodyOf (some Tryz.f38))
theorem zq77_b (N) : Bk 0 (zq77_C N) (List.range zq77_S0.ks.length) zq77_S0 (zq77_L.drop 0) (fun y => zq77 N y.1.1) zq77_K :=
 cE 3
def zq77_ctr (N : Nat) : Ctr := ⟨zq77_S0, zq77_S1.un [false], 0, (fun y => zq77 N y.1.1)⟩
theorem zq77_ok (N : Nat) : COk 38 (zq77_ctr N) :=
 cF (zw2 (Γ := zq77_C N) zw1 (csc (zq71_ok N) (csc (zq79_ok N) (csc (zq85_ok N) csn)))) Tryz.func38 Tryz.ntmps38 (zq77_b N)
abbrev zq54_R : Type := ((Unit) × ((List UInt8) × Unit))
def zq54_s2 (N : Nat) (v_1 : Int) (k_7 : Int) (b_0 : (List UInt8)) : Option (Lo ((Int × Int × Unit) × ((List UInt8) × Unit)) ((Unit) × ((List UInt8) × Unit)) zq54_R) :=
 bif (decide ((0 : Int) ≤ k_7)) then
  let x3 := w64 ((8 : Int) * k_7)
  bif decide (0 ≤ x3) then
  let x4 := shrI v_1 x3.toNat
  bif room (b_0.length + ([iu8 x4] : List UInt8).length) 1 then
  some (.go ((v_1, (w64 (k_7 - (1 : Int))), ()), ((b_0 ++ ([iu8 x4] : List UInt8)), ())))
  else none
  else none
 else
  some (.br ((()), (b_0, ())))
def zq54_3 (N : Nat) (b_0 : (List UInt8)) : Option zq54_R :=
 some ((()), (b_0, ()))
def zq54_1 (N : Nat) (v_1 : Int) (k_7 : Int) (b_0 : (List UInt8)) : Option zq54_R :=
 loopK N (fun y => zq54_s2 N y.1.1 y.1.2.1 y.2.1) (fun (e : ((Unit) × ((List UInt8) × Unit))) => zq54_3 N e.2.1) ((v_1, k_7, ()), (b_0, ()))
def zq54 (N : Nat) (v_1 : Int) (width_2 : Int) (b_0 : (List UInt8)) : Option zq54_R :=
 zq54_1 N v_1 (w64 (width_2 - (1 : Int))) b_0
def zq54_C (N : Nat) := Cx 23 []
def zq54_S0 : Spec := ⟨[.row 0, .val .i64, .val .i64], [(.row 5 .u8, .pos 0)]⟩
def zq54_S1 : Spec := ⟨[.row 0], [(.row 5 .u8, .pos 0)]⟩
def zq54_K : XE → GS → Option zq54_R := retK 0 [6] [false] zq54_S1
noncomputable def zq54_L : List Code := (bodyOf (some Tryz.f61))
def zq54_L2 : List Code := (loopOf (zq54_L[2]?))
def zq54_K2 (N : Nat) := roundK (some 0) (fit 0 [0, 1, 7] zq54_S0) (fit 0 [0] zq54_S1) zq54_K
theorem zq54_s2_b (N) : Bk 0 (zq54_C N) [0, 1, 7] zq54_S0 (zq54_L2.drop 0) (fun y => zq54_s2 N y.1.1 y.1.2.1 y.2.1) (zq54_K2 N) :=
 cE 4
theorem zq54_3_b (N) : Bk 0 (zq54_C N) [0] zq54_S1 (zq54_L.drop 3) (fun y => zq54_3 N y.2.1) zq54_K :=
 cE 2
theorem zq54_1_b (N) : Bk 0 (zq54_C N) [0, 1, 7] zq54_S0 (zq54_L.drop 2) (fun y => zq54_1 N y.1.1 y.1.2.1 y.2.1) zq54_K :=
 lG N zq54_S0 [0] zq54_S1 (zq54_3_b N) (zq54_s2_b N)
theorem zq54_b (N) : Bk 0 (zq54_C N) (List.range zq54_S0.ks.length) zq54_S0 (zq54_L.drop 0) (fun y => zq54 N y.1.1 y.1.2.1 y.2.1) zq54_K :=
 cG 2 (zq54_1_b N)
def zq54_ctr (N : Nat) : Ctr := ⟨zq54_S0, zq54_S1.un [false], 0, (fun y => zq54 N y.1.1 y.1.2.1 y.2.1)⟩
theorem zq54_ok (N : Nat) : COk 61 (zq54_ctr N) :=
 cF (zw2 (Γ := zq54_C N) zw1 csn) Tryz.func61 Tryz.ntmps61 (zq54_b N)
abbrev zq69_R : Type := ((Unit) × ((List UInt8) × Unit))
def zq69_s2 (N : Nat) (rc : D24 → (List UInt8) → Option zq69_R) (i_5 : Int) (b_0 : (List UInt8)) (t_3 : D24) : Option (Lo ((Int × Unit) × ((List UInt8) × D24 × Unit)) ((Unit) × ((List UInt8) × Unit)) zq69_R) :=
 bif (decide (i_5 < ((List.map Tree.un t_3.2.2.1).length : Int))) then
  let x10 := List.map Tree.un t_3.2.2.1
  bif inR i_5 x10.length then
  Option.bind (rc (x10.getD i_5.toNat ((0 : Int), (0 : Int), ([] : List Tree), ())) b_0) fun y12 =>
  some (.go (((w64 (i_5 + (1 : Int))), ()), (y12.2.1, t_3, ())))
  else none
 else
  some (.br ((()), (b_0, ())))
def zq69_3 (N : Nat) (rc : D24 → (List UInt8) → Option zq69_R) (b_0 : (List UInt8)) : Option zq69_R :=
 some ((()), (b_0, ()))
def zq69_1 (N : Nat) (rc : D24 → (List UInt8) → Option zq69_R) (i_5 : Int) (b_0 : (List UInt8)) (t_3 : D24) : Option zq69_R :=
 loopK N (fun y => zq69_s2 N rc y.1.1 y.2.1 y.2.2.1) (fun (e : ((Unit) × ((List UInt8) × Unit))) => zq69_3 N rc e.2.1) ((i_5, ()), (b_0, t_3, ()))
def zq69 (N : Nat) (rc : D24 → (List UInt8) → Option zq69_R) (t_1 : D24) (b_0 : (List UInt8)) : Option zq69_R :=
 bif room (b_0.length + ([(iu8 t_1.1)] : List UInt8).length) 1 then
 Option.bind (zq54 N t_1.2.1 (8 : Int) (b_0 ++ ([(iu8 t_1.1)] : List UInt8))) fun y3 =>
 Option.bind (zq54 N ((List.map Tree.un t_1.2.2.1).length : Int) (2 : Int) y3.2.1) fun y6 =>
 zq69_1 N rc (0 : Int) y6.2.1 t_1
 else none
def zq69_S0 : Spec := ⟨[.row 0, .ref 1 T24, .val .i64], [(.row 5 .u8, .pos 0), (.box 24 T24, .pos 1)]⟩
def zq69_S1 : Spec := ⟨[.row 0], [(.row 5 .u8, .pos 0)]⟩
def zq69_S2 : Spec := ⟨[.row 0, .val T24], [(.row 5 .u8, .pos 0)]⟩
def zq69_ftr (N : Nat) (rc : D24 → (List UInt8) → Option zq69_R) : Ctr := ⟨zq69_S2, zq69_S1.un [false], 0, (fun y => rc y.1.1 y.2.1)⟩
def zq69_C (N : Nat) (rc : D24 → (List UInt8) → Option zq69_R) := Cx 35 [(61, zq54_ctr N), (41, zq69_ftr N rc)]
def zq69_K : XE → GS → Option zq69_R := retK 0 [4] [false] zq69_S1
noncomputable def zq69_L : List Code := (bodyOf (some Tryz.f41))
def zq69_L2 : List Code := (loopOf (zq69_L[4]?))
def zq69_K2 (N : Nat) (rc : D24 → (List UInt8) → Option zq69_R) := roundK (some 0) (fit 0 [0, 3, 5] zq69_S0) (fit 0 [0] zq69_S1) zq69_K
theorem zq69_s2_b (N) (rc) : Bk 0 (zq69_C N rc) [0, 3, 5] zq69_S0 (zq69_L2.drop 0) (fun y => zq69_s2 N rc y.1.1 y.2.1 y.2.2.1) (zq69_K2 N rc) :=
 cE 4
theorem zq69_3_b (N) (rc) : Bk 0 (zq69_C N rc) [0] zq69_S1 (zq69_L.drop 5) (fun y => zq69_3 N rc y.2.1) zq69_K :=
 cE 2
theorem zq69_1_b (N) (rc) : Bk 0 (zq69_C N rc) [0, 3, 5] zq69_S0 (zq69_L.drop 4) (fun y => zq69_1 N rc y.1.1 y.2.1 y.2.2.1) zq69_K :=
 lG N zq69_S0 [0] zq69_S1 (zq69_3_b N rc) (zq69_s2_b N rc)
theorem zq69_b (N) (rc) : Bk 0 (zq69_C N rc) (List.range zq69_S2.ks.length) zq69_S2 (zq69_L.drop 0) (fun y => zq69 N rc y.1.1 y.2.1) zq69_K :=
 cG 4 (zq69_1_b N rc)
def zq69_octr (N : Nat) (rc : D24 → (List UInt8) → Option zq69_R) : Ctr := ⟨zq69_S2, zq69_S1.un [false], 0, (fun y => zq69 N rc y.1.1 y.2.1)⟩
theorem zq69_ook (N : Nat) (rc : D24 → (List UInt8) → Option zq69_R) (hf : COk 41 (zq69_ftr N rc))  : COk 41 (zq69_octr N rc) :=
 cF (zw2 (Γ := zq69_C N rc) zw1 (csc (zq54_ok N) (csc hf csn))) Tryz.func41 Tryz.ntmps41 (zq69_b N rc)
def zw22 (N : Nat) : Nat → D24 → (List UInt8) → Option zq69_R
 | 0 => fun _ _ => none
 | n + 1 => fun t_1 b_0 => zq69 N (zw22 N n) t_1 b_0
theorem zw91 (N : Nat) : ∀ n : Nat, COk 41 (zq69_ftr N (zw22 N n))
 | 0 => zw1a Tryz.func41 (by kernel_rfl) (by kernel_rfl) (fun x => rfl)
 | n + 1 => zq69_ook N (zw22 N n) (zw91 N n)
def zq69_ctr (N : Nat) : Ctr := zq69_ftr N (zw22 N N)
theorem zq69_ok (N : Nat) : COk 41 (zq69_ctr N) := zw91 N N
abbrev zq61_R : Type := ((Int × Unit) × ((List UInt8) × Unit))
def zq61 (N : Nat) (t_0 : D24) : Option zq61_R :=
 Option.bind (zq77 N t_0) fun y1 =>
 bif (!y1.1.1) then
  some (((26 : Int), ()), (([] : List UInt8), ()))
 else
  Option.bind (zw22 N N t_0 ([] : List UInt8)) fun y3 =>
  some (((0 : Int), ()), (y3.2.1, ()))
def zq61_C (N : Nat) := Cx 9 [(38, zq77_ctr N), (41, zq69_ctr N)]
def zq61_S0 : Spec := ⟨[.val T24], []⟩
def zq61_S1 : Spec := ⟨[.row 0, .val .i64], [(.row 5 .u8, .pos 0)]⟩
def zq61_K : XE → GS → Option zq61_R := retK 0 [2, 3] [false, false] zq61_S1
noncomputable def zq61_L : List Code := (bodyOf (some Tryz.f13))
theorem zq61_b (N) : Bk 0 (zq61_C N) (List.range zq61_S0.ks.length) zq61_S0 (zq61_L.drop 0) (fun y => zq61 N y.1.1) zq61_K :=
 cE 5
def zq61_ctr (N : Nat) : Ctr := ⟨zq61_S0, zq61_S1.un [false, false], 0, (fun y => zq61 N y.1.1)⟩
theorem zq61_ok (N : Nat) : COk 13 (zq61_ctr N) :=
 cF (zw2 (Γ := zq61_C N) zw1 (csc (zq77_ok N) (csc (zq69_ok N) csn))) Tryz.func13 Tryz.ntmps13 (zq61_b N)
abbrev zq113_R : Type := ((Unit) × ((List UInt8) × Unit))
def zq113_s3 (N : Nat) (v_1 : UInt64) (i_8 : Int) (out_7 : (List UInt8)) : Option (Lo ((UInt64 × Int × Unit) × ((List UInt8) × Unit)) ((Unit) × ((List UInt8) × Unit)) zq113_R) :=
 bif (decide ((0 : Int) ≤ i_8)) then
  let x6 := shr64 v_1 (iu64 (w64 ((8 : Int) * i_8))).toNat
  bif room (out_7.length + ([x6.toUInt8] : List UInt8).length) 1 then
  some (.go ((v_1, (w64 (i_8 - (1 : Int))), ()), ((out_7 ++ ([x6.toUInt8] : List UInt8)), ())))
  else none
 else
  some (.br ((()), (out_7, ())))
def zq113_4 (N : Nat) (out_7 : (List UInt8)) : Option zq113_R :=
 some ((()), (out_7, ()))
def zq113_2 (N : Nat) (v_1 : UInt64) (i_8 : Int) (out_7 : (List UInt8)) : Option zq113_R :=
 loopK N (fun y => zq113_s3 N y.1.1 y.1.2.1 y.2.1) (fun (e : ((Unit) × ((List UInt8) × Unit))) => zq113_4 N e.2.1) ((v_1, i_8, ()), (out_7, ()))
def zq113_1 (N : Nat) (v_1 : UInt64) (width_2 : Int) (t_16 : Bool) (out_7 : (List UInt8)) : Option zq113_R :=
 bif t_16 then
  some ((()), (out_7, ()))
 else
  zq113_2 N v_1 (w64 (width_2 - (1 : Int))) out_7
def zq113 (N : Nat) (b_0 : (List UInt8)) (v_1 : UInt64) (width_2 : Int) : Option zq113_R :=
 bif room (0 + b_0.length) 1 then
 bif (decide (width_2 < (1 : Int))) then
  zq113_1 N v_1 width_2 true b_0
 else
  zq113_1 N v_1 width_2 (decide ((8 : Int) < width_2)) b_0
 else none
def zq113_C (N : Nat) := Cx 34 []
def zq113_S0 : Spec := ⟨[.val .u64, .row 0, .val .i64], [(.row 5 .u8, .pos 1)]⟩
def zq113_S1 : Spec := ⟨[.row 0], [(.row 5 .u8, .pos 0)]⟩
def zq113_S2 : Spec := ⟨[.val .u64, .val .i64, .row 0, .val .bool], [(.row 5 .u8, .pos 2)]⟩
def zq113_S3 : Spec := ⟨[.val (.sl .u8), .val .u64, .val .i64], []⟩
def zq113_K : XE → GS → Option zq113_R := retK 0 [6] [false] zq113_S1
noncomputable def zq113_L : List Code := (bodyOf (some Tryz.f72))
def zq113_L3 : List Code := (loopOf (zq113_L[5]?))
def zq113_K3 (N : Nat) := roundK (some 0) (fit 0 [1, 7, 8] zq113_S0) (fit 0 [7] zq113_S1) zq113_K
theorem zq113_s3_b (N) : Bk 0 (zq113_C N) [1, 7, 8] zq113_S0 (zq113_L3.drop 0) (fun y => zq113_s3 N y.1.1 y.1.2.1 y.2.1) (zq113_K3 N) :=
 cE 4
theorem zq113_4_b (N) : Bk 0 (zq113_C N) [7] zq113_S1 (zq113_L.drop 6) (fun y => zq113_4 N y.2.1) zq113_K :=
 cE 2
theorem zq113_2_b (N) : Bk 0 (zq113_C N) [1, 7, 8] zq113_S0 (zq113_L.drop 5) (fun y => zq113_2 N y.1.1 y.1.2.1 y.2.1) zq113_K :=
 lG N zq113_S0 [7] zq113_S1 (zq113_4_b N) (zq113_s3_b N)
theorem zq113_1_b (N) : Bk 0 (zq113_C N) [1, 2, 7, 16] zq113_S2 (zq113_L.drop 3) (fun y => zq113_1 N y.1.1 y.1.2.1 y.1.2.2.1 y.2.1) zq113_K :=
 cG 2 (zq113_2_b N)
theorem zq113_b (N) : Bk 0 (zq113_C N) (List.range zq113_S3.ks.length) zq113_S3 (zq113_L.drop 0) (fun y => zq113 N y.1.1 y.1.2.1 y.1.2.2.1) zq113_K :=
 cG 3 (zq113_1_b N)
def zq113_ctr (N : Nat) : Ctr := ⟨zq113_S3, zq113_S1.un [false], 0, (fun y => zq113 N y.1.1 y.1.2.1 y.1.2.2.1)⟩
theorem zq113_ok (N : Nat) : COk 72 (zq113_ctr N) :=
 cF (zw2 (Γ := zq113_C N) zw1 csn) Tryz.func72 Tryz.ntmps72 (zq113_b N)
abbrev zq109_R : Type := ((Unit) × ((List UInt8) × Unit))
def zq109_s2 (N : Nat) (length_0 : Int) (out_3 : (List UInt8)) : Option (Lo ((Int × Unit) × ((List UInt8) × Unit)) ((Int × Unit) × ((List UInt8) × Unit)) zq109_R) :=
 bif (!(decide (((w64 ((length_0.tmod (64 : Int)) + (out_3.length : Int))).tmod (64 : Int)) = (56 : Int)))) then
  bif room (out_3.length + ([(0 : UInt8)] : List UInt8).length) 1 then
  some (.go ((length_0, ()), ((out_3 ++ ([(0 : UInt8)] : List UInt8)), ())))
  else none
 else
  some (.br ((length_0, ()), (out_3, ())))
def zq109_3 (N : Nat) (length_0 : Int) (out_3 : (List UInt8)) : Option zq109_R :=
 Option.bind (zq113 N out_3 ((iu64 length_0) * (8 : UInt64)) (8 : Int)) fun y10 =>
 some ((()), (y10.2.1, ()))
def zq109_1 (N : Nat) (length_0 : Int) (out_3 : (List UInt8)) : Option zq109_R :=
 loopK N (fun y => zq109_s2 N y.1.1 y.2.1) (fun (e : ((Int × Unit) × ((List UInt8) × Unit))) => zq109_3 N e.1.1 e.2.1) ((length_0, ()), (out_3, ()))
def zq109 (N : Nat) (length_0 : Int) : Option zq109_R :=
 bif (decide (length_0 < (0 : Int))) then
  some ((()), (([] : List UInt8), ()))
 else
  zq109_1 N length_0 ([(128 : UInt8)] : List UInt8)
def zq109_C (N : Nat) := Cx 22 [(72, zq113_ctr N)]
def zq109_S0 : Spec := ⟨[.val .i64, .row 0], [(.row 5 .u8, .pos 1)]⟩
def zq109_S1 : Spec := ⟨[.val .i64], []⟩
def zq109_S2 : Spec := ⟨[.row 0], [(.row 5 .u8, .pos 0)]⟩
def zq109_K : XE → GS → Option zq109_R := retK 0 [2] [false] zq109_S2
noncomputable def zq109_L : List Code := (bodyOf (some Tryz.f70))
def zq109_L2 : List Code := (loopOf (zq109_L[4]?))
def zq109_K2 (N : Nat) := roundK (some 0) (fit 0 [0, 3] zq109_S0) (fit 0 [0, 3] zq109_S0) zq109_K
theorem zq109_s2_b (N) : Bk 0 (zq109_C N) [0, 3] zq109_S0 (zq109_L2.drop 0) (fun y => zq109_s2 N y.1.1 y.2.1) (zq109_K2 N) :=
 cE 3
theorem zq109_3_b (N) : Bk 0 (zq109_C N) [0, 3] zq109_S0 (zq109_L.drop 5) (fun y => zq109_3 N y.1.1 y.2.1) zq109_K :=
 cE 2
theorem zq109_1_b (N) : Bk 0 (zq109_C N) [0, 3] zq109_S0 (zq109_L.drop 4) (fun y => zq109_1 N y.1.1 y.2.1) zq109_K :=
 lG N zq109_S0 [0, 3] zq109_S0 (zq109_3_b N) (zq109_s2_b N)
theorem zq109_b (N) : Bk 0 (zq109_C N) (List.range zq109_S1.ks.length) zq109_S1 (zq109_L.drop 0) (fun y => zq109 N y.1.1) zq109_K :=
 cG 4 (zq109_1_b N)
def zq109_ctr (N : Nat) : Ctr := ⟨zq109_S1, zq109_S2.un [false], 0, (fun y => zq109 N y.1.1)⟩
theorem zq109_ok (N : Nat) : COk 70 (zq109_ctr N) :=
 cF (zw2 (Γ := zq109_C N) zw1 (csc (zq113_ok N) csn)) Tryz.func70 Tryz.ntmps70 (zq109_b N)
abbrev zq59_R : Type := ((UInt64 × Bool × Unit) × (Unit))
def zq59_s3 (N : Nat) (b_0 : (List UInt8)) (at_1 : Int) (width_2 : Int) (v_8 : UInt64) (i_9 : Int) : Option (Lo (((List UInt8) × Int × Int × UInt64 × Int × Unit) × (Unit)) ((UInt64 × Unit) × (Unit)) zq59_R) :=
 bif (decide (i_9 < (w64 (at_1 + width_2)))) then
  bif inR i_9 b_0.length then
  some (.go ((b_0, at_1, width_2, ((shl64 v_8 8) ||| (b_0.getD i_9.toNat (0 : UInt8)).toUInt64), (w64 (i_9 + (1 : Int))), ()), (())))
  else none
 else
  some (.br ((v_8, ()), (())))
def zq59_4 (N : Nat) (v_8 : UInt64) : Option zq59_R :=
 some ((v_8, true, ()), (()))
def zq59_2 (N : Nat) (b_0 : (List UInt8)) (at_1 : Int) (width_2 : Int) (v_8 : UInt64) (i_9 : Int) : Option zq59_R :=
 loopK N (fun y => zq59_s3 N y.1.1 y.1.2.1 y.1.2.2.1 y.1.2.2.2.1 y.1.2.2.2.2.1) (fun (e : ((UInt64 × Unit) × (Unit))) => zq59_4 N e.1.1) ((b_0, at_1, width_2, v_8, i_9, ()), (()))
def zq59_1 (N : Nat) (b_0 : (List UInt8)) (at_1 : Int) (width_2 : Int) (t_33 : Bool) : Option zq59_R :=
 bif t_33 then
  some (((0 : UInt64), false, ()), (()))
 else
  zq59_2 N b_0 at_1 width_2 (0 : UInt64) at_1
def zq59 (N : Nat) (b_0 : (List UInt8)) (at_1 : Int) (width_2 : Int) : Option zq59_R :=
 bif (decide (width_2 < (1 : Int))) then
  zq59_1 N b_0 at_1 width_2 true
 else
  bif (decide ((8 : Int) < width_2)) then
   zq59_1 N b_0 at_1 width_2 true
  else
   bif (decide (at_1 < (0 : Int))) then
    zq59_1 N b_0 at_1 width_2 true
   else
    bif (decide ((b_0.length : Int) < at_1)) then
     zq59_1 N b_0 at_1 width_2 true
    else
     zq59_1 N b_0 at_1 width_2 (decide ((w64 ((b_0.length : Int) - at_1)) < width_2))
def zq59_C (N : Nat) := Cx 51 []
def zq59_S0 : Spec := ⟨[.val (.sl .u8), .val .i64, .val .i64, .val .u64, .val .i64], []⟩
def zq59_S1 : Spec := ⟨[.val .u64], []⟩
def zq59_S2 : Spec := ⟨[.val (.sl .u8), .val .i64, .val .i64, .val .bool], []⟩
def zq59_S3 : Spec := ⟨[.val (.sl .u8), .val .i64, .val .i64], []⟩
def zq59_S4 : Spec := ⟨[.val .u64, .val .bool], []⟩
def zq59_K : XE → GS → Option zq59_R := retK 0 [6, 7] [false, false] zq59_S4
noncomputable def zq59_L : List Code := (bodyOf (some Tryz.f96))
def zq59_L3 : List Code := (loopOf (zq59_L[5]?))
def zq59_K3 (N : Nat) := roundK (some 0) (fit 0 [0, 1, 2, 8, 9] zq59_S0) (fit 0 [8] zq59_S1) zq59_K
theorem zq59_s3_b (N) : Bk 0 (zq59_C N) [0, 1, 2, 8, 9] zq59_S0 (zq59_L3.drop 0) (fun y => zq59_s3 N y.1.1 y.1.2.1 y.1.2.2.1 y.1.2.2.2.1 y.1.2.2.2.2.1) (zq59_K3 N) :=
 cE 4
theorem zq59_4_b (N) : Bk 0 (zq59_C N) [8] zq59_S1 (zq59_L.drop 6) (fun y => zq59_4 N y.1.1) zq59_K :=
 cE 2
theorem zq59_2_b (N) : Bk 0 (zq59_C N) [0, 1, 2, 8, 9] zq59_S0 (zq59_L.drop 5) (fun y => zq59_2 N y.1.1 y.1.2.1 y.1.2.2.1 y.1.2.2.2.1 y.1.2.2.2.2.1) zq59_K :=
 lG N zq59_S0 [8] zq59_S1 (zq59_4_b N) (zq59_s3_b N)
theorem zq59_1_b (N) : Bk 0 (zq59_C N) [0, 1, 2, 33] zq59_S2 (zq59_L.drop 2) (fun y => zq59_1 N y.1.1 y.1.2.1 y.1.2.2.1 y.1.2.2.2.1) zq59_K :=
 cG 3 (zq59_2_b N)
theorem zq59_b (N) : Bk 0 (zq59_C N) (List.range zq59_S3.ks.length) zq59_S3 (zq59_L.drop 0) (fun y => zq59 N y.1.1 y.1.2.1 y.1.2.2.1) zq59_K :=
 cG 2 (zq59_1_b N)
def zq59_ctr (N : Nat) : Ctr := ⟨zq59_S3, zq59_S4.un [false, false], 0, (fun y => zq59 N y.1.1 y.1.2.1 y.1.2.2.1)⟩
theorem zq59_ok (N : Nat) : COk 96 (zq59_ctr N) :=
 cF (zw2 (Γ := zq59_C N) zw1 csn) Tryz.func96 Tryz.ntmps96 (zq59_b N)
abbrev zq95_R : Type := ((UInt32 × Unit) × (Unit))
def zq95 (N : Nat) (x_0 : UInt32) (n_1 : UInt64) : Option zq95_R :=
 some ((((shr32 x_0 n_1.toNat) ||| (shl32 x_0 ((32 : UInt64) - n_1).toNat)), ()), (()))
def zq95_C (N : Nat) := Cx 13 []
def zq95_S0 : Spec := ⟨[.val .u32, .val .u64], []⟩
def zq95_S1 : Spec := ⟨[.val .u32], []⟩
def zq95_K : XE → GS → Option zq95_R := retK 0 [4] [false] zq95_S1
noncomputable def zq95_L : List Code := (bodyOf (some Tryz.f97))
theorem zq95_b (N) : Bk 0 (zq95_C N) (List.range zq95_S0.ks.length) zq95_S0 (zq95_L.drop 0) (fun y => zq95 N y.1.1 y.1.2.1) zq95_K :=
 cE 3
def zq95_ctr (N : Nat) : Ctr := ⟨zq95_S0, zq95_S1.un [false], 0, (fun y => zq95 N y.1.1 y.1.2.1)⟩
theorem zq95_ok (N : Nat) : COk 97 (zq95_ctr N) :=
 cF (zw2 (Γ := zq95_C N) zw1 csn) Tryz.func97 Tryz.ntmps97 (zq95_b N)
abbrev zq42_R : Type := (((List UInt32) × Unit) × (Unit))
def zq42 (N : Nat) : Option zq42_R :=
 some ((([(1116352408 : UInt32), (1899447441 : UInt32), (3049323471 : UInt32), (3921009573 : UInt32), (961987163 : UInt32), (1508970993 : UInt32), (2453635748 : UInt32), (2870763221 : UInt32), (3624381080 : UInt32), (310598401 : UInt32), (607225278 : UInt32), (1426881987 : UInt32), (1925078388 : UInt32), (2162078206 : UInt32), (2614888103 : UInt32), (3248222580 : UInt32), (3835390401 : UInt32), (4022224774 : UInt32), (264347078 : UInt32), (604807628 : UInt32), (770255983 : UInt32), (1249150122 : UInt32), (1555081692 : UInt32), (1996064986 : UInt32), (2554220882 : UInt32), (2821834349 : UInt32), (2952996808 : UInt32), (3210313671 : UInt32), (3336571891 : UInt32), (3584528711 : UInt32), (113926993 : UInt32), (338241895 : UInt32), (666307205 : UInt32), (773529912 : UInt32), (1294757372 : UInt32), (1396182291 : UInt32), (1695183700 : UInt32), (1986661051 : UInt32), (2177026350 : UInt32), (2456956037 : UInt32), (2730485921 : UInt32), (2820302411 : UInt32), (3259730800 : UInt32), (3345764771 : UInt32), (3516065817 : UInt32), (3600352804 : UInt32), (4094571909 : UInt32), (275423344 : UInt32), (430227734 : UInt32), (506948616 : UInt32), (659060556 : UInt32), (883997877 : UInt32), (958139571 : UInt32), (1322822218 : UInt32), (1537002063 : UInt32), (1747873779 : UInt32), (1955562222 : UInt32), (2024104815 : UInt32), (2227730452 : UInt32), (2361852424 : UInt32), (2428436474 : UInt32), (2756734187 : UInt32), (3204031479 : UInt32), (3329325298 : UInt32)] : List UInt32), ()), (()))
def zq42_C (N : Nat) := Cx 2 []
def zq42_S0 : Spec := ⟨[], []⟩
def zq42_S1 : Spec := ⟨[.fp (.arr 64 .u32)], []⟩
def zq42_K : XE → GS → Option zq42_R := retK 0 [0] [true] zq42_S1
noncomputable def zq42_L : List Code := (bodyOf (some Tryz.f98))
theorem zq42_b (N) : Bk 0 (zq42_C N) (List.range zq42_S0.ks.length) zq42_S0 (zq42_L.drop 0) (fun y => zq42 N) zq42_K :=
 cE 3
def zq42_ctr (N : Nat) : Ctr := ⟨zq42_S0, zq42_S1.un [true], 0, (fun y => zq42 N)⟩
theorem zq42_ok (N : Nat) : COk 98 (zq42_ctr N) :=
 cF (zw2 (Γ := zq42_C N) zw1 csn) Tryz.func98 Tryz.ntmps98 (zq42_b N)
abbrev zq80_R : Type := (((List UInt32) × Bool × Unit) × (Unit))
def zq80_s2 (N : Nat) (block_1 : (List UInt8)) (t_7 : Int) (state_2 : (List UInt32)) (t_4 : (List UInt32)) (w_6 : (List UInt32)) : Option (Lo (((List UInt8) × Int × Unit) × ((List UInt32) × (List UInt32) × (List UInt32) × Unit)) ((Unit) × ((List UInt32) × (List UInt32) × (List UInt32) × Unit)) zq80_R) :=
 bif (decide (t_7 < (64 : Int))) then
  bif (decide (t_7 < (16 : Int))) then
   Option.bind (zq59 N block_1 (w64 ((4 : Int) * t_7)) (4 : Int)) fun y7 =>
   bif inR t_7 64 then
   some (.go ((block_1, (w64 (t_7 + (1 : Int))), ()), (state_2, t_4, (w_6.set t_7.toNat y7.1.1.toUInt32), ())))
   else none
  else
   let x10 := w64 (t_7 - (2 : Int))
   bif inR x10 64 then
   let x11 := (w_6.getD x10.toNat (0 : UInt32))
   let x12 := w64 (t_7 - (15 : Int))
   bif inR x12 64 then
   let x13 := (w_6.getD x12.toNat (0 : UInt32))
   Option.bind (zq95 N x11 (17 : UInt64)) fun y14 =>
   Option.bind (zq95 N x11 (19 : UInt64)) fun y15 =>
   let x19 := w64 (t_7 - (7 : Int))
   bif inR x19 64 then
   Option.bind (zq95 N x13 (7 : UInt64)) fun y22 =>
   Option.bind (zq95 N x13 (18 : UInt64)) fun y23 =>
   let x28 := w64 (t_7 - (16 : Int))
   bif inR x28 64 then
   bif inR t_7 64 then
   some (.go ((block_1, (w64 (t_7 + (1 : Int))), ()), (state_2, t_4, (w_6.set t_7.toNat (((((y14.1.1 ^^^ y15.1.1) ^^^ (shr32 x11 10)) + (w_6.getD x19.toNat (0 : UInt32))) + ((y22.1.1 ^^^ y23.1.1) ^^^ (shr32 x13 3))) + (w_6.getD x28.toNat (0 : UInt32)))), ())))
   else none
   else none
   else none
   else none
   else none
 else
  some (.br ((()), (state_2, t_4, w_6, ())))
def zq80_s5 (N : Nat) (t_14 : Int) (state_2 : (List UInt32)) (t_4 : (List UInt32)) (w_6 : (List UInt32)) (k_12 : (List UInt32)) (v_13 : (List UInt32)) : Option (Lo ((Int × Unit) × ((List UInt32) × (List UInt32) × (List UInt32) × (List UInt32) × (List UInt32) × Unit)) ((Unit) × ((List UInt32) × (List UInt32) × (List UInt32) × Unit)) zq80_R) :=
 bif (decide (t_14 < (64 : Int))) then
  let x35 := (v_13.getD 0 (0 : UInt32))
  let x36 := (v_13.getD 1 (0 : UInt32))
  let x37 := (v_13.getD 2 (0 : UInt32))
  let x38 := (v_13.getD 4 (0 : UInt32))
  let x39 := (v_13.getD 5 (0 : UInt32))
  let x40 := (v_13.getD 6 (0 : UInt32))
  let x41 := (v_13.getD 7 (0 : UInt32))
  Option.bind (zq95 N x38 (6 : UInt64)) fun y42 =>
  Option.bind (zq95 N x38 (11 : UInt64)) fun y43 =>
  Option.bind (zq95 N x38 (25 : UInt64)) fun y45 =>
  let x46 := (y42.1.1 ^^^ y43.1.1) ^^^ y45.1.1
  bif inR t_14 64 then
  let x53 := (k_12.getD t_14.toNat (0 : UInt32))
  bif inR t_14 64 then
  let x55 := (w_6.getD t_14.toNat (0 : UInt32))
  Option.bind (zq95 N x35 (2 : UInt64)) fun y57 =>
  Option.bind (zq95 N x35 (13 : UInt64)) fun y58 =>
  Option.bind (zq95 N x35 (22 : UInt64)) fun y60 =>
  some (.go (((w64 (t_14 + (1 : Int))), ()), (state_2, t_4, w_6, k_12, ([(((((x41 + x46) + ((x38 &&& x39) ^^^ ((~~~ x38) &&& x40))) + x53) + x55) + (((y57.1.1 ^^^ y58.1.1) ^^^ y60.1.1) + (((x35 &&& x36) ^^^ (x35 &&& x37)) ^^^ (x36 &&& x37)))), x35, x36, x37, ((v_13.getD 3 (0 : UInt32)) + ((((x41 + x46) + ((x38 &&& x39) ^^^ ((~~~ x38) &&& x40))) + x53) + x55)), x38, x39, x40] : List UInt32), ())))
  else none
  else none
 else
  some (.br ((()), (state_2, t_4, v_13, ())))
def zq80_s8 (N : Nat) (i_23 : Int) (state_2 : (List UInt32)) (t_4 : (List UInt32)) (v_13 : (List UInt32)) : Option (Lo ((Int × Unit) × ((List UInt32) × (List UInt32) × (List UInt32) × Unit)) ((Unit) × ((List UInt32) × (List UInt32) × Unit)) zq80_R) :=
 bif (decide (i_23 < (8 : Int))) then
  bif inR i_23 8 then
  bif inR i_23 8 then
  bif inR i_23 8 then
  some (.go (((w64 (i_23 + (1 : Int))), ()), (state_2, t_4, (v_13.set i_23.toNat ((v_13.getD i_23.toNat (0 : UInt32)) + (state_2.getD i_23.toNat (0 : UInt32)))), ())))
  else none
  else none
  else none
 else
  some (.br ((()), (t_4, v_13, ())))
def zq80_9 (N : Nat) (t_4 : (List UInt32)) (v_13 : (List UInt32)) : Option zq80_R :=
 some ((v_13, true, ()), (()))
def zq80_7 (N : Nat) (i_23 : Int) (state_2 : (List UInt32)) (t_4 : (List UInt32)) (v_13 : (List UInt32)) : Option zq80_R :=
 loopK N (fun y => zq80_s8 N y.1.1 y.2.1 y.2.2.1 y.2.2.2.1) (fun (e : ((Unit) × ((List UInt32) × (List UInt32) × Unit))) => zq80_9 N e.2.1 e.2.2.1) ((i_23, ()), (state_2, t_4, v_13, ()))
def zq80_6 (N : Nat) (state_2 : (List UInt32)) (t_4 : (List UInt32)) (v_13 : (List UInt32)) : Option zq80_R :=
 zq80_7 N (0 : Int) state_2 t_4 v_13
def zq80_4 (N : Nat) (t_14 : Int) (state_2 : (List UInt32)) (t_4 : (List UInt32)) (w_6 : (List UInt32)) (k_12 : (List UInt32)) (v_13 : (List UInt32)) : Option zq80_R :=
 loopK N (fun y => zq80_s5 N y.1.1 y.2.1 y.2.2.1 y.2.2.2.1 y.2.2.2.2.1 y.2.2.2.2.2.1) (fun (e : ((Unit) × ((List UInt32) × (List UInt32) × (List UInt32) × Unit))) => zq80_6 N e.2.1 e.2.2.1 e.2.2.2.1) ((t_14, ()), (state_2, t_4, w_6, k_12, v_13, ()))
def zq80_3 (N : Nat) (state_2 : (List UInt32)) (t_4 : (List UInt32)) (w_6 : (List UInt32)) : Option zq80_R :=
 Option.bind (zq42 N) fun y33 =>
 zq80_4 N (0 : Int) state_2 t_4 w_6 y33.1.1 state_2
def zq80_1 (N : Nat) (block_1 : (List UInt8)) (t_7 : Int) (state_2 : (List UInt32)) (t_4 : (List UInt32)) (w_6 : (List UInt32)) : Option zq80_R :=
 loopK N (fun y => zq80_s2 N y.1.1 y.1.2.1 y.2.1 y.2.2.1 y.2.2.2.1) (fun (e : ((Unit) × ((List UInt32) × (List UInt32) × (List UInt32) × Unit))) => zq80_3 N e.2.1 e.2.2.1 e.2.2.2.1) ((block_1, t_7, ()), (state_2, t_4, w_6, ()))
def zq80 (N : Nat) (state_0 : (List UInt32)) (block_1 : (List UInt8)) : Option zq80_R :=
 bif (!(decide ((block_1.length : Int) = (64 : Int)))) then
  some (((List.replicate 8 (0 : UInt32)), false, ()), (()))
 else
  zq80_1 N block_1 (0 : Int) state_0 (List.replicate 8 (0 : UInt32)) (List.replicate 64 (0 : UInt32))
def zq80_C (N : Nat) := Cx 175 [(96, zq59_ctr N), (97, zq95_ctr N), (98, zq42_ctr N)]
def zq80_S0 : Spec := ⟨[.val (.sl .u8), .ref 0 (.arr 8 .u32), .ref 1 (.arr 8 .u32), .ref 2 (.arr 64 .u32), .val .i64], [(.box 84 (.arr 8 .u32), .pos 1), (.box 84 (.arr 8 .u32), .pos 2), (.box 100 (.arr 64 .u32), .pos 3)]⟩
def zq80_S1 : Spec := ⟨[.ref 0 (.arr 8 .u32), .ref 1 (.arr 8 .u32), .ref 2 (.arr 64 .u32), .ref 3 (.arr 64 .u32), .ref 4 (.arr 8 .u32), .val .i64], [(.box 84 (.arr 8 .u32), .pos 0), (.box 84 (.arr 8 .u32), .pos 1), (.box 100 (.arr 64 .u32), .pos 2), (.box 100 (.arr 64 .u32), .pos 3), (.box 84 (.arr 8 .u32), .pos 4)]⟩
def zq80_S2 : Spec := ⟨[.ref 0 (.arr 8 .u32), .ref 1 (.arr 8 .u32), .ref 2 (.arr 8 .u32), .val .i64], [(.box 84 (.arr 8 .u32), .pos 0), (.box 84 (.arr 8 .u32), .pos 1), (.box 84 (.arr 8 .u32), .pos 2)]⟩
def zq80_S3 : Spec := ⟨[.ref 0 (.arr 8 .u32), .ref 1 (.arr 8 .u32)], [(.box 84 (.arr 8 .u32), .pos 0), (.box 84 (.arr 8 .u32), .pos 1)]⟩
def zq80_S4 : Spec := ⟨[.ref 0 (.arr 8 .u32), .ref 1 (.arr 8 .u32), .ref 2 (.arr 8 .u32)], [(.box 84 (.arr 8 .u32), .pos 0), (.box 84 (.arr 8 .u32), .pos 1), (.box 84 (.arr 8 .u32), .pos 2)]⟩
def zq80_S5 : Spec := ⟨[.ref 0 (.arr 8 .u32), .ref 1 (.arr 8 .u32), .ref 2 (.arr 64 .u32)], [(.box 84 (.arr 8 .u32), .pos 0), (.box 84 (.arr 8 .u32), .pos 1), (.box 100 (.arr 64 .u32), .pos 2)]⟩
def zq80_S6 : Spec := ⟨[.val (.arr 8 .u32), .val (.sl .u8)], []⟩
def zq80_S7 : Spec := ⟨[.fp (.arr 8 .u32), .val .bool], []⟩
def zq80_K : XE → GS → Option zq80_R := retK 0 [4, 5] [true, false] zq80_S7
noncomputable def zq80_L : List Code := (bodyOf (some Tryz.f71))
def zq80_L2 : List Code := (loopOf (zq80_L[5]?))
def zq80_L5 : List Code := (loopOf (zq80_L[9]?))
def zq80_L8 : List Code := (loopOf (zq80_L[11]?))
def zq80_K2 (N : Nat) := roundK (some 0) (fit 0 [1, 2, 4, 6, 7] zq80_S0) (fit 0 [2, 4, 6] zq80_S5) zq80_K
def zq80_K5 (N : Nat) := roundK (some 2) (fit 0 [2, 4, 6, 12, 13, 14] zq80_S1) (fit 0 [2, 4, 13] zq80_S4) zq80_K
def zq80_K8 (N : Nat) := roundK (some 4) (fit 0 [2, 4, 13, 23] zq80_S2) (fit 0 [4, 13] zq80_S3) zq80_K
theorem zq80_s2_b (N) : Bk 0 (zq80_C N) [1, 2, 4, 6, 7] zq80_S0 (zq80_L2.drop 0) (fun y => zq80_s2 N y.1.1 y.1.2.1 y.2.1 y.2.2.1 y.2.2.2.1) (zq80_K2 N) :=
 cE 4
theorem zq80_s5_b (N) : Bk 0 (zq80_C N) [2, 4, 6, 12, 13, 14] zq80_S1 (zq80_L5.drop 0) (fun y => zq80_s5 N y.1.1 y.2.1 y.2.2.1 y.2.2.2.1 y.2.2.2.2.1 y.2.2.2.2.2.1) (zq80_K5 N) :=
 cE 4
theorem zq80_s8_b (N) : Bk 0 (zq80_C N) [2, 4, 13, 23] zq80_S2 (zq80_L8.drop 0) (fun y => zq80_s8 N y.1.1 y.2.1 y.2.2.1 y.2.2.2.1) (zq80_K8 N) :=
 cE 4
theorem zq80_9_b (N) : Bk 0 (zq80_C N) [4, 13] zq80_S3 (zq80_L.drop 12) (fun y => zq80_9 N y.2.1 y.2.2.1) zq80_K :=
 cE 2
theorem zq80_7_b (N) : Bk 0 (zq80_C N) [2, 4, 13, 23] zq80_S2 (zq80_L.drop 11) (fun y => zq80_7 N y.1.1 y.2.1 y.2.2.1 y.2.2.2.1) zq80_K :=
 lG N zq80_S2 [4, 13] zq80_S3 (zq80_9_b N) (zq80_s8_b N)
theorem zq80_6_b (N) : Bk 0 (zq80_C N) [2, 4, 13] zq80_S4 (zq80_L.drop 10) (fun y => zq80_6 N y.2.1 y.2.2.1 y.2.2.2.1) zq80_K :=
 cG 1 (zq80_7_b N)
theorem zq80_4_b (N) : Bk 0 (zq80_C N) [2, 4, 6, 12, 13, 14] zq80_S1 (zq80_L.drop 9) (fun y => zq80_4 N y.1.1 y.2.1 y.2.2.1 y.2.2.2.1 y.2.2.2.2.1 y.2.2.2.2.2.1) zq80_K :=
 lG N zq80_S1 [2, 4, 13] zq80_S4 (zq80_6_b N) (zq80_s5_b N)
theorem zq80_3_b (N) : Bk 0 (zq80_C N) [2, 4, 6] zq80_S5 (zq80_L.drop 6) (fun y => zq80_3 N y.2.1 y.2.2.1 y.2.2.2.1) zq80_K :=
 cG 3 (zq80_4_b N)
theorem zq80_1_b (N) : Bk 0 (zq80_C N) [1, 2, 4, 6, 7] zq80_S0 (zq80_L.drop 5) (fun y => zq80_1 N y.1.1 y.1.2.1 y.2.1 y.2.2.1 y.2.2.2.1) zq80_K :=
 lG N zq80_S0 [2, 4, 6] zq80_S5 (zq80_3_b N) (zq80_s2_b N)
theorem zq80_b (N) : Bk 0 (zq80_C N) (List.range zq80_S6.ks.length) zq80_S6 (zq80_L.drop 0) (fun y => zq80 N y.1.1 y.1.2.1) zq80_K :=
 cG 5 (zq80_1_b N)
def zq80_ctr (N : Nat) : Ctr := ⟨zq80_S6, zq80_S7.un [true, false], 0, (fun y => zq80 N y.1.1 y.1.2.1)⟩
theorem zq80_ok (N : Nat) : COk 71 (zq80_ctr N) :=
 cF (zw2 (Γ := zq80_C N) zw1 (csc (zq59_ok N) (csc (zq95_ok N) (csc (zq42_ok N) csn)))) Tryz.func71 Tryz.ntmps71 (zq80_b N)
abbrev zq111_R : Type := ((Unit) × ((List UInt8) × Unit))
def zq111_s2 (N : Nat) (all_3 : (List UInt8)) (i_5 : Int) (v_4 : (List UInt32)) : Option (Lo (((List UInt8) × Int × Unit) × ((List UInt32) × Unit)) ((Unit) × ((List UInt32) × Unit)) zq111_R) :=
 bif (decide (i_5 < (all_3.length : Int))) then
  let x7 := w64 (i_5 + (64 : Int))
  bif decide (0 ≤ i_5) && decide (i_5 ≤ x7) && decide (x7 ≤ (all_3.length : Int)) && true then
  Option.bind (zq80 N v_4 (cut all_3 i_5.toNat x7.toNat)) fun y9 =>
  some (.go ((all_3, (w64 (i_5 + (64 : Int))), ()), (y9.1.1, ())))
  else none
 else
  some (.br ((()), (v_4, ())))
def zq111_s5 (N : Nat) (i_7 : Int) (v_4 : (List UInt32)) (out_6 : (List UInt8)) : Option (Lo ((Int × Unit) × ((List UInt32) × (List UInt8) × Unit)) ((Unit) × ((List UInt8) × Unit)) zq111_R) :=
 bif (decide (i_7 < (8 : Int))) then
  bif inR i_7 8 then
  Option.bind (zq113 N out_6 (v_4.getD i_7.toNat (0 : UInt32)).toUInt64 (4 : Int)) fun y13 =>
  some (.go (((w64 (i_7 + (1 : Int))), ()), (v_4, y13.2.1, ())))
  else none
 else
  some (.br ((()), (out_6, ())))
def zq111_6 (N : Nat) (out_6 : (List UInt8)) : Option zq111_R :=
 some ((()), (out_6, ()))
def zq111_4 (N : Nat) (i_7 : Int) (v_4 : (List UInt32)) (out_6 : (List UInt8)) : Option zq111_R :=
 loopK N (fun y => zq111_s5 N y.1.1 y.2.1 y.2.2.1) (fun (e : ((Unit) × ((List UInt8) × Unit))) => zq111_6 N e.2.1) ((i_7, ()), (v_4, out_6, ()))
def zq111_3 (N : Nat) (v_4 : (List UInt32)) : Option zq111_R :=
 zq111_4 N (0 : Int) v_4 ([] : List UInt8)
def zq111_1 (N : Nat) (i_5 : Int) (all_3 : (List UInt8)) (v_4 : (List UInt32)) : Option zq111_R :=
 loopK N (fun y => zq111_s2 N y.1.1 y.1.2.1 y.2.1) (fun (e : ((Unit) × ((List UInt32) × Unit))) => zq111_3 N e.2.1) ((all_3, i_5, ()), (v_4, ()))
def zq111 (N : Nat) (b_0 : (List UInt8)) : Option zq111_R :=
 bif room (0 + b_0.length) 1 then
 Option.bind (zq109 N (b_0.length : Int)) fun y2 =>
 bif room (b_0.length + y2.2.1.length) 1 then
 zq111_1 N (0 : Int) (b_0 ++ y2.2.1) ([(1779033703 : UInt32), (3144134277 : UInt32), (1013904242 : UInt32), (2773480762 : UInt32), (1359893119 : UInt32), (2600822924 : UInt32), (528734635 : UInt32), (1541459225 : UInt32)] : List UInt32)
 else none
 else none
def zq111_C (N : Nat) := Cx 42 [(70, zq109_ctr N), (71, zq80_ctr N), (72, zq113_ctr N)]
def zq111_S0 : Spec := ⟨[.val (.sl .u8), .ref 0 (.arr 8 .u32), .val .i64], [(.box 84 (.arr 8 .u32), .pos 1)]⟩
def zq111_S1 : Spec := ⟨[.ref 0 (.arr 8 .u32), .row 1, .val .i64], [(.box 84 (.arr 8 .u32), .pos 0), (.row 5 .u8, .pos 1)]⟩
def zq111_S2 : Spec := ⟨[.row 0], [(.row 5 .u8, .pos 0)]⟩
def zq111_S3 : Spec := ⟨[.ref 0 (.arr 8 .u32)], [(.box 84 (.arr 8 .u32), .pos 0)]⟩
def zq111_S4 : Spec := ⟨[.row 0, .ref 1 (.arr 8 .u32), .val .i64], [(.row 5 .u8, .pos 0), (.box 84 (.arr 8 .u32), .pos 1)]⟩
def zq111_S5 : Spec := ⟨[.val (.sl .u8)], []⟩
def zq111_K : XE → GS → Option zq111_R := retK 0 [2] [false] zq111_S2
noncomputable def zq111_L : List Code := (bodyOf (some Tryz.f43))
def zq111_L2 : List Code := (loopOf (zq111_L[4]?))
def zq111_L5 : List Code := (loopOf (zq111_L[7]?))
def zq111_K2 (N : Nat) := roundK (some 0) (fit 0 [3, 4, 5] zq111_S0) (fit 0 [4] zq111_S3) zq111_K
def zq111_K5 (N : Nat) := roundK (some 2) (fit 0 [4, 6, 7] zq111_S1) (fit 0 [6] zq111_S2) zq111_K
theorem zq111_s2_b (N) : Bk 0 (zq111_C N) [3, 4, 5] zq111_S0 (zq111_L2.drop 0) (fun y => zq111_s2 N y.1.1 y.1.2.1 y.2.1) (zq111_K2 N) :=
 cE 4
theorem zq111_s5_b (N) : Bk 0 (zq111_C N) [4, 6, 7] zq111_S1 (zq111_L5.drop 0) (fun y => zq111_s5 N y.1.1 y.2.1 y.2.2.1) (zq111_K5 N) :=
 cE 4
theorem zq111_6_b (N) : Bk 0 (zq111_C N) [6] zq111_S2 (zq111_L.drop 8) (fun y => zq111_6 N y.2.1) zq111_K :=
 cE 2
theorem zq111_4_b (N) : Bk 0 (zq111_C N) [4, 6, 7] zq111_S1 (zq111_L.drop 7) (fun y => zq111_4 N y.1.1 y.2.1 y.2.2.1) zq111_K :=
 lG N zq111_S1 [6] zq111_S2 (zq111_6_b N) (zq111_s5_b N)
theorem zq111_3_b (N) : Bk 0 (zq111_C N) [4] zq111_S3 (zq111_L.drop 5) (fun y => zq111_3 N y.2.1) zq111_K :=
 cG 2 (zq111_4_b N)
theorem zq111_1_b (N) : Bk 0 (zq111_C N) [3, 4, 5] zq111_S4 (zq111_L.drop 4) (fun y => zq111_1 N y.1.1 y.2.1 y.2.2.1) zq111_K :=
 lG N zq111_S0 [4] zq111_S3 (zq111_3_b N) (zq111_s2_b N)
theorem zq111_b (N) : Bk 0 (zq111_C N) (List.range zq111_S5.ks.length) zq111_S5 (zq111_L.drop 0) (fun y => zq111 N y.1.1) zq111_K :=
 cG 4 (zq111_1_b N)
def zq111_ctr (N : Nat) : Ctr := ⟨zq111_S5, zq111_S2.un [false], 0, (fun y => zq111 N y.1.1)⟩
theorem zq111_ok (N : Nat) : COk 43 (zq111_ctr N) :=
 cF (zw2 (Γ := zq111_C N) zw1 (csc (zq109_ok N) (csc (zq80_ok N) (csc (zq113_ok N) csn)))) Tryz.func43 Tryz.ntmps43 (zq111_b N)
abbrev zq60_R : Type := ((Int × Unit) × ((List UInt8) × Unit))
def zq60 (N : Nat) (t_0 : D24) : Option zq60_R :=
 Option.bind (zq61 N t_0) fun y1 =>
 bif (!(decide (y1.1.1 = (0 : Int)))) then
  some ((y1.1.1, ()), (([] : List UInt8), ()))
 else
  Option.bind (zq111 N y1.2.1) fun y3 =>
  some (((0 : Int), ()), (y3.2.1, ()))
def zq60_C (N : Nat) := Cx 16 [(13, zq61_ctr N), (43, zq111_ctr N)]
def zq60_S0 : Spec := ⟨[.val T24], []⟩
def zq60_S1 : Spec := ⟨[.row 0, .val .i64], [(.row 5 .u8, .pos 0)]⟩
def zq60_K : XE → GS → Option zq60_R := retK 0 [2, 3] [false, false] zq60_S1
noncomputable def zq60_L : List Code := (bodyOf (some Tryz.f15))
theorem zq60_b (N) : Bk 0 (zq60_C N) (List.range zq60_S0.ks.length) zq60_S0 (zq60_L.drop 0) (fun y => zq60 N y.1.1) zq60_K :=
 cE 6
def zq60_ctr (N : Nat) : Ctr := ⟨zq60_S0, zq60_S1.un [false, false], 0, (fun y => zq60 N y.1.1)⟩
theorem zq60_ok (N : Nat) : COk 15 (zq60_ctr N) :=
 cF (zw2 (Γ := zq60_C N) zw1 (csc (zq61_ok N) (csc (zq111_ok N) csn))) Tryz.func15 Tryz.ntmps15 (zq60_b N)
abbrev zq64_R : Type := ((Unit) × ((List UInt8) × Unit))
def zq64 (N : Nat) (t_0 : D24) : Option zq64_R :=
 Option.bind (zq60 N t_0) fun y1 =>
 some ((()), (y1.2.1, ()))
def zq64_C (N : Nat) := Cx 11 [(15, zq60_ctr N)]
def zq64_S0 : Spec := ⟨[.val T24], []⟩
def zq64_S1 : Spec := ⟨[.row 0], [(.row 5 .u8, .pos 0)]⟩
def zq64_K : XE → GS → Option zq64_R := retK 0 [2] [false] zq64_S1
noncomputable def zq64_L : List Code := (bodyOf (some Tryz.f46))
theorem zq64_b (N) : Bk 0 (zq64_C N) (List.range zq64_S0.ks.length) zq64_S0 (zq64_L.drop 0) (fun y => zq64 N y.1.1) zq64_K :=
 cE 4
def zq64_ctr (N : Nat) : Ctr := ⟨zq64_S0, zq64_S1.un [false], 0, (fun y => zq64 N y.1.1)⟩
theorem zq64_ok (N : Nat) : COk 46 (zq64_ctr N) :=
 cF (zw2 (Γ := zq64_C N) zw1 (csc (zq60_ok N) csn)) Tryz.func46 Tryz.ntmps46 (zq64_b N)
abbrev zq96_R : Type := ((Unit) × ((List UInt8) × Unit))
def zq96_s3 (N : Nat) (key_0 : (List UInt8)) (m_1 : UInt8) (i_6 : Int) (out_5 : (List UInt8)) : Option (Lo (((List UInt8) × UInt8 × Int × Unit) × ((List UInt8) × Unit)) ((Unit) × ((List UInt8) × Unit)) zq96_R) :=
 bif (decide (i_6 < (64 : Int))) then
  bif inR i_6 out_5.length then
  let x5 := (out_5.set i_6.toNat m_1)
  bif (decide (i_6 < (key_0.length : Int))) then
   bif inR i_6 x5.length then
   bif inR i_6 key_0.length then
   bif inR i_6 x5.length then
   some (.go ((key_0, m_1, (w64 (i_6 + (1 : Int))), ()), ((x5.set i_6.toNat ((x5.getD i_6.toNat (0 : UInt8)) ^^^ (key_0.getD i_6.toNat (0 : UInt8)))), ())))
   else none
   else none
   else none
  else
   some (.go ((key_0, m_1, (w64 (i_6 + (1 : Int))), ()), (x5, ())))
  else none
 else
  some (.br ((()), (out_5, ())))
def zq96_4 (N : Nat) (out_5 : (List UInt8)) : Option zq96_R :=
 some ((()), (out_5, ()))
def zq96_2 (N : Nat) (key_0 : (List UInt8)) (m_1 : UInt8) (i_6 : Int) (out_5 : (List UInt8)) : Option zq96_R :=
 loopK N (fun y => zq96_s3 N y.1.1 y.1.2.1 y.1.2.2.1 y.2.1) (fun (e : ((Unit) × ((List UInt8) × Unit))) => zq96_4 N e.2.1) ((key_0, m_1, i_6, ()), (out_5, ()))
def zq96_1 (N : Nat) (key_0 : (List UInt8)) (m_1 : UInt8) : Option zq96_R :=
 zq96_2 N key_0 m_1 (0 : Int) (List.replicate 64 (0 : UInt8))
def zq96 (N : Nat) (key_0 : (List UInt8)) (m_1 : UInt8) : Option zq96_R :=
 bif (decide ((64 : Int) < (key_0.length : Int))) then
  Option.bind (zq111 N key_0) fun y3 =>
  zq96_1 N y3.2.1 m_1
 else
  zq96_1 N key_0 m_1
def zq96_C (N : Nat) := Cx 36 [(43, zq111_ctr N)]
def zq96_S0 : Spec := ⟨[.val (.sl .u8), .val .u8, .row 0, .val .i64], [(.row 5 .u8, .pos 2)]⟩
def zq96_S1 : Spec := ⟨[.row 0], [(.row 5 .u8, .pos 0)]⟩
def zq96_S2 : Spec := ⟨[.val (.sl .u8), .val .u8], []⟩
def zq96_K : XE → GS → Option zq96_R := retK 0 [4] [false] zq96_S1
noncomputable def zq96_L : List Code := (bodyOf (some Tryz.f75))
def zq96_L3 : List Code := (loopOf (zq96_L[5]?))
def zq96_K3 (N : Nat) := roundK (some 0) (fit 0 [0, 1, 5, 6] zq96_S0) (fit 0 [5] zq96_S1) zq96_K
theorem zq96_s3_b (N) : Bk 0 (zq96_C N) [0, 1, 5, 6] zq96_S0 (zq96_L3.drop 0) (fun y => zq96_s3 N y.1.1 y.1.2.1 y.1.2.2.1 y.2.1) (zq96_K3 N) :=
 cE 4
theorem zq96_4_b (N) : Bk 0 (zq96_C N) [5] zq96_S1 (zq96_L.drop 6) (fun y => zq96_4 N y.2.1) zq96_K :=
 cE 2
theorem zq96_2_b (N) : Bk 0 (zq96_C N) [0, 1, 5, 6] zq96_S0 (zq96_L.drop 5) (fun y => zq96_2 N y.1.1 y.1.2.1 y.1.2.2.1 y.2.1) zq96_K :=
 lG N zq96_S0 [5] zq96_S1 (zq96_4_b N) (zq96_s3_b N)
theorem zq96_1_b (N) : Bk 0 (zq96_C N) [0, 1] zq96_S2 (zq96_L.drop 3) (fun y => zq96_1 N y.1.1 y.1.2.1) zq96_K :=
 cG 2 (zq96_2_b N)
theorem zq96_b (N) : Bk 0 (zq96_C N) (List.range zq96_S2.ks.length) zq96_S2 (zq96_L.drop 0) (fun y => zq96 N y.1.1 y.1.2.1) zq96_K :=
 cG 3 (zq96_1_b N)
def zq96_ctr (N : Nat) : Ctr := ⟨zq96_S2, zq96_S1.un [false], 0, (fun y => zq96 N y.1.1 y.1.2.1)⟩
theorem zq96_ok (N : Nat) : COk 75 (zq96_ctr N) :=
 cF (zw2 (Γ := zq96_C N) zw1 (csc (zq111_ok N) csn)) Tryz.func75 Tryz.ntmps75 (zq96_b N)
abbrev zq92_R : Type := ((Unit) × ((List UInt8) × Unit))
def zq92_s2 (N : Nat) (l_0 : (List (List UInt8))) (i_4 : Int) (out_3 : (List UInt8)) : Option (Lo (((List (List UInt8)) × Int × Unit) × ((List UInt8) × Unit)) ((Unit) × ((List UInt8) × Unit)) zq92_R) :=
 bif (decide (i_4 < (l_0.length : Int))) then
  bif inR i_4 l_0.length then
  let x3 := l_0.getD i_4.toNat ([] : List UInt8)
  bif room (out_3.length + x3.length) 1 then
  some (.go ((l_0, (w64 (i_4 + (1 : Int))), ()), ((out_3 ++ x3), ())))
  else none
  else none
 else
  some (.br ((()), (out_3, ())))
def zq92_3 (N : Nat) (out_3 : (List UInt8)) : Option zq92_R :=
 some ((()), (out_3, ()))
def zq92_1 (N : Nat) (l_0 : (List (List UInt8))) (i_4 : Int) (out_3 : (List UInt8)) : Option zq92_R :=
 loopK N (fun y => zq92_s2 N y.1.1 y.1.2.1 y.2.1) (fun (e : ((Unit) × ((List UInt8) × Unit))) => zq92_3 N e.2.1) ((l_0, i_4, ()), (out_3, ()))
def zq92 (N : Nat) (l_0 : (List (List UInt8))) : Option zq92_R :=
 zq92_1 N l_0 (0 : Int) ([] : List UInt8)
def zq92_C (N : Nat) := Cx 18 []
def zq92_S0 : Spec := ⟨[.val (.sl (.sl .u8)), .row 0, .val .i64], [(.row 5 .u8, .pos 1)]⟩
def zq92_S1 : Spec := ⟨[.row 0], [(.row 5 .u8, .pos 0)]⟩
def zq92_S2 : Spec := ⟨[.val (.sl (.sl .u8))], []⟩
def zq92_K : XE → GS → Option zq92_R := retK 0 [2] [false] zq92_S1
noncomputable def zq92_L : List Code := (bodyOf (some Tryz.f74))
def zq92_L2 : List Code := (loopOf (zq92_L[3]?))
def zq92_K2 (N : Nat) := roundK (some 0) (fit 0 [0, 3, 4] zq92_S0) (fit 0 [3] zq92_S1) zq92_K
theorem zq92_s2_b (N) : Bk 0 (zq92_C N) [0, 3, 4] zq92_S0 (zq92_L2.drop 0) (fun y => zq92_s2 N y.1.1 y.1.2.1 y.2.1) (zq92_K2 N) :=
 cE 4
theorem zq92_3_b (N) : Bk 0 (zq92_C N) [3] zq92_S1 (zq92_L.drop 4) (fun y => zq92_3 N y.2.1) zq92_K :=
 cE 2
theorem zq92_1_b (N) : Bk 0 (zq92_C N) [0, 3, 4] zq92_S0 (zq92_L.drop 3) (fun y => zq92_1 N y.1.1 y.1.2.1 y.2.1) zq92_K :=
 lG N zq92_S0 [3] zq92_S1 (zq92_3_b N) (zq92_s2_b N)
theorem zq92_b (N) : Bk 0 (zq92_C N) (List.range zq92_S2.ks.length) zq92_S2 (zq92_L.drop 0) (fun y => zq92 N y.1.1) zq92_K :=
 cG 3 (zq92_1_b N)
def zq92_ctr (N : Nat) : Ctr := ⟨zq92_S2, zq92_S1.un [false], 0, (fun y => zq92 N y.1.1)⟩
theorem zq92_ok (N : Nat) : COk 74 (zq92_ctr N) :=
 cF (zw2 (Γ := zq92_C N) zw1 csn) Tryz.func74 Tryz.ntmps74 (zq92_b N)
abbrev zq103_R : Type := ((Unit) × ((List UInt8) × Unit))
def zq103 (N : Nat) (key_0 : (List UInt8)) (b_1 : (List UInt8)) : Option zq103_R :=
 Option.bind (zq96 N key_0 (92 : UInt8)) fun y1 =>
 Option.bind (zq96 N key_0 (54 : UInt8)) fun y2 =>
 Option.bind (zq92 N ([y2.2.1, b_1] : List (List UInt8))) fun y3 =>
 Option.bind (zq111 N y3.2.1) fun y4 =>
 Option.bind (zq92 N ([y1.2.1, y4.2.1] : List (List UInt8))) fun y5 =>
 Option.bind (zq111 N y5.2.1) fun y6 =>
 some ((()), (y6.2.1, ()))
def zq103_C (N : Nat) := Cx 16 [(75, zq96_ctr N), (74, zq92_ctr N), (43, zq111_ctr N)]
def zq103_S0 : Spec := ⟨[.val (.sl .u8), .val (.sl .u8)], []⟩
def zq103_S1 : Spec := ⟨[.row 0], [(.row 5 .u8, .pos 0)]⟩
def zq103_K : XE → GS → Option zq103_R := retK 0 [4] [false] zq103_S1
noncomputable def zq103_L : List Code := (bodyOf (some Tryz.f47))
theorem zq103_b (N) : Bk 0 (zq103_C N) (List.range zq103_S0.ks.length) zq103_S0 (zq103_L.drop 0) (fun y => zq103 N y.1.1 y.1.2.1) zq103_K :=
 cE 3
def zq103_ctr (N : Nat) : Ctr := ⟨zq103_S0, zq103_S1.un [false], 0, (fun y => zq103 N y.1.1 y.1.2.1)⟩
theorem zq103_ok (N : Nat) : COk 47 (zq103_ctr N) :=
 cF (zw2 (Γ := zq103_C N) zw1 (csc (zq96_ok N) (csc (zq92_ok N) (csc (zq111_ok N) csn)))) Tryz.func47 Tryz.ntmps47 (zq103_b N)
abbrev zq29_R : Type := ((Bool × Unit) × (Unit))
def zq29_s2 (N : Nat) (a_0 : (List UInt8)) (b_1 : (List UInt8)) (i_5 : Int) : Option (Lo (((List UInt8) × (List UInt8) × Int × Unit) × (Unit)) ((Unit) × (Unit)) zq29_R) :=
 bif (decide (i_5 < (a_0.length : Int))) then
  bif inR i_5 a_0.length then
  bif inR i_5 b_1.length then
  bif (!(decide ((a_0.getD i_5.toNat (0 : UInt8)) = (b_1.getD i_5.toNat (0 : UInt8))))) then
   some (.rt ((false, ()), (())))
  else
   some (.go ((a_0, b_1, (w64 (i_5 + (1 : Int))), ()), (())))
  else none
  else none
 else
  some (.br ((()), (())))
def zq29_3 (N : Nat) : Option zq29_R :=
 some ((true, ()), (()))
def zq29_1 (N : Nat) (a_0 : (List UInt8)) (b_1 : (List UInt8)) (i_5 : Int) : Option zq29_R :=
 loopK N (fun y => zq29_s2 N y.1.1 y.1.2.1 y.1.2.2.1) (fun (e : ((Unit) × (Unit))) => zq29_3 N) ((a_0, b_1, i_5, ()), (()))
def zq29 (N : Nat) (a_0 : (List UInt8)) (b_1 : (List UInt8)) : Option zq29_R :=
 bif (!(decide ((a_0.length : Int) = (b_1.length : Int)))) then
  some ((false, ()), (()))
 else
  zq29_1 N a_0 b_1 (0 : Int)
def zq29_C (N : Nat) := Cx 26 []
def zq29_S0 : Spec := ⟨[.val (.sl .u8), .val (.sl .u8), .val .i64], []⟩
def zq29_S1 : Spec := ⟨[], []⟩
def zq29_S2 : Spec := ⟨[.val (.sl .u8), .val (.sl .u8)], []⟩
def zq29_S3 : Spec := ⟨[.val .bool], []⟩
def zq29_K : XE → GS → Option zq29_R := retK 0 [4] [false] zq29_S3
noncomputable def zq29_L : List Code := (bodyOf (some Tryz.f16))
def zq29_L2 : List Code := (loopOf (zq29_L[4]?))
def zq29_K2 (N : Nat) := roundK (some 0) (fit 0 [0, 1, 5] zq29_S0) (fit 0 [] zq29_S1) zq29_K
theorem zq29_s2_b (N) : Bk 0 (zq29_C N) [0, 1, 5] zq29_S0 (zq29_L2.drop 0) (fun y => zq29_s2 N y.1.1 y.1.2.1 y.1.2.2.1) (zq29_K2 N) :=
 cE 4
theorem zq29_3_b (N) : Bk 0 (zq29_C N) [] zq29_S1 (zq29_L.drop 5) (fun y => zq29_3 N) zq29_K :=
 cE 2
theorem zq29_1_b (N) : Bk 0 (zq29_C N) [0, 1, 5] zq29_S0 (zq29_L.drop 4) (fun y => zq29_1 N y.1.1 y.1.2.1 y.1.2.2.1) zq29_K :=
 lG N zq29_S0 [] zq29_S1 (zq29_3_b N) (zq29_s2_b N)
theorem zq29_b (N) : Bk 0 (zq29_C N) (List.range zq29_S2.ks.length) zq29_S2 (zq29_L.drop 0) (fun y => zq29 N y.1.1 y.1.2.1) zq29_K :=
 cG 4 (zq29_1_b N)
def zq29_ctr (N : Nat) : Ctr := ⟨zq29_S2, zq29_S3.un [false], 0, (fun y => zq29 N y.1.1 y.1.2.1)⟩
theorem zq29_ok (N : Nat) : COk 16 (zq29_ctr N) :=
 cF (zw2 (Γ := zq29_C N) zw1 csn) Tryz.func16 Tryz.ntmps16 (zq29_b N)
abbrev zq70_R : Type := ((Bool × Unit) × (Unit))
def zq70_s3 (N : Nat) (rc : D24 → D24 → Option zq70_R) (i_5 : Int) (a_2 : D24) (b_3 : D24) : Option (Lo ((Int × Unit) × (D24 × D24 × Unit)) ((Unit) × (Unit)) zq70_R) :=
 bif (decide (i_5 < ((List.map Tree.un a_2.2.2.1).length : Int))) then
  let x5 := List.map Tree.un a_2.2.2.1
  bif inR i_5 x5.length then
  let x7 := List.map Tree.un b_3.2.2.1
  bif inR i_5 x7.length then
  Option.bind (rc (x5.getD i_5.toNat ((0 : Int), (0 : Int), ([] : List Tree), ())) (x7.getD i_5.toNat ((0 : Int), (0 : Int), ([] : List Tree), ()))) fun y9 =>
  bif (!y9.1.1) then
   some (.rt ((false, ()), (())))
  else
   some (.go (((w64 (i_5 + (1 : Int))), ()), (a_2, b_3, ())))
  else none
  else none
 else
  some (.br ((()), (())))
def zq70_4 (N : Nat) (rc : D24 → D24 → Option zq70_R) : Option zq70_R :=
 some ((true, ()), (()))
def zq70_2 (N : Nat) (rc : D24 → D24 → Option zq70_R) (i_5 : Int) (a_2 : D24) (b_3 : D24) : Option zq70_R :=
 loopK N (fun y => zq70_s3 N rc y.1.1 y.2.1 y.2.2.1) (fun (e : ((Unit) × (Unit))) => zq70_4 N rc) ((i_5, ()), (a_2, b_3, ()))
def zq70_1 (N : Nat) (rc : D24 → D24 → Option zq70_R) (t_26 : Bool) (a_2 : D24) (b_3 : D24) : Option zq70_R :=
 bif t_26 then
  some ((false, ()), (()))
 else
  zq70_2 N rc (0 : Int) a_2 b_3
def zq70 (N : Nat) (rc : D24 → D24 → Option zq70_R) (a_0 : D24) (b_1 : D24) : Option zq70_R :=
 bif (!(decide (a_0.1 = b_1.1))) then
  zq70_1 N rc true a_0 b_1
 else
  bif (!(decide (a_0.2.1 = b_1.2.1))) then
   zq70_1 N rc true a_0 b_1
  else
   zq70_1 N rc (!(decide (((List.map Tree.un a_0.2.2.1).length : Int) = ((List.map Tree.un b_1.2.2.1).length : Int)))) a_0 b_1
def zq70_S0 : Spec := ⟨[.ref 0 T24, .ref 1 T24, .val .i64], [(.box 24 T24, .pos 0), (.box 24 T24, .pos 1)]⟩
def zq70_S1 : Spec := ⟨[], []⟩
def zq70_S2 : Spec := ⟨[.ref 0 T24, .ref 1 T24, .val .bool], [(.box 24 T24, .pos 0), (.box 24 T24, .pos 1)]⟩
def zq70_S3 : Spec := ⟨[.val T24, .val T24], []⟩
def zq70_S4 : Spec := ⟨[.val .bool], []⟩
def zq70_ftr (N : Nat) (rc : D24 → D24 → Option zq70_R) : Ctr := ⟨zq70_S3, zq70_S4.un [false], 0, (fun y => rc y.1.1 y.1.2.1)⟩
def zq70_C (N : Nat) (rc : D24 → D24 → Option zq70_R) := Cx 46 [(48, zq70_ftr N rc)]
def zq70_K : XE → GS → Option zq70_R := retK 0 [4] [false] zq70_S4
noncomputable def zq70_L : List Code := (bodyOf (some Tryz.f48))
def zq70_L3 : List Code := (loopOf (zq70_L[4]?))
def zq70_K3 (N : Nat) (rc : D24 → D24 → Option zq70_R) := roundK (some 0) (fit 0 [2, 3, 5] zq70_S0) (fit 0 [] zq70_S1) zq70_K
theorem zq70_s3_b (N) (rc) : Bk 0 (zq70_C N rc) [2, 3, 5] zq70_S0 (zq70_L3.drop 0) (fun y => zq70_s3 N rc y.1.1 y.2.1 y.2.2.1) (zq70_K3 N rc) :=
 cE 4
theorem zq70_4_b (N) (rc) : Bk 0 (zq70_C N rc) [] zq70_S1 (zq70_L.drop 5) (fun y => zq70_4 N rc) zq70_K :=
 cE 2
theorem zq70_2_b (N) (rc) : Bk 0 (zq70_C N rc) [2, 3, 5] zq70_S0 (zq70_L.drop 4) (fun y => zq70_2 N rc y.1.1 y.2.1 y.2.2.1) zq70_K :=
 lG N zq70_S0 [] zq70_S1 (zq70_4_b N rc) (zq70_s3_b N rc)
theorem zq70_1_b (N) (rc) : Bk 0 (zq70_C N rc) [2, 3, 26] zq70_S2 (zq70_L.drop 2) (fun y => zq70_1 N rc y.1.1 y.2.1 y.2.2.1) zq70_K :=
 cG 2 (zq70_2_b N rc)
theorem zq70_b (N) (rc) : Bk 0 (zq70_C N rc) (List.range zq70_S3.ks.length) zq70_S3 (zq70_L.drop 0) (fun y => zq70 N rc y.1.1 y.1.2.1) zq70_K :=
 cG 2 (zq70_1_b N rc)
def zq70_octr (N : Nat) (rc : D24 → D24 → Option zq70_R) : Ctr := ⟨zq70_S3, zq70_S4.un [false], 0, (fun y => zq70 N rc y.1.1 y.1.2.1)⟩
theorem zq70_ook (N : Nat) (rc : D24 → D24 → Option zq70_R) (hf : COk 48 (zq70_ftr N rc))  : COk 48 (zq70_octr N rc) :=
 cF (zw2 (Γ := zq70_C N rc) zw1 (csc hf csn)) Tryz.func48 Tryz.ntmps48 (zq70_b N rc)
def zw1j (N : Nat) : Nat → D24 → D24 → Option zq70_R
 | 0 => fun _ _ => none
 | n + 1 => fun a_0 b_1 => zq70 N (zw1j N n) a_0 b_1
theorem zw92 (N : Nat) : ∀ n : Nat, COk 48 (zq70_ftr N (zw1j N n))
 | 0 => zw1a Tryz.func48 (by kernel_rfl) (by kernel_rfl) (fun x => rfl)
 | n + 1 => zq70_ook N (zw1j N n) (zw92 N n)
def zq70_ctr (N : Nat) : Ctr := zq70_ftr N (zw1j N N)
theorem zq70_ok (N : Nat) : COk 48 (zq70_ctr N) := zw92 N N
abbrev zq81_R : Type := ((Bool × Unit) × (Unit))
def zq81_6 (N : Nat) (l_0 : (List D24)) (i_6 : Int) (keys_3 : (List D24)) (names_4 : (List (List UInt8))) (secrets_5 : (List (List UInt8))) : Option (Lo (((List D24) × Int × Unit) × ((List D24) × (List (List UInt8)) × (List (List UInt8)) × Unit)) ((Unit) × (Unit)) zq81_R) :=
 some (.go ((l_0, (w64 (i_6 + (1 : Int))), ()), (keys_3, names_4, secrets_5, ())))
def zq81_s8 (N : Nat) (l_0 : (List D24)) (i_6 : Int) (n_8 : (List UInt8)) (k_9 : Int) (keys_3 : (List D24)) (names_4 : (List (List UInt8))) (secrets_5 : (List (List UInt8))) (s_7 : (List UInt8)) : Option (Lo (((List D24) × Int × (List UInt8) × Int × Unit) × ((List D24) × (List (List UInt8)) × (List (List UInt8)) × (List UInt8) × Unit)) (((List D24) × Int × (List UInt8) × Unit) × ((List D24) × (List (List UInt8)) × (List (List UInt8)) × (List UInt8) × Unit)) (Lo (((List D24) × Int × Unit) × ((List D24) × (List (List UInt8)) × (List (List UInt8)) × Unit)) ((Unit) × (Unit)) zq81_R)) :=
 bif (decide (k_9 < (keys_3.length : Int))) then
  bif inR k_9 names_4.length then
  Option.bind (zq29 N n_8 (names_4.getD k_9.toNat ([] : List UInt8))) fun y14 =>
  bif y14.1.1 then
   bif inR i_6 l_0.length then
   bif inR k_9 keys_3.length then
   Option.bind (zw1j N N (l_0.getD i_6.toNat ((0 : Int), (0 : Int), ([] : List Tree), ())) (keys_3.getD k_9.toNat ((0 : Int), (0 : Int), ([] : List Tree), ()))) fun y17 =>
   bif (!y17.1.1) then
    some (.rt (.rt ((true, ()), (()))))
   else
    some (.go ((l_0, i_6, n_8, (w64 (k_9 + (1 : Int))), ()), (keys_3, names_4, secrets_5, s_7, ())))
   else none
   else none
  else
   bif inR k_9 secrets_5.length then
   Option.bind (zq29 N s_7 (secrets_5.getD k_9.toNat ([] : List UInt8))) fun y21 =>
   bif y21.1.1 then
    bif inR i_6 l_0.length then
    bif inR k_9 keys_3.length then
    Option.bind (zw1j N N (l_0.getD i_6.toNat ((0 : Int), (0 : Int), ([] : List Tree), ())) (keys_3.getD k_9.toNat ((0 : Int), (0 : Int), ([] : List Tree), ()))) fun y24 =>
    bif (!y24.1.1) then
     some (.rt (.rt ((true, ()), (()))))
    else
     some (.go ((l_0, i_6, n_8, (w64 (k_9 + (1 : Int))), ()), (keys_3, names_4, secrets_5, s_7, ())))
    else none
    else none
   else
    some (.go ((l_0, i_6, n_8, (w64 (k_9 + (1 : Int))), ()), (keys_3, names_4, secrets_5, s_7, ())))
   else none
  else none
 else
  some (.br ((l_0, i_6, n_8, ()), (keys_3, names_4, secrets_5, s_7, ())))
def zq81_9 (N : Nat) (l_0 : (List D24)) (i_6 : Int) (n_8 : (List UInt8)) (keys_3 : (List D24)) (names_4 : (List (List UInt8))) (secrets_5 : (List (List UInt8))) (s_7 : (List UInt8)) : Option (Lo (((List D24) × Int × Unit) × ((List D24) × (List (List UInt8)) × (List (List UInt8)) × Unit)) ((Unit) × (Unit)) zq81_R) :=
 bif inR i_6 l_0.length then
 let x28 := l_0.getD i_6.toNat ((0 : Int), (0 : Int), ([] : List Tree), ())
 bif room (keys_3.length + ([x28] : List D24).length) 40 then
 bif room (names_4.length + ([n_8] : List (List UInt8)).length) 24 then
 bif room (secrets_5.length + ([s_7] : List (List UInt8)).length) 24 then
 zq81_6 N l_0 i_6 (keys_3 ++ ([x28] : List D24)) (names_4 ++ ([n_8] : List (List UInt8))) (secrets_5 ++ ([s_7] : List (List UInt8)))
 else none
 else none
 else none
 else none
def zq81_7 (N : Nat) (l_0 : (List D24)) (i_6 : Int) (n_8 : (List UInt8)) (k_9 : Int) (keys_3 : (List D24)) (names_4 : (List (List UInt8))) (secrets_5 : (List (List UInt8))) (s_7 : (List UInt8)) : Option (Lo (((List D24) × Int × Unit) × ((List D24) × (List (List UInt8)) × (List (List UInt8)) × Unit)) ((Unit) × (Unit)) zq81_R) :=
 loopK N (fun y => zq81_s8 N y.1.1 y.1.2.1 y.1.2.2.1 y.1.2.2.2.1 y.2.1 y.2.2.1 y.2.2.2.1 y.2.2.2.2.1) (fun (e : (((List D24) × Int × (List UInt8) × Unit) × ((List D24) × (List (List UInt8)) × (List (List UInt8)) × (List UInt8) × Unit))) => zq81_9 N e.1.1 e.1.2.1 e.1.2.2.1 e.2.1 e.2.2.1 e.2.2.2.1 e.2.2.2.2.1) ((l_0, i_6, n_8, k_9, ()), (keys_3, names_4, secrets_5, s_7, ()))
def zq81_5 (N : Nat) (l_0 : (List D24)) (i_6 : Int) (keys_3 : (List D24)) (names_4 : (List (List UInt8))) (secrets_5 : (List (List UInt8))) : Option (Lo (((List D24) × Int × Unit) × ((List D24) × (List (List UInt8)) × (List (List UInt8)) × Unit)) ((Unit) × (Unit)) zq81_R) :=
 bif inR i_6 l_0.length then
 Option.bind (zq77 N (l_0.getD i_6.toNat ((0 : Int), (0 : Int), ([] : List Tree), ()))) fun y4 =>
 bif (!y4.1.1) then
  zq81_6 N l_0 i_6 keys_3 names_4 secrets_5
 else
  bif inR i_6 l_0.length then
  Option.bind (zq64 N (l_0.getD i_6.toNat ((0 : Int), (0 : Int), ([] : List Tree), ()))) fun y8 =>
  Option.bind (zq103 N y8.2.1 ([(1 : UInt8)] : List UInt8)) fun y9 =>
  bif decide (0 ≤ (0 : Int)) && decide ((0 : Int) ≤ (8 : Int)) && decide ((8 : Int) ≤ (y9.2.1.length : Int)) && true then
  zq81_7 N l_0 i_6 (cut y9.2.1 0 8) (0 : Int) keys_3 names_4 secrets_5 y8.2.1
  else none
  else none
 else none
def zq81_3 (N : Nat) (l_0 : (List D24)) (i_6 : Int) (keys_3 : (List D24)) (names_4 : (List (List UInt8))) (secrets_5 : (List (List UInt8))) : Option (Lo (((List D24) × Int × Unit) × ((List D24) × (List (List UInt8)) × (List (List UInt8)) × Unit)) ((Unit) × (Unit)) zq81_R) :=
 zq81_5 N l_0 i_6 keys_3 names_4 secrets_5
def zq81_s2 (N : Nat) (l_0 : (List D24)) (i_6 : Int) (keys_3 : (List D24)) (names_4 : (List (List UInt8))) (secrets_5 : (List (List UInt8))) : Option (Lo (((List D24) × Int × Unit) × ((List D24) × (List (List UInt8)) × (List (List UInt8)) × Unit)) ((Unit) × (Unit)) zq81_R) :=
 bif (decide (i_6 < (l_0.length : Int))) then
  zq81_3 N l_0 i_6 keys_3 names_4 secrets_5
 else
  some (.br ((()), (())))
def zq81_10 (N : Nat) : Option zq81_R :=
 some ((false, ()), (()))
def zq81_1 (N : Nat) (l_0 : (List D24)) (i_6 : Int) (keys_3 : (List D24)) (names_4 : (List (List UInt8))) (secrets_5 : (List (List UInt8))) : Option zq81_R :=
 loopK N (fun y => zq81_s2 N y.1.1 y.1.2.1 y.2.1 y.2.2.1 y.2.2.2.1) (fun (e : ((Unit) × (Unit))) => zq81_10 N) ((l_0, i_6, ()), (keys_3, names_4, secrets_5, ()))
def zq81 (N : Nat) (l_0 : (List D24)) : Option zq81_R :=
 zq81_1 N l_0 (0 : Int) ([] : List D24) ([] : List (List UInt8)) ([] : List (List UInt8))
def zq81_C (N : Nat) := Cx 78 [(38, zq77_ctr N), (46, zq64_ctr N), (47, zq103_ctr N), (16, zq29_ctr N), (48, zq70_ctr N)]
def zq81_S0 : Spec := ⟨[.val (.sl T24), .row 0, .row 1, .row 2, .val .i64], [(.row 24 T24, .pos 1), (.row 25 (.sl .u8), .pos 2), (.row 25 (.sl .u8), .pos 3)]⟩
def zq81_S1 : Spec := ⟨[.val (.sl T24), .row 0, .row 1, .row 2, .val .i64, .row 3, .val (.sl .u8), .val .i64], [(.row 24 T24, .pos 1), (.row 25 (.sl .u8), .pos 2), (.row 25 (.sl .u8), .pos 3), (.row 5 .u8, .pos 5)]⟩
def zq81_S2 : Spec := ⟨[.val (.sl T24), .row 0, .row 1, .row 2, .val .i64, .row 3, .val (.sl .u8)], [(.row 24 T24, .pos 1), (.row 25 (.sl .u8), .pos 2), (.row 25 (.sl .u8), .pos 3), (.row 5 .u8, .pos 5)]⟩
def zq81_S3 : Spec := ⟨[], []⟩
def zq81_S4 : Spec := ⟨[.val (.sl T24)], []⟩
def zq81_S5 : Spec := ⟨[.val .bool], []⟩
def zq81_K : XE → GS → Option zq81_R := retK 0 [2] [false] zq81_S5
noncomputable def zq81_L : List Code := (bodyOf (some Tryz.f21))
def zq81_L2 : List Code := (loopOf (zq81_L[4]?))
def zq81_L4b : List Code := (zw2h (zq81_L2[2]?))
def zq81_L8 : List Code := (loopOf (zq81_L4b[5]?))
def zq81_K2 (N : Nat) := roundK (some 0) (fit 0 [0, 3, 4, 5, 6] zq81_S0) (fit 0 [] zq81_S3) zq81_K
def zq81_K4 (N : Nat) : XE → GS → Option (Lo (((List D24) × Int × Unit) × ((List D24) × (List (List UInt8)) × (List (List UInt8)) × Unit)) ((Unit) × (Unit)) zq81_R) := blockK 1 (goK 0 [0, 3, 4, 5, 6] zq81_S0 (fun y => zq81_6 N y.1.1 y.1.2.1 y.2.1 y.2.2.1 y.2.2.2.1)) (zq81_K2 N)
def zq81_K8 (N : Nat) := roundK (some 2) (fit 0 [0, 3, 4, 5, 6, 7, 8, 9] zq81_S1) (fit 0 [0, 3, 4, 5, 6, 7, 8] zq81_S2) (zq81_K4 N)
theorem zq81_6_b (N) : Bk 0 (zq81_C N) [0, 3, 4, 5, 6] zq81_S0 (zq81_L2.drop 3) (fun y => zq81_6 N y.1.1 y.1.2.1 y.2.1 y.2.2.1 y.2.2.2.1) (zq81_K2 N) :=
 cE 1
theorem zq81_s8_b (N) : Bk 0 (zq81_C N) [0, 3, 4, 5, 6, 7, 8, 9] zq81_S1 (zq81_L8.drop 0) (fun y => zq81_s8 N y.1.1 y.1.2.1 y.1.2.2.1 y.1.2.2.2.1 y.2.1 y.2.2.1 y.2.2.2.1 y.2.2.2.2.1) (zq81_K8 N) :=
 cE 4
theorem zq81_9_b (N) : Bk 0 (zq81_C N) [0, 3, 4, 5, 6, 7, 8] zq81_S2 (zq81_L4b.drop 6) (fun y => zq81_9 N y.1.1 y.1.2.1 y.1.2.2.1 y.2.1 y.2.2.1 y.2.2.2.1 y.2.2.2.2.1) (zq81_K4 N) :=
 cE 1
theorem zq81_7_b (N) : Bk 0 (zq81_C N) [0, 3, 4, 5, 6, 7, 8, 9] zq81_S1 (zq81_L4b.drop 5) (fun y => zq81_7 N y.1.1 y.1.2.1 y.1.2.2.1 y.1.2.2.2.1 y.2.1 y.2.2.1 y.2.2.2.1 y.2.2.2.2.1) (zq81_K4 N) :=
 lG N zq81_S1 [0, 3, 4, 5, 6, 7, 8] zq81_S2 (zq81_9_b N) (zq81_s8_b N)
theorem zq81_5_b (N) : Bk 0 (zq81_C N) [0, 3, 4, 5, 6] zq81_S0 (zq81_L4b.drop 0) (fun y => zq81_5 N y.1.1 y.1.2.1 y.2.1 y.2.2.1 y.2.2.2.1) (zq81_K4 N) :=
 cG 5 (zq81_7_b N)
theorem zq81_3_b (N) : Bk 0 (zq81_C N) [0, 3, 4, 5, 6] zq81_S0 (zq81_L2.drop 2) (fun y => zq81_3 N y.1.1 y.1.2.1 y.2.1 y.2.2.1 y.2.2.2.1) (zq81_K2 N) :=
 fun hb => Blk.blockAt (bid := 1) (X := (goK 0 [0, 3, 4, 5, 6] zq81_S0 (fun y => zq81_6 N y.1.1 y.1.2.1 y.2.1 y.2.2.1 y.2.2.2.1))) (Y := (goK 0 [0, 3, 4, 5, 6] zq81_S0 (fun y => zq81_5 N y.1.1 y.1.2.1 y.2.1 y.2.2.1 y.2.2.2.1))) (by kernel_rfl) (NxOk.go hb (zq81_6_b N hb)) (NxOk.go hb (zq81_5_b N hb)) (fun x => by kernel_rfl)
theorem zq81_s2_b (N) : Bk 0 (zq81_C N) [0, 3, 4, 5, 6] zq81_S0 (zq81_L2.drop 0) (fun y => zq81_s2 N y.1.1 y.1.2.1 y.2.1 y.2.2.1 y.2.2.2.1) (zq81_K2 N) :=
 cG 2 (zq81_3_b N)
theorem zq81_10_b (N) : Bk 0 (zq81_C N) [] zq81_S3 (zq81_L.drop 5) (fun y => zq81_10 N) zq81_K :=
 cE 2
theorem zq81_1_b (N) : Bk 0 (zq81_C N) [0, 3, 4, 5, 6] zq81_S0 (zq81_L.drop 4) (fun y => zq81_1 N y.1.1 y.1.2.1 y.2.1 y.2.2.1 y.2.2.2.1) zq81_K :=
 lG N zq81_S0 [] zq81_S3 (zq81_10_b N) (zq81_s2_b N)
theorem zq81_b (N) : Bk 0 (zq81_C N) (List.range zq81_S4.ks.length) zq81_S4 (zq81_L.drop 0) (fun y => zq81 N y.1.1) zq81_K :=
 cG 4 (zq81_1_b N)
def zq81_ctr (N : Nat) : Ctr := ⟨zq81_S4, zq81_S5.un [false], 0, (fun y => zq81 N y.1.1)⟩
theorem zq81_ok (N : Nat) : COk 21 (zq81_ctr N) :=
 cF (zw2 (Γ := zq81_C N) zw1 (csc (zq77_ok N) (csc (zq64_ok N) (csc (zq103_ok N) (csc (zq29_ok N) (csc (zq70_ok N) csn)))))) Tryz.func21 Tryz.ntmps21 (zq81_b N)
abbrev zq12_R : Type := (((List UInt8) × Unit) × (D91 × Unit))
def zq12_1 (N : Nat) (n_1 : Int) (p0 : D91) : Option zq12_R :=
 bif decide (0 ≤ (0 : Int)) && decide ((0 : Int) ≤ n_1) && decide (n_1 ≤ (p0.1.length : Int)) && true then
 bif decide (0 ≤ n_1) && decide (n_1 ≤ (p0.1.length : Int)) && decide ((p0.1.length : Int) ≤ (p0.1.length : Int)) && true then
 some (((cut p0.1 0 n_1.toNat), ()), (((cut p0.1 n_1.toNat p0.1.length), p0.2.1, ()), ()))
 else none
 else none
def zq12 (N : Nat) (n_1 : Int) (r_0 : D91) : Option zq12_R :=
 bif (decide ((r_0.1.length : Int) < n_1)) then
  none
 else
  zq12_1 N n_1 r_0
def zq12_C (N : Nat) := Cx 30 []
def zq12_S0 : Spec := ⟨[.ref 0 T91, .val .i64], [(.box 92 T91, .fix 0)]⟩
def zq12_S1 : Spec := ⟨[.ref 0 T91, .val .i64], [(.box 92 T91, .pos 0)]⟩
def zq12_S2 : Spec := ⟨[.val (.sl .u8)], [(.box 92 T91, .fix 0)]⟩
def zq12_K : XE → GS → Option zq12_R := retK 1 [4] [false] zq12_S2
noncomputable def zq12_L : List Code := (bodyOf (some Tryz.f99))
theorem zq12_1_b (N) : Bk 1 (zq12_C N) [0, 1] zq12_S0 (zq12_L.drop 3) (fun y => zq12_1 N y.1.1 y.2.1) zq12_K :=
 cE 4
theorem zq12_b (N) : Bk 1 (zq12_C N) (List.range zq12_S1.ks.length) zq12_S1 (zq12_L.drop 0) (fun y => zq12 N y.1.1 y.2.1) zq12_K :=
 cG 3 (zq12_1_b N)
def zq12_ctr (N : Nat) : Ctr := ⟨zq12_S1, zq12_S2.un [false], 1, (fun y => zq12 N y.1.1 y.2.1)⟩
theorem zq12_ok (N : Nat) : COk 99 (zq12_ctr N) :=
 cF (zw2 (Γ := zq12_C N) zw1 csn) Tryz.func99 Tryz.ntmps99 (zq12_b N)
abbrev zq5_R : Type := ((UInt64 × Unit) × (D91 × Unit))
def zq5 (N : Nat) (width_1 : Int) (r_0 : D91) : Option zq5_R :=
 Option.bind (zq12 N width_1 r_0) fun y1 =>
 Option.bind (zq82 N y1.1.1 (0 : Int) width_1) fun y2 =>
 some ((y2.1.1, ()), (y1.2.1, ()))
def zq5_C (N : Nat) := Cx 16 [(99, zq12_ctr N), (44, zq82_ctr N)]
def zq5_S0 : Spec := ⟨[.ref 0 T91, .val .i64], [(.box 92 T91, .pos 0)]⟩
def zq5_S1 : Spec := ⟨[.val .u64], [(.box 92 T91, .fix 0)]⟩
def zq5_K : XE → GS → Option zq5_R := retK 1 [4] [false] zq5_S1
noncomputable def zq5_L : List Code := (bodyOf (some Tryz.f100))
theorem zq5_b (N) : Bk 1 (zq5_C N) (List.range zq5_S0.ks.length) zq5_S0 (zq5_L.drop 0) (fun y => zq5 N y.1.1 y.2.1) zq5_K :=
 cE 4
def zq5_ctr (N : Nat) : Ctr := ⟨zq5_S0, zq5_S1.un [false], 1, (fun y => zq5 N y.1.1 y.2.1)⟩
theorem zq5_ok (N : Nat) : COk 100 (zq5_ctr N) :=
 cF (zw2 (Γ := zq5_C N) zw1 (csc (zq12_ok N) (csc (zq82_ok N) csn))) Tryz.func100 Tryz.ntmps100 (zq5_b N)
abbrev zq66_R : Type := ((D24 × Unit) × (Unit))
def zq66 (N : Nat) (n_0 : Int) : Option zq66_R :=
 some ((((10 : Int), n_0, ([] : List Tree), ()), ()), (()))
def zq66_C (N : Nat) := Cx 5 []
def zq66_S0 : Spec := ⟨[.val .i64], []⟩
def zq66_S1 : Spec := ⟨[.fp T24], []⟩
def zq66_K : XE → GS → Option zq66_R := retK 0 [2] [true] zq66_S1
noncomputable def zq66_L : List Code := (bodyOf (some Tryz.f135))
theorem zq66_b (N) : Bk 0 (zq66_C N) (List.range zq66_S0.ks.length) zq66_S0 (zq66_L.drop 0) (fun y => zq66 N y.1.1) zq66_K :=
 cE 3
def zq66_ctr (N : Nat) : Ctr := ⟨zq66_S0, zq66_S1.un [true], 0, (fun y => zq66 N y.1.1)⟩
theorem zq66_ok (N : Nat) : COk 135 (zq66_ctr N) :=
 cF (zw2 (Γ := zq66_C N) zw1 csn) Tryz.func135 Tryz.ntmps135 (zq66_b N)
abbrev zq27_R : Type := ((D24 × Unit) × (Unit))
def zq27 (N : Nat) : Option zq27_R :=
 Option.bind (zq66 N (0 : Int)) fun y1 =>
 some ((y1.1.1, ()), (()))
def zq27_C (N : Nat) := Cx 2 [(135, zq66_ctr N)]
def zq27_S0 : Spec := ⟨[], []⟩
def zq27_S1 : Spec := ⟨[.fp T24], []⟩
def zq27_K : XE → GS → Option zq27_R := retK 0 [0] [true] zq27_S1
noncomputable def zq27_L : List Code := (bodyOf (some Tryz.f120))
theorem zq27_b (N) : Bk 0 (zq27_C N) (List.range zq27_S0.ks.length) zq27_S0 (zq27_L.drop 0) (fun y => zq27 N) zq27_K :=
 cE 3
def zq27_ctr (N : Nat) : Ctr := ⟨zq27_S0, zq27_S1.un [true], 0, (fun y => zq27 N)⟩
theorem zq27_ok (N : Nat) : COk 120 (zq27_ctr N) :=
 cF (zw2 (Γ := zq27_C N) zw1 (csc (zq66_ok N) csn)) Tryz.func120 Tryz.ntmps120 (zq27_b N)
abbrev zq1_R : Type := ((Bool × Unit) × (Unit))
def zq1_s2 (N : Nat) (s1_0 : (List UInt8)) (s2_1 : (List UInt8)) (t_12 : Int) (t_13 : Int) : Option (Lo (((List UInt8) × (List UInt8) × Int × Int × Unit) × (Unit)) ((Unit) × (Unit)) zq1_R) :=
 bif (decide (t_13 < t_12)) then
  bif inR t_13 s1_0.length then
  bif inR t_13 s2_1.length then
  bif (!(decide ((s1_0.getD t_13.toNat (0 : UInt8)) = (s2_1.getD t_13.toNat (0 : UInt8))))) then
   some (.rt ((false, ()), (())))
  else
   some (.go ((s1_0, s2_1, t_12, (w64 (t_13 + (1 : Int))), ()), (())))
  else none
  else none
 else
  some (.br ((()), (())))
def zq1_3 (N : Nat) : Option zq1_R :=
 some ((true, ()), (()))
def zq1_1 (N : Nat) (s1_0 : (List UInt8)) (s2_1 : (List UInt8)) (t_12 : Int) (t_13 : Int) : Option zq1_R :=
 loopK N (fun y => zq1_s2 N y.1.1 y.1.2.1 y.1.2.2.1 y.1.2.2.2.1) (fun (e : ((Unit) × (Unit))) => zq1_3 N) ((s1_0, s2_1, t_12, t_13, ()), (()))
def zq1 (N : Nat) (s1_0 : (List UInt8)) (s2_1 : (List UInt8)) : Option zq1_R :=
 bif (!(decide ((s1_0.length : Int) = (s2_1.length : Int)))) then
  some ((false, ()), (()))
 else
  zq1_1 N s1_0 s2_1 (s1_0.length : Int) (0 : Int)
def zq1_C (N : Nat) := Cx 26 []
def zq1_S0 : Spec := ⟨[.val (.sl .u8), .val (.sl .u8), .val .i64, .val .i64], []⟩
def zq1_S1 : Spec := ⟨[], []⟩
def zq1_S2 : Spec := ⟨[.val (.sl .u8), .val (.sl .u8)], []⟩
def zq1_S3 : Spec := ⟨[.val .bool], []⟩
def zq1_K : XE → GS → Option zq1_R := retK 0 [4] [false] zq1_S3
noncomputable def zq1_L : List Code := (bodyOf (some Tryz.f45))
def zq1_L2 : List Code := (loopOf (zq1_L[4]?))
def zq1_K2 (N : Nat) := roundK (some 0) (fit 0 [0, 1, 12, 13] zq1_S0) (fit 0 [] zq1_S1) zq1_K
theorem zq1_s2_b (N) : Bk 0 (zq1_C N) [0, 1, 12, 13] zq1_S0 (zq1_L2.drop 0) (fun y => zq1_s2 N y.1.1 y.1.2.1 y.1.2.2.1 y.1.2.2.2.1) (zq1_K2 N) :=
 cE 4
theorem zq1_3_b (N) : Bk 0 (zq1_C N) [] zq1_S1 (zq1_L.drop 5) (fun y => zq1_3 N) zq1_K :=
 cE 2
theorem zq1_1_b (N) : Bk 0 (zq1_C N) [0, 1, 12, 13] zq1_S0 (zq1_L.drop 4) (fun y => zq1_1 N y.1.1 y.1.2.1 y.1.2.2.1 y.1.2.2.2.1) zq1_K :=
 lG N zq1_S0 [] zq1_S1 (zq1_3_b N) (zq1_s2_b N)
theorem zq1_b (N) : Bk 0 (zq1_C N) (List.range zq1_S2.ks.length) zq1_S2 (zq1_L.drop 0) (fun y => zq1 N y.1.1 y.1.2.1) zq1_K :=
 cG 4 (zq1_1_b N)
def zq1_ctr (N : Nat) : Ctr := ⟨zq1_S2, zq1_S3.un [false], 0, (fun y => zq1 N y.1.1 y.1.2.1)⟩
theorem zq1_ok (N : Nat) : COk 45 (zq1_ctr N) :=
 cF (zw2 (Γ := zq1_C N) zw1 csn) Tryz.func45 Tryz.ntmps45 (zq1_b N)
abbrev zq8_R : Type := ((D24 × Unit) × (D91 × Unit))
def zq8_1 (N : Nat) (t_26 : Bool) (p0 : D91) (t_2 : D24) (t_3 : D24) : Option zq8_R :=
 bif t_26 then
  Option.bind (zq27 N) fun y6 =>
  some ((y6.1.1, ()), (p0, ()))
 else
  some ((t_3, ()), (p0, ()))
def zq8 (N : Nat) (r_0 : D91) : Option zq8_R :=
 Option.bind (zq5 N (8 : Int) r_0) fun y1 =>
 let x2 := w64 (y1.1.1.toNat : Int)
 Option.bind (zq12 N (16 : Int) y1.2.1) fun y3 =>
 Option.bind (zq39 N ((2 : Int), x2, ([] : List Tree), ())) fun y4 =>
 bif (!(decide (y4.1.1 = (0 : Int)))) then
  zq8_1 N true y3.2.1 ((0 : Int), (0 : Int), ([] : List Tree), ()) ((2 : Int), x2, ([] : List Tree), ())
 else
  bif decide (0 ≤ (0 : Int)) && decide ((0 : Int) ≤ (16 : Int)) && decide ((16 : Int) ≤ (y4.2.1.length : Int)) && true then
  Option.bind (zq1 N (cut y4.2.1 0 16) y3.1.1) fun y8 =>
  zq8_1 N (!y8.1.1) y3.2.1 ((0 : Int), (0 : Int), ([] : List Tree), ()) ((2 : Int), x2, ([] : List Tree), ())
  else none
def zq8_C (N : Nat) := Cx 29 [(100, zq5_ctr N), (99, zq12_ctr N), (14, zq39_ctr N), (120, zq27_ctr N), (45, zq1_ctr N)]
def zq8_S0 : Spec := ⟨[.ref 1 T24, .ref 2 T24, .val .bool], [(.box 92 T91, .fix 0), (.box 24 T24, .pos 0), (.box 24 T24, .pos 1)]⟩
def zq8_S1 : Spec := ⟨[.ref 0 T91], [(.box 92 T91, .pos 0)]⟩
def zq8_S2 : Spec := ⟨[.fp T24], [(.box 92 T91, .fix 0)]⟩
def zq8_K : XE → GS → Option zq8_R := retK 1 [2] [true] zq8_S2
noncomputable def zq8_L : List Code := (bodyOf (some Tryz.f101))
theorem zq8_1_b (N) : Bk 1 (zq8_C N) [2, 3, 26] zq8_S0 (zq8_L.drop 5) (fun y => zq8_1 N y.1.1 y.2.1 y.2.2.1 y.2.2.2.1) zq8_K :=
 cE 3
theorem zq8_b (N) : Bk 1 (zq8_C N) (List.range zq8_S1.ks.length) zq8_S1 (zq8_L.drop 0) (fun y => zq8 N y.2.1) zq8_K :=
 cG 5 (zq8_1_b N)
def zq8_ctr (N : Nat) : Ctr := ⟨zq8_S1, zq8_S2.un [true], 1, (fun y => zq8 N y.2.1)⟩
theorem zq8_ok (N : Nat) : COk 101 (zq8_ctr N) :=
 cF (zw2 (Γ := zq8_C N) zw1 (csc (zq5_ok N) (csc (zq12_ok N) (csc (zq39_ok N) (csc (zq27_ok N) (csc (zq1_ok N) csn)))))) Tryz.func101 Tryz.ntmps101 (zq8_b N)
abbrev zq10_R : Type := ((D24 × Unit) × (D91 × Unit))
def zq10_s2 (N : Nat) (rc : (List UInt8) → (List D24) → Option ((D24 × Unit) × (Unit))) (t_5 : UInt64) (t_6 : UInt64) (p0 : D91) (t_2 : D24) (l_3 : (List D24)) : Option (Lo ((UInt64 × UInt64 × Unit) × (D91 × D24 × (List D24) × Unit)) ((Unit) × (D91 × D24 × (List D24) × Unit)) zq10_R) :=
 bif (decide (t_6 < t_5)) then
  Option.bind (zq5 N (2 : Int) p0) fun y3 =>
  Option.bind (zq12 N (w64 (y3.1.1.toNat : Int)) y3.2.1) fun y5 =>
  Option.bind (rc y5.1.1 y5.2.1.2.1) fun y6 =>
  bif room (l_3.length + ([y6.1.1] : List D24).length) 40 then
  some (.go ((t_5, (t_6 + (1 : UInt64)), ()), (y5.2.1, t_2, (l_3 ++ ([y6.1.1] : List D24)), ())))
  else none
 else
  some (.br ((()), (p0, t_2, l_3, ())))
def zq10_3 (N : Nat) (rc : (List UInt8) → (List D24) → Option ((D24 × Unit) × (Unit))) (p0 : D91) (t_2 : D24) (l_3 : (List D24)) : Option zq10_R :=
 some ((((3 : Int), (0 : Int), List.map mkT l_3, ()), ()), (p0, ()))
def zq10_1 (N : Nat) (rc : (List UInt8) → (List D24) → Option ((D24 × Unit) × (Unit))) (t_5 : UInt64) (t_6 : UInt64) (p0 : D91) (t_2 : D24) (l_3 : (List D24)) : Option zq10_R :=
 loopK N (fun y => zq10_s2 N rc y.1.1 y.1.2.1 y.2.1 y.2.2.1 y.2.2.2.1) (fun (e : ((Unit) × (D91 × D24 × (List D24) × Unit))) => zq10_3 N rc e.2.1 e.2.2.1 e.2.2.2.1) ((t_5, t_6, ()), (p0, t_2, l_3, ()))
def zq10 (N : Nat) (rc : (List UInt8) → (List D24) → Option ((D24 × Unit) × (Unit))) (r_0 : D91) : Option zq10_R :=
 Option.bind (zq5 N (2 : Int) r_0) fun y1 =>
 zq10_1 N rc y1.1.1 (0 : UInt64) y1.2.1 ((0 : Int), (0 : Int), ([] : List Tree), ()) ([] : List D24)
def zq10_S0 : Spec := ⟨[.ref 0 T91, .ref 1 T24, .row 2, .val .u64, .val .u64], [(.box 92 T91, .fix 0), (.box 24 T24, .pos 1), (.row 24 T24, .pos 2)]⟩
def zq10_S1 : Spec := ⟨[.ref 1 T24, .row 2], [(.box 92 T91, .fix 0), (.box 24 T24, .pos 0), (.row 24 T24, .pos 1)]⟩
def zq10_S2 : Spec := ⟨[.ref 0 T91], [(.box 92 T91, .pos 0)]⟩
def zq10_S3 : Spec := ⟨[.fp T24], [(.box 92 T91, .fix 0)]⟩
def zq10_S4 : Spec := ⟨[.val (.sl .u8), .val (.sl T24)], []⟩
def zq10_S5 : Spec := ⟨[.fp T24], []⟩
def zq10_ftr (N : Nat) (rc : (List UInt8) → (List D24) → Option ((D24 × Unit) × (Unit))) : Ctr := ⟨zq10_S4, zq10_S5.un [true], 0, (fun y => rc y.1.1 y.1.2.1)⟩
def zq10_C (N : Nat) (rc : (List UInt8) → (List D24) → Option ((D24 × Unit) × (Unit))) := Cx 24 [(100, zq5_ctr N), (99, zq12_ctr N), (50, zq10_ftr N rc)]
def zq10_K : XE → GS → Option zq10_R := retK 1 [2] [true] zq10_S3
noncomputable def zq10_L : List Code := (bodyOf (some Tryz.f102))
def zq10_L2 : List Code := (loopOf (zq10_L[3]?))
def zq10_K2 (N : Nat) (rc : (List UInt8) → (List D24) → Option ((D24 × Unit) × (Unit))) := roundK (some 0) (fit 1 [0, 2, 3, 5, 6] zq10_S0) (fit 1 [2, 3] zq10_S1) zq10_K
def opsOf : Option Code → Array Oper
 | some (.block _ (.region _ ops _)) => ops
 | _ => #[]
def ridOf : Option Code → Nat
 | some (.block _ (.region r _ _)) => r
 | _ => 0
def lsO : Array Oper := opsOf (zq10_L2[2]?)
def lsR : Nat := ridOf (zq10_L2[2]?)
def zq10_s2x (N : Nat) (rc : (List UInt8) → (List D24) → Option ((D24 × Unit) × (Unit))) (t_5 : UInt64) (t_6 : UInt64) (p0 : D91) (t_2 : D24) (l_3 : (List D24)) : Option (Lo ((UInt64 × UInt64 × Unit) × (D91 × D24 × (List D24) × Unit)) ((Unit) × (D91 × D24 × (List D24) × Unit)) zq10_R) :=
  Option.bind (zq5 N (2 : Int) p0) fun y3 =>
  Option.bind (zq12 N (w64 (y3.1.1.toNat : Int)) y3.2.1) fun y5 =>
  Option.bind (rc y5.1.1 y5.2.1.2.1) fun y6 =>
  bif room (l_3.length + ([y6.1.1] : List D24).length) 40 then
  some (.go ((t_5, (t_6 + (1 : UInt64)), ()), (y5.2.1, t_2, (l_3 ++ ([y6.1.1] : List D24)), ())))
  else none
noncomputable abbrev lsS (y : zq10_S0.den) : GS := { zq10_S0.st [0, 2, 3, 5, 6] y with next := (zq10_S0.st [0, 2, 3, 5, 6] y).next + 4 * lsO.toList.length }
noncomputable abbrev lsX {T : Type} (N : Nat) (rc : (List UInt8) → (List D24) → Option ((D24 × Unit) × (Unit))) (y : zq10_S0.den) (k : Nat) : (GS → Option T) → Option T := regDX (zq10_C N rc) 9 [(false, 16)] (true, 0) lsO.toList (zq10_S0.st [0, 2, 3, 5, 6] y).next (lsO.toList.take k) 0 [] ((lsS y))
theorem zwf0 : zq10_L2.drop 2 = .block 1 (.region lsR lsO true) :: zq10_L2.drop 3 := by kernel_rfl
theorem zwf1 (N : Nat) (rc : (List UInt8) → (List D24) → Option ((D24 × Unit) × (Unit))) (y : zq10_S0.den) : zq10_s2x N rc y.1.1 y.1.2.1 y.2.1 y.2.2.1 y.2.2.2.1 =
  regDX (zq10_C N rc) 9 [(false, 16)] (true, 0) lsO.toList (zq10_S0.st [0, 2, 3, 5, 6] y).next lsO.toList 0 [] (lsS y) (blockK 1 (fun s => listK (zq10_C N rc) (zq10_L2.drop 3) s (zq10_K2 N rc)) (zq10_K2 N rc) .normal) := by kernel_rfl
theorem zw94 (N : Nat) (rc : (List UInt8) → (List D24) → Option ((D24 × Unit) × (Unit))) (B : Nat) (o : Oper) (ho : lsO.toList[9]? = some o) (σ : GS) (z : D91) (h1 : look 16 σ.slots = some (.sv (.ref 0 T91 [.fld 1]))) (h2 : look 0 σ.objs = some (.box 92 T91 z true)) :
  (opRT (zq10_C N rc) lsO.toList B o).run σ = some [.slot 17 (some (.sv (.data (.sl T24) z.2.1)))] := by
 obtain ⟨o', ho', e1⟩ : ∃ o', lsO.toList[9]? = some o' ∧ opRT (zq10_C N rc) lsO.toList B o' = RT.get 16 (fun g => match g with | .sv v => loadR 22 (.sl T24) v (fun u ws => dstR (zq10_C N rc) o' (.sv u) ws) | _ => .fail) := by
  refine ⟨(lsO.toList[9]?).getD default, ?_, ?_⟩
  · kernel_rfl
  · kernel_rfl
 rw [ho] at ho'
 cases ho'
 rw [e1]
 simp only [RT.run, h1]
 simp only [loadR, RT.run, h2]
 have ho2 : o = (lsO.toList[9]?).getD default := by rw [ho]; rfl
 rw [ho2]
 show (_ : Option (List Wr)) = _
 kernel_rfl
theorem zw95 {N : Nat} {n : Int} {c : D91} {y : zq12_R} (h : zq12 N n c = some y) : y.2.1.2.1 = c.2.1 := by
 unfold zq12 at h
 cases h1 : decide ((c.1.length : Int) < n) with
 | true => rw [h1] at h; cases h
 | false =>
  rw [h1, cond_false] at h
  unfold zq12_1 at h
  cases h2 : (decide (0 ≤ (0 : Int)) && decide ((0 : Int) ≤ n) && decide (n ≤ (c.1.length : Int)) && true) with
  | false => rw [h2] at h; cases h
  | true =>
   rw [h2, cond_true] at h
   cases h3 : (decide (0 ≤ n) && decide (n ≤ (c.1.length : Int)) && decide ((c.1.length : Int) ≤ (c.1.length : Int)) && true) with
   | false => rw [h3] at h; cases h
   | true =>
    rw [h3, cond_true] at h
    cases h
    rfl
theorem zwf2 {N : Nat} {n : Int} {c : D91} {y : zq5_R} (h : zq5 N n c = some y) : y.2.1.2.1 = c.2.1 := by
 unfold zq5 at h
 simp only [Option.bind_eq_some_iff, Option.some.injEq] at h
 obtain ⟨y1, h1, y2, _, h⟩ := h
 subst h
 exact zw95 h1
theorem zwf3 (N : Nat) (rc : (List UInt8) → (List D24) → Option ((D24 × Unit) × (Unit))) (y : zq10_S0.den) (r) (hr : zq10_s2x N rc y.1.1 y.1.2.1 y.2.1 y.2.2.1 y.2.2.2.1 = some r) (t : Tr)
  (ht : zw3n (zq10_C N rc) lsO.toList (zq10_S0.st [0, 2, 3, 5, 6] y).next (lsS y) t) (k : Nat) (hk : k ≤ lsO.size) (o : Oper) (ho : lsO.toList[9]? = some o) (σ : GS)
  (hag : agree (cutL [(false, 16)] (true, 0) (t.getD 9 ([], [])).2) (GS.app (lsS y) ((t.take 9).flatMap (·.1))) σ)
  (hlike : (GS.app (lsS y) ((t.take k).flatMap (·.1))).like σ (true, 0)) :
  (opRT (zq10_C N rc) lsO.toList ((zq10_S0.st [0, 2, 3, 5, 6] y).next + 4 * 9) o).run σ = some (t.w 9) := by
 unfold zq10_s2x at hr
 simp only [Option.bind_eq_some_iff] at hr
 obtain ⟨y3, h3, y5, h5, y6, h6, hr⟩ := hr
 have hroom : room (y.2.2.2.1.length + ([y6.1.1] : List D24).length) 40 = true := by
  cases hc : room (y.2.2.2.1.length + ([y6.1.1] : List D24).length) 40 with
  | true => rfl
  | false => rw [hc] at hr; cases hr
 have k3 := zwf2 h3
 have k5 := (zw95 h5).trans k3
 have hsz : lsO.size = 14 := by kernel_rfl
 have hln : lsO.toList.length = 14 := by kernel_rfl
 obtain ⟨s0, hs0⟩ : ∃ s0 : GS, s0 = (lsS y) := ⟨_, rfl⟩
 have hobj : ∀ k, k ≤ 14 → ∃ z : D91, look 0 (s0.app ((t.take k).flatMap (·.1))).objs = some (.box 92 T91 z true) ∧ z.2.1 = y.2.1.2.1 := by
  intro k hk
  rw [hs0]
  match k, hk with
  | 0, _ =>
   have e : lsX N rc y 0 (fun s => look 0 s.objs) = (some (Ob.box 92 T91 y.2.1 true)) := by kernel_rfl
   exact ⟨y.2.1, zwy ht (by omega) (fun s s' h => (h.objs 0).symm) (e.trans (by rfl)), rfl⟩
  | 1, _ =>
   have e : lsX N rc y 1 (fun s => look 0 s.objs) = (some (Ob.box 92 T91 y.2.1 true)) := by kernel_rfl
   exact ⟨y.2.1, zwy ht (by omega) (fun s s' h => (h.objs 0).symm) (e.trans (by rfl)), rfl⟩
  | 2, _ =>
   have e : lsX N rc y 2 (fun s => look 0 s.objs) = (some (Ob.box 92 T91 y.2.1 true)) := by kernel_rfl
   exact ⟨y.2.1, zwy ht (by omega) (fun s s' h => (h.objs 0).symm) (e.trans (by rfl)), rfl⟩
  | 3, _ =>
   have e : lsX N rc y 3 (fun s => look 0 s.objs) = (some (Ob.box 92 T91 y.2.1 true)) := by kernel_rfl
   exact ⟨y.2.1, zwy ht (by omega) (fun s s' h => (h.objs 0).symm) (e.trans (by rfl)), rfl⟩
  | 4, _ =>
   have e : lsX N rc y 4 (fun s => look 0 s.objs) = (Option.bind (zq5 N (2 : Int) y.2.1) fun y3 => some (Ob.box 92 T91 y3.2.1 true)) := by kernel_rfl
   exact ⟨y3.2.1, zwy ht (by omega) (fun s s' h => (h.objs 0).symm) (e.trans (by rw [h3, Option.bind_some])), k3⟩
  | 5, _ =>
   have e : lsX N rc y 5 (fun s => look 0 s.objs) = (Option.bind (zq5 N (2 : Int) y.2.1) fun y3 => some (Ob.box 92 T91 y3.2.1 true)) := by kernel_rfl
   exact ⟨y3.2.1, zwy ht (by omega) (fun s s' h => (h.objs 0).symm) (e.trans (by rw [h3, Option.bind_some])), k3⟩
  | 6, _ =>
   have e : lsX N rc y 6 (fun s => look 0 s.objs) = (Option.bind (zq5 N (2 : Int) y.2.1) fun y3 => Option.bind (zq12 N (w64 (y3.1.1.toNat : Int)) y3.2.1) fun y5 => some (Ob.box 92 T91 y5.2.1 true)) := by kernel_rfl
   exact ⟨y5.2.1, zwy ht (by omega) (fun s s' h => (h.objs 0).symm) (e.trans (by rw [h3, Option.bind_some, h5, Option.bind_some])), k5⟩
  | 7, _ =>
   have e : lsX N rc y 7 (fun s => look 0 s.objs) = (Option.bind (zq5 N (2 : Int) y.2.1) fun y3 => Option.bind (zq12 N (w64 (y3.1.1.toNat : Int)) y3.2.1) fun y5 => some (Ob.box 92 T91 y5.2.1 true)) := by kernel_rfl
   exact ⟨y5.2.1, zwy ht (by omega) (fun s s' h => (h.objs 0).symm) (e.trans (by rw [h3, Option.bind_some, h5, Option.bind_some])), k5⟩
  | 8, _ =>
   have e : lsX N rc y 8 (fun s => look 0 s.objs) = (Option.bind (zq5 N (2 : Int) y.2.1) fun y3 => Option.bind (zq12 N (w64 (y3.1.1.toNat : Int)) y3.2.1) fun y5 => some (Ob.box 92 T91 y5.2.1 true)) := by kernel_rfl
   exact ⟨y5.2.1, zwy ht (by omega) (fun s s' h => (h.objs 0).symm) (e.trans (by rw [h3, Option.bind_some, h5, Option.bind_some])), k5⟩
  | 9, _ =>
   have e : lsX N rc y 9 (fun s => look 0 s.objs) = (Option.bind (zq5 N (2 : Int) y.2.1) fun y3 => Option.bind (zq12 N (w64 (y3.1.1.toNat : Int)) y3.2.1) fun y5 => some (Ob.box 92 T91 y5.2.1 true)) := by kernel_rfl
   exact ⟨y5.2.1, zwy ht (by omega) (fun s s' h => (h.objs 0).symm) (e.trans (by rw [h3, Option.bind_some, h5, Option.bind_some])), k5⟩
  | 10, _ =>
   have e : lsX N rc y 10 (fun s => look 0 s.objs) = (Option.bind (zq5 N (2 : Int) y.2.1) fun y3 => Option.bind (zq12 N (w64 (y3.1.1.toNat : Int)) y3.2.1) fun y5 => some (Ob.box 92 T91 y5.2.1 true)) := by kernel_rfl
   exact ⟨y5.2.1, zwy ht (by omega) (fun s s' h => (h.objs 0).symm) (e.trans (by rw [h3, Option.bind_some, h5, Option.bind_some])), k5⟩
  | 11, _ =>
   have e : lsX N rc y 11 (fun s => look 0 s.objs) = (Option.bind (zq5 N (2 : Int) y.2.1) fun y3 => Option.bind (zq12 N (w64 (y3.1.1.toNat : Int)) y3.2.1) fun y5 => Option.bind (rc y5.1.1 y5.2.1.2.1) fun y6 => some (Ob.box 92 T91 y5.2.1 true)) := by kernel_rfl
   exact ⟨y5.2.1, zwy ht (by omega) (fun s s' h => (h.objs 0).symm) (e.trans (by rw [h3, Option.bind_some, h5, Option.bind_some, h6, Option.bind_some])), k5⟩
  | 12, _ =>
   have e : lsX N rc y 12 (fun s => look 0 s.objs) = (Option.bind (zq5 N (2 : Int) y.2.1) fun y3 => Option.bind (zq12 N (w64 (y3.1.1.toNat : Int)) y3.2.1) fun y5 => Option.bind (rc y5.1.1 y5.2.1.2.1) fun y6 => some (Ob.box 92 T91 y5.2.1 true)) := by kernel_rfl
   exact ⟨y5.2.1, zwy ht (by omega) (fun s s' h => (h.objs 0).symm) (e.trans (by rw [h3, Option.bind_some, h5, Option.bind_some, h6, Option.bind_some])), k5⟩
  | 13, _ =>
   have e : lsX N rc y 13 (fun s => look 0 s.objs) = (Option.bind (zq5 N (2 : Int) y.2.1) fun y3 => Option.bind (zq12 N (w64 (y3.1.1.toNat : Int)) y3.2.1) fun y5 => Option.bind (rc y5.1.1 y5.2.1.2.1) fun y6 => bif room (y.2.2.2.1.length + ([y6.1.1] : List D24).length) 40 then some (Ob.box 92 T91 y5.2.1 true) else none) := by kernel_rfl
   exact ⟨y5.2.1, zwy ht (by omega) (fun s s' h => (h.objs 0).symm) (e.trans (by rw [h3, Option.bind_some, h5, Option.bind_some, h6, Option.bind_some, hroom, cond_true])), k5⟩
  | 14, _ =>
   have e : lsX N rc y 14 (fun s => look 0 s.objs) = (Option.bind (zq5 N (2 : Int) y.2.1) fun y3 => Option.bind (zq12 N (w64 (y3.1.1.toNat : Int)) y3.2.1) fun y5 => Option.bind (rc y5.1.1 y5.2.1.2.1) fun y6 => bif room (y.2.2.2.1.length + ([y6.1.1] : List D24).length) 40 then some (Ob.box 92 T91 y5.2.1 true) else none) := by kernel_rfl
   exact ⟨y5.2.1, zwy ht (by omega) (fun s s' h => (h.objs 0).symm) (e.trans (by rw [h3, Option.bind_some, h5, Option.bind_some, h6, Option.bind_some, hroom, cond_true])), k5⟩
  | n + 15, h => exact absurd h (by omega)
 have hslot : look 16 (s0.app ((t.take 9).flatMap (·.1))).slots = some (.sv (.ref 0 T91 [.fld 1])) := by
  rw [hs0]
  have e : lsX N rc y 9 (fun s => look 16 s.slots) = (Option.bind (zq5 N (2 : Int) y.2.1) fun y3 => Option.bind (zq12 N (w64 (y3.1.1.toNat : Int)) y3.2.1) fun y5 => some (GV.sv (SV.ref 0 T91 [PS.fld 1]))) := by kernel_rfl
  exact zwy ht (by omega) (fun s s' h => (h.slots 16).symm) (e.trans (by rw [h3, Option.bind_some, h5, Option.bind_some]))
 rw [← hs0] at hag hlike ht
 obtain ⟨z9, o9, e9⟩ := hobj 9 (by omega)
 obtain ⟨zk, ok, ek⟩ := hobj k (by omega)
 obtain ⟨ws, rd, t1, t2⟩ := ht.2 9 o ho
 have r9 := t2 _ fun l _ => zw4a _ l
 rw [zw94 N rc _ o ho _ z9 hslot o9] at r9
 have hw : t.w 9 = ws := by simp [Tr.w, t1]
 have hs16 : look 16 σ.slots = some (.sv (.ref 0 T91 [.fld 1])) := by
  have h16 := hag (false, 16) (by simp [cutL])
  have h16' : look 16 σ.slots = look 16 (s0.app ((t.take 9).flatMap (·.1))).slots := h16
  rw [h16', hslot]
 have ho0 : look 0 σ.objs = some (.box 92 T91 zk true) := by
  have h0 : look 0 σ.objs = look 0 (s0.app ((t.take k).flatMap (·.1))).objs := hlike
  rw [h0, ok]
 rw [zw94 N rc _ o ho _ zk hs16 ho0, hw, ← r9, ek, e9]
theorem zq10_s2x_b {E : Env} (N : Nat) (rc : (List UInt8) → (List D24) → Option ((D24 × Unit) × (Unit))) (hb : Base Tryz.prog (zq10_C N rc) E 1) : Blk Tryz.prog (zq10_C N rc) E [0, 2, 3, 5, 6] zq10_S0 (zq10_L2.drop 2) (fun y => zq10_s2x N rc y.1.1 y.1.2.1 y.2.1 y.2.2.1 y.2.2.2.1) (zq10_K2 N rc) :=
 Blk.regionX hb 9 [(false, 16)] (true, 0) zwf0 (NxOk.raw hb) (fun y => zwf1 N rc y) (fun y r hr t ht k hk o ho σ hag hlike => zwf3 N rc y r hr t ht k hk o ho σ hag hlike)
theorem zq10_s2_b (N) (rc) : Bk 1 (zq10_C N rc) [0, 2, 3, 5, 6] zq10_S0 (zq10_L2.drop 0) (fun y => zq10_s2 N rc y.1.1 y.1.2.1 y.2.1 y.2.2.1 y.2.2.2.1) (zq10_K2 N rc) :=
 fun hb => Blk.chunkAt hb 2 (X := goK 1 [0, 2, 3, 5, 6] zq10_S0 (fun y => zq10_s2x N rc y.1.1 y.1.2.1 y.2.1 y.2.2.1 y.2.2.2.1)) (NxOk.go hb (zq10_s2x_b N rc hb)) rfl (fun x => by kernel_rfl)
theorem zq10_3_b (N) (rc) : Bk 1 (zq10_C N rc) [2, 3] zq10_S1 (zq10_L.drop 4) (fun y => zq10_3 N rc y.2.1 y.2.2.1 y.2.2.2.1) zq10_K :=
 cE 2
theorem zq10_1_b (N) (rc) : Bk 1 (zq10_C N rc) [0, 2, 3, 5, 6] zq10_S0 (zq10_L.drop 3) (fun y => zq10_1 N rc y.1.1 y.1.2.1 y.2.1 y.2.2.1 y.2.2.2.1) zq10_K :=
 lG N zq10_S0 [2, 3] zq10_S1 (zq10_3_b N rc) (zq10_s2_b N rc)
theorem zq10_b (N) (rc) : Bk 1 (zq10_C N rc) (List.range zq10_S2.ks.length) zq10_S2 (zq10_L.drop 0) (fun y => zq10 N rc y.2.1) zq10_K :=
 cG 3 (zq10_1_b N rc)
def zq10_octr (N : Nat) (rc : (List UInt8) → (List D24) → Option ((D24 × Unit) × (Unit))) : Ctr := ⟨zq10_S2, zq10_S3.un [true], 1, (fun y => zq10 N rc y.2.1)⟩
theorem zq10_ook (N : Nat) (rc : (List UInt8) → (List D24) → Option ((D24 × Unit) × (Unit))) (hf : COk 50 (zq10_ftr N rc))  : COk 102 (zq10_octr N rc) :=
 cF (zw2 (Γ := zq10_C N rc) zw1 (csc (zq5_ok N) (csc (zq12_ok N) (csc hf csn)))) Tryz.func102 Tryz.ntmps102 (zq10_b N rc)
abbrev zq86_R : Type := ((D24 × Unit) × (Unit))
def zq86 (N : Nat) (exponent_0 : D24) : Option zq86_R :=
 some ((((4 : Int), (0 : Int), List.map mkT ([exponent_0] : List D24), ()), ()), (()))
def zq86_C (N : Nat) := Cx 6 []
def zq86_S0 : Spec := ⟨[.val T24], []⟩
def zq86_S1 : Spec := ⟨[.fp T24], []⟩
def zq86_K : XE → GS → Option zq86_R := retK 0 [2] [true] zq86_S1
noncomputable def zq86_L : List Code := (bodyOf (some Tryz.f121))
theorem zq86_b (N) : Bk 0 (zq86_C N) (List.range zq86_S0.ks.length) zq86_S0 (zq86_L.drop 0) (fun y => zq86 N y.1.1) zq86_K :=
 cE 3
def zq86_ctr (N : Nat) : Ctr := ⟨zq86_S0, zq86_S1.un [true], 0, (fun y => zq86 N y.1.1)⟩
theorem zq86_ok (N : Nat) : COk 121 (zq86_ctr N) :=
 cF (zw2 (Γ := zq86_C N) zw1 csn) Tryz.func121 Tryz.ntmps121 (zq86_b N)
abbrev zq6_R : Type := ((D24 × Unit) × (D91 × Unit))
def zq6_1 (N : Nat) (t_17 : Bool) (p0 : D91) (t_2 : D24) (owner_3 : D24) : Option zq6_R :=
 bif t_17 then
  Option.bind (zq27 N) fun y6 =>
  some ((y6.1.1, ()), (p0, ()))
 else
  Option.bind (zq86 N owner_3) fun y7 =>
  some ((y7.1.1, ()), (p0, ()))
def zq6 (N : Nat) (r_0 : D91) : Option zq6_R :=
 Option.bind (zq5 N (8 : Int) r_0) fun y1 =>
 let x2 := w64 (y1.1.1.toNat : Int)
 Option.bind (zq5 N (8 : Int) y1.2.1) fun y3 =>
 Option.bind (zq28 N ((2 : Int), x2, ([] : List Tree), ())) fun y4 =>
 bif (!(decide (y3.1.1 = y4.1.1))) then
  zq6_1 N true y3.2.1 ((0 : Int), (0 : Int), ([] : List Tree), ()) ((2 : Int), x2, ([] : List Tree), ())
 else
  Option.bind (zq98 N ((2 : Int), x2, ([] : List Tree), ())) fun y8 =>
  zq6_1 N (!y8.1.1) y3.2.1 ((0 : Int), (0 : Int), ([] : List Tree), ()) ((2 : Int), x2, ([] : List Tree), ())
def zq6_C (N : Nat) := Cx 21 [(100, zq5_ctr N), (108, zq28_ctr N), (120, zq27_ctr N), (121, zq86_ctr N), (34, zq98_ctr N)]
def zq6_S0 : Spec := ⟨[.ref 1 T24, .ref 2 T24, .val .bool], [(.box 92 T91, .fix 0), (.box 24 T24, .pos 0), (.box 24 T24, .pos 1)]⟩
def zq6_S1 : Spec := ⟨[.ref 0 T91], [(.box 92 T91, .pos 0)]⟩
def zq6_S2 : Spec := ⟨[.fp T24], [(.box 92 T91, .fix 0)]⟩
def zq6_K : XE → GS → Option zq6_R := retK 1 [2] [true] zq6_S2
noncomputable def zq6_L : List Code := (bodyOf (some Tryz.f103))
theorem zq6_1_b (N) : Bk 1 (zq6_C N) [2, 3, 17] zq6_S0 (zq6_L.drop 3) (fun y => zq6_1 N y.1.1 y.2.1 y.2.2.1 y.2.2.2.1) zq6_K :=
 cE 3
theorem zq6_b (N) : Bk 1 (zq6_C N) (List.range zq6_S1.ks.length) zq6_S1 (zq6_L.drop 0) (fun y => zq6 N y.2.1) zq6_K :=
 cG 3 (zq6_1_b N)
def zq6_ctr (N : Nat) : Ctr := ⟨zq6_S1, zq6_S2.un [true], 1, (fun y => zq6 N y.2.1)⟩
theorem zq6_ok (N : Nat) : COk 103 (zq6_ctr N) :=
 cF (zw2 (Γ := zq6_C N) zw1 (csc (zq5_ok N) (csc (zq28_ok N) (csc (zq27_ok N) (csc (zq86_ok N) (csc (zq98_ok N) csn)))))) Tryz.func103 Tryz.ntmps103 (zq6_b N)
abbrev zq16_R : Type := ((D24 × Unit) × (D91 × Unit))
def zq16_1 (N : Nat) (rc : (List UInt8) → (List D24) → Option ((D24 × Unit) × (Unit))) (identity_3 : Int) (t_38 : Bool) (p0 : D91) (t_2 : D24) (t_6 : D24) : Option zq16_R :=
 bif t_38 then
  Option.bind (zq27 N) fun y10 =>
  some ((y10.1.1, ()), (p0, ()))
 else
  some ((((8 : Int), identity_3, List.map mkT ([t_6] : List D24), ()), ()), (p0, ()))
def zq16 (N : Nat) (rc : (List UInt8) → (List D24) → Option ((D24 × Unit) × (Unit))) (r_0 : D91) : Option zq16_R :=
 Option.bind (zq5 N (8 : Int) r_0) fun y1 =>
 let x2 := w64 (y1.1.1.toNat : Int)
 Option.bind (zq5 N (2 : Int) y1.2.1) fun y3 =>
 Option.bind (zq12 N (w64 (y3.1.1.toNat : Int)) y3.2.1) fun y5 =>
 Option.bind (zq12 N (32 : Int) y5.2.1) fun y6 =>
 Option.bind (rc y5.1.1 y6.2.1.2.1) fun y7 =>
 Option.bind (zq40 N x2 y5.1.1) fun y8 =>
 bif (!(decide (y8.1.1 = (0 : Int)))) then
  zq16_1 N rc x2 true y6.2.1 ((0 : Int), (0 : Int), ([] : List Tree), ()) y7.1.1
 else
  Option.bind (zq1 N y8.2.1 y6.1.1) fun y11 =>
  zq16_1 N rc x2 (!y11.1.1) y6.2.1 ((0 : Int), (0 : Int), ([] : List Tree), ()) y7.1.1
def zq16_S0 : Spec := ⟨[.ref 1 T24, .val .i64, .ref 2 T24, .val .bool], [(.box 92 T91, .fix 0), (.box 24 T24, .pos 0), (.box 24 T24, .pos 2)]⟩
def zq16_S1 : Spec := ⟨[.ref 0 T91], [(.box 92 T91, .pos 0)]⟩
def zq16_S2 : Spec := ⟨[.fp T24], [(.box 92 T91, .fix 0)]⟩
def zq16_S3 : Spec := ⟨[.val (.sl .u8), .val (.sl T24)], []⟩
def zq16_S4 : Spec := ⟨[.fp T24], []⟩
def zq16_ftr (N : Nat) (rc : (List UInt8) → (List D24) → Option ((D24 × Unit) × (Unit))) : Ctr := ⟨zq16_S3, zq16_S4.un [true], 0, (fun y => rc y.1.1 y.1.2.1)⟩
def zq16_C (N : Nat) (rc : (List UInt8) → (List D24) → Option ((D24 × Unit) × (Unit))) := Cx 44 [(100, zq5_ctr N), (99, zq12_ctr N), (112, zq40_ctr N), (120, zq27_ctr N), (45, zq1_ctr N), (50, zq16_ftr N rc)]
def zq16_K : XE → GS → Option zq16_R := retK 1 [2] [true] zq16_S2
noncomputable def zq16_L : List Code := (bodyOf (some Tryz.f104))
theorem zq16_1_b (N) (rc) : Bk 1 (zq16_C N rc) [2, 3, 6, 38] zq16_S0 (zq16_L.drop 7) (fun y => zq16_1 N rc y.1.1 y.1.2.1 y.2.1 y.2.2.1 y.2.2.2.1) zq16_K :=
 cE 3
theorem zq16_b (N) (rc) : Bk 1 (zq16_C N rc) (List.range zq16_S1.ks.length) zq16_S1 (zq16_L.drop 0) (fun y => zq16 N rc y.2.1) zq16_K :=
 cG 7 (zq16_1_b N rc)
def zq16_octr (N : Nat) (rc : (List UInt8) → (List D24) → Option ((D24 × Unit) × (Unit))) : Ctr := ⟨zq16_S1, zq16_S2.un [true], 1, (fun y => zq16 N rc y.2.1)⟩
theorem zq16_ook (N : Nat) (rc : (List UInt8) → (List D24) → Option ((D24 × Unit) × (Unit))) (hf : COk 50 (zq16_ftr N rc))  : COk 104 (zq16_octr N rc) :=
 cF (zw2 (Γ := zq16_C N rc) zw1 (csc (zq5_ok N) (csc (zq12_ok N) (csc (zq40_ok N) (csc (zq27_ok N) (csc (zq1_ok N) (csc hf csn))))))) Tryz.func104 Tryz.ntmps104 (zq16_b N rc)
abbrev zq47_R : Type := ((UInt8 × Unit) × (Unit))
def zq47_s2 (N : Nat) (a_0 : (List UInt8)) (b_1 : (List UInt8)) (d_5 : UInt8) (t_8 : Int) (t_9 : Int) : Option (Lo (((List UInt8) × (List UInt8) × UInt8 × Int × Int × Unit) × (Unit)) ((UInt8 × Unit) × (Unit)) zq47_R) :=
 bif (decide (t_9 < t_8)) then
  bif inR t_9 a_0.length then
  bif inR t_9 b_1.length then
  some (.go ((a_0, b_1, (d_5 ||| ((a_0.getD t_9.toNat (0 : UInt8)) ^^^ (b_1.getD t_9.toNat (0 : UInt8)))), t_8, (w64 (t_9 + (1 : Int))), ()), (())))
  else none
  else none
 else
  some (.br ((d_5, ()), (())))
def zq47_3 (N : Nat) (d_5 : UInt8) : Option zq47_R :=
 some ((d_5, ()), (()))
def zq47_1 (N : Nat) (a_0 : (List UInt8)) (b_1 : (List UInt8)) (d_5 : UInt8) (t_8 : Int) (t_9 : Int) : Option zq47_R :=
 loopK N (fun y => zq47_s2 N y.1.1 y.1.2.1 y.1.2.2.1 y.1.2.2.2.1 y.1.2.2.2.2.1) (fun (e : ((UInt8 × Unit) × (Unit))) => zq47_3 N e.1.1) ((a_0, b_1, d_5, t_8, t_9, ()), (()))
def zq47 (N : Nat) (a_0 : (List UInt8)) (b_1 : (List UInt8)) : Option zq47_R :=
 zq47_1 N a_0 b_1 (0 : UInt8) (a_0.length : Int) (0 : Int)
def zq47_C (N : Nat) := Cx 25 []
def zq47_S0 : Spec := ⟨[.val (.sl .u8), .val (.sl .u8), .val .u8, .val .i64, .val .i64], []⟩
def zq47_S1 : Spec := ⟨[.val .u8], []⟩
def zq47_S2 : Spec := ⟨[.val (.sl .u8), .val (.sl .u8)], []⟩
def zq47_K : XE → GS → Option zq47_R := retK 0 [4] [false] zq47_S1
noncomputable def zq47_L : List Code := (bodyOf (some Tryz.f136))
def zq47_L2 : List Code := (loopOf (zq47_L[3]?))
def zq47_K2 (N : Nat) := roundK (some 0) (fit 0 [0, 1, 5, 8, 9] zq47_S0) (fit 0 [5] zq47_S1) zq47_K
theorem zq47_s2_b (N) : Bk 0 (zq47_C N) [0, 1, 5, 8, 9] zq47_S0 (zq47_L2.drop 0) (fun y => zq47_s2 N y.1.1 y.1.2.1 y.1.2.2.1 y.1.2.2.2.1 y.1.2.2.2.2.1) (zq47_K2 N) :=
 cE 4
theorem zq47_3_b (N) : Bk 0 (zq47_C N) [5] zq47_S1 (zq47_L.drop 4) (fun y => zq47_3 N y.1.1) zq47_K :=
 cE 2
theorem zq47_1_b (N) : Bk 0 (zq47_C N) [0, 1, 5, 8, 9] zq47_S0 (zq47_L.drop 3) (fun y => zq47_1 N y.1.1 y.1.2.1 y.1.2.2.1 y.1.2.2.2.1 y.1.2.2.2.2.1) zq47_K :=
 lG N zq47_S0 [5] zq47_S1 (zq47_3_b N) (zq47_s2_b N)
theorem zq47_b (N) : Bk 0 (zq47_C N) (List.range zq47_S2.ks.length) zq47_S2 (zq47_L.drop 0) (fun y => zq47 N y.1.1 y.1.2.1) zq47_K :=
 cG 3 (zq47_1_b N)
def zq47_ctr (N : Nat) : Ctr := ⟨zq47_S2, zq47_S1.un [false], 0, (fun y => zq47 N y.1.1 y.1.2.1)⟩
theorem zq47_ok (N : Nat) : COk 136 (zq47_ctr N) :=
 cF (zw2 (Γ := zq47_C N) zw1 csn) Tryz.func136 Tryz.ntmps136 (zq47_b N)
abbrev zq110_R : Type := ((Int × Unit) × ((List UInt8) × Unit))
def zq110 (N : Nat) (key_0 : (List UInt8)) (nonce_1 : (List UInt8)) (data_2 : (List UInt8)) (sealed_3 : (List UInt8)) : Option zq110_R :=
 Option.bind (zq89 N key_0 nonce_1) fun y1 =>
 bif (!y1.1.1) then
  some (((13 : Int), ()), (([] : List UInt8), ()))
 else
  let x4 := w64 ((sealed_3.length : Int) - (16 : Int))
  bif (decide (x4 < (0 : Int))) then
   some (((1 : Int), ()), (([] : List UInt8), ()))
  else
   bif decide (0 ≤ (0 : Int)) && decide ((0 : Int) ≤ x4) && decide (x4 ≤ (sealed_3.length : Int)) && true then
   Option.bind (zq116 N key_0 nonce_1 data_2 (cut sealed_3 0 x4.toNat)) fun y7 =>
   bif decide (0 ≤ x4) && decide (x4 ≤ (sealed_3.length : Int)) && decide ((sealed_3.length : Int) ≤ (sealed_3.length : Int)) && true then
   Option.bind (zq47 N y7.2.1 (cut sealed_3 x4.toNat sealed_3.length)) fun y9 =>
   bif (!(decide (y9.1.1 = (0 : UInt8)))) then
    some (((12 : Int), ()), (([] : List UInt8), ()))
   else
    bif decide (0 ≤ (0 : Int)) && decide ((0 : Int) ≤ x4) && decide (x4 ≤ (sealed_3.length : Int)) && true then
    Option.bind (zq102 N key_0 (1 : UInt32) nonce_1 (cut sealed_3 0 x4.toNat)) fun y12 =>
    some (((0 : Int), ()), (y12.2.1, ()))
    else none
   else none
   else none
def zq110_C (N : Nat) := Cx 50 [(126, zq89_ctr N), (128, zq116_ctr N), (136, zq47_ctr N), (127, zq102_ctr N)]
def zq110_S0 : Spec := ⟨[.val (.sl .u8), .val (.sl .u8), .val (.sl .u8), .val (.sl .u8)], []⟩
def zq110_S1 : Spec := ⟨[.row 0, .val .i64], [(.row 5 .u8, .pos 0)]⟩
def zq110_K : XE → GS → Option zq110_R := retK 0 [8, 9] [false, false] zq110_S1
noncomputable def zq110_L : List Code := (bodyOf (some Tryz.f122))
theorem zq110_b (N) : Bk 0 (zq110_C N) (List.range zq110_S0.ks.length) zq110_S0 (zq110_L.drop 0) (fun y => zq110 N y.1.1 y.1.2.1 y.1.2.2.1 y.1.2.2.2.1) zq110_K :=
 cE 12
def zq110_ctr (N : Nat) : Ctr := ⟨zq110_S0, zq110_S1.un [false, false], 0, (fun y => zq110 N y.1.1 y.1.2.1 y.1.2.2.1 y.1.2.2.2.1)⟩
theorem zq110_ok (N : Nat) : COk 122 (zq110_ctr N) :=
 cF (zw2 (Γ := zq110_C N) zw1 (csc (zq89_ok N) (csc (zq116_ok N) (csc (zq47_ok N) (csc (zq102_ok N) csn))))) Tryz.func122 Tryz.ntmps122 (zq110_b N)
abbrev zq3_R : Type := ((Unit) × (D91 × D24 × Unit))
def zq3 (N : Nat) (rc : (List UInt8) → (List D24) → Option ((D24 × Unit) × (Unit))) (t_0 : (List UInt8)) (t_1 : D91) (t_2 : D24) : Option zq3_R :=
 Option.bind (rc t_0 t_1.2.1) fun y1 =>
 some ((()), (t_1, y1.1.1, ()))
def zq3_S0 : Spec := ⟨[.fp (.sl .u8), .ref 0 .unit, .ref 2 T24], [(.vbox 90 (.ref 1 T91), .pos 1), (.box 92 T91, .inn 0), (.box 24 T24, .pos 2)]⟩
def zq3_S1 : Spec := ⟨[], [(.vbox 90 (.ref 1 T91), .fix 0), (.box 92 T91, .fix 1), (.box 24 T24, .fix 2)]⟩
def zq3_S2 : Spec := ⟨[.val (.sl .u8), .val (.sl T24)], []⟩
def zq3_S3 : Spec := ⟨[.fp T24], []⟩
def zq3_ftr (N : Nat) (rc : (List UInt8) → (List D24) → Option ((D24 × Unit) × (Unit))) : Ctr := ⟨zq3_S2, zq3_S3.un [true], 0, (fun y => rc y.1.1 y.1.2.1)⟩
def zq3_C (N : Nat) (rc : (List UInt8) → (List D24) → Option ((D24 × Unit) × (Unit))) := Cx 9 [(50, zq3_ftr N rc)]
def zq3_K : XE → GS → Option zq3_R := retK 3 [] [] zq3_S1
noncomputable def zq3_L : List Code := (bodyOf (some Tryz.f123))
theorem zq3_b (N) (rc) : Bk 3 (zq3_C N rc) (List.range zq3_S0.ks.length) zq3_S0 (zq3_L.drop 0) (fun y => zq3 N rc y.1.1 y.2.1 y.2.2.1) zq3_K :=
 cE 1
def zq3_octr (N : Nat) (rc : (List UInt8) → (List D24) → Option ((D24 × Unit) × (Unit))) : Ctr := ⟨zq3_S0, zq3_S1.un [], 3, (fun y => zq3 N rc y.1.1 y.2.1 y.2.2.1)⟩
theorem zq3_ook (N : Nat) (rc : (List UInt8) → (List D24) → Option ((D24 × Unit) × (Unit))) (hf : COk 50 (zq3_ftr N rc))  : COk 123 (zq3_octr N rc) :=
 cF (zw2 (Γ := zq3_C N rc) zw1 (csc hf csn)) Tryz.func123 Tryz.ntmps123 (zq3_b N rc)
abbrev zq15_R : Type := ((D24 × Unit) × (D91 × Unit))
def zq15_s3 (N : Nat) (rc : (List UInt8) → (List D24) → Option ((D24 × Unit) × (Unit))) (wanted_3 : (List UInt8)) (once_4 : (List UInt8)) (sealed_5 : (List UInt8)) (t_34 : (List D24)) (t_35 : Int) (t_36 : Int) (p0 : D91) (t_2 : D24) : Option (Lo (((List UInt8) × (List UInt8) × (List UInt8) × (List D24) × Int × Int × Unit) × (D91 × D24 × Unit)) ((Unit) × (D91 × D24 × Unit)) zq15_R) :=
 bif (decide (t_36 < t_35)) then
  bif inR t_36 t_34.length then
  let x9 := t_34.getD t_36.toNat ((0 : Int), (0 : Int), ([] : List Tree), ())
  Option.bind (zq39 N x9) fun y10 =>
  bif (!(decide (y10.1.1 = (0 : Int)))) then
   some (.go ((wanted_3, once_4, sealed_5, t_34, t_35, (w64 (t_36 + (1 : Int))), ()), (p0, t_2, ())))
  else
   Option.bind (zq43 N y10.2.1) fun y13 =>
   Option.bind (zq1 N y13.1.1 wanted_3) fun y14 =>
   bif (!y14.1.1) then
    some (.go ((wanted_3, once_4, sealed_5, t_34, t_35, (w64 (t_36 + (1 : Int))), ()), (p0, t_2, ())))
   else
    Option.bind (zq110 N y10.2.1 once_4 ([] : List UInt8) sealed_5) fun y17 =>
    bif (!(decide (y17.1.1 = (0 : Int)))) then
     Option.bind (zq27 N) fun y19 =>
     some (.rt ((y19.1.1, ()), (p0, ())))
    else
     Option.bind (zq3 N rc y17.2.1 p0 ((0 : Int), (0 : Int), ([] : List Tree), ())) fun y20 =>
     bif (!(decide ((0 : Int) = (0 : Int)))) then
      Option.bind (zq27 N) fun y22 =>
      some (.rt ((y22.1.1, ()), (y20.2.1, ())))
     else
      some (.rt ((((7 : Int), (0 : Int), List.map mkT ([x9, y20.2.2.1] : List D24), ()), ()), (y20.2.1, ())))
  else none
 else
  some (.br ((()), (p0, t_2, ())))
def zq15_4 (N : Nat) (rc : (List UInt8) → (List D24) → Option ((D24 × Unit) × (Unit))) (p0 : D91) (t_2 : D24) : Option zq15_R :=
 Option.bind (zq27 N) fun y23 =>
 some ((y23.1.1, ()), (p0, ()))
def zq15_2 (N : Nat) (rc : (List UInt8) → (List D24) → Option ((D24 × Unit) × (Unit))) (wanted_3 : (List UInt8)) (once_4 : (List UInt8)) (sealed_5 : (List UInt8)) (t_34 : (List D24)) (t_35 : Int) (t_36 : Int) (p0 : D91) (t_2 : D24) : Option zq15_R :=
 loopK N (fun y => zq15_s3 N rc y.1.1 y.1.2.1 y.1.2.2.1 y.1.2.2.2.1 y.1.2.2.2.2.1 y.1.2.2.2.2.2.1 y.2.1 y.2.2.1) (fun (e : ((Unit) × (D91 × D24 × Unit))) => zq15_4 N rc e.2.1 e.2.2.1) ((wanted_3, once_4, sealed_5, t_34, t_35, t_36, ()), (p0, t_2, ()))
def zq15_1 (N : Nat) (rc : (List UInt8) → (List D24) → Option ((D24 × Unit) × (Unit))) (wanted_3 : (List UInt8)) (once_4 : (List UInt8)) (p0 : D91) (t_2 : D24) : Option zq15_R :=
 Option.bind (zq12 N (p0.1.length : Int) p0) fun y6 =>
 zq15_2 N rc wanted_3 once_4 y6.1.1 y6.2.1.2.1 (y6.2.1.2.1.length : Int) (0 : Int) y6.2.1 t_2
def zq15 (N : Nat) (rc : (List UInt8) → (List D24) → Option ((D24 × Unit) × (Unit))) (r_0 : D91) : Option zq15_R :=
 Option.bind (zq12 N (8 : Int) r_0) fun y1 =>
 Option.bind (zq12 N (12 : Int) y1.2.1) fun y2 =>
 bif (decide ((y2.2.1.1.length : Int) < (16 : Int))) then
  none
 else
  zq15_1 N rc y1.1.1 y2.1.1 y2.2.1 ((0 : Int), (0 : Int), ([] : List Tree), ())
def zq15_S0 : Spec := ⟨[.ref 1 .unit, .ref 2 T24, .val (.sl .u8), .val (.sl .u8), .val (.sl .u8), .val (.sl T24), .val .i64, .val .i64], [(.box 92 T91, .fix 0), (.vbox 90 (.ref 0 T91), .pos 0), (.box 24 T24, .pos 1)]⟩
def zq15_S1 : Spec := ⟨[.ref 1 T24], [(.box 92 T91, .fix 0), (.box 24 T24, .pos 0)]⟩
def zq15_S2 : Spec := ⟨[.ref 1 .unit, .ref 2 T24, .val (.sl .u8), .val (.sl .u8)], [(.box 92 T91, .fix 0), (.vbox 90 (.ref 0 T91), .pos 0), (.box 24 T24, .pos 1)]⟩
def zq15_S3 : Spec := ⟨[.ref 0 T91], [(.box 92 T91, .pos 0)]⟩
def zq15_S4 : Spec := ⟨[.fp T24], [(.box 92 T91, .fix 0)]⟩
def zq15_S5 : Spec := ⟨[.val (.sl .u8), .val (.sl T24)], []⟩
def zq15_S6 : Spec := ⟨[.fp T24], []⟩
def zq15_ftr (N : Nat) (rc : (List UInt8) → (List D24) → Option ((D24 × Unit) × (Unit))) : Ctr := ⟨zq15_S5, zq15_S6.un [true], 0, (fun y => rc y.1.1 y.1.2.1)⟩
def zq15_C (N : Nat) (rc : (List UInt8) → (List D24) → Option ((D24 × Unit) × (Unit))) : Ctx := ⟨75, G_tys, [(99, zq12_ctr N), (14, zq39_ctr N), (111, zq43_ctr N), (45, zq1_ctr N), (122, zq110_ctr N), (120, zq27_ctr N), (123, zq3_octr N rc), (50, zq15_ftr N rc)], zwj, ⟨G_ifs.emp, G_ifs.mets, [], G_ifs.nat, G_ifs.ptr, [35]⟩⟩
def zq15_K : XE → GS → Option zq15_R := retK 1 [2] [true] zq15_S4
noncomputable def zq15_L : List Code := (bodyOf (some Tryz.f105))
def zq15_L3 : List Code := (loopOf (zq15_L[7]?))
def zq15_K3 (N : Nat) (rc : (List UInt8) → (List D24) → Option ((D24 × Unit) × (Unit))) := roundK (some 0) (fit 1 [1, 2, 3, 4, 5, 34, 35, 36] zq15_S0) (fit 1 [2] zq15_S1) zq15_K
theorem zq15_s3_b (N) (rc) : Bk 1 (zq15_C N rc) [1, 2, 3, 4, 5, 34, 35, 36] zq15_S0 (zq15_L3.drop 0) (fun y => zq15_s3 N rc y.1.1 y.1.2.1 y.1.2.2.1 y.1.2.2.2.1 y.1.2.2.2.2.1 y.1.2.2.2.2.2.1 y.2.1 y.2.2.1) (zq15_K3 N rc) :=
 cE 4
theorem zq15_4_b (N) (rc) : Bk 1 (zq15_C N rc) [2] zq15_S1 (zq15_L.drop 8) (fun y => zq15_4 N rc y.2.1 y.2.2.1) zq15_K :=
 cE 2
theorem zq15_2_b (N) (rc) : Bk 1 (zq15_C N rc) [1, 2, 3, 4, 5, 34, 35, 36] zq15_S0 (zq15_L.drop 7) (fun y => zq15_2 N rc y.1.1 y.1.2.1 y.1.2.2.1 y.1.2.2.2.1 y.1.2.2.2.2.1 y.1.2.2.2.2.2.1 y.2.1 y.2.2.1) zq15_K :=
 lG N zq15_S0 [2] zq15_S1 (zq15_4_b N rc) (zq15_s3_b N rc)
theorem zq15_1_b (N) (rc) : Bk 1 (zq15_C N rc) [1, 2, 3, 4] zq15_S2 (zq15_L.drop 5) (fun y => zq15_1 N rc y.1.1 y.1.2.1 y.2.1 y.2.2.1) zq15_K :=
 cG 2 (zq15_2_b N rc)
theorem zq15_b (N) (rc) : Bk 1 (zq15_C N rc) (List.range zq15_S3.ks.length) zq15_S3 (zq15_L.drop 0) (fun y => zq15 N rc y.2.1) zq15_K :=
 cG 5 (zq15_1_b N rc)
def zq15_octr (N : Nat) (rc : (List UInt8) → (List D24) → Option ((D24 × Unit) × (Unit))) : Ctr := ⟨zq15_S3, zq15_S4.un [true], 1, (fun y => zq15 N rc y.2.1)⟩
theorem zq15_ook (N : Nat) (rc : (List UInt8) → (List D24) → Option ((D24 × Unit) × (Unit))) (hf : COk 50 (zq15_ftr N rc))  : COk 105 (zq15_octr N rc) :=
 cF (zw8e (Γ := zq15_C N rc) zw1 zw93 (csc (zq12_ok N) (csc (zq39_ok N) (csc (zq43_ok N) (csc (zq1_ok N) (csc (zq110_ok N) (csc (zq27_ok N) (csc (zq3_ook N rc hf) (csc hf csn))))))))) Tryz.func105 Tryz.ntmps105 (zq15_b N rc)
abbrev zq9_R : Type := ((D24 × Unit) × (D91 × Unit))
def zq9_s2 (N : Nat) (op_1 : Int) (wanted_5 : (List UInt8)) (t_15 : (List D24)) (t_16 : Int) (t_17 : Int) (p0 : D91) (t_4 : D24) : Option (Lo ((Int × (List UInt8) × (List D24) × Int × Int × Unit) × (D91 × D24 × Unit)) ((Unit) × (D91 × D24 × Unit)) zq9_R) :=
 bif (decide (t_17 < t_16)) then
  bif inR t_17 t_15.length then
  let x4 := t_15.getD t_17.toNat ((0 : Int), (0 : Int), ([] : List Tree), ())
  bif (!(decide (x4.1 = op_1))) then
   some (.go ((op_1, wanted_5, t_15, t_16, (w64 (t_17 + (1 : Int))), ()), (p0, t_4, ())))
  else
   Option.bind (zq39 N x4) fun y7 =>
   bif (decide (y7.1.1 = (0 : Int))) then
    Option.bind (zq1 N y7.2.1 wanted_5) fun y9 =>
    bif y9.1.1 then
     some (.rt ((x4, ()), (p0, ())))
    else
     some (.go ((op_1, wanted_5, t_15, t_16, (w64 (t_17 + (1 : Int))), ()), (p0, t_4, ())))
   else
    some (.go ((op_1, wanted_5, t_15, t_16, (w64 (t_17 + (1 : Int))), ()), (p0, t_4, ())))
  else none
 else
  some (.br ((()), (p0, t_4, ())))
def zq9_3 (N : Nat) (p0 : D91) (t_4 : D24) : Option zq9_R :=
 Option.bind (zq27 N) fun y12 =>
 some ((y12.1.1, ()), (p0, ()))
def zq9_1 (N : Nat) (op_1 : Int) (wanted_5 : (List UInt8)) (t_15 : (List D24)) (t_16 : Int) (t_17 : Int) (p0 : D91) (t_4 : D24) : Option zq9_R :=
 loopK N (fun y => zq9_s2 N y.1.1 y.1.2.1 y.1.2.2.1 y.1.2.2.2.1 y.1.2.2.2.2.1 y.2.1 y.2.2.1) (fun (e : ((Unit) × (D91 × D24 × Unit))) => zq9_3 N e.2.1 e.2.2.1) ((op_1, wanted_5, t_15, t_16, t_17, ()), (p0, t_4, ()))
def zq9 (N : Nat) (op_1 : Int) (r_0 : D91) : Option zq9_R :=
 Option.bind (zq12 N (32 : Int) r_0) fun y1 =>
 zq9_1 N op_1 y1.1.1 y1.2.1.2.1 (y1.2.1.2.1.length : Int) (0 : Int) y1.2.1 ((0 : Int), (0 : Int), ([] : List Tree), ())
def zq9_C (N : Nat) := Cx 40 [(99, zq12_ctr N), (14, zq39_ctr N), (45, zq1_ctr N), (120, zq27_ctr N)]
def zq9_S0 : Spec := ⟨[.val .i64, .ref 1 T24, .val (.sl .u8), .val (.sl T24), .val .i64, .val .i64], [(.box 92 T91, .fix 0), (.box 24 T24, .pos 1)]⟩
def zq9_S1 : Spec := ⟨[.ref 1 T24], [(.box 92 T91, .fix 0), (.box 24 T24, .pos 0)]⟩
def zq9_S2 : Spec := ⟨[.ref 0 T91, .val .i64], [(.box 92 T91, .pos 0)]⟩
def zq9_S3 : Spec := ⟨[.fp T24], [(.box 92 T91, .fix 0)]⟩
def zq9_K : XE → GS → Option zq9_R := retK 1 [4] [true] zq9_S3
noncomputable def zq9_L : List Code := (bodyOf (some Tryz.f106))
def zq9_L2 : List Code := (loopOf (zq9_L[3]?))
def zq9_K2 (N : Nat) := roundK (some 0) (fit 1 [1, 4, 5, 15, 16, 17] zq9_S0) (fit 1 [4] zq9_S1) zq9_K
theorem zq9_s2_b (N) : Bk 1 (zq9_C N) [1, 4, 5, 15, 16, 17] zq9_S0 (zq9_L2.drop 0) (fun y => zq9_s2 N y.1.1 y.1.2.1 y.1.2.2.1 y.1.2.2.2.1 y.1.2.2.2.2.1 y.2.1 y.2.2.1) (zq9_K2 N) :=
 cE 4
theorem zq9_3_b (N) : Bk 1 (zq9_C N) [4] zq9_S1 (zq9_L.drop 4) (fun y => zq9_3 N y.2.1 y.2.2.1) zq9_K :=
 cE 2
theorem zq9_1_b (N) : Bk 1 (zq9_C N) [1, 4, 5, 15, 16, 17] zq9_S0 (zq9_L.drop 3) (fun y => zq9_1 N y.1.1 y.1.2.1 y.1.2.2.1 y.1.2.2.2.1 y.1.2.2.2.2.1 y.2.1 y.2.2.1) zq9_K :=
 lG N zq9_S0 [4] zq9_S1 (zq9_3_b N) (zq9_s2_b N)
theorem zq9_b (N) : Bk 1 (zq9_C N) (List.range zq9_S2.ks.length) zq9_S2 (zq9_L.drop 0) (fun y => zq9 N y.1.1 y.2.1) zq9_K :=
 cG 3 (zq9_1_b N)
def zq9_ctr (N : Nat) : Ctr := ⟨zq9_S2, zq9_S3.un [true], 1, (fun y => zq9 N y.1.1 y.2.1)⟩
theorem zq9_ok (N : Nat) : COk 106 (zq9_ctr N) :=
 cF (zw2 (Γ := zq9_C N) zw1 (csc (zq12_ok N) (csc (zq39_ok N) (csc (zq1_ok N) (csc (zq27_ok N) csn))))) Tryz.func106 Tryz.ntmps106 (zq9_b N)
abbrev zq13_R : Type := ((D24 × Unit) × (D91 × Unit))
def zq13 (N : Nat) (rc : (List UInt8) → (List D24) → Option ((D24 × Unit) × (Unit))) (r_0 : D91) : Option zq13_R :=
 Option.bind (zq12 N (1 : Int) r_0) fun y1 =>
 bif inR (0 : Int) y1.1.1.length then
 let x3 := ((y1.1.1.getD 0 (0 : UInt8)).toNat : Int)
 bif (decide (x3 = (1 : Int))) then
  Option.bind (zq5 N (8 : Int) y1.2.1) fun y5 =>
  some (((x3, (w64 (y5.1.1.toNat : Int)), ([] : List Tree), ()), ()), (y5.2.1, ()))
 else
  bif (decide (x3 = (10 : Int))) then
   Option.bind (zq5 N (8 : Int) y1.2.1) fun y8 =>
   some (((x3, (w64 (y8.1.1.toNat : Int)), ([] : List Tree), ()), ()), (y8.2.1, ()))
  else
   bif (decide (x3 = (2 : Int))) then
    Option.bind (zq8 N y1.2.1) fun y11 =>
    some ((y11.1.1, ()), (y11.2.1, ()))
   else
    bif (decide (x3 = (3 : Int))) then
     Option.bind (zq10 N rc y1.2.1) fun y13 =>
     some ((y13.1.1, ()), (y13.2.1, ()))
    else
     bif (decide (x3 = (4 : Int))) then
      Option.bind (zq6 N y1.2.1) fun y15 =>
      some ((y15.1.1, ()), (y15.2.1, ()))
     else
      bif (decide (x3 = (8 : Int))) then
       Option.bind (zq16 N rc y1.2.1) fun y17 =>
       some ((y17.1.1, ()), (y17.2.1, ()))
      else
       bif (decide (x3 = (7 : Int))) then
        Option.bind (zq15 N rc y1.2.1) fun y19 =>
        some ((y19.1.1, ()), (y19.2.1, ()))
       else
        bif (decide (x3 = (6 : Int))) then
         Option.bind (zq9 N x3 y1.2.1) fun y21 =>
         some ((y21.1.1, ()), (y21.2.1, ()))
        else
         bif (decide (x3 = (5 : Int))) then
          Option.bind (zq9 N x3 y1.2.1) fun y23 =>
          some ((y23.1.1, ()), (y23.2.1, ()))
         else
          bif (decide (x3 = (9 : Int))) then
          Option.bind (zq9 N x3 y1.2.1) fun y25 =>
          some ((y25.1.1, ()), (y25.2.1, ()))
          else none
 else none
def zq13_S0 : Spec := ⟨[.ref 0 T91], [(.box 92 T91, .pos 0)]⟩
def zq13_S1 : Spec := ⟨[.fp T24], [(.box 92 T91, .fix 0)]⟩
def zq13_S2 : Spec := ⟨[.val (.sl .u8), .val (.sl T24)], []⟩
def zq13_S3 : Spec := ⟨[.fp T24], []⟩
def zq13_ftr (N : Nat) (rc : (List UInt8) → (List D24) → Option ((D24 × Unit) × (Unit))) : Ctr := ⟨zq13_S2, zq13_S3.un [true], 0, (fun y => rc y.1.1 y.1.2.1)⟩
def zq13_C (N : Nat) (rc : (List UInt8) → (List D24) → Option ((D24 × Unit) × (Unit))) := Cx 46 [(99, zq12_ctr N), (100, zq5_ctr N), (101, zq8_ctr N), (102, zq10_octr N rc), (103, zq6_ctr N), (104, zq16_octr N rc), (105, zq15_octr N rc), (106, zq9_ctr N), (50, zq13_ftr N rc)]
def zq13_K : XE → GS → Option zq13_R := retK 1 [2] [true] zq13_S1
noncomputable def zq13_L : List Code := (bodyOf (some Tryz.f76))
theorem zq13_b (N) (rc) : Bk 1 (zq13_C N rc) (List.range zq13_S0.ks.length) zq13_S0 (zq13_L.drop 0) (fun y => zq13 N rc y.2.1) zq13_K :=
 cE 5
def zq13_octr (N : Nat) (rc : (List UInt8) → (List D24) → Option ((D24 × Unit) × (Unit))) : Ctr := ⟨zq13_S0, zq13_S1.un [true], 1, (fun y => zq13 N rc y.2.1)⟩
theorem zq13_ook (N : Nat) (rc : (List UInt8) → (List D24) → Option ((D24 × Unit) × (Unit))) (hf : COk 50 (zq13_ftr N rc))  : COk 76 (zq13_octr N rc) :=
 cF (zw2 (Γ := zq13_C N rc) zw1 (csc (zq12_ok N) (csc (zq5_ok N) (csc (zq8_ok N) (csc (zq10_ook N rc hf) (csc (zq6_ok N) (csc (zq16_ook N rc hf) (csc (zq15_ook N rc hf) (csc (zq9_ok N) (csc hf csn)))))))))) Tryz.func76 Tryz.ntmps76 (zq13_b N rc)
abbrev zq49_R : Type := ((D24 × Unit) × (Unit))
def zq49 (N : Nat) (rc : (List UInt8) → (List D24) → Option zq49_R) (b_0 : (List UInt8)) (keys_1 : (List D24)) : Option zq49_R :=
 Option.bind (zq13 N rc (b_0, keys_1, ())) fun y1 =>
 bif (decide ((0 : Int) < (y1.2.1.1.length : Int))) then
  none
 else
  some ((y1.1.1, ()), (()))
def zq49_S0 : Spec := ⟨[.val (.sl .u8), .val (.sl T24)], []⟩
def zq49_S1 : Spec := ⟨[.fp T24], []⟩
def zq49_ftr (N : Nat) (rc : (List UInt8) → (List D24) → Option zq49_R) : Ctr := ⟨zq49_S0, zq49_S1.un [true], 0, (fun y => rc y.1.1 y.1.2.1)⟩
def zq49_C (N : Nat) (rc : (List UInt8) → (List D24) → Option zq49_R) := Cx 21 [(76, zq13_octr N rc), (50, zq49_ftr N rc)]
def zq49_K : XE → GS → Option zq49_R := retK 0 [4] [true] zq49_S1
noncomputable def zq49_L : List Code := (bodyOf (some Tryz.f50))
theorem zq49_b (N) (rc) : Bk 0 (zq49_C N rc) (List.range zq49_S0.ks.length) zq49_S0 (zq49_L.drop 0) (fun y => zq49 N rc y.1.1 y.1.2.1) zq49_K :=
 cE 7
def zq49_octr (N : Nat) (rc : (List UInt8) → (List D24) → Option zq49_R) : Ctr := ⟨zq49_S0, zq49_S1.un [true], 0, (fun y => zq49 N rc y.1.1 y.1.2.1)⟩
theorem zq49_ook (N : Nat) (rc : (List UInt8) → (List D24) → Option zq49_R) (hf : COk 50 (zq49_ftr N rc))  : COk 50 (zq49_octr N rc) :=
 cF (zw2 (Γ := zq49_C N rc) zw1 (csc (zq13_ook N rc hf) (csc hf csn))) Tryz.func50 Tryz.ntmps50 (zq49_b N rc)
def zwe (N : Nat) : Nat → (List UInt8) → (List D24) → Option zq49_R
 | 0 => fun _ _ => none
 | n + 1 => fun b_0 keys_1 => zq49 N (zwe N n) b_0 keys_1
theorem zw96 (N : Nat) : ∀ n : Nat, COk 50 (zq49_ftr N (zwe N n))
 | 0 => zw1a Tryz.func50 (by kernel_rfl) (by kernel_rfl) (fun x => rfl)
 | n + 1 => zq49_ook N (zwe N n) (zw96 N n)
def zq49_ctr (N : Nat) : Ctr := zq49_ftr N (zwe N N)
theorem zq49_ok (N : Nat) : COk 50 (zq49_ctr N) := zw96 N N
abbrev zq26_R : Type := ((Unit) × ((List UInt8) × (List D24) × D24 × Unit))
def zq26 (N : Nat) (t_0 : (List UInt8)) (t_1 : (List D24)) (t_2 : D24) : Option zq26_R :=
 Option.bind (zwe N N t_0 t_1) fun y1 =>
 some ((()), (t_0, t_1, y1.1.1, ()))
def zq26_C (N : Nat) := Cx 6 [(50, zq49_ctr N)]
def zq26_S0 : Spec := ⟨[.ref 0 .unit, .ref 1 .unit, .ref 2 T24], [(.vbox 25 (.val (.sl .u8)), .pos 0), (.vbox 22 (.val (.sl T24)), .pos 1), (.box 24 T24, .pos 2)]⟩
def zq26_S1 : Spec := ⟨[], [(.vbox 25 (.val (.sl .u8)), .fix 0), (.vbox 22 (.val (.sl T24)), .fix 1), (.box 24 T24, .fix 2)]⟩
def zq26_K : XE → GS → Option zq26_R := retK 3 [] [] zq26_S1
noncomputable def zq26_L : List Code := (bodyOf (some Tryz.f49))
theorem zq26_b (N) : Bk 3 (zq26_C N) (List.range zq26_S0.ks.length) zq26_S0 (zq26_L.drop 0) (fun y => zq26 N y.2.1 y.2.2.1 y.2.2.2.1) zq26_K :=
 cE 1
def zq26_ctr (N : Nat) : Ctr := ⟨zq26_S0, zq26_S1.un [], 3, (fun y => zq26 N y.2.1 y.2.2.1 y.2.2.2.1)⟩
theorem zq26_ok (N : Nat) : COk 49 (zq26_ctr N) :=
 cF (zw2 (Γ := zq26_C N) zw1 (csc (zq49_ok N) csn)) Tryz.func49 Tryz.ntmps49 (zq26_b N)
abbrev zq0_R : Type := ((Unit) × ((List D24) × Unit))
def zq0 (N : Nat) (s_0 : (List D24)) : Option zq0_R :=
 bif room (([] : List D24).length + s_0.length) 40 then
 some ((()), ((([] : List D24) ++ s_0), ()))
 else none
def zq0_C (N : Nat) := Cx 8 []
def zq0_S0 : Spec := ⟨[.val (.sl T24)], []⟩
def zq0_S1 : Spec := ⟨[.row 0], [(.row 24 T24, .pos 0)]⟩
def zq0_K : XE → GS → Option zq0_R := retK 0 [2] [false] zq0_S1
noncomputable def zq0_L : List Code := (bodyOf (some Tryz.f77))
theorem zq0_b1 {E : Env} (N : Nat) (hb : Base Tryz.prog (zq0_C N) E 0) : Blk Tryz.prog (zq0_C N) E [0] zq0_S0 (zq0_L.drop 1) (fun y => zq0 N y.1.1) zq0_K :=
 Blk.isNil (t := T24) (l := zq0_L) (i := 1) (m := 0) (d := 3) (d' := 4) (hl := (by kernel_rfl : zq0_L[1]? = some (.region 1 #[⟨some 3, .move (.tmp 0), 22, "slices.go:357", #[], none⟩, ⟨some 4, .binOp .eql 22 (.tmp 3) (.const (.slice none 0 0)) 22, 4, "slices.go:357", #[⟨0, .data⟩], none⟩] false))) hb (e := 24) (by kernel_rfl) (by kernel_rfl) (by kernel_rfl) (fun z => z.1.1) (fun z => rfl) (by rintro ⟨⟨x, u⟩, v⟩ h; obtain rfl : x = [] := h; kernel_rfl) (fun z => by kernel_rfl)
theorem zq0_b (N) : Bk 0 (zq0_C N) (List.range zq0_S0.ks.length) zq0_S0 (zq0_L.drop 0) (fun y => zq0 N y.1.1) zq0_K :=
 fun hb => Blk.chunkAt hb 1 (X := (goK 0 [0] zq0_S0 (fun y => zq0 N y.1.1))) (NxOk.go hb (zq0_b1 N hb)) rfl (fun x => by kernel_rfl)
def zq0_ctr (N : Nat) : Ctr := ⟨zq0_S0, zq0_S1.un [false], 0, (fun y => zq0 N y.1.1)⟩
theorem zq0_ok (N : Nat) : COk 77 (zq0_ctr N) :=
 cF (zw2 (Γ := zq0_C N) zw1 csn) Tryz.func77 Tryz.ntmps77 (zq0_b N)
abbrev zq108_R : Type := ((D24 × Unit) × (Unit))
def zq108 (N : Nat) (l_0 : (List D24)) : Option zq108_R :=
 Option.bind (zq0 N l_0) fun y1 =>
 some ((((3 : Int), (0 : Int), List.map mkT y1.2.1, ()), ()), (()))
def zq108_C (N : Nat) := Cx 6 [(77, zq0_ctr N)]
def zq108_S0 : Spec := ⟨[.val (.sl T24)], []⟩
def zq108_S1 : Spec := ⟨[.fp T24], []⟩
def zq108_K : XE → GS → Option zq108_R := retK 0 [2] [true] zq108_S1
noncomputable def zq108_L : List Code := (bodyOf (some Tryz.f51))
theorem zq108_b (N) : Bk 0 (zq108_C N) (List.range zq108_S0.ks.length) zq108_S0 (zq108_L.drop 0) (fun y => zq108 N y.1.1) zq108_K :=
 cE 3
def zq108_ctr (N : Nat) : Ctr := ⟨zq108_S0, zq108_S1.un [true], 0, (fun y => zq108 N y.1.1)⟩
theorem zq108_ok (N : Nat) : COk 51 (zq108_ctr N) :=
 cF (zw2 (Γ := zq108_C N) zw1 (csc (zq0_ok N) csn)) Tryz.func51 Tryz.ntmps51 (zq108_b N)
abbrev zq50_R : Type := ((D24 × Int × Int × Unit) × (Unit))
def zq50 (N : Nat) (b_0 : (List UInt8)) (keys_1 : (List D24)) : Option zq50_R :=
 Option.bind (zq26 N b_0 keys_1 ((0 : Int), (0 : Int), ([] : List Tree), ())) fun y1 =>
 bif (!(decide ((0 : Int) = (0 : Int)))) then
  some ((((0 : Int), (0 : Int), ([] : List Tree), ()), (0 : Int), (0 : Int), ()), (()))
 else
  Option.bind (zq108 N ([y1.2.2.2.1] : List D24)) fun y3 =>
  let x4 := List.map Tree.un y3.1.1.2.2.1
  bif inR (0 : Int) x4.length then
  some (((x4.getD 0 ((0 : Int), (0 : Int), ([] : List Tree), ())), (y1.2.1.length : Int), (0 : Int), ()), (()))
  else none
def zq50_C (N : Nat) : Ctx := ⟨23, G_tys, [(49, zq26_ctr N), (51, zq108_ctr N)], zwj, ⟨G_ifs.emp, G_ifs.mets, [], G_ifs.nat, G_ifs.ptr, [35]⟩⟩
def zq50_S0 : Spec := ⟨[.val (.sl .u8), .val (.sl T24)], []⟩
def zq50_S1 : Spec := ⟨[.fp T24, .val .i64, .val .i64], []⟩
def zq50_K : XE → GS → Option zq50_R := retK 0 [4, 5, 6] [true, false, false] zq50_S1
noncomputable def zq50_L : List Code := (bodyOf (some Tryz.f23))
theorem zq50_b (N) : Bk 0 (zq50_C N) (List.range zq50_S0.ks.length) zq50_S0 (zq50_L.drop 0) (fun y => zq50 N y.1.1 y.1.2.1) zq50_K :=
 cE 7
def zq50_ctr (N : Nat) : Ctr := ⟨zq50_S0, zq50_S1.un [true, false, false], 0, (fun y => zq50 N y.1.1 y.1.2.1)⟩
theorem zq50_ok (N : Nat) : COk 23 (zq50_ctr N) :=
 cF (zw8e (Γ := zq50_C N) zw1 zw93 (csc (zq26_ok N) (csc (zq108_ok N) csn))) Tryz.func23 Tryz.ntmps23 (zq50_b N)
abbrev zq51_R : Type := ((Bool × Unit) × (Unit))
def zq51 (N : Nat) (a_0 : D24) (b_1 : D24) : Option zq51_R :=
 Option.bind (zq38 N a_0) fun y1 =>
 Option.bind (zq38 N b_1) fun y2 =>
 bif (decide (y1.1.1 = (0 : Int))) then
  bif (decide (y2.1.1 = (0 : Int))) then
   Option.bind (zq1 N y1.2.1 y2.2.1) fun y5 =>
   some ((y5.1.1, ()), (()))
  else
   some ((false, ()), (()))
 else
  some ((false, ()), (()))
def zq51_C (N : Nat) := Cx 30 [(12, zq38_ctr N), (45, zq1_ctr N)]
def zq51_S0 : Spec := ⟨[.val T24, .val T24], []⟩
def zq51_S1 : Spec := ⟨[.val .bool], []⟩
def zq51_K : XE → GS → Option zq51_R := retK 0 [4] [false] zq51_S1
noncomputable def zq51_L : List Code := (bodyOf (some Tryz.f19))
theorem zq51_b (N) : Bk 0 (zq51_C N) (List.range zq51_S0.ks.length) zq51_S0 (zq51_L.drop 0) (fun y => zq51 N y.1.1 y.1.2.1) zq51_K :=
 cE 5
def zq51_ctr (N : Nat) : Ctr := ⟨zq51_S0, zq51_S1.un [false], 0, (fun y => zq51 N y.1.1 y.1.2.1)⟩
theorem zq51_ok (N : Nat) : COk 19 (zq51_ctr N) :=
 cF (zw2 (Γ := zq51_C N) zw1 (csc (zq38_ok N) (csc (zq1_ok N) csn))) Tryz.func19 Tryz.ntmps19 (zq51_b N)
abbrev zq19_R : Type := ((Bool × Unit) × (Unit))
def zq19_s2 (N : Nat) (at_1 : UInt8) (k_8 : Int) (c_5 : ((List UInt8) × (Int × Unit))) (key_6 : D24) (l_7 : (List D24)) : Option (Lo ((UInt8 × Int × Unit) × (((List UInt8) × (Int × Unit)) × D24 × (List D24) × Unit)) ((UInt8 × Unit) × (((List UInt8) × (Int × Unit)) × D24 × (List D24) × Unit)) zq19_R) :=
 bif (decide (k_8 < (4 : Int))) then
  Option.bind (zq37 N c_5) fun y6 =>
  bif room (l_7.length + ([y6.1.1] : List D24).length) 40 then
  some (.go ((at_1, (w64 (k_8 + (1 : Int))), ()), (y6.2.1, key_6, (l_7 ++ ([y6.1.1] : List D24)), ())))
  else none
 else
  some (.br ((at_1, ()), (c_5, key_6, l_7, ())))
def zq19_s6 (N : Nat) (l_7 : (List D24)) (i_9 : Int) (k_18 : Int) (u_12 : D24) : Option (Lo (((List D24) × Int × Int × Unit) × (D24 × Unit)) ((Unit) × (Unit)) zq19_R) :=
 bif (decide (k_18 < (4 : Int))) then
  bif (decide (k_18 = i_9)) then
   let x30 := List.map Tree.un u_12.2.2.1
   bif inR k_18 x30.length then
   bif (!(decide ((x30.getD k_18.toNat ((0 : Int), (0 : Int), ([] : List Tree), ())).1 = (10 : Int)))) then
    some (.rt ((false, ()), (())))
   else
    bif (!(decide (k_18 = i_9))) then
     let x34 := List.map Tree.un u_12.2.2.1
     bif inR k_18 x34.length then
     bif inR k_18 l_7.length then
     Option.bind (zq51 N (x34.getD k_18.toNat ((0 : Int), (0 : Int), ([] : List Tree), ())) (l_7.getD k_18.toNat ((0 : Int), (0 : Int), ([] : List Tree), ()))) fun y37 =>
     bif (!y37.1.1) then
      some (.rt ((false, ()), (())))
     else
      some (.go ((l_7, i_9, (w64 (k_18 + (1 : Int))), ()), (u_12, ())))
     else none
     else none
    else
     some (.go ((l_7, i_9, (w64 (k_18 + (1 : Int))), ()), (u_12, ())))
   else none
  else
   bif (!(decide (k_18 = i_9))) then
    let x42 := List.map Tree.un u_12.2.2.1
    bif inR k_18 x42.length then
    bif inR k_18 l_7.length then
    Option.bind (zq51 N (x42.getD k_18.toNat ((0 : Int), (0 : Int), ([] : List Tree), ())) (l_7.getD k_18.toNat ((0 : Int), (0 : Int), ([] : List Tree), ()))) fun y45 =>
    bif (!y45.1.1) then
     some (.rt ((false, ()), (())))
    else
     some (.go ((l_7, i_9, (w64 (k_18 + (1 : Int))), ()), (u_12, ())))
    else none
    else none
   else
    some (.go ((l_7, i_9, (w64 (k_18 + (1 : Int))), ()), (u_12, ())))
 else
  some (.br ((()), (())))
def zq19_7 (N : Nat) : Option zq19_R :=
 some ((true, ()), (()))
def zq19_5 (N : Nat) (l_7 : (List D24)) (i_9 : Int) (k_18 : Int) (u_12 : D24) : Option zq19_R :=
 loopK N (fun y => zq19_s6 N y.1.1 y.1.2.1 y.1.2.2.1 y.2.1) (fun (e : ((Unit) × (Unit))) => zq19_7 N) ((l_7, i_9, k_18, ()), (u_12, ()))
def zq19_4 (N : Nat) (l_7 : (List D24)) (i_9 : Int) (t_102 : Bool) (u_12 : D24) : Option zq19_R :=
 bif t_102 then
  some ((false, ()), (()))
 else
  zq19_5 N l_7 i_9 (0 : Int) u_12
def zq19_3 (N : Nat) (at_1 : UInt8) (c_5 : ((List UInt8) × (Int × Unit))) (key_6 : D24) (l_7 : (List D24)) : Option zq19_R :=
 let x10 := (at_1.toNat : Int).tmod (4 : Int)
 Option.bind (zw1y N N (3 : Int) c_5) fun y11 =>
 Option.bind (zq105 N key_6 y11.1.1) fun y12 =>
 bif inR x10 l_7.length then
 let x13 := (l_7.set x10.toNat y12.1.1)
 bif inR x10 x13.length then
 Option.bind (zw1z N N (x13.getD x10.toNat ((0 : Int), (0 : Int), ([] : List Tree), ()))) fun y15 =>
 Option.bind (zq104 N (1 : Int) (301 : Int)) fun y16 =>
 bif room (y15.2.1.length + ([y16.1.1] : List D24).length) 40 then
 Option.bind (zq81 N (y15.2.1 ++ ([y16.1.1] : List D24))) fun y18 =>
 bif y18.1.1 then
  some ((true, ()), (()))
 else
  Option.bind (zq93 N x13) fun y19 =>
  Option.bind (zq46 N y19.1.1) fun y20 =>
  Option.bind (zq104 N (1 : Int) (301 : Int)) fun y21 =>
  Option.bind (zq50 N y20.2.1 ([y21.1.1] : List D24)) fun y22 =>
  bif inR x10 x13.length then
  Option.bind (zw1z N N (x13.getD x10.toNat ((0 : Int), (0 : Int), ([] : List Tree), ()))) fun y24 =>
  bif room (y24.2.1.length + ([key_6] : List D24).length) 40 then
  Option.bind (zq50 N y20.2.1 (y24.2.1 ++ ([key_6] : List D24))) fun y26 =>
  bif (!(decide (y20.1.1 = (0 : Int)))) then
   zq19_4 N x13 x10 true y22.1.1
  else
   bif (!(decide (y22.1.2.2.1 = (0 : Int)))) then
    zq19_4 N x13 x10 true y22.1.1
   else
    bif (!(decide (y26.1.2.2.1 = (0 : Int)))) then
     zq19_4 N x13 x10 true y22.1.1
    else
     bif (!(decide (((List.map Tree.un y22.1.1.2.2.1).length : Int) = (4 : Int)))) then
      zq19_4 N x13 x10 true y22.1.1
     else
      Option.bind (zq93 N x13) fun y54 =>
      Option.bind (zq51 N y26.1.1 y54.1.1) fun y55 =>
      zq19_4 N x13 x10 (!y55.1.1) y22.1.1
  else none
  else none
 else none
 else none
 else none
def zq19_1 (N : Nat) (at_1 : UInt8) (k_8 : Int) (c_5 : ((List UInt8) × (Int × Unit))) (key_6 : D24) (l_7 : (List D24)) : Option zq19_R :=
 loopK N (fun y => zq19_s2 N y.1.1 y.1.2.1 y.2.1 y.2.2.1 y.2.2.2.1) (fun (e : ((UInt8 × Unit) × (((List UInt8) × (Int × Unit)) × D24 × (List D24) × Unit))) => zq19_3 N e.1.1 e.2.1 e.2.2.1 e.2.2.2.1) ((at_1, k_8, ()), (c_5, key_6, l_7, ()))
def zq19 (N : Nat) (codes_0 : (List UInt8)) (at_1 : UInt8) : Option zq19_R :=
 Option.bind (zq72 N) fun y1 =>
 bif (!y1.1.1) then
  some ((false, ()), (()))
 else
  Option.bind (zq117 N codes_0 (120 : Int)) fun y3 =>
  Option.bind (zq104 N (1 : Int) (300 : Int)) fun y4 =>
  zq19_1 N at_1 (0 : Int) y3.2.1 y4.1.1 ([] : List D24)
def zq19_C (N : Nat) := Cx 137 [(6, zq72_ctr N), (8, zq117_ctr N), (24, zq104_ctr N), (25, zq37_ctr N), (9, zq36_ctr N), (26, zq105_ctr N), (22, zq91_ctr N), (21, zq81_ctr N), (27, zq93_ctr N), (10, zq46_ctr N), (23, zq50_ctr N), (19, zq51_ctr N)]
def zq19_S0 : Spec := ⟨[.val .u8, .ref 0 (.pair (.sl .u8) (.pair .i64 .unit)), .ref 1 T24, .row 2, .val .i64], [(.box 50 (.pair (.sl .u8) (.pair .i64 .unit)), .pos 1), (.box 24 T24, .pos 2), (.row 24 T24, .pos 3)]⟩
def zq19_S1 : Spec := ⟨[.val (.sl T24), .val .i64, .ref 0 T24, .val .i64], [(.box 24 T24, .pos 2)]⟩
def zq19_S2 : Spec := ⟨[], []⟩
def zq19_S3 : Spec := ⟨[.val (.sl T24), .val .i64, .ref 0 T24, .val .bool], [(.box 24 T24, .pos 2)]⟩
def zq19_S4 : Spec := ⟨[.val .u8, .ref 0 (.pair (.sl .u8) (.pair .i64 .unit)), .ref 1 T24, .row 2], [(.box 50 (.pair (.sl .u8) (.pair .i64 .unit)), .pos 1), (.box 24 T24, .pos 2), (.row 24 T24, .pos 3)]⟩
def zq19_S5 : Spec := ⟨[.val (.sl .u8), .val .u8], []⟩
def zq19_S6 : Spec := ⟨[.val .bool], []⟩
def zq19_K : XE → GS → Option zq19_R := retK 0 [4] [false] zq19_S6
noncomputable def zq19_L : List Code := (bodyOf (some Tryz.f5))
def zq19_L2 : List Code := (loopOf (zq19_L[7]?))
def zq19_L6 : List Code := (loopOf (zq19_L[18]?))
def zq19_K2 (N : Nat) := roundK (some 0) (fit 0 [1, 5, 6, 7, 8] zq19_S0) (fit 0 [1, 5, 6, 7] zq19_S4) zq19_K
def zq19_K6 (N : Nat) := roundK (some 2) (fit 0 [7, 9, 12, 18] zq19_S1) (fit 0 [] zq19_S2) zq19_K
theorem zq19_s2_b (N) : Bk 0 (zq19_C N) [1, 5, 6, 7, 8] zq19_S0 (zq19_L2.drop 0) (fun y => zq19_s2 N y.1.1 y.1.2.1 y.2.1 y.2.2.1 y.2.2.2.1) (zq19_K2 N) :=
 cE 4
theorem zq19_s6_b (N) : Bk 0 (zq19_C N) [7, 9, 12, 18] zq19_S1 (zq19_L6.drop 0) (fun y => zq19_s6 N y.1.1 y.1.2.1 y.1.2.2.1 y.2.1) (zq19_K6 N) :=
 cE 4
theorem zq19_7_b (N) : Bk 0 (zq19_C N) [] zq19_S2 (zq19_L.drop 19) (fun y => zq19_7 N) zq19_K :=
 cE 2
theorem zq19_5_b (N) : Bk 0 (zq19_C N) [7, 9, 12, 18] zq19_S1 (zq19_L.drop 18) (fun y => zq19_5 N y.1.1 y.1.2.1 y.1.2.2.1 y.2.1) zq19_K :=
 lG N zq19_S1 [] zq19_S2 (zq19_7_b N) (zq19_s6_b N)
theorem zq19_4_b (N) : Bk 0 (zq19_C N) [7, 9, 12, 102] zq19_S3 (zq19_L.drop 16) (fun y => zq19_4 N y.1.1 y.1.2.1 y.1.2.2.1 y.2.1) zq19_K :=
 cG 2 (zq19_5_b N)
theorem zq19_3_b (N) : Bk 0 (zq19_C N) [1, 5, 6, 7] zq19_S4 (zq19_L.drop 8) (fun y => zq19_3 N y.1.1 y.2.1 y.2.2.1 y.2.2.2.1) zq19_K :=
 cG 8 (zq19_4_b N)
theorem zq19_1_b (N) : Bk 0 (zq19_C N) [1, 5, 6, 7, 8] zq19_S0 (zq19_L.drop 7) (fun y => zq19_1 N y.1.1 y.1.2.1 y.2.1 y.2.2.1 y.2.2.2.1) zq19_K :=
 lG N zq19_S0 [1, 5, 6, 7] zq19_S4 (zq19_3_b N) (zq19_s2_b N)
theorem zq19_b (N) : Bk 0 (zq19_C N) (List.range zq19_S5.ks.length) zq19_S5 (zq19_L.drop 0) (fun y => zq19 N y.1.1 y.1.2.1) zq19_K :=
 cG 7 (zq19_1_b N)
def zq19_ctr (N : Nat) : Ctr := ⟨zq19_S5, zq19_S6.un [false], 0, (fun y => zq19 N y.1.1 y.1.2.1)⟩
theorem zq19_ok (N : Nat) : COk 5 (zq19_ctr N) :=
 cF (zw2 (Γ := zq19_C N) zw1 (csc (zq72_ok N) (csc (zq117_ok N) (csc (zq104_ok N) (csc (zq37_ok N) (csc (zq36_ok N) (csc (zq105_ok N) (csc (zq91_ok N) (csc (zq81_ok N) (csc (zq93_ok N) (csc (zq46_ok N) (csc (zq50_ok N) (csc (zq51_ok N) csn))))))))))))) Tryz.func5 Tryz.ntmps5 (zq19_b N)
end
end Go.Proofs.YtajpblfinenmjaaGreatDoor