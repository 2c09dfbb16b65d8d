/- Functions of the program as plain functions, each with the proof that the text computes it. -/
import Derived.Test.YtajpblfinenmjaaGreatDoorFnsConcreteWritesA
import Derived.Test.YtajpblfinenmjaaGreatDoorRngConcreteWritesC
import Derived.Test.YtajpblfinenmjaaGreatDoorFntConcreteWritesA
set_option linter.unusedVariables false
set_option linter.unusedSimpArgs false
namespace Go.Proofs.YtajpblfinenmjaaGreatDoor
open Go
set_option maxRecDepth 100000
set_option linter.unusedVariables false
noncomputable section
abbrev zq64_R : Type := ((Bool × Unit) × Unit)
def zq64 (N : Nat) : Option zq64_R :=
 Option.bind (zq56 N (5 : Int)) fun y1 =>
 Option.bind (zq33 N y1.1.1) fun y2 =>
 bif (decide (y2.1.1 = (0 : Int))) then
  bif (decide ((y2.2.1.length : Int) = (9 : Int))) then
   bif inR (0 : Int) y2.2.1.length then
   bif (decide ((y2.2.1.getD 0 (0 : UInt8)) = (1 : UInt8))) then
    bif inR (8 : Int) y2.2.1.length then
    some (((decide ((y2.2.1.getD 8 (0 : UInt8)) = (5 : UInt8))), ()), ())
    else none
   else
    some ((false, ()), ())
   else none
  else
   some ((false, ()), ())
 else
  some ((false, ()), ())
def zq64_C (N : Nat) := Cx 27 [(28, zq56_ctr N), (10, zq33_ctr N)]
def zq64_S0 : Spec := ⟨[], []⟩
def zq64_S1 : Spec := ⟨[.val .bool], []⟩
def zq64_K : XE → GS → Option zq64_R := retK 0 [0] [false] zq64_S1
noncomputable def zq64_L : List Code := (bodyOf (some Tryz.f6))
theorem zq64_b (N) : Bk 0 (zq64_C N) (List.range zq64_S0.ks.length) zq64_S0 (zq64_L.drop 0) (fun y => zq64 N) zq64_K :=
 cE 4
def zq64_ctr (N : Nat) : Ctr := ⟨zq64_S0, zq64_S1.un [false], 0, (fun y => zq64 N)⟩
theorem zq64_ok (N : Nat) : COk 6 (zq64_ctr N) :=
 cF (zw3 (Γ := zq64_C N) zw2 (csc (zq56_ok N) (csc (zq33_ok N) csn))) Tryz.func6 Tryz.ntmps6 (zq64_b N)
abbrev zq86_R : Type := ((Int × Unit) × Unit)
def zq86_3 (N : Nat) (rc : D24 → Option zq86_R) (n_3 : Int) (i_4 : Int) (t_13 : Bool) (t_1 : D24) : Option (Lo ((Int × Int × Unit) × (D24 × Unit)) ((Int × Unit) × Unit) zq86_R) :=
 bif t_13 then
  let x5 := List.map Tree.un t_1.2.2.1
  bif inR i_4 x5.length then
  Option.bind (rc (x5.getD i_4.toNat ((0 : Int), (0 : Int), ([] : List Tree), ()))) fun y7 =>
  some (.go (((w64 (n_3 + y7.1.1)), (w64 (i_4 + (1 : Int))), ()), (t_1, ())))
  else none
 else
  some (.br ((n_3, ()), ()))
def zq86_s2 (N : Nat) (rc : D24 → Option zq86_R) (n_3 : Int) (i_4 : Int) (t_1 : D24) : Option (Lo ((Int × Int × Unit) × (D24 × Unit)) ((Int × Unit) × Unit) zq86_R) :=
 bif (decide (i_4 < ((List.map Tree.un t_1.2.2.1).length : Int))) then
  zq86_3 N rc n_3 i_4 (decide (n_3 < (300 : Int))) t_1
 else
  zq86_3 N rc n_3 i_4 false t_1
def zq86_4 (N : Nat) (rc : D24 → Option zq86_R) (n_3 : Int) : Option zq86_R :=
 some ((n_3, ()), ())
def zq86_1 (N : Nat) (rc : D24 → Option zq86_R) (n_3 : Int) (i_4 : Int) (t_1 : D24) : Option zq86_R :=
 loopK N (fun y => zq86_s2 N rc y.1.1 y.1.2.1 y.2.1) (fun (e : ((Int × Unit) × Unit)) => zq86_4 N rc e.1.1) ((n_3, i_4, ()), (t_1, ()))
def zq86 (N : Nat) (rc : D24 → Option zq86_R) (t_0 : D24) : Option zq86_R :=
 zq86_1 N rc (1 : Int) (0 : Int) t_0
def zq86_S0 : Spec := ⟨[.ref 0 T24, .val .i64, .val .i64, .val .bool], [(.box 24 T24, .pos 0)]⟩
def zq86_S1 : Spec := ⟨[.ref 0 T24, .val .i64, .val .i64], [(.box 24 T24, .pos 0)]⟩
def zq86_S2 : Spec := ⟨[.val .i64], []⟩
def zq86_S3 : Spec := ⟨[.val T24], []⟩
def zq86_ftr (N : Nat) (rc : D24 → Option zq86_R) : Ctr := ⟨zq86_S3, zq86_S2.un [false], 0, (fun y => rc y.1.1)⟩
def zq86_C (N : Nat) (rc : D24 → Option zq86_R) := Cx 25 [(7, zq86_ftr N rc)]
def zq86_K : XE → GS → Option zq86_R := retK 0 [2] [false] zq86_S2
noncomputable def zq86_L : List Code := (bodyOf (some Tryz.f7))
def zq86_L2 : List Code := (loopOf (zq86_L[3]?))
def zq86_K2 (N : Nat) (rc : D24 → Option zq86_R) := roundK (some 0) (fit 0 [1, 3, 4] zq86_S1) (fit 0 [3] zq86_S2) zq86_K
theorem zq86_3_b (N) (rc) : Bk 0 (zq86_C N rc) [1, 3, 4, 13] zq86_S0 (zq86_L2.drop 1) (fun y => zq86_3 N rc y.1.1 y.1.2.1 y.1.2.2.1 y.2.1) (zq86_K2 N rc) :=
 cE 3
theorem zq86_s2_b (N) (rc) : Bk 0 (zq86_C N rc) [1, 3, 4] zq86_S1 (zq86_L2.drop 0) (fun y => zq86_s2 N rc y.1.1 y.1.2.1 y.2.1) (zq86_K2 N rc) :=
 cG 1 (zq86_3_b N rc)
theorem zq86_4_b (N) (rc) : Bk 0 (zq86_C N rc) [3] zq86_S2 (zq86_L.drop 4) (fun y => zq86_4 N rc y.1.1) zq86_K :=
 cE 2
theorem zq86_1_b (N) (rc) : Bk 0 (zq86_C N rc) [1, 3, 4] zq86_S1 (zq86_L.drop 3) (fun y => zq86_1 N rc y.1.1 y.1.2.1 y.2.1) zq86_K :=
 lG N zq86_S1 [3] zq86_S2 (zq86_4_b N rc) (zq86_s2_b N rc)
theorem zq86_b (N) (rc) : Bk 0 (zq86_C N rc) (List.range zq86_S3.ks.length) zq86_S3 (zq86_L.drop 0) (fun y => zq86 N rc y.1.1) zq86_K :=
 cG 3 (zq86_1_b N rc)
def zq86_octr (N : Nat) (rc : D24 → Option zq86_R) : Ctr := ⟨zq86_S3, zq86_S2.un [false], 0, (fun y => zq86 N rc y.1.1)⟩
theorem zq86_ook (N : Nat) (rc : D24 → Option zq86_R) (hf : COk 7 (zq86_ftr N rc))  : COk 7 (zq86_octr N rc) :=
 cF (zw3 (Γ := zq86_C N rc) zw2 (csc hf csn)) Tryz.func7 Tryz.ntmps7 (zq86_b N rc)
def zw1l (N : Nat) : Nat → D24 → Option zq86_R
 | 0 => fun _ => none
 | n + 1 => fun t_0 => zq86 N (zw1l N n) t_0
theorem zw9d (N : Nat) : ∀ n : Nat, COk 7 (zq86_ftr N (zw1l N n))
 | 0 => zw14 Tryz.func7 (by kernel_rfl) (by kernel_rfl) (fun x => rfl)
 | n + 1 => zq86_ook N (zw1l N n) (zw9d N n)
def zq86_ctr (N : Nat) : Ctr := zq86_ftr N (zw1l N N)
theorem zq86_ok (N : Nat) : COk 7 (zq86_ctr N) := zw9d N N
abbrev zq121_R : Type := (Unit × ((List UInt8 × (Int × Unit)) × Unit))
def zq121 (N : Nat) (list_0 : List UInt8) (most_1 : Int) : Option zq121_R :=
 let x1 := (list_0.length : Int)
 let x2 := bif decide (most_1 < x1) then most_1 else x1
 bif decide (0 ≤ (0 : Int)) && decide ((0 : Int) ≤ x2) && decide (x2 ≤ (list_0.length : Int)) && true then
 let x3 := cut list_0 0 x2.toNat
 bif room (0 + x3.length) 1 then
 some ((), ((x3, (0 : Int), ()), ()))
 else none
 else none
def zq121_C (N : Nat) := Cx 14 []
def zq121_S0 : Spec := ⟨[.val (.sl .u8), .val .i64], []⟩
def zq121_S1 : Spec := ⟨[.ref 0 (.pair (.sl .u8) (.pair .i64 .unit))], [(.box 50 (.pair (.sl .u8) (.pair .i64 .unit)), .pos 0)]⟩
def zq121_K : XE → GS → Option zq121_R := retK 0 [4] [false] zq121_S1
noncomputable def zq121_L : List Code := (bodyOf (some Tryz.f8))
theorem zq121_b (N) : Bk 0 (zq121_C N) (List.range zq121_S0.ks.length) zq121_S0 (zq121_L.drop 0) (fun y => zq121 N y.1.1 y.1.2.1) zq121_K :=
 cE 3
def zq121_ctr (N : Nat) : Ctr := ⟨zq121_S0, zq121_S1.un [false], 0, (fun y => zq121 N y.1.1 y.1.2.1)⟩
theorem zq121_ok (N : Nat) : COk 8 (zq121_ctr N) :=
 cF (zw3 (Γ := zq121_C N) zw2 csn) Tryz.func8 Tryz.ntmps8 (zq121_b N)
abbrev zq21_R : Type := ((Int × Unit) × ((List UInt8 × (Int × Unit)) × Unit))
def zq21 (N : Nat) (n_1 : Int) (c_0 : (List UInt8 × (Int × Unit))) : Option zq21_R :=
 bif (decide ((c_0.1.length : Int) ≤ c_0.2.1)) then
  some (((0 : Int), ()), (c_0, ()))
 else
  let x3 := w64 (c_0.2.1 + (1 : Int))
  let x4 := w64 (x3 - (1 : Int))
  bif inR x4 c_0.1.length then
  some (((w64 ((w64 (((c_0.1.getD x4.toNat (0 : UInt8)).toNat : Int) * n_1)).tdiv (256 : Int))), ()), ((c_0.1, x3, ()), ()))
  else none
def zq21_C (N : Nat) := Cx 37 []
def zq21_S0 : Spec := ⟨[.ref 0 (.pair (.sl .u8) (.pair .i64 .unit)), .val .i64], [(.box 50 (.pair (.sl .u8) (.pair .i64 .unit)), .pos 0)]⟩
def zq21_S1 : Spec := ⟨[.val .i64], [(.box 50 (.pair (.sl .u8) (.pair .i64 .unit)), .fix 0)]⟩
def zq21_K : XE → GS → Option zq21_R := retK 1 [4] [false] zq21_S1
noncomputable def zq21_L : List Code := (bodyOf (some Tryz.f29))
theorem zq21_b (N) : Bk 1 (zq21_C N) (List.range zq21_S0.ks.length) zq21_S0 (zq21_L.drop 0) (fun y => zq21 N y.1.1 y.2.1) zq21_K :=
 cE 6
def zq21_ctr (N : Nat) : Ctr := ⟨zq21_S0, zq21_S1.un [false], 1, (fun y => zq21 N y.1.1 y.2.1)⟩
theorem zq21_ok (N : Nat) : COk 29 (zq21_ctr N) :=
 cF (zw3 (Γ := zq21_C N) zw2 csn) Tryz.func29 Tryz.ntmps29 (zq21_b N)
abbrev zq85_R : Type := ((D24 × Unit) × Unit)
def zq85 (N : Nat) (owner_0 : Int) (count_1 : Int) : Option zq85_R :=
 some ((((2 : Int), (w64 ((w64 (owner_0 * (1048576 : Int))) + count_1)), ([] : List Tree), ()), ()), ())
def zq85_C (N : Nat) := Cx 10 []
def zq85_S0 : Spec := ⟨[.val .i64, .val .i64], []⟩
def zq85_S1 : Spec := ⟨[.fp T24], []⟩
def zq85_K : XE → GS → Option zq85_R := retK 0 [4] [true] zq85_S1
noncomputable def zq85_L : List Code := (bodyOf (some Tryz.f24))
theorem zq85_b (N) : Bk 0 (zq85_C N) (List.range zq85_S0.ks.length) zq85_S0 (zq85_L.drop 0) (fun y => zq85 N y.1.1 y.1.2.1) zq85_K :=
 cE 3
def zq85_ctr (N : Nat) : Ctr := ⟨zq85_S0, zq85_S1.un [true], 0, (fun y => zq85 N y.1.1 y.1.2.1)⟩
theorem zq85_ok (N : Nat) : COk 24 (zq85_ctr N) :=
 cF (zw3 (Γ := zq85_C N) zw2 csn) Tryz.func24 Tryz.ntmps24 (zq85_b N)
abbrev zq28_R : Type := ((D24 × Unit) × ((List UInt8 × (Int × Unit)) × Unit))
def zq28 (N : Nat) (c_0 : (List UInt8 × (Int × Unit))) : Option zq28_R :=
 Option.bind (zq21 N (3 : Int) c_0) fun y1 =>
 Option.bind (zq21 N (5 : Int) y1.2.1) fun y2 =>
 Option.bind (zq85 N y1.1.1 (w64 ((1 : Int) + y2.1.1))) fun y4 =>
 some ((y4.1.1, ()), (y2.2.1, ()))
def zq28_C (N : Nat) := Cx 9 [(29, zq21_ctr N), (24, zq85_ctr N)]
def zq28_S0 : Spec := ⟨[.ref 0 (.pair (.sl .u8) (.pair .i64 .unit))], [(.box 50 (.pair (.sl .u8) (.pair .i64 .unit)), .pos 0)]⟩
def zq28_S1 : Spec := ⟨[.fp T24], [(.box 50 (.pair (.sl .u8) (.pair .i64 .unit)), .fix 0)]⟩
def zq28_K : XE → GS → Option zq28_R := retK 1 [2] [true] zq28_S1
noncomputable def zq28_L : List Code := (bodyOf (some Tryz.f25))
theorem zq28_b (N) : Bk 1 (zq28_C N) (List.range zq28_S0.ks.length) zq28_S0 (zq28_L.drop 0) (fun y => zq28 N y.2.1) zq28_K :=
 cE 3
def zq28_ctr (N : Nat) : Ctr := ⟨zq28_S0, zq28_S1.un [true], 1, (fun y => zq28 N y.2.1)⟩
theorem zq28_ok (N : Nat) : COk 25 (zq28_ctr N) :=
 cF (zw3 (Γ := zq28_C N) zw2 (csc (zq21_ok N) (csc (zq85_ok N) csn))) Tryz.func25 Tryz.ntmps25 (zq28_b N)
abbrev zq91_R : Type := ((D24 × Unit) × Unit)
def zq91 (N : Nat) (l_0 : (List D24)) : Option zq91_R :=
 bif room (0 + l_0.length) 40 then
 some ((((3 : Int), (0 : Int), List.map mkT l_0, ()), ()), ())
 else none
def zq91_C (N : Nat) := Cx 6 []
def zq91_S0 : Spec := ⟨[.val (.sl T24)], []⟩
def zq91_S1 : Spec := ⟨[.fp T24], []⟩
def zq91_K : XE → GS → Option zq91_R := retK 0 [2] [true] zq91_S1
noncomputable def zq91_L : List Code := (bodyOf (some Tryz.f27))
theorem zq91_b (N) : Bk 0 (zq91_C N) (List.range zq91_S0.ks.length) zq91_S0 (zq91_L.drop 0) (fun y => zq91 N y.1.1) zq91_K :=
 cE 3
def zq91_ctr (N : Nat) : Ctr := ⟨zq91_S0, zq91_S1.un [true], 0, (fun y => zq91 N y.1.1)⟩
theorem zq91_ok (N : Nat) : COk 27 (zq91_ctr N) :=
 cF (zw3 (Γ := zq91_C N) zw2 csn) Tryz.func27 Tryz.ntmps27 (zq91_b N)
abbrev zq53_R : Type := ((D24 × Unit) × Unit)
def zq53 (N : Nat) (exponent_0 : D24) : Option zq53_R :=
 some ((((4 : Int), (0 : Int), List.map mkT ([exponent_0] : List D24), ()), ()), ())
def zq53_C (N : Nat) := Cx 6 []
def zq53_S0 : Spec := ⟨[.val T24], []⟩
def zq53_S1 : Spec := ⟨[.fp T24], []⟩
def zq53_K : XE → GS → Option zq53_R := retK 0 [2] [true] zq53_S1
noncomputable def zq53_L : List Code := (bodyOf (some Tryz.f30))
theorem zq53_b (N) : Bk 0 (zq53_C N) (List.range zq53_S0.ks.length) zq53_S0 (zq53_L.drop 0) (fun y => zq53 N y.1.1) zq53_K :=
 cE 3
def zq53_ctr (N : Nat) : Ctr := ⟨zq53_S0, zq53_S1.un [true], 0, (fun y => zq53 N y.1.1)⟩
theorem zq53_ok (N : Nat) : COk 30 (zq53_ctr N) :=
 cF (zw3 (Γ := zq53_C N) zw2 csn) Tryz.func30 Tryz.ntmps30 (zq53_b N)
abbrev zq65_R : Type := ((Int × Unit) × Unit)
def zq65_s2 (N : Nat) (rc : D24 → D24 → Option zq65_R) (i_5 : Int) (a_2 : D24) (b_3 : D24) : Option (Lo ((Int × Unit) × (D24 × D24 × Unit)) (Unit × Unit) zq65_R) :=
 bif (decide (i_5 < ((List.map Tree.un a_2.2.2.1).length : Int))) then
  let x18 := List.map Tree.un a_2.2.2.1
  bif inR i_5 x18.length then
  let x20 := List.map Tree.un b_3.2.2.1
  bif inR i_5 x20.length then
  Option.bind (rc (x18.getD i_5.toNat ((0 : Int), (0 : Int), ([] : List Tree), ())) (x20.getD i_5.toNat ((0 : Int), (0 : Int), ([] : List Tree), ()))) fun y22 =>
  bif (!(decide (y22.1.1 = (0 : Int)))) then
   some (.rt ((y22.1.1, ()), ()))
  else
   some (.go (((w64 (i_5 + (1 : Int))), ()), (a_2, b_3, ())))
  else none
  else none
 else
  some (.br ((), ()))
def zq65_3 (N : Nat) (rc : D24 → D24 → Option zq65_R) : Option zq65_R :=
 some (((0 : Int), ()), ())
def zq65_1 (N : Nat) (rc : D24 → D24 → Option zq65_R) (i_5 : Int) (a_2 : D24) (b_3 : D24) : Option zq65_R :=
 loopK N (fun y => zq65_s2 N rc y.1.1 y.2.1 y.2.2.1) (fun (e : (Unit × Unit)) => zq65_3 N rc) ((i_5, ()), (a_2, b_3, ()))
def zq65 (N : Nat) (rc : D24 → D24 → Option zq65_R) (a_0 : D24) (b_1 : D24) : Option zq65_R :=
 bif (decide (a_0.1 < b_1.1)) then
  some (((-1 : Int), ()), ())
 else
  bif (decide (b_1.1 < a_0.1)) then
   some (((1 : Int), ()), ())
  else
   bif (decide (a_0.2.1 < b_1.2.1)) then
    some (((-1 : Int), ()), ())
   else
    bif (decide (b_1.2.1 < a_0.2.1)) then
     some (((1 : Int), ()), ())
    else
     bif (!(decide (((List.map Tree.un a_0.2.2.1).length : Int) = ((List.map Tree.un b_1.2.2.1).length : Int)))) then
      some (((w64 (((List.map Tree.un a_0.2.2.1).length : Int) - ((List.map Tree.un b_1.2.2.1).length : Int))), ()), ())
     else
      zq65_1 N rc (0 : Int) a_0 b_1
def zq65_S0 : Spec := ⟨[.ref 0 T24, .ref 1 T24, .val .i64], [(.box 24 T24, .pos 0), (.box 24 T24, .pos 1)]⟩
def zq65_S1 : Spec := ⟨[], []⟩
def zq65_S2 : Spec := ⟨[.val T24, .val T24], []⟩
def zq65_S3 : Spec := ⟨[.val .i64], []⟩
def zq65_ftr (N : Nat) (rc : D24 → D24 → Option zq65_R) : Ctr := ⟨zq65_S2, zq65_S3.un [false], 0, (fun y => rc y.1.1 y.1.2.1)⟩
def zq65_C (N : Nat) (rc : D24 → D24 → Option zq65_R) := Cx 67 [(78, zq65_ftr N rc)]
def zq65_K : XE → GS → Option zq65_R := retK 0 [4] [false] zq65_S3
noncomputable def zq65_L : List Code := (bodyOf (some Tryz.f78))
def zq65_L2 : List Code := (loopOf (zq65_L[3]?))
def zq65_K2 (N : Nat) (rc : D24 → D24 → Option zq65_R) := roundK (some 1) (fit 0 [2, 3, 5] zq65_S0) (fit 0 [] zq65_S1) zq65_K
theorem zq65_s2_b (N) (rc) : Bk 0 (zq65_C N rc) [2, 3, 5] zq65_S0 (zq65_L2.drop 0) (fun y => zq65_s2 N rc y.1.1 y.2.1 y.2.2.1) (zq65_K2 N rc) :=
 cE 4
theorem zq65_3_b (N) (rc) : Bk 0 (zq65_C N rc) [] zq65_S1 (zq65_L.drop 4) (fun y => zq65_3 N rc) zq65_K :=
 cE 2
theorem zq65_1_b (N) (rc) : Bk 0 (zq65_C N rc) [2, 3, 5] zq65_S0 (zq65_L.drop 3) (fun y => zq65_1 N rc y.1.1 y.2.1 y.2.2.1) zq65_K :=
 lG N zq65_S0 [] zq65_S1 (zq65_3_b N rc) (zq65_s2_b N rc)
theorem zq65_b (N) (rc) : Bk 0 (zq65_C N rc) (List.range zq65_S2.ks.length) zq65_S2 (zq65_L.drop 0) (fun y => zq65 N rc y.1.1 y.1.2.1) zq65_K :=
 cG 3 (zq65_1_b N rc)
def zq65_octr (N : Nat) (rc : D24 → D24 → Option zq65_R) : Ctr := ⟨zq65_S2, zq65_S3.un [false], 0, (fun y => zq65 N rc y.1.1 y.1.2.1)⟩
theorem zq65_ook (N : Nat) (rc : D24 → D24 → Option zq65_R) (hf : COk 78 (zq65_ftr N rc))  : COk 78 (zq65_octr N rc) :=
 cF (zw3 (Γ := zq65_C N rc) zw2 (csc hf csn)) Tryz.func78 Tryz.ntmps78 (zq65_b N rc)
def zw20 (N : Nat) : Nat → D24 → D24 → Option zq65_R
 | 0 => fun _ _ => none
 | n + 1 => fun a_0 b_1 => zq65 N (zw20 N n) a_0 b_1
theorem zw9e (N : Nat) : ∀ n : Nat, COk 78 (zq65_ftr N (zw20 N n))
 | 0 => zw14 Tryz.func78 (by kernel_rfl) (by kernel_rfl) (fun x => rfl)
 | n + 1 => zq65_ook N (zw20 N n) (zw9e N n)
def zq65_ctr (N : Nat) : Ctr := zq65_ftr N (zw20 N N)
theorem zq65_ok (N : Nat) : COk 78 (zq65_ctr N) := zw9e N N
abbrev zq95_R : Type := ((Bool × Unit) × Unit)
def zq95 (N : Nat) (a_0 : D24) (b_1 : D24) : Option zq95_R :=
 Option.bind (zw20 N N a_0 b_1) fun y1 =>
 some (((decide (y1.1.1 < (0 : Int))), ()), ())
def zq95_C (N : Nat) := Cx 9 [(78, zq65_ctr N)]
def zq95_S0 : Spec := ⟨[.val T24, .val T24], []⟩
def zq95_S1 : Spec := ⟨[.val .bool], []⟩
def zq95_K : XE → GS → Option zq95_R := retK 0 [4] [false] zq95_S1
noncomputable def zq95_L : List Code := (bodyOf (some Tryz.f52))
theorem zq95_b (N) : Bk 0 (zq95_C N) (List.range zq95_S0.ks.length) zq95_S0 (zq95_L.drop 0) (fun y => zq95 N y.1.1 y.1.2.1) zq95_K :=
 cE 3
def zq95_ctr (N : Nat) : Ctr := ⟨zq95_S0, zq95_S1.un [false], 0, (fun y => zq95 N y.1.1 y.1.2.1)⟩
theorem zq95_ok (N : Nat) : COk 52 (zq95_ctr N) :=
 cF (zw3 (Γ := zq95_C N) zw2 (csc (zq65_ok N) csn)) Tryz.func52 Tryz.ntmps52 (zq95_b N)
abbrev zq78_R : Type := ((D24 × Bool × Unit) × Unit)
def zq78_2 (N : Nat) (t_4 : D24) (a_6 : D24) (b_7 : D24) : Option zq78_R :=
 some ((((5 : Int), (0 : Int), List.map mkT ([a_6, b_7] : List D24), ()), true, ()), ())
def zq78_1 (N : Nat) (t_16 : Bool) (public_2 : D24) (secret_3 : D24) (t_4 : D24) : Option zq78_R :=
 bif t_16 then
  some ((((0 : Int), (0 : Int), ([] : List Tree), ()), false, ()), ())
 else
  let x2 := List.map Tree.un public_2.2.2.1
  bif inR (0 : Int) x2.length then
  let x3 := x2.getD 0 ((0 : Int), (0 : Int), ([] : List Tree), ())
  Option.bind (zq95 N secret_3 x3) fun y4 =>
  bif y4.1.1 then
   zq78_2 N t_4 secret_3 x3
  else
   zq78_2 N t_4 x3 secret_3
  else none
def zq78 (N : Nat) (public_0 : D24) (secret_1 : D24) : Option zq78_R :=
 bif (!(decide (public_0.1 = (4 : Int)))) then
  zq78_1 N true public_0 secret_1 ((0 : Int), (0 : Int), ([] : List Tree), ())
 else
  zq78_1 N (!(decide (((List.map Tree.un public_0.2.2.1).length : Int) = (1 : Int)))) public_0 secret_1 ((0 : Int), (0 : Int), ([] : List Tree), ())
def zq78_C (N : Nat) := Cx 32 [(52, zq95_ctr N)]
def zq78_S0 : Spec := ⟨[.ref 0 T24, .ref 1 T24, .ref 2 T24], [(.box 24 T24, .pos 0), (.box 24 T24, .pos 1), (.box 24 T24, .pos 2)]⟩
def zq78_S1 : Spec := ⟨[.ref 0 T24, .ref 1 T24, .ref 2 T24, .val .bool], [(.box 24 T24, .pos 0), (.box 24 T24, .pos 1), (.box 24 T24, .pos 2)]⟩
def zq78_S2 : Spec := ⟨[.val T24, .val T24], []⟩
def zq78_S3 : Spec := ⟨[.fp T24, .val .bool], []⟩
def zq78_K : XE → GS → Option zq78_R := retK 0 [4, 5] [true, false] zq78_S3
noncomputable def zq78_L : List Code := (bodyOf (some Tryz.f31))
theorem zq78_2_b (N) : Bk 0 (zq78_C N) [4, 6, 7] zq78_S0 (zq78_L.drop 6) (fun y => zq78_2 N y.2.1 y.2.2.1 y.2.2.2.1) zq78_K :=
 cE 2
theorem zq78_1_b (N) : Bk 0 (zq78_C N) [2, 3, 4, 16] zq78_S1 (zq78_L.drop 2) (fun y => zq78_1 N y.1.1 y.2.1 y.2.2.1 y.2.2.2.1) zq78_K :=
 cG 4 (zq78_2_b N)
theorem zq78_b (N) : Bk 0 (zq78_C N) (List.range zq78_S2.ks.length) zq78_S2 (zq78_L.drop 0) (fun y => zq78 N y.1.1 y.1.2.1) zq78_K :=
 cG 2 (zq78_1_b N)
def zq78_ctr (N : Nat) : Ctr := ⟨zq78_S2, zq78_S3.un [true, false], 0, (fun y => zq78 N y.1.1 y.1.2.1)⟩
theorem zq78_ok (N : Nat) : COk 31 (zq78_ctr N) :=
 cF (zw3 (Γ := zq78_C N) zw2 (csc (zq95_ok N) csn)) Tryz.func31 Tryz.ntmps31 (zq78_b N)
abbrev zq58_R : Type := ((D24 × Unit) × Unit)
def zq58 (N : Nat) (label_0 : Int) (l_1 : (List D24)) : Option zq58_R :=
 bif room (0 + l_1.length) 40 then
 some ((((6 : Int), label_0, List.map mkT l_1, ()), ()), ())
 else none
def zq58_C (N : Nat) := Cx 9 []
def zq58_S0 : Spec := ⟨[.val .i64, .val (.sl T24)], []⟩
def zq58_S1 : Spec := ⟨[.fp T24], []⟩
def zq58_K : XE → GS → Option zq58_R := retK 0 [4] [true] zq58_S1
noncomputable def zq58_L : List Code := (bodyOf (some Tryz.f32))
theorem zq58_b (N) : Bk 0 (zq58_C N) (List.range zq58_S0.ks.length) zq58_S0 (zq58_L.drop 0) (fun y => zq58 N y.1.1 y.1.2.1) zq58_K :=
 cE 3
def zq58_ctr (N : Nat) : Ctr := ⟨zq58_S0, zq58_S1.un [true], 0, (fun y => zq58 N y.1.1 y.1.2.1)⟩
theorem zq58_ok (N : Nat) : COk 32 (zq58_ctr N) :=
 cF (zw3 (Γ := zq58_C N) zw2 csn) Tryz.func32 Tryz.ntmps32 (zq58_b N)
abbrev zq92_R : Type := ((D24 × Unit) × Unit)
def zq92 (N : Nat) (key_0 : D24) (body_1 : D24) : Option zq92_R :=
 some ((((7 : Int), (0 : Int), List.map mkT ([key_0, body_1] : List D24), ()), ()), ())
def zq92_C (N : Nat) := Cx 9 []
def zq92_S0 : Spec := ⟨[.val T24, .val T24], []⟩
def zq92_S1 : Spec := ⟨[.fp T24], []⟩
def zq92_K : XE → GS → Option zq92_R := retK 0 [4] [true] zq92_S1
noncomputable def zq92_L : List Code := (bodyOf (some Tryz.f26))
theorem zq92_b (N) : Bk 0 (zq92_C N) (List.range zq92_S0.ks.length) zq92_S0 (zq92_L.drop 0) (fun y => zq92 N y.1.1 y.1.2.1) zq92_K :=
 cE 3
def zq92_ctr (N : Nat) : Ctr := ⟨zq92_S0, zq92_S1.un [true], 0, (fun y => zq92 N y.1.1 y.1.2.1)⟩
theorem zq92_ok (N : Nat) : COk 26 (zq92_ctr N) :=
 cF (zw3 (Γ := zq92_C N) zw2 csn) Tryz.func26 Tryz.ntmps26 (zq92_b N)
abbrev zq96_R : Type := ((D24 × Unit) × Unit)
def zq96 (N : Nat) (identity_0 : Int) (body_1 : D24) : Option zq96_R :=
 some ((((8 : Int), identity_0, List.map mkT ([body_1] : List D24), ()), ()), ())
def zq96_C (N : Nat) := Cx 9 []
def zq96_S0 : Spec := ⟨[.val .i64, .val T24], []⟩
def zq96_S1 : Spec := ⟨[.fp T24], []⟩
def zq96_K : XE → GS → Option zq96_R := retK 0 [4] [true] zq96_S1
noncomputable def zq96_L : List Code := (bodyOf (some Tryz.f33))
theorem zq96_b (N) : Bk 0 (zq96_C N) (List.range zq96_S0.ks.length) zq96_S0 (zq96_L.drop 0) (fun y => zq96 N y.1.1 y.1.2.1) zq96_K :=
 cE 3
def zq96_ctr (N : Nat) : Ctr := ⟨zq96_S0, zq96_S1.un [true], 0, (fun y => zq96 N y.1.1 y.1.2.1)⟩
theorem zq96_ok (N : Nat) : COk 33 (zq96_ctr N) :=
 cF (zw3 (Γ := zq96_C N) zw2 csn) Tryz.func33 Tryz.ntmps33 (zq96_b N)
abbrev zq22_R : Type := ((D24 × Unit) × ((List UInt8 × (Int × Unit)) × Unit))
def zq22_8 (N : Nat) (rc : Int → (List UInt8 × (Int × Unit)) → Option zq22_R) (p0 : (List UInt8 × (Int × Unit))) (t_4 : D24) : Option zq22_R :=
 Option.bind (zq21 N (6 : Int) p0) fun y6 =>
 Option.bind (zq56 N y6.1.1) fun y7 =>
 some ((y7.1.1, ()), (y6.2.1, ()))
def zq22_12 (N : Nat) (rc : Int → (List UInt8 × (Int × Unit)) → Option zq22_R) (p0 : (List UInt8 × (Int × Unit))) (t_4 : D24) : Option zq22_R :=
 Option.bind (zq28 N p0) fun y9 =>
 some ((y9.1.1, ()), (y9.2.1, ()))
def zq22_16 (N : Nat) (rc : Int → (List UInt8 × (Int × Unit)) → Option zq22_R) (p0 : (List UInt8 × (Int × Unit))) (t_4 : D24) : Option zq22_R :=
 Option.bind (zq21 N (3 : Int) p0) fun y11 =>
 some ((((9 : Int), y11.1.1, ([] : List Tree), ()), ()), (y11.2.1, ()))
def zq22_s22 (N : Nat) (rc : Int → (List UInt8 × (Int × Unit)) → Option zq22_R) (depth_1 : Int) (n_7 : Int) (p0 : (List UInt8 × (Int × Unit))) (t_4 : D24) (l_6 : (List D24)) : Option (Lo ((Int × Int × Unit) × ((List UInt8 × (Int × Unit)) × D24 × (List D24) × Unit)) (Unit × ((List UInt8 × (Int × Unit)) × D24 × (List D24) × Unit)) zq22_R) :=
 bif (decide ((0 : Int) < n_7)) then
  Option.bind (rc (w64 (depth_1 - (1 : Int))) p0) fun y16 =>
  bif room (l_6.length + ([y16.1.1] : List D24).length) 40 then
  some (.go ((depth_1, (w64 (n_7 - (1 : Int))), ()), (y16.2.1, t_4, (l_6 ++ ([y16.1.1] : List D24)), ())))
  else none
 else
  some (.br ((), (p0, t_4, l_6, ())))
def zq22_23 (N : Nat) (rc : Int → (List UInt8 × (Int × Unit)) → Option zq22_R) (p0 : (List UInt8 × (Int × Unit))) (t_4 : D24) (l_6 : (List D24)) : Option zq22_R :=
 Option.bind (zq91 N l_6) fun y19 =>
 some ((y19.1.1, ()), (p0, ()))
def zq22_21 (N : Nat) (rc : Int → (List UInt8 × (Int × Unit)) → Option zq22_R) (depth_1 : Int) (n_7 : Int) (p0 : (List UInt8 × (Int × Unit))) (t_4 : D24) (l_6 : (List D24)) : Option zq22_R :=
 loopK N (fun y => zq22_s22 N rc y.1.1 y.1.2.1 y.2.1 y.2.2.1 y.2.2.2.1) (fun (e : (Unit × ((List UInt8 × (Int × Unit)) × D24 × (List D24) × Unit))) => zq22_23 N rc e.2.1 e.2.2.1 e.2.2.2.1) ((depth_1, n_7, ()), (p0, t_4, l_6, ()))
def zq22_20 (N : Nat) (rc : Int → (List UInt8 × (Int × Unit)) → Option zq22_R) (depth_1 : Int) (p0 : (List UInt8 × (Int × Unit))) (t_4 : D24) : Option zq22_R :=
 Option.bind (zq21 N (4 : Int) p0) fun y13 =>
 zq22_21 N rc depth_1 y13.1.1 y13.2.1 t_4 ([] : List D24)
def zq22_25 (N : Nat) (rc : Int → (List UInt8 × (Int × Unit)) → Option zq22_R) (depth_1 : Int) (p0 : (List UInt8 × (Int × Unit))) (t_4 : D24) : Option zq22_R :=
 Option.bind (zq21 N (3 : Int) p0) fun y46 =>
 Option.bind (rc (w64 (depth_1 - (1 : Int))) y46.2.1) fun y48 =>
 Option.bind (zq96 N y46.1.1 y48.1.1) fun y49 =>
 some ((y49.1.1, ()), (y48.2.1, ()))
def zq22_24 (N : Nat) (rc : Int → (List UInt8 × (Int × Unit)) → Option zq22_R) (depth_1 : Int) (t_20 : Int) (p0 : (List UInt8 × (Int × Unit))) (t_4 : D24) : Option zq22_R :=
 bif (decide (t_20 = (6 : Int))) then
  Option.bind (zq28 N p0) fun y21 =>
  Option.bind (zq53 N y21.1.1) fun y22 =>
  some ((y22.1.1, ()), (y21.2.1, ()))
 else
  bif (decide (t_20 = (7 : Int))) then
   Option.bind (zq28 N p0) fun y24 =>
   Option.bind (zq53 N y24.1.1) fun y25 =>
   Option.bind (zq28 N y24.2.1) fun y26 =>
   Option.bind (zq78 N y25.1.1 y26.1.1) fun y27 =>
   some ((y27.1.1, ()), (y26.2.1, ()))
  else
   bif (decide (t_20 = (8 : Int))) then
    Option.bind (zq21 N (9 : Int) p0) fun y29 =>
    Option.bind (rc (w64 (depth_1 - (1 : Int))) y29.2.1) fun y32 =>
    Option.bind (zq58 N (w64 ((1 : Int) + y29.1.1)) ([y32.1.1] : List D24)) fun y33 =>
    some ((y33.1.1, ()), (y32.2.1, ()))
   else
    bif (decide (t_20 = (9 : Int))) then
     Option.bind (rc (w64 (depth_1 - (1 : Int))) p0) fun y36 =>
     Option.bind (rc (w64 (depth_1 - (1 : Int))) y36.2.1) fun y38 =>
     Option.bind (zq92 N y36.1.1 y38.1.1) fun y39 =>
     some ((y39.1.1, ()), (y38.2.1, ()))
    else
     bif (decide (t_20 = (10 : Int))) then
      Option.bind (rc (w64 (depth_1 - (1 : Int))) p0) fun y42 =>
      Option.bind (rc (w64 (depth_1 - (1 : Int))) y42.2.1) fun y44 =>
      Option.bind (zq92 N y42.1.1 y44.1.1) fun y45 =>
      some ((y45.1.1, ()), (y44.2.1, ()))
     else
      zq22_25 N rc depth_1 p0 t_4
def zq22_18 (N : Nat) (rc : Int → (List UInt8 × (Int × Unit)) → Option zq22_R) (depth_1 : Int) (t_20 : Int) (t_36 : Bool) (p0 : (List UInt8 × (Int × Unit))) (t_4 : D24) : Option zq22_R :=
 bif t_36 then
  zq22_20 N rc depth_1 p0 t_4
 else
  zq22_24 N rc depth_1 t_20 p0 t_4
def zq22_17 (N : Nat) (rc : Int → (List UInt8 × (Int × Unit)) → Option zq22_R) (depth_1 : Int) (t_20 : Int) (p0 : (List UInt8 × (Int × Unit))) (t_4 : D24) : Option zq22_R :=
 bif (decide (t_20 = (4 : Int))) then
  zq22_18 N rc depth_1 t_20 true p0 t_4
 else
  zq22_18 N rc depth_1 t_20 (decide (t_20 = (5 : Int))) p0 t_4
def zq22_14 (N : Nat) (rc : Int → (List UInt8 × (Int × Unit)) → Option zq22_R) (depth_1 : Int) (t_20 : Int) (t_31 : Bool) (p0 : (List UInt8 × (Int × Unit))) (t_4 : D24) : Option zq22_R :=
 bif t_31 then
  zq22_16 N rc p0 t_4
 else
  zq22_17 N rc depth_1 t_20 p0 t_4
def zq22_13 (N : Nat) (rc : Int → (List UInt8 × (Int × Unit)) → Option zq22_R) (depth_1 : Int) (t_20 : Int) (p0 : (List UInt8 × (Int × Unit))) (t_4 : D24) : Option zq22_R :=
 zq22_14 N rc depth_1 t_20 (decide (t_20 = (3 : Int))) p0 t_4
def zq22_10 (N : Nat) (rc : Int → (List UInt8 × (Int × Unit)) → Option zq22_R) (depth_1 : Int) (t_20 : Int) (t_26 : Bool) (p0 : (List UInt8 × (Int × Unit))) (t_4 : D24) : Option zq22_R :=
 bif t_26 then
  zq22_12 N rc p0 t_4
 else
  zq22_13 N rc depth_1 t_20 p0 t_4
def zq22_9 (N : Nat) (rc : Int → (List UInt8 × (Int × Unit)) → Option zq22_R) (depth_1 : Int) (t_20 : Int) (p0 : (List UInt8 × (Int × Unit))) (t_4 : D24) : Option zq22_R :=
 bif (decide (t_20 = (1 : Int))) then
  zq22_10 N rc depth_1 t_20 true p0 t_4
 else
  zq22_10 N rc depth_1 t_20 (decide (t_20 = (2 : Int))) p0 t_4
def zq22_6 (N : Nat) (rc : Int → (List UInt8 × (Int × Unit)) → Option zq22_R) (depth_1 : Int) (t_20 : Int) (t_21 : Bool) (p0 : (List UInt8 × (Int × Unit))) (t_4 : D24) : Option zq22_R :=
 bif t_21 then
  zq22_8 N rc p0 t_4
 else
  zq22_9 N rc depth_1 t_20 p0 t_4
def zq22_5 (N : Nat) (rc : Int → (List UInt8 × (Int × Unit)) → Option zq22_R) (depth_1 : Int) (t_20 : Int) (p0 : (List UInt8 × (Int × Unit))) (t_4 : D24) : Option zq22_R :=
 zq22_6 N rc depth_1 t_20 (decide (t_20 = (0 : Int))) p0 t_4
def zq22_3 (N : Nat) (rc : Int → (List UInt8 × (Int × Unit)) → Option zq22_R) (depth_1 : Int) (t_20 : Int) (p0 : (List UInt8 × (Int × Unit))) (t_4 : D24) : Option zq22_R :=
 zq22_5 N rc depth_1 t_20 p0 t_4
def zq22_2 (N : Nat) (rc : Int → (List UInt8 × (Int × Unit)) → Option zq22_R) (depth_1 : Int) (k_5 : Int) (p0 : (List UInt8 × (Int × Unit))) (t_4 : D24) : Option zq22_R :=
 zq22_3 N rc depth_1 k_5 p0 t_4
def zq22_1 (N : Nat) (rc : Int → (List UInt8 × (Int × Unit)) → Option zq22_R) (depth_1 : Int) (k_5 : Int) (t_17 : Bool) (p0 : (List UInt8 × (Int × Unit))) (t_4 : D24) : Option zq22_R :=
 bif t_17 then
  zq22_2 N rc depth_1 (k_5.tmod (4 : Int)) p0 t_4
 else
  zq22_2 N rc depth_1 k_5 p0 t_4
def zq22 (N : Nat) (rc : Int → (List UInt8 × (Int × Unit)) → Option zq22_R) (depth_1 : Int) (c_0 : (List UInt8 × (Int × Unit))) : Option zq22_R :=
 Option.bind (zq21 N (12 : Int) c_0) fun y1 =>
 bif (decide (depth_1 ≤ (1 : Int))) then
  zq22_1 N rc depth_1 y1.1.1 (decide ((3 : Int) < y1.1.1)) y1.2.1 ((0 : Int), (0 : Int), ([] : List Tree), ())
 else
  zq22_1 N rc depth_1 y1.1.1 false y1.2.1 ((0 : Int), (0 : Int), ([] : List Tree), ())
def zq22_S0 : Spec := ⟨[.ref 0 (.pair (.sl .u8) (.pair .i64 .unit)), .ref 1 T24], [(.box 50 (.pair (.sl .u8) (.pair .i64 .unit)), .fix 0), (.box 24 T24, .pos 1)]⟩
def zq22_S1 : Spec := ⟨[.ref 0 (.pair (.sl .u8) (.pair .i64 .unit)), .val .i64, .ref 1 T24, .row 2, .val .i64], [(.box 50 (.pair (.sl .u8) (.pair .i64 .unit)), .fix 0), (.box 24 T24, .pos 2), (.row 24 T24, .pos 3)]⟩
def zq22_S2 : Spec := ⟨[.ref 1 T24, .row 2], [(.box 50 (.pair (.sl .u8) (.pair .i64 .unit)), .fix 0), (.box 24 T24, .pos 0), (.row 24 T24, .pos 1)]⟩
def zq22_S3 : Spec := ⟨[.ref 0 (.pair (.sl .u8) (.pair .i64 .unit)), .val .i64, .ref 1 T24], [(.box 50 (.pair (.sl .u8) (.pair .i64 .unit)), .fix 0), (.box 24 T24, .pos 2)]⟩
def zq22_S4 : Spec := ⟨[.ref 0 (.pair (.sl .u8) (.pair .i64 .unit)), .val .i64, .ref 1 T24, .val .i64], [(.box 50 (.pair (.sl .u8) (.pair .i64 .unit)), .fix 0), (.box 24 T24, .pos 2)]⟩
def zq22_S5 : Spec := ⟨[.ref 0 (.pair (.sl .u8) (.pair .i64 .unit)), .val .i64, .ref 1 T24, .val .i64, .val .bool], [(.box 50 (.pair (.sl .u8) (.pair .i64 .unit)), .fix 0), (.box 24 T24, .pos 2)]⟩
def zq22_S6 : Spec := ⟨[.ref 0 (.pair (.sl .u8) (.pair .i64 .unit)), .val .i64], [(.box 50 (.pair (.sl .u8) (.pair .i64 .unit)), .pos 0)]⟩
def zq22_S7 : Spec := ⟨[.fp T24], [(.box 50 (.pair (.sl .u8) (.pair .i64 .unit)), .fix 0)]⟩
def zq22_ftr (N : Nat) (rc : Int → (List UInt8 × (Int × Unit)) → Option zq22_R) : Ctr := ⟨zq22_S6, zq22_S7.un [true], 1, (fun y => rc y.1.1 y.2.1)⟩
def zq22_C (N : Nat) (rc : Int → (List UInt8 × (Int × Unit)) → Option zq22_R) := Cx 101 [(29, zq21_ctr N), (28, zq56_ctr N), (25, zq28_ctr N), (27, zq91_ctr N), (30, zq53_ctr N), (31, zq78_ctr N), (32, zq58_ctr N), (26, zq92_ctr N), (33, zq96_ctr N), (9, zq22_ftr N rc)]
def zq22_K : XE → GS → Option zq22_R := retK 1 [4] [true] zq22_S7
noncomputable def zq22_L : List Code := (bodyOf (some Tryz.f9))
def zq22_L4b : List Code := (zw17 (zq22_L[5]?))
def zq22_L7t : List Code := (thenOf (zq22_L4b[1]?))
def zq22_L7e : List Code := (elseOf (zq22_L4b[1]?))
def zq22_L11t : List Code := (thenOf (zq22_L7e[2]?))
def zq22_L11e : List Code := (elseOf (zq22_L7e[2]?))
def zq22_L15t : List Code := (thenOf (zq22_L11e[1]?))
def zq22_L15e : List Code := (elseOf (zq22_L11e[1]?))
def zq22_L19t : List Code := (thenOf (zq22_L15e[2]?))
def zq22_L22 : List Code := (loopOf (zq22_L19t[2]?))
def zq22_L19e : List Code := (elseOf (zq22_L15e[2]?))
def zq22_K4 (N : Nat) (rc : Int → (List UInt8 × (Int × Unit)) → Option zq22_R) : XE → GS → Option zq22_R := blockK 0 (goK 1 [0, 1, 4] zq22_S3 (fun y => zq22_25 N rc y.1.1 y.2.1 y.2.2.1)) zq22_K
def zq22_K7 (N : Nat) (rc : Int → (List UInt8 × (Int × Unit)) → Option zq22_R) : XE → GS → Option zq22_R := nextK (zq22_K4 N rc .normal) (zq22_K4 N rc)
def zq22_K11 (N : Nat) (rc : Int → (List UInt8 × (Int × Unit)) → Option zq22_R) : XE → GS → Option zq22_R := nextK (zq22_K7 N rc .normal) (zq22_K7 N rc)
def zq22_K15 (N : Nat) (rc : Int → (List UInt8 × (Int × Unit)) → Option zq22_R) : XE → GS → Option zq22_R := nextK (zq22_K11 N rc .normal) (zq22_K11 N rc)
def zq22_K19 (N : Nat) (rc : Int → (List UInt8 × (Int × Unit)) → Option zq22_R) : XE → GS → Option zq22_R := nextK (zq22_K15 N rc .normal) (zq22_K15 N rc)
def zq22_K22 (N : Nat) (rc : Int → (List UInt8 × (Int × Unit)) → Option zq22_R) := roundK (some 1) (fit 1 [0, 1, 4, 6, 7] zq22_S1) (fit 1 [4, 6] zq22_S2) (zq22_K19 N rc)
theorem zq22_8_b (N) (rc) : Bk 1 (zq22_C N rc) [0, 4] zq22_S0 (zq22_L7t.drop 0) (fun y => zq22_8 N rc y.2.1 y.2.2.1) (zq22_K7 N rc) :=
 cE 2
theorem zq22_12_b (N) (rc) : Bk 1 (zq22_C N rc) [0, 4] zq22_S0 (zq22_L11t.drop 0) (fun y => zq22_12 N rc y.2.1 y.2.2.1) (zq22_K11 N rc) :=
 cE 2
theorem zq22_16_b (N) (rc) : Bk 1 (zq22_C N rc) [0, 4] zq22_S0 (zq22_L15t.drop 0) (fun y => zq22_16 N rc y.2.1 y.2.2.1) (zq22_K15 N rc) :=
 cE 2
theorem zq22_s22_b (N) (rc) : Bk 1 (zq22_C N rc) [0, 1, 4, 6, 7] zq22_S1 (zq22_L22.drop 0) (fun y => zq22_s22 N rc y.1.1 y.1.2.1 y.2.1 y.2.2.1 y.2.2.2.1) (zq22_K22 N rc) :=
 cE 4
theorem zq22_23_b (N) (rc) : Bk 1 (zq22_C N rc) [4, 6] zq22_S2 (zq22_L19t.drop 3) (fun y => zq22_23 N rc y.2.1 y.2.2.1 y.2.2.2.1) (zq22_K19 N rc) :=
 cE 2
theorem zq22_21_b (N) (rc) : Bk 1 (zq22_C N rc) [0, 1, 4, 6, 7] zq22_S1 (zq22_L19t.drop 2) (fun y => zq22_21 N rc y.1.1 y.1.2.1 y.2.1 y.2.2.1 y.2.2.2.1) (zq22_K19 N rc) :=
 lG N zq22_S1 [4, 6] zq22_S2 (zq22_23_b N rc) (zq22_s22_b N rc)
theorem zq22_20_b (N) (rc) : Bk 1 (zq22_C N rc) [0, 1, 4] zq22_S3 (zq22_L19t.drop 0) (fun y => zq22_20 N rc y.1.1 y.2.1 y.2.2.1) (zq22_K19 N rc) :=
 cG 2 (zq22_21_b N rc)
theorem zq22_25_b (N) (rc) : Bk 1 (zq22_C N rc) [0, 1, 4] zq22_S3 (zq22_L.drop 6) (fun y => zq22_25 N rc y.1.1 y.2.1 y.2.2.1) zq22_K :=
 cE 2
theorem zq22_24_b (N) (rc) : Bk 1 (zq22_C N rc) [0, 1, 4, 20] zq22_S4 (zq22_L19e.drop 0) (fun y => zq22_24 N rc y.1.1 y.1.2.1 y.2.1 y.2.2.1) (zq22_K19 N rc) :=
 cE 2
theorem zq22_18_b (N) (rc) : Bk 1 (zq22_C N rc) [0, 1, 4, 20, 36] zq22_S5 (zq22_L15e.drop 2) (fun y => zq22_18 N rc y.1.1 y.1.2.1 y.1.2.2.1 y.2.1 y.2.2.1) (zq22_K15 N rc) :=
 fun hb => Blk.condAt (n := 36) (X := (zq22_K15 N rc .normal)) (A := (goK 1 [0, 1, 4] zq22_S3 (fun y => zq22_20 N rc y.1.1 y.2.1 y.2.2.1))) (B := (goK 1 [0, 1, 4, 20] zq22_S4 (fun y => zq22_24 N rc y.1.1 y.1.2.1 y.2.1 y.2.2.1))) (by kernel_rfl) (NxOk.end (by kernel_rfl)) (NxOk.go hb (zq22_20_b N rc hb)) (NxOk.go hb (zq22_24_b N rc hb)) (fun x => by kernel_rfl)
theorem zq22_17_b (N) (rc) : Bk 1 (zq22_C N rc) [0, 1, 4, 20] zq22_S4 (zq22_L15e.drop 0) (fun y => zq22_17 N rc y.1.1 y.1.2.1 y.2.1 y.2.2.1) (zq22_K15 N rc) :=
 cG 2 (zq22_18_b N rc)
theorem zq22_14_b (N) (rc) : Bk 1 (zq22_C N rc) [0, 1, 4, 20, 31] zq22_S5 (zq22_L11e.drop 1) (fun y => zq22_14 N rc y.1.1 y.1.2.1 y.1.2.2.1 y.2.1 y.2.2.1) (zq22_K11 N rc) :=
 fun hb => Blk.condAt (n := 31) (X := (zq22_K11 N rc .normal)) (A := (goK 1 [0, 4] zq22_S0 (fun y => zq22_16 N rc y.2.1 y.2.2.1))) (B := (goK 1 [0, 1, 4, 20] zq22_S4 (fun y => zq22_17 N rc y.1.1 y.1.2.1 y.2.1 y.2.2.1))) (by kernel_rfl) (NxOk.end (by kernel_rfl)) (NxOk.go hb (zq22_16_b N rc hb)) (NxOk.go hb (zq22_17_b N rc hb)) (fun x => by kernel_rfl)
theorem zq22_13_b (N) (rc) : Bk 1 (zq22_C N rc) [0, 1, 4, 20] zq22_S4 (zq22_L11e.drop 0) (fun y => zq22_13 N rc y.1.1 y.1.2.1 y.2.1 y.2.2.1) (zq22_K11 N rc) :=
 cG 1 (zq22_14_b N rc)
theorem zq22_10_b (N) (rc) : Bk 1 (zq22_C N rc) [0, 1, 4, 20, 26] zq22_S5 (zq22_L7e.drop 2) (fun y => zq22_10 N rc y.1.1 y.1.2.1 y.1.2.2.1 y.2.1 y.2.2.1) (zq22_K7 N rc) :=
 fun hb => Blk.condAt (n := 26) (X := (zq22_K7 N rc .normal)) (A := (goK 1 [0, 4] zq22_S0 (fun y => zq22_12 N rc y.2.1 y.2.2.1))) (B := (goK 1 [0, 1, 4, 20] zq22_S4 (fun y => zq22_13 N rc y.1.1 y.1.2.1 y.2.1 y.2.2.1))) (by kernel_rfl) (NxOk.end (by kernel_rfl)) (NxOk.go hb (zq22_12_b N rc hb)) (NxOk.go hb (zq22_13_b N rc hb)) (fun x => by kernel_rfl)
theorem zq22_9_b (N) (rc) : Bk 1 (zq22_C N rc) [0, 1, 4, 20] zq22_S4 (zq22_L7e.drop 0) (fun y => zq22_9 N rc y.1.1 y.1.2.1 y.2.1 y.2.2.1) (zq22_K7 N rc) :=
 cG 2 (zq22_10_b N rc)
theorem zq22_6_b (N) (rc) : Bk 1 (zq22_C N rc) [0, 1, 4, 20, 21] zq22_S5 (zq22_L4b.drop 1) (fun y => zq22_6 N rc y.1.1 y.1.2.1 y.1.2.2.1 y.2.1 y.2.2.1) (zq22_K4 N rc) :=
 fun hb => Blk.condAt (n := 21) (X := (zq22_K4 N rc .normal)) (A := (goK 1 [0, 4] zq22_S0 (fun y => zq22_8 N rc y.2.1 y.2.2.1))) (B := (goK 1 [0, 1, 4, 20] zq22_S4 (fun y => zq22_9 N rc y.1.1 y.1.2.1 y.2.1 y.2.2.1))) (by kernel_rfl) (NxOk.end (by kernel_rfl)) (NxOk.go hb (zq22_8_b N rc hb)) (NxOk.go hb (zq22_9_b N rc hb)) (fun x => by kernel_rfl)
theorem zq22_5_b (N) (rc) : Bk 1 (zq22_C N rc) [0, 1, 4, 20] zq22_S4 (zq22_L4b.drop 0) (fun y => zq22_5 N rc y.1.1 y.1.2.1 y.2.1 y.2.2.1) (zq22_K4 N rc) :=
 cG 1 (zq22_6_b N rc)
theorem zq22_3_b (N) (rc) : Bk 1 (zq22_C N rc) [0, 1, 4, 20] zq22_S4 (zq22_L.drop 5) (fun y => zq22_3 N rc y.1.1 y.1.2.1 y.2.1 y.2.2.1) zq22_K :=
 fun hb => Blk.blockAt (bid := 0) (X := (goK 1 [0, 1, 4] zq22_S3 (fun y => zq22_25 N rc y.1.1 y.2.1 y.2.2.1))) (Y := (goK 1 [0, 1, 4, 20] zq22_S4 (fun y => zq22_5 N rc y.1.1 y.1.2.1 y.2.1 y.2.2.1))) (by kernel_rfl) (NxOk.go hb (zq22_25_b N rc hb)) (NxOk.go hb (zq22_5_b N rc hb)) (fun x => by kernel_rfl)
theorem zq22_2_b (N) (rc) : Bk 1 (zq22_C N rc) [0, 1, 4, 5] zq22_S4 (zq22_L.drop 4) (fun y => zq22_2 N rc y.1.1 y.1.2.1 y.2.1 y.2.2.1) zq22_K :=
 cG 1 (zq22_3_b N rc)
theorem zq22_1_b (N) (rc) : Bk 1 (zq22_C N rc) [0, 1, 4, 5, 17] zq22_S5 (zq22_L.drop 3) (fun y => zq22_1 N rc y.1.1 y.1.2.1 y.1.2.2.1 y.2.1 y.2.2.1) zq22_K :=
 cG 1 (zq22_2_b N rc)
theorem zq22_b (N) (rc) : Bk 1 (zq22_C N rc) (List.range zq22_S6.ks.length) zq22_S6 (zq22_L.drop 0) (fun y => zq22 N rc y.1.1 y.2.1) zq22_K :=
 cG 3 (zq22_1_b N rc)
def zq22_octr (N : Nat) (rc : Int → (List UInt8 × (Int × Unit)) → Option zq22_R) : Ctr := ⟨zq22_S6, zq22_S7.un [true], 1, (fun y => zq22 N rc y.1.1 y.2.1)⟩
theorem zq22_ook (N : Nat) (rc : Int → (List UInt8 × (Int × Unit)) → Option zq22_R) (hf : COk 9 (zq22_ftr N rc))  : COk 9 (zq22_octr N rc) :=
 cF (zw3 (Γ := zq22_C N rc) zw2 (csc (zq21_ok N) (csc (zq56_ok N) (csc (zq28_ok N) (csc (zq91_ok N) (csc (zq53_ok N) (csc (zq78_ok N) (csc (zq58_ok N) (csc (zq92_ok N) (csc (zq96_ok N) (csc hf csn))))))))))) Tryz.func9 Tryz.ntmps9 (zq22_b N rc)
def zw21 (N : Nat) : Nat → Int → (List UInt8 × (Int × Unit)) → Option zq22_R
 | 0 => fun _ _ => none
 | n + 1 => fun depth_1 c_0 => zq22 N (zw21 N n) depth_1 c_0
theorem zw9f (N : Nat) : ∀ n : Nat, COk 9 (zq22_ftr N (zw21 N n))
 | 0 => zw14 Tryz.func9 (by kernel_rfl) (by kernel_rfl) (fun x => rfl)
 | n + 1 => zq22_ook N (zw21 N n) (zw9f N n)
def zq22_ctr (N : Nat) : Ctr := zq22_ftr N (zw21 N N)
theorem zq22_ok (N : Nat) : COk 9 (zq22_ctr N) := zw9f N N
abbrev zq70_R : Type := ((Int × Unit) × Unit)
def zq70_3 (N : Nat) (rc : D24 → Option zq70_R) (n_3 : Int) (i_4 : Int) (t_13 : Bool) (t_1 : D24) : Option (Lo ((Int × Int × Unit) × (D24 × Unit)) ((Int × Unit) × Unit) zq70_R) :=
 bif t_13 then
  let x5 := List.map Tree.un t_1.2.2.1
  bif inR i_4 x5.length then
  Option.bind (rc (x5.getD i_4.toNat ((0 : Int), (0 : Int), ([] : List Tree), ()))) fun y7 =>
  some (.go (((w64 (n_3 + y7.1.1)), (w64 (i_4 + (1 : Int))), ()), (t_1, ())))
  else none
 else
  some (.br ((n_3, ()), ()))
def zq70_s2 (N : Nat) (rc : D24 → Option zq70_R) (n_3 : Int) (i_4 : Int) (t_1 : D24) : Option (Lo ((Int × Int × Unit) × (D24 × Unit)) ((Int × Unit) × Unit) zq70_R) :=
 bif (decide (i_4 < ((List.map Tree.un t_1.2.2.1).length : Int))) then
  zq70_3 N rc n_3 i_4 (decide (n_3 ≤ (600 : Int))) t_1
 else
  zq70_3 N rc n_3 i_4 false t_1
def zq70_4 (N : Nat) (rc : D24 → Option zq70_R) (n_3 : Int) : Option zq70_R :=
 some (((bif decide ((601 : Int) < n_3) then (601 : Int) else n_3), ()), ())
def zq70_1 (N : Nat) (rc : D24 → Option zq70_R) (n_3 : Int) (i_4 : Int) (t_1 : D24) : Option zq70_R :=
 loopK N (fun y => zq70_s2 N rc y.1.1 y.1.2.1 y.2.1) (fun (e : ((Int × Unit) × Unit)) => zq70_4 N rc e.1.1) ((n_3, i_4, ()), (t_1, ()))
def zq70 (N : Nat) (rc : D24 → Option zq70_R) (t_0 : D24) : Option zq70_R :=
 zq70_1 N rc (1 : Int) (0 : Int) t_0
def zq70_S0 : Spec := ⟨[.ref 0 T24, .val .i64, .val .i64, .val .bool], [(.box 24 T24, .pos 0)]⟩
def zq70_S1 : Spec := ⟨[.ref 0 T24, .val .i64, .val .i64], [(.box 24 T24, .pos 0)]⟩
def zq70_S2 : Spec := ⟨[.val .i64], []⟩
def zq70_S3 : Spec := ⟨[.val T24], []⟩
def zq70_ftr (N : Nat) (rc : D24 → Option zq70_R) : Ctr := ⟨zq70_S3, zq70_S2.un [false], 0, (fun y => rc y.1.1)⟩
def zq70_C (N : Nat) (rc : D24 → Option zq70_R) := Cx 26 [(58, zq70_ftr N rc)]
def zq70_K : XE → GS → Option zq70_R := retK 0 [2] [false] zq70_S2
noncomputable def zq70_L : List Code := (bodyOf (some Tryz.f58))
def zq70_L2 : List Code := (loopOf (zq70_L[3]?))
def zq70_K2 (N : Nat) (rc : D24 → Option zq70_R) := roundK (some 0) (fit 0 [1, 3, 4] zq70_S1) (fit 0 [3] zq70_S2) zq70_K
theorem zq70_3_b (N) (rc) : Bk 0 (zq70_C N rc) [1, 3, 4, 13] zq70_S0 (zq70_L2.drop 1) (fun y => zq70_3 N rc y.1.1 y.1.2.1 y.1.2.2.1 y.2.1) (zq70_K2 N rc) :=
 cE 3
theorem zq70_s2_b (N) (rc) : Bk 0 (zq70_C N rc) [1, 3, 4] zq70_S1 (zq70_L2.drop 0) (fun y => zq70_s2 N rc y.1.1 y.1.2.1 y.2.1) (zq70_K2 N rc) :=
 cG 1 (zq70_3_b N rc)
theorem zq70_4_b (N) (rc) : Bk 0 (zq70_C N rc) [3] zq70_S2 (zq70_L.drop 4) (fun y => zq70_4 N rc y.1.1) zq70_K :=
 cE 2
theorem zq70_1_b (N) (rc) : Bk 0 (zq70_C N rc) [1, 3, 4] zq70_S1 (zq70_L.drop 3) (fun y => zq70_1 N rc y.1.1 y.1.2.1 y.2.1) zq70_K :=
 lG N zq70_S1 [3] zq70_S2 (zq70_4_b N rc) (zq70_s2_b N rc)
theorem zq70_b (N) (rc) : Bk 0 (zq70_C N rc) (List.range zq70_S3.ks.length) zq70_S3 (zq70_L.drop 0) (fun y => zq70 N rc y.1.1) zq70_K :=
 cG 3 (zq70_1_b N rc)
def zq70_octr (N : Nat) (rc : D24 → Option zq70_R) : Ctr := ⟨zq70_S3, zq70_S2.un [false], 0, (fun y => zq70 N rc y.1.1)⟩
theorem zq70_ook (N : Nat) (rc : D24 → Option zq70_R) (hf : COk 58 (zq70_ftr N rc))  : COk 58 (zq70_octr N rc) :=
 cF (zw3 (Γ := zq70_C N rc) zw2 (csc hf csn)) Tryz.func58 Tryz.ntmps58 (zq70_b N rc)
def zw1m (N : Nat) : Nat → D24 → Option zq70_R
 | 0 => fun _ => none
 | n + 1 => fun t_0 => zq70 N (zw1m N n) t_0
theorem zw9g (N : Nat) : ∀ n : Nat, COk 58 (zq70_ftr N (zw1m N n))
 | 0 => zw14 Tryz.func58 (by kernel_rfl) (by kernel_rfl) (fun x => rfl)
 | n + 1 => zq70_ook N (zw1m N n) (zw9g N n)
def zq70_ctr (N : Nat) : Ctr := zq70_ftr N (zw1m N N)
theorem zq70_ok (N : Nat) : COk 58 (zq70_ctr N) := zw9g N N
abbrev zq67_R : Type := ((Bool × Unit) × Unit)
def zq67_s2 (N : Nat) (rc : D24 → Int → Option zq67_R) (most_1 : Int) (i_5 : Int) (t_2 : D24) : Option (Lo ((Int × Int × Unit) × (D24 × Unit)) (Unit × Unit) zq67_R) :=
 bif (decide (i_5 < ((List.map Tree.un t_2.2.2.1).length : Int))) then
  let x5 := List.map Tree.un t_2.2.2.1
  bif inR i_5 x5.length then
  Option.bind (rc (x5.getD i_5.toNat ((0 : Int), (0 : Int), ([] : List Tree), ())) (w64 (most_1 - (1 : Int)))) fun y8 =>
  bif (!y8.1.1) then
   some (.rt ((false, ()), ()))
  else
   some (.go ((most_1, (w64 (i_5 + (1 : Int))), ()), (t_2, ())))
  else none
 else
  some (.br ((), ()))
def zq67_3 (N : Nat) (rc : D24 → Int → Option zq67_R) : Option zq67_R :=
 some ((true, ()), ())
def zq67_1 (N : Nat) (rc : D24 → Int → Option zq67_R) (most_1 : Int) (i_5 : Int) (t_2 : D24) : Option zq67_R :=
 loopK N (fun y => zq67_s2 N rc y.1.1 y.1.2.1 y.2.1) (fun (e : (Unit × Unit)) => zq67_3 N rc) ((most_1, i_5, ()), (t_2, ()))
def zq67 (N : Nat) (rc : D24 → Int → Option zq67_R) (t_0 : D24) (most_1 : Int) : Option zq67_R :=
 bif (decide (most_1 < (1 : Int))) then
  some ((false, ()), ())
 else
  zq67_1 N rc most_1 (0 : Int) t_0
def zq67_S0 : Spec := ⟨[.val .i64, .ref 0 T24, .val .i64], [(.box 24 T24, .pos 1)]⟩
def zq67_S1 : Spec := ⟨[], []⟩
def zq67_S2 : Spec := ⟨[.val T24, .val .i64], []⟩
def zq67_S3 : Spec := ⟨[.val .bool], []⟩
def zq67_ftr (N : Nat) (rc : D24 → Int → Option zq67_R) : Ctr := ⟨zq67_S2, zq67_S3.un [false], 0, (fun y => rc y.1.1 y.1.2.1)⟩
def zq67_C (N : Nat) (rc : D24 → Int → Option zq67_R) := Cx 24 [(59, zq67_ftr N rc)]
def zq67_K : XE → GS → Option zq67_R := retK 0 [4] [false] zq67_S3
noncomputable def zq67_L : List Code := (bodyOf (some Tryz.f59))
def zq67_L2 : List Code := (loopOf (zq67_L[4]?))
def zq67_K2 (N : Nat) (rc : D24 → Int → Option zq67_R) := roundK (some 0) (fit 0 [1, 2, 5] zq67_S0) (fit 0 [] zq67_S1) zq67_K
theorem zq67_s2_b (N) (rc) : Bk 0 (zq67_C N rc) [1, 2, 5] zq67_S0 (zq67_L2.drop 0) (fun y => zq67_s2 N rc y.1.1 y.1.2.1 y.2.1) (zq67_K2 N rc) :=
 cE 4
theorem zq67_3_b (N) (rc) : Bk 0 (zq67_C N rc) [] zq67_S1 (zq67_L.drop 5) (fun y => zq67_3 N rc) zq67_K :=
 cE 2
theorem zq67_1_b (N) (rc) : Bk 0 (zq67_C N rc) [1, 2, 5] zq67_S0 (zq67_L.drop 4) (fun y => zq67_1 N rc y.1.1 y.1.2.1 y.2.1) zq67_K :=
 lG N zq67_S0 [] zq67_S1 (zq67_3_b N rc) (zq67_s2_b N rc)
theorem zq67_b (N) (rc) : Bk 0 (zq67_C N rc) (List.range zq67_S2.ks.length) zq67_S2 (zq67_L.drop 0) (fun y => zq67 N rc y.1.1 y.1.2.1) zq67_K :=
 cG 4 (zq67_1_b N rc)
def zq67_octr (N : Nat) (rc : D24 → Int → Option zq67_R) : Ctr := ⟨zq67_S2, zq67_S3.un [false], 0, (fun y => zq67 N rc y.1.1 y.1.2.1)⟩
theorem zq67_ook (N : Nat) (rc : D24 → Int → Option zq67_R) (hf : COk 59 (zq67_ftr N rc))  : COk 59 (zq67_octr N rc) :=
 cF (zw3 (Γ := zq67_C N rc) zw2 (csc hf csn)) Tryz.func59 Tryz.ntmps59 (zq67_b N rc)
def zw1n (N : Nat) : Nat → D24 → Int → Option zq67_R
 | 0 => fun _ _ => none
 | n + 1 => fun t_0 most_1 => zq67 N (zw1n N n) t_0 most_1
theorem zw9h (N : Nat) : ∀ n : Nat, COk 59 (zq67_ftr N (zw1n N n))
 | 0 => zw14 Tryz.func59 (by kernel_rfl) (by kernel_rfl) (fun x => rfl)
 | n + 1 => zq67_ook N (zw1n N n) (zw9h N n)
def zq67_ctr (N : Nat) : Ctr := zq67_ftr N (zw1n N N)
theorem zq67_ok (N : Nat) : COk 59 (zq67_ctr N) := zw9h N N
abbrev zq104_R : Type := ((Bool × Unit) × Unit)
def zq104 (N : Nat) (t_0 : D24) : Option zq104_R :=
 let x2 := ((List.map Tree.un t_0.2.2.1).length : Int)
 bif (decide (t_0.1 = (1 : Int))) then
  some (((decide (x2 = (0 : Int))), ()), ())
 else
  bif (decide (t_0.1 = (2 : Int))) then
   bif (decide (x2 = (0 : Int))) then
    some (((decide ((0 : Int) ≤ t_0.2.1)), ()), ())
   else
    some ((false, ()), ())
  else
   bif (decide (t_0.1 = (9 : Int))) then
    bif (decide (x2 = (0 : Int))) then
     some (((decide ((0 : Int) ≤ t_0.2.1)), ()), ())
    else
     some ((false, ()), ())
   else
    bif (decide (t_0.1 = (10 : Int))) then
     bif (decide (x2 = (0 : Int))) then
      some (((decide ((0 : Int) ≤ t_0.2.1)), ()), ())
     else
      some ((false, ()), ())
    else
     bif (decide (t_0.1 = (3 : Int))) then
      some (((decide (t_0.2.1 = (0 : Int))), ()), ())
     else
      bif (decide (t_0.1 = (6 : Int))) then
       some (((decide ((0 : Int) ≤ t_0.2.1)), ()), ())
      else
       bif (decide (t_0.1 = (4 : Int))) then
        bif (decide (x2 = (1 : Int))) then
         some (((decide (t_0.2.1 = (0 : Int))), ()), ())
        else
         some ((false, ()), ())
       else
        bif (decide (t_0.1 = (8 : Int))) then
         bif (decide (x2 = (1 : Int))) then
          some (((decide ((0 : Int) ≤ t_0.2.1)), ()), ())
         else
          some ((false, ()), ())
        else
         bif (decide (t_0.1 = (5 : Int))) then
          bif (decide (x2 = (2 : Int))) then
           bif (decide (t_0.2.1 = (0 : Int))) then
            let x27 := List.map Tree.un t_0.2.2.1
            bif inR (1 : Int) x27.length then
            let x29 := List.map Tree.un t_0.2.2.1
            bif inR (0 : Int) x29.length then
            Option.bind (zq95 N (x27.getD 1 ((0 : Int), (0 : Int), ([] : List Tree), ())) (x29.getD 0 ((0 : Int), (0 : Int), ([] : List Tree), ()))) fun y31 =>
            some (((!y31.1.1), ()), ())
            else none
            else none
           else
            some ((false, ()), ())
          else
           some ((false, ()), ())
         else
          bif (decide (t_0.1 = (7 : Int))) then
           bif (decide (x2 = (2 : Int))) then
            some (((decide (t_0.2.1 = (0 : Int))), ()), ())
           else
            some ((false, ()), ())
          else
           some ((false, ()), ())
def zq104_C (N : Nat) := Cx 82 [(52, zq95_ctr N)]
def zq104_S0 : Spec := ⟨[.val T24], []⟩
def zq104_S1 : Spec := ⟨[.val .bool], []⟩
def zq104_K : XE → GS → Option zq104_R := retK 0 [2] [false] zq104_S1
noncomputable def zq104_L : List Code := (bodyOf (some Tryz.f90))
theorem zq104_b (N) : Bk 0 (zq104_C N) (List.range zq104_S0.ks.length) zq104_S0 (zq104_L.drop 0) (fun y => zq104 N y.1.1) zq104_K :=
 cE 6
def zq104_ctr (N : Nat) : Ctr := ⟨zq104_S0, zq104_S1.un [false], 0, (fun y => zq104 N y.1.1)⟩
theorem zq104_ok (N : Nat) : COk 90 (zq104_ctr N) :=
 cF (zw3 (Γ := zq104_C N) zw2 (csc (zq95_ok N) csn)) Tryz.func90 Tryz.ntmps90 (zq104_b N)
abbrev zq81_R : Type := ((Bool × Unit) × Unit)
def zq81_s2 (N : Nat) (rc : D24 → Option zq81_R) (i_3 : Int) (t_1 : D24) : Option (Lo ((Int × Unit) × (D24 × Unit)) (Unit × (D24 × Unit)) zq81_R) :=
 bif (decide (i_3 < ((List.map Tree.un t_1.2.2.1).length : Int))) then
  let x4 := List.map Tree.un t_1.2.2.1
  bif inR i_3 x4.length then
  Option.bind (rc (x4.getD i_3.toNat ((0 : Int), (0 : Int), ([] : List Tree), ()))) fun y6 =>
  bif (!y6.1.1) then
   some (.rt ((false, ()), ()))
  else
   some (.go (((w64 (i_3 + (1 : Int))), ()), (t_1, ())))
  else none
 else
  some (.br ((), (t_1, ())))
def zq81_3 (N : Nat) (rc : D24 → Option zq81_R) (t_1 : D24) : Option zq81_R :=
 Option.bind (zq104 N t_1) fun y9 =>
 some ((y9.1.1, ()), ())
def zq81_1 (N : Nat) (rc : D24 → Option zq81_R) (i_3 : Int) (t_1 : D24) : Option zq81_R :=
 loopK N (fun y => zq81_s2 N rc y.1.1 y.2.1) (fun (e : (Unit × (D24 × Unit))) => zq81_3 N rc e.2.1) ((i_3, ()), (t_1, ()))
def zq81 (N : Nat) (rc : D24 → Option zq81_R) (t_0 : D24) : Option zq81_R :=
 zq81_1 N rc (0 : Int) t_0
def zq81_S0 : Spec := ⟨[.ref 0 T24, .val .i64], [(.box 24 T24, .pos 0)]⟩
def zq81_S1 : Spec := ⟨[.ref 0 T24], [(.box 24 T24, .pos 0)]⟩
def zq81_S2 : Spec := ⟨[.val T24], []⟩
def zq81_S3 : Spec := ⟨[.val .bool], []⟩
def zq81_ftr (N : Nat) (rc : D24 → Option zq81_R) : Ctr := ⟨zq81_S2, zq81_S3.un [false], 0, (fun y => rc y.1.1)⟩
def zq81_C (N : Nat) (rc : D24 → Option zq81_R) := Cx 20 [(90, zq104_ctr N), (60, zq81_ftr N rc)]
def zq81_K : XE → GS → Option zq81_R := retK 0 [2] [false] zq81_S3
noncomputable def zq81_L : List Code := (bodyOf (some Tryz.f60))
def zq81_L2 : List Code := (loopOf (zq81_L[2]?))
def zq81_K2 (N : Nat) (rc : D24 → Option zq81_R) := roundK (some 0) (fit 0 [1, 3] zq81_S0) (fit 0 [1] zq81_S1) zq81_K
theorem zq81_s2_b (N) (rc) : Bk 0 (zq81_C N rc) [1, 3] zq81_S0 (zq81_L2.drop 0) (fun y => zq81_s2 N rc y.1.1 y.2.1) (zq81_K2 N rc) :=
 cE 4
theorem zq81_3_b (N) (rc) : Bk 0 (zq81_C N rc) [1] zq81_S1 (zq81_L.drop 3) (fun y => zq81_3 N rc y.2.1) zq81_K :=
 cE 2
theorem zq81_1_b (N) (rc) : Bk 0 (zq81_C N rc) [1, 3] zq81_S0 (zq81_L.drop 2) (fun y => zq81_1 N rc y.1.1 y.2.1) zq81_K :=
 lG N zq81_S0 [1] zq81_S1 (zq81_3_b N rc) (zq81_s2_b N rc)
theorem zq81_b (N) (rc) : Bk 0 (zq81_C N rc) (List.range zq81_S2.ks.length) zq81_S2 (zq81_L.drop 0) (fun y => zq81 N rc y.1.1) zq81_K :=
 cG 2 (zq81_1_b N rc)
def zq81_octr (N : Nat) (rc : D24 → Option zq81_R) : Ctr := ⟨zq81_S2, zq81_S3.un [false], 0, (fun y => zq81 N rc y.1.1)⟩
theorem zq81_ook (N : Nat) (rc : D24 → Option zq81_R) (hf : COk 60 (zq81_ftr N rc))  : COk 60 (zq81_octr N rc) :=
 cF (zw3 (Γ := zq81_C N rc) zw2 (csc (zq104_ok N) (csc hf csn))) Tryz.func60 Tryz.ntmps60 (zq81_b N rc)
def zw22 (N : Nat) : Nat → D24 → Option zq81_R
 | 0 => fun _ => none
 | n + 1 => fun t_0 => zq81 N (zw22 N n) t_0
theorem zw9i (N : Nat) : ∀ n : Nat, COk 60 (zq81_ftr N (zw22 N n))
 | 0 => zw14 Tryz.func60 (by kernel_rfl) (by kernel_rfl) (fun x => rfl)
 | n + 1 => zq81_ook N (zw22 N n) (zw9i N n)
def zq81_ctr (N : Nat) : Ctr := zq81_ftr N (zw22 N N)
theorem zq81_ok (N : Nat) : COk 60 (zq81_ctr N) := zw9i N N
abbrev zq74_R : Type := ((Bool × Unit) × Unit)
def zq74 (N : Nat) (t_0 : D24) : Option zq74_R :=
 Option.bind (zw1m N N t_0) fun y1 =>
 bif (decide (y1.1.1 ≤ (600 : Int))) then
  Option.bind (zw1n N N t_0 (60 : Int)) fun y3 =>
  bif y3.1.1 then
   Option.bind (zw22 N N t_0) fun y4 =>
   some ((y4.1.1, ()), ())
  else
   some ((false, ()), ())
 else
  some ((false, ()), ())
def zq74_C (N : Nat) := Cx 14 [(58, zq70_ctr N), (59, zq67_ctr N), (60, zq81_ctr N)]
def zq74_S0 : Spec := ⟨[.val T24], []⟩
def zq74_S1 : Spec := ⟨[.val .bool], []⟩
def zq74_K : XE → GS → Option zq74_R := retK 0 [2] [false] zq74_S1
noncomputable def zq74_L : List Code := (bodyOf (some Tryz.f38))
theorem zq74_b (N) : Bk 0 (zq74_C N) (List.range zq74_S0.ks.length) zq74_S0 (zq74_L.drop 0) (fun y => zq74 N y.1.1) zq74_K :=
 cE 3
def zq74_ctr (N : Nat) : Ctr := ⟨zq74_S0, zq74_S1.un [false], 0, (fun y => zq74 N y.1.1)⟩
theorem zq74_ok (N : Nat) : COk 38 (zq74_ctr N) :=
 cF (zw3 (Γ := zq74_C N) zw2 (csc (zq70_ok N) (csc (zq67_ok N) (csc (zq81_ok N) csn)))) Tryz.func38 Tryz.ntmps38 (zq74_b N)
abbrev zq51_R : Type := (Unit × (List UInt8 × Unit))
def zq51_s2 (N : Nat) (v_1 : Int) (k_7 : Int) (b_0 : List UInt8) : Option (Lo ((Int × Int × Unit) × (List UInt8 × Unit)) (Unit × (List UInt8 × Unit)) zq51_R) :=
 bif (decide ((0 : Int) ≤ k_7)) then
  let x3 := w64 ((8 : Int) * k_7)
  bif decide (0 ≤ x3) then
  let x4 := shrI v_1 x3.toNat
  bif room (b_0.length + ([iu8 x4] : List UInt8).length) 1 then
  some (.go ((v_1, (w64 (k_7 - (1 : Int))), ()), ((b_0 ++ ([iu8 x4] : List UInt8)), ())))
  else none
  else none
 else
  some (.br ((), (b_0, ())))
def zq51_3 (N : Nat) (b_0 : List UInt8) : Option zq51_R :=
 some ((), (b_0, ()))
def zq51_1 (N : Nat) (v_1 : Int) (k_7 : Int) (b_0 : List UInt8) : Option zq51_R :=
 loopK N (fun y => zq51_s2 N y.1.1 y.1.2.1 y.2.1) (fun (e : (Unit × (List UInt8 × Unit))) => zq51_3 N e.2.1) ((v_1, k_7, ()), (b_0, ()))
def zq51 (N : Nat) (v_1 : Int) (width_2 : Int) (b_0 : List UInt8) : Option zq51_R :=
 zq51_1 N v_1 (w64 (width_2 - (1 : Int))) b_0
def zq51_C (N : Nat) := Cx 23 []
def zq51_S0 : Spec := ⟨[.row 0, .val .i64, .val .i64], [(.row 5 .u8, .pos 0)]⟩
def zq51_S1 : Spec := ⟨[.row 0], [(.row 5 .u8, .pos 0)]⟩
def zq51_K : XE → GS → Option zq51_R := retK 0 [6] [false] zq51_S1
noncomputable def zq51_L : List Code := (bodyOf (some Tryz.f61))
def zq51_L2 : List Code := (loopOf (zq51_L[2]?))
def zq51_K2 (N : Nat) := roundK (some 0) (fit 0 [0, 1, 7] zq51_S0) (fit 0 [0] zq51_S1) zq51_K
theorem zq51_s2_b (N) : Bk 0 (zq51_C N) [0, 1, 7] zq51_S0 (zq51_L2.drop 0) (fun y => zq51_s2 N y.1.1 y.1.2.1 y.2.1) (zq51_K2 N) :=
 cE 4
theorem zq51_3_b (N) : Bk 0 (zq51_C N) [0] zq51_S1 (zq51_L.drop 3) (fun y => zq51_3 N y.2.1) zq51_K :=
 cE 2
theorem zq51_1_b (N) : Bk 0 (zq51_C N) [0, 1, 7] zq51_S0 (zq51_L.drop 2) (fun y => zq51_1 N y.1.1 y.1.2.1 y.2.1) zq51_K :=
 lG N zq51_S0 [0] zq51_S1 (zq51_3_b N) (zq51_s2_b N)
theorem zq51_b (N) : Bk 0 (zq51_C N) (List.range zq51_S0.ks.length) zq51_S0 (zq51_L.drop 0) (fun y => zq51 N y.1.1 y.1.2.1 y.2.1) zq51_K :=
 cG 2 (zq51_1_b N)
def zq51_ctr (N : Nat) : Ctr := ⟨zq51_S0, zq51_S1.un [false], 0, (fun y => zq51 N y.1.1 y.1.2.1 y.2.1)⟩
theorem zq51_ok (N : Nat) : COk 61 (zq51_ctr N) :=
 cF (zw3 (Γ := zq51_C N) zw2 csn) Tryz.func61 Tryz.ntmps61 (zq51_b N)
abbrev zq47_R : Type := (Unit × (List UInt8 × Unit))
def zq47_s2 (N : Nat) (rc : D24 → (List UInt8) → Option zq47_R) (i_5 : Int) (b_0 : List UInt8) (t_3 : D24) : Option (Lo ((Int × Unit) × (List UInt8 × D24 × Unit)) (Unit × (List UInt8 × Unit)) zq47_R) :=
 bif (decide (i_5 < ((List.map Tree.un t_3.2.2.1).length : Int))) then
  let x10 := List.map Tree.un t_3.2.2.1
  bif inR i_5 x10.length then
  Option.bind (rc (x10.getD i_5.toNat ((0 : Int), (0 : Int), ([] : List Tree), ())) b_0) fun y12 =>
  some (.go (((w64 (i_5 + (1 : Int))), ()), (y12.2.1, t_3, ())))
  else none
 else
  some (.br ((), (b_0, ())))
def zq47_3 (N : Nat) (rc : D24 → (List UInt8) → Option zq47_R) (b_0 : List UInt8) : Option zq47_R :=
 some ((), (b_0, ()))
def zq47_1 (N : Nat) (rc : D24 → (List UInt8) → Option zq47_R) (i_5 : Int) (b_0 : List UInt8) (t_3 : D24) : Option zq47_R :=
 loopK N (fun y => zq47_s2 N rc y.1.1 y.2.1 y.2.2.1) (fun (e : (Unit × (List UInt8 × Unit))) => zq47_3 N rc e.2.1) ((i_5, ()), (b_0, t_3, ()))
def zq47 (N : Nat) (rc : D24 → (List UInt8) → Option zq47_R) (t_1 : D24) (b_0 : List UInt8) : Option zq47_R :=
 bif room (b_0.length + ([(iu8 t_1.1)] : List UInt8).length) 1 then
 Option.bind (zq51 N t_1.2.1 (8 : Int) (b_0 ++ ([(iu8 t_1.1)] : List UInt8))) fun y3 =>
 Option.bind (zq51 N ((List.map Tree.un t_1.2.2.1).length : Int) (2 : Int) y3.2.1) fun y6 =>
 zq47_1 N rc (0 : Int) y6.2.1 t_1
 else none
def zq47_S0 : Spec := ⟨[.row 0, .ref 1 T24, .val .i64], [(.row 5 .u8, .pos 0), (.box 24 T24, .pos 1)]⟩
def zq47_S1 : Spec := ⟨[.row 0], [(.row 5 .u8, .pos 0)]⟩
def zq47_S2 : Spec := ⟨[.row 0, .val T24], [(.row 5 .u8, .pos 0)]⟩
def zq47_ftr (N : Nat) (rc : D24 → (List UInt8) → Option zq47_R) : Ctr := ⟨zq47_S2, zq47_S1.un [false], 0, (fun y => rc y.1.1 y.2.1)⟩
def zq47_C (N : Nat) (rc : D24 → (List UInt8) → Option zq47_R) := Cx 35 [(61, zq51_ctr N), (41, zq47_ftr N rc)]
def zq47_K : XE → GS → Option zq47_R := retK 0 [4] [false] zq47_S1
noncomputable def zq47_L : List Code := (bodyOf (some Tryz.f41))
def zq47_L2 : List Code := (loopOf (zq47_L[4]?))
def zq47_K2 (N : Nat) (rc : D24 → (List UInt8) → Option zq47_R) := roundK (some 0) (fit 0 [0, 3, 5] zq47_S0) (fit 0 [0] zq47_S1) zq47_K
theorem zq47_s2_b (N) (rc) : Bk 0 (zq47_C N rc) [0, 3, 5] zq47_S0 (zq47_L2.drop 0) (fun y => zq47_s2 N rc y.1.1 y.2.1 y.2.2.1) (zq47_K2 N rc) :=
 cE 4
theorem zq47_3_b (N) (rc) : Bk 0 (zq47_C N rc) [0] zq47_S1 (zq47_L.drop 5) (fun y => zq47_3 N rc y.2.1) zq47_K :=
 cE 2
theorem zq47_1_b (N) (rc) : Bk 0 (zq47_C N rc) [0, 3, 5] zq47_S0 (zq47_L.drop 4) (fun y => zq47_1 N rc y.1.1 y.2.1 y.2.2.1) zq47_K :=
 lG N zq47_S0 [0] zq47_S1 (zq47_3_b N rc) (zq47_s2_b N rc)
theorem zq47_b (N) (rc) : Bk 0 (zq47_C N rc) (List.range zq47_S2.ks.length) zq47_S2 (zq47_L.drop 0) (fun y => zq47 N rc y.1.1 y.2.1) zq47_K :=
 cG 4 (zq47_1_b N rc)
def zq47_octr (N : Nat) (rc : D24 → (List UInt8) → Option zq47_R) : Ctr := ⟨zq47_S2, zq47_S1.un [false], 0, (fun y => zq47 N rc y.1.1 y.2.1)⟩
theorem zq47_ook (N : Nat) (rc : D24 → (List UInt8) → Option zq47_R) (hf : COk 41 (zq47_ftr N rc))  : COk 41 (zq47_octr N rc) :=
 cF (zw3 (Γ := zq47_C N rc) zw2 (csc (zq51_ok N) (csc hf csn))) Tryz.func41 Tryz.ntmps41 (zq47_b N rc)
def zw23 (N : Nat) : Nat → D24 → (List UInt8) → Option zq47_R
 | 0 => fun _ _ => none
 | n + 1 => fun t_1 b_0 => zq47 N (zw23 N n) t_1 b_0
theorem zw9j (N : Nat) : ∀ n : Nat, COk 41 (zq47_ftr N (zw23 N n))
 | 0 => zw14 Tryz.func41 (by kernel_rfl) (by kernel_rfl) (fun x => rfl)
 | n + 1 => zq47_ook N (zw23 N n) (zw9j N n)
def zq47_ctr (N : Nat) : Ctr := zq47_ftr N (zw23 N N)
theorem zq47_ok (N : Nat) : COk 41 (zq47_ctr N) := zw9j N N
abbrev zq52_R : Type := ((Int × Unit) × (List UInt8 × Unit))
def zq52 (N : Nat) (t_0 : D24) : Option zq52_R :=
 Option.bind (zq74 N t_0) fun y1 =>
 bif (!y1.1.1) then
  some (((26 : Int), ()), (([] : List UInt8), ()))
 else
  Option.bind (zw23 N N t_0 ([] : List UInt8)) fun y3 =>
  some (((0 : Int), ()), (y3.2.1, ()))
def zq52_C (N : Nat) := Cx 9 [(38, zq74_ctr N), (41, zq47_ctr N)]
def zq52_S0 : Spec := ⟨[.val T24], []⟩
def zq52_S1 : Spec := ⟨[.row 0, .val .i64], [(.row 5 .u8, .pos 0)]⟩
def zq52_K : XE → GS → Option zq52_R := retK 0 [2, 3] [false, false] zq52_S1
noncomputable def zq52_L : List Code := (bodyOf (some Tryz.f13))
theorem zq52_b (N) : Bk 0 (zq52_C N) (List.range zq52_S0.ks.length) zq52_S0 (zq52_L.drop 0) (fun y => zq52 N y.1.1) zq52_K :=
 cE 5
def zq52_ctr (N : Nat) : Ctr := ⟨zq52_S0, zq52_S1.un [false, false], 0, (fun y => zq52 N y.1.1)⟩
theorem zq52_ok (N : Nat) : COk 13 (zq52_ctr N) :=
 cF (zw3 (Γ := zq52_C N) zw2 (csc (zq74_ok N) (csc (zq47_ok N) csn))) Tryz.func13 Tryz.ntmps13 (zq52_b N)
abbrev zq105_R : Type := (Unit × (List UInt8 × Unit))
def zq105_s3 (N : Nat) (v_1 : UInt64) (i_8 : Int) (out_7 : List UInt8) : Option (Lo ((UInt64 × Int × Unit) × (List UInt8 × Unit)) (Unit × (List UInt8 × Unit)) zq105_R) :=
 bif (decide ((0 : Int) ≤ i_8)) then
  let x6 := shr64 v_1 (iu64 (w64 ((8 : Int) * i_8))).toNat
  bif room (out_7.length + ([x6.toUInt8] : List UInt8).length) 1 then
  some (.go ((v_1, (w64 (i_8 - (1 : Int))), ()), ((out_7 ++ ([x6.toUInt8] : List UInt8)), ())))
  else none
 else
  some (.br ((), (out_7, ())))
def zq105_4 (N : Nat) (out_7 : List UInt8) : Option zq105_R :=
 some ((), (out_7, ()))
def zq105_2 (N : Nat) (v_1 : UInt64) (i_8 : Int) (out_7 : List UInt8) : Option zq105_R :=
 loopK N (fun y => zq105_s3 N y.1.1 y.1.2.1 y.2.1) (fun (e : (Unit × (List UInt8 × Unit))) => zq105_4 N e.2.1) ((v_1, i_8, ()), (out_7, ()))
def zq105_1 (N : Nat) (v_1 : UInt64) (width_2 : Int) (t_16 : Bool) (out_7 : List UInt8) : Option zq105_R :=
 bif t_16 then
  some ((), (out_7, ()))
 else
  zq105_2 N v_1 (w64 (width_2 - (1 : Int))) out_7
def zq105 (N : Nat) (b_0 : List UInt8) (v_1 : UInt64) (width_2 : Int) : Option zq105_R :=
 bif room (0 + b_0.length) 1 then
 bif (decide (width_2 < (1 : Int))) then
  zq105_1 N v_1 width_2 true b_0
 else
  zq105_1 N v_1 width_2 (decide ((8 : Int) < width_2)) b_0
 else none
def zq105_C (N : Nat) := Cx 34 []
def zq105_S0 : Spec := ⟨[.val .u64, .row 0, .val .i64], [(.row 5 .u8, .pos 1)]⟩
def zq105_S1 : Spec := ⟨[.row 0], [(.row 5 .u8, .pos 0)]⟩
def zq105_S2 : Spec := ⟨[.val .u64, .val .i64, .row 0, .val .bool], [(.row 5 .u8, .pos 2)]⟩
def zq105_S3 : Spec := ⟨[.val (.sl .u8), .val .u64, .val .i64], []⟩
def zq105_K : XE → GS → Option zq105_R := retK 0 [6] [false] zq105_S1
noncomputable def zq105_L : List Code := (bodyOf (some Tryz.f72))
def zq105_L3 : List Code := (loopOf (zq105_L[5]?))
def zq105_K3 (N : Nat) := roundK (some 0) (fit 0 [1, 7, 8] zq105_S0) (fit 0 [7] zq105_S1) zq105_K
theorem zq105_s3_b (N) : Bk 0 (zq105_C N) [1, 7, 8] zq105_S0 (zq105_L3.drop 0) (fun y => zq105_s3 N y.1.1 y.1.2.1 y.2.1) (zq105_K3 N) :=
 cE 4
theorem zq105_4_b (N) : Bk 0 (zq105_C N) [7] zq105_S1 (zq105_L.drop 6) (fun y => zq105_4 N y.2.1) zq105_K :=
 cE 2
theorem zq105_2_b (N) : Bk 0 (zq105_C N) [1, 7, 8] zq105_S0 (zq105_L.drop 5) (fun y => zq105_2 N y.1.1 y.1.2.1 y.2.1) zq105_K :=
 lG N zq105_S0 [7] zq105_S1 (zq105_4_b N) (zq105_s3_b N)
theorem zq105_1_b (N) : Bk 0 (zq105_C N) [1, 2, 7, 16] zq105_S2 (zq105_L.drop 3) (fun y => zq105_1 N y.1.1 y.1.2.1 y.1.2.2.1 y.2.1) zq105_K :=
 cG 2 (zq105_2_b N)
theorem zq105_b (N) : Bk 0 (zq105_C N) (List.range zq105_S3.ks.length) zq105_S3 (zq105_L.drop 0) (fun y => zq105 N y.1.1 y.1.2.1 y.1.2.2.1) zq105_K :=
 cG 3 (zq105_1_b N)
def zq105_ctr (N : Nat) : Ctr := ⟨zq105_S3, zq105_S1.un [false], 0, (fun y => zq105 N y.1.1 y.1.2.1 y.1.2.2.1)⟩
theorem zq105_ok (N : Nat) : COk 72 (zq105_ctr N) :=
 cF (zw3 (Γ := zq105_C N) zw2 csn) Tryz.func72 Tryz.ntmps72 (zq105_b N)
abbrev zq113_R : Type := (Unit × (List UInt8 × Unit))
def zq113_s2 (N : Nat) (length_0 : Int) (out_3 : List UInt8) : Option (Lo ((Int × Unit) × (List UInt8 × Unit)) ((Int × Unit) × (List UInt8 × Unit)) zq113_R) :=
 bif (!(decide (((w64 ((length_0.tmod (64 : Int)) + (out_3.length : Int))).tmod (64 : Int)) = (56 : Int)))) then
  bif room (out_3.length + ([(0 : UInt8)] : List UInt8).length) 1 then
  some (.go ((length_0, ()), ((out_3 ++ ([(0 : UInt8)] : List UInt8)), ())))
  else none
 else
  some (.br ((length_0, ()), (out_3, ())))
def zq113_3 (N : Nat) (length_0 : Int) (out_3 : List UInt8) : Option zq113_R :=
 Option.bind (zq105 N out_3 ((iu64 length_0) * (8 : UInt64)) (8 : Int)) fun y10 =>
 some ((), (y10.2.1, ()))
def zq113_1 (N : Nat) (length_0 : Int) (out_3 : List UInt8) : Option zq113_R :=
 loopK N (fun y => zq113_s2 N y.1.1 y.2.1) (fun (e : ((Int × Unit) × (List UInt8 × Unit))) => zq113_3 N e.1.1 e.2.1) ((length_0, ()), (out_3, ()))
def zq113 (N : Nat) (length_0 : Int) : Option zq113_R :=
 bif (decide (length_0 < (0 : Int))) then
  some ((), (([] : List UInt8), ()))
 else
  zq113_1 N length_0 ([(128 : UInt8)] : List UInt8)
def zq113_C (N : Nat) := Cx 22 [(72, zq105_ctr N)]
def zq113_S0 : Spec := ⟨[.val .i64, .row 0], [(.row 5 .u8, .pos 1)]⟩
def zq113_S1 : Spec := ⟨[.val .i64], []⟩
def zq113_S2 : Spec := ⟨[.row 0], [(.row 5 .u8, .pos 0)]⟩
def zq113_K : XE → GS → Option zq113_R := retK 0 [2] [false] zq113_S2
noncomputable def zq113_L : List Code := (bodyOf (some Tryz.f70))
def zq113_L2 : List Code := (loopOf (zq113_L[4]?))
def zq113_K2 (N : Nat) := roundK (some 0) (fit 0 [0, 3] zq113_S0) (fit 0 [0, 3] zq113_S0) zq113_K
theorem zq113_s2_b (N) : Bk 0 (zq113_C N) [0, 3] zq113_S0 (zq113_L2.drop 0) (fun y => zq113_s2 N y.1.1 y.2.1) (zq113_K2 N) :=
 cE 3
theorem zq113_3_b (N) : Bk 0 (zq113_C N) [0, 3] zq113_S0 (zq113_L.drop 5) (fun y => zq113_3 N y.1.1 y.2.1) zq113_K :=
 cE 2
theorem zq113_1_b (N) : Bk 0 (zq113_C N) [0, 3] zq113_S0 (zq113_L.drop 4) (fun y => zq113_1 N y.1.1 y.2.1) zq113_K :=
 lG N zq113_S0 [0, 3] zq113_S0 (zq113_3_b N) (zq113_s2_b N)
theorem zq113_b (N) : Bk 0 (zq113_C N) (List.range zq113_S1.ks.length) zq113_S1 (zq113_L.drop 0) (fun y => zq113 N y.1.1) zq113_K :=
 cG 4 (zq113_1_b N)
def zq113_ctr (N : Nat) : Ctr := ⟨zq113_S1, zq113_S2.un [false], 0, (fun y => zq113 N y.1.1)⟩
theorem zq113_ok (N : Nat) : COk 70 (zq113_ctr N) :=
 cF (zw3 (Γ := zq113_C N) zw2 (csc (zq105_ok N) csn)) Tryz.func70 Tryz.ntmps70 (zq113_b N)
abbrev zq41_R : Type := ((UInt64 × Bool × Unit) × Unit)
def zq41_s3 (N : Nat) (b_0 : List UInt8) (at_1 : Int) (width_2 : Int) (v_8 : UInt64) (i_9 : Int) : Option (Lo ((List UInt8 × Int × Int × UInt64 × Int × Unit) × Unit) ((UInt64 × Unit) × Unit) zq41_R) :=
 bif (decide (i_9 < (w64 (at_1 + width_2)))) then
  bif inR i_9 b_0.length then
  some (.go ((b_0, at_1, width_2, ((shl64 v_8 8) ||| (b_0.getD i_9.toNat (0 : UInt8)).toUInt64), (w64 (i_9 + (1 : Int))), ()), ()))
  else none
 else
  some (.br ((v_8, ()), ()))
def zq41_4 (N : Nat) (v_8 : UInt64) : Option zq41_R :=
 some ((v_8, true, ()), ())
def zq41_2 (N : Nat) (b_0 : List UInt8) (at_1 : Int) (width_2 : Int) (v_8 : UInt64) (i_9 : Int) : Option zq41_R :=
 loopK N (fun y => zq41_s3 N y.1.1 y.1.2.1 y.1.2.2.1 y.1.2.2.2.1 y.1.2.2.2.2.1) (fun (e : ((UInt64 × Unit) × Unit)) => zq41_4 N e.1.1) ((b_0, at_1, width_2, v_8, i_9, ()), ())
def zq41_1 (N : Nat) (b_0 : List UInt8) (at_1 : Int) (width_2 : Int) (t_33 : Bool) : Option zq41_R :=
 bif t_33 then
  some (((0 : UInt64), false, ()), ())
 else
  zq41_2 N b_0 at_1 width_2 (0 : UInt64) at_1
def zq41 (N : Nat) (b_0 : List UInt8) (at_1 : Int) (width_2 : Int) : Option zq41_R :=
 bif (decide (width_2 < (1 : Int))) then
  zq41_1 N b_0 at_1 width_2 true
 else
  bif (decide ((8 : Int) < width_2)) then
   zq41_1 N b_0 at_1 width_2 true
  else
   bif (decide (at_1 < (0 : Int))) then
    zq41_1 N b_0 at_1 width_2 true
   else
    bif (decide ((b_0.length : Int) < at_1)) then
     zq41_1 N b_0 at_1 width_2 true
    else
     zq41_1 N b_0 at_1 width_2 (decide ((w64 ((b_0.length : Int) - at_1)) < width_2))
def zq41_C (N : Nat) := Cx 51 []
def zq41_S0 : Spec := ⟨[.val (.sl .u8), .val .i64, .val .i64, .val .u64, .val .i64], []⟩
def zq41_S1 : Spec := ⟨[.val .u64], []⟩
def zq41_S2 : Spec := ⟨[.val (.sl .u8), .val .i64, .val .i64, .val .bool], []⟩
def zq41_S3 : Spec := ⟨[.val (.sl .u8), .val .i64, .val .i64], []⟩
def zq41_S4 : Spec := ⟨[.val .u64, .val .bool], []⟩
def zq41_K : XE → GS → Option zq41_R := retK 0 [6, 7] [false, false] zq41_S4
noncomputable def zq41_L : List Code := (bodyOf (some Tryz.f96))
def zq41_L3 : List Code := (loopOf (zq41_L[5]?))
def zq41_K3 (N : Nat) := roundK (some 0) (fit 0 [0, 1, 2, 8, 9] zq41_S0) (fit 0 [8] zq41_S1) zq41_K
theorem zq41_s3_b (N) : Bk 0 (zq41_C N) [0, 1, 2, 8, 9] zq41_S0 (zq41_L3.drop 0) (fun y => zq41_s3 N y.1.1 y.1.2.1 y.1.2.2.1 y.1.2.2.2.1 y.1.2.2.2.2.1) (zq41_K3 N) :=
 cE 4
theorem zq41_4_b (N) : Bk 0 (zq41_C N) [8] zq41_S1 (zq41_L.drop 6) (fun y => zq41_4 N y.1.1) zq41_K :=
 cE 2
theorem zq41_2_b (N) : Bk 0 (zq41_C N) [0, 1, 2, 8, 9] zq41_S0 (zq41_L.drop 5) (fun y => zq41_2 N y.1.1 y.1.2.1 y.1.2.2.1 y.1.2.2.2.1 y.1.2.2.2.2.1) zq41_K :=
 lG N zq41_S0 [8] zq41_S1 (zq41_4_b N) (zq41_s3_b N)
theorem zq41_1_b (N) : Bk 0 (zq41_C N) [0, 1, 2, 33] zq41_S2 (zq41_L.drop 2) (fun y => zq41_1 N y.1.1 y.1.2.1 y.1.2.2.1 y.1.2.2.2.1) zq41_K :=
 cG 3 (zq41_2_b N)
theorem zq41_b (N) : Bk 0 (zq41_C N) (List.range zq41_S3.ks.length) zq41_S3 (zq41_L.drop 0) (fun y => zq41 N y.1.1 y.1.2.1 y.1.2.2.1) zq41_K :=
 cG 2 (zq41_1_b N)
def zq41_ctr (N : Nat) : Ctr := ⟨zq41_S3, zq41_S4.un [false, false], 0, (fun y => zq41 N y.1.1 y.1.2.1 y.1.2.2.1)⟩
theorem zq41_ok (N : Nat) : COk 96 (zq41_ctr N) :=
 cF (zw3 (Γ := zq41_C N) zw2 csn) Tryz.func96 Tryz.ntmps96 (zq41_b N)
abbrev zq90_R : Type := ((UInt32 × Unit) × Unit)
def zq90 (N : Nat) (x_0 : UInt32) (n_1 : UInt64) : Option zq90_R :=
 some ((((shr32 x_0 n_1.toNat) ||| (shl32 x_0 ((32 : UInt64) - n_1).toNat)), ()), ())
def zq90_C (N : Nat) := Cx 13 []
def zq90_S0 : Spec := ⟨[.val .u32, .val .u64], []⟩
def zq90_S1 : Spec := ⟨[.val .u32], []⟩
def zq90_K : XE → GS → Option zq90_R := retK 0 [4] [false] zq90_S1
noncomputable def zq90_L : List Code := (bodyOf (some Tryz.f97))
theorem zq90_b (N) : Bk 0 (zq90_C N) (List.range zq90_S0.ks.length) zq90_S0 (zq90_L.drop 0) (fun y => zq90 N y.1.1 y.1.2.1) zq90_K :=
 cE 3
def zq90_ctr (N : Nat) : Ctr := ⟨zq90_S0, zq90_S1.un [false], 0, (fun y => zq90 N y.1.1 y.1.2.1)⟩
theorem zq90_ok (N : Nat) : COk 97 (zq90_ctr N) :=
 cF (zw3 (Γ := zq90_C N) zw2 csn) Tryz.func97 Tryz.ntmps97 (zq90_b N)
abbrev zq20_R : Type := (((List UInt32) × Unit) × Unit)
def zq20 (N : Nat) : Option zq20_R :=
 some ((([(1116352408 : UInt32), (1899447441 : UInt32), (3049323471 : UInt32), (3921009573 : UInt32), (961987163 : UInt32), (1508970993 : UInt32), (2453635748 : UInt32), (2870763221 : UInt32), (3624381080 : UInt32), (310598401 : UInt32), (607225278 : UInt32), (1426881987 : UInt32), (1925078388 : UInt32), (2162078206 : UInt32), (2614888103 : UInt32), (3248222580 : UInt32), (3835390401 : UInt32), (4022224774 : UInt32), (264347078 : UInt32), (604807628 : UInt32), (770255983 : UInt32), (1249150122 : UInt32), (1555081692 : UInt32), (1996064986 : UInt32), (2554220882 : UInt32), (2821834349 : UInt32), (2952996808 : UInt32), (3210313671 : UInt32), (3336571891 : UInt32), (3584528711 : UInt32), (113926993 : UInt32), (338241895 : UInt32), (666307205 : UInt32), (773529912 : UInt32), (1294757372 : UInt32), (1396182291 : UInt32), (1695183700 : UInt32), (1986661051 : UInt32), (2177026350 : UInt32), (2456956037 : UInt32), (2730485921 : UInt32), (2820302411 : UInt32), (3259730800 : UInt32), (3345764771 : UInt32), (3516065817 : UInt32), (3600352804 : UInt32), (4094571909 : UInt32), (275423344 : UInt32), (430227734 : UInt32), (506948616 : UInt32), (659060556 : UInt32), (883997877 : UInt32), (958139571 : UInt32), (1322822218 : UInt32), (1537002063 : UInt32), (1747873779 : UInt32), (1955562222 : UInt32), (2024104815 : UInt32), (2227730452 : UInt32), (2361852424 : UInt32), (2428436474 : UInt32), (2756734187 : UInt32), (3204031479 : UInt32), (3329325298 : UInt32)] : List UInt32), ()), ())
def zq20_C (N : Nat) := Cx 2 []
def zq20_S0 : Spec := ⟨[], []⟩
def zq20_S1 : Spec := ⟨[.fp (.arr 64 .u32)], []⟩
def zq20_K : XE → GS → Option zq20_R := retK 0 [0] [true] zq20_S1
noncomputable def zq20_L : List Code := (bodyOf (some Tryz.f98))
theorem zq20_b (N) : Bk 0 (zq20_C N) (List.range zq20_S0.ks.length) zq20_S0 (zq20_L.drop 0) (fun y => zq20 N) zq20_K :=
 cE 3
def zq20_ctr (N : Nat) : Ctr := ⟨zq20_S0, zq20_S1.un [true], 0, (fun y => zq20 N)⟩
theorem zq20_ok (N : Nat) : COk 98 (zq20_ctr N) :=
 cF (zw3 (Γ := zq20_C N) zw2 csn) Tryz.func98 Tryz.ntmps98 (zq20_b N)
abbrev zq61_R : Type := (((List UInt32) × Bool × Unit) × Unit)
def zq61_s2 (N : Nat) (block_1 : List UInt8) (t_7 : Int) (state_2 : (List UInt32)) (t_4 : (List UInt32)) (w_6 : (List UInt32)) : Option (Lo ((List UInt8 × Int × Unit) × ((List UInt32) × (List UInt32) × (List UInt32) × Unit)) (Unit × ((List UInt32) × (List UInt32) × (List UInt32) × Unit)) zq61_R) :=
 bif (decide (t_7 < (64 : Int))) then
  bif (decide (t_7 < (16 : Int))) then
   Option.bind (zq41 N block_1 (w64 ((4 : Int) * t_7)) (4 : Int)) fun y7 =>
   bif inR t_7 64 then
   some (.go ((block_1, (w64 (t_7 + (1 : Int))), ()), (state_2, t_4, (w_6.set t_7.toNat y7.1.1.toUInt32), ())))
   else none
  else
   let x10 := w64 (t_7 - (2 : Int))
   bif inR x10 64 then
   let x11 := (w_6.getD x10.toNat (0 : UInt32))
   let x12 := w64 (t_7 - (15 : Int))
   bif inR x12 64 then
   let x13 := (w_6.getD x12.toNat (0 : UInt32))
   Option.bind (zq90 N x11 (17 : UInt64)) fun y14 =>
   Option.bind (zq90 N x11 (19 : UInt64)) fun y15 =>
   let x19 := w64 (t_7 - (7 : Int))
   bif inR x19 64 then
   Option.bind (zq90 N x13 (7 : UInt64)) fun y22 =>
   Option.bind (zq90 N x13 (18 : UInt64)) fun y23 =>
   let x28 := w64 (t_7 - (16 : Int))
   bif inR x28 64 then
   bif inR t_7 64 then
   some (.go ((block_1, (w64 (t_7 + (1 : Int))), ()), (state_2, t_4, (w_6.set t_7.toNat (((((y14.1.1 ^^^ y15.1.1) ^^^ (shr32 x11 10)) + (w_6.getD x19.toNat (0 : UInt32))) + ((y22.1.1 ^^^ y23.1.1) ^^^ (shr32 x13 3))) + (w_6.getD x28.toNat (0 : UInt32)))), ())))
   else none
   else none
   else none
   else none
   else none
 else
  some (.br ((), (state_2, t_4, w_6, ())))
def zq61_s5 (N : Nat) (t_14 : Int) (state_2 : (List UInt32)) (t_4 : (List UInt32)) (w_6 : (List UInt32)) (k_12 : (List UInt32)) (v_13 : (List UInt32)) : Option (Lo ((Int × Unit) × ((List UInt32) × (List UInt32) × (List UInt32) × (List UInt32) × (List UInt32) × Unit)) (Unit × ((List UInt32) × (List UInt32) × (List UInt32) × Unit)) zq61_R) :=
 bif (decide (t_14 < (64 : Int))) then
  let x35 := (v_13.getD 0 (0 : UInt32))
  let x36 := (v_13.getD 1 (0 : UInt32))
  let x37 := (v_13.getD 2 (0 : UInt32))
  let x38 := (v_13.getD 4 (0 : UInt32))
  let x39 := (v_13.getD 5 (0 : UInt32))
  let x40 := (v_13.getD 6 (0 : UInt32))
  let x41 := (v_13.getD 7 (0 : UInt32))
  Option.bind (zq90 N x38 (6 : UInt64)) fun y42 =>
  Option.bind (zq90 N x38 (11 : UInt64)) fun y43 =>
  Option.bind (zq90 N x38 (25 : UInt64)) fun y45 =>
  let x46 := (y42.1.1 ^^^ y43.1.1) ^^^ y45.1.1
  bif inR t_14 64 then
  let x53 := (k_12.getD t_14.toNat (0 : UInt32))
  bif inR t_14 64 then
  let x55 := (w_6.getD t_14.toNat (0 : UInt32))
  Option.bind (zq90 N x35 (2 : UInt64)) fun y57 =>
  Option.bind (zq90 N x35 (13 : UInt64)) fun y58 =>
  Option.bind (zq90 N x35 (22 : UInt64)) fun y60 =>
  some (.go (((w64 (t_14 + (1 : Int))), ()), (state_2, t_4, w_6, k_12, ([(((((x41 + x46) + ((x38 &&& x39) ^^^ ((~~~ x38) &&& x40))) + x53) + x55) + (((y57.1.1 ^^^ y58.1.1) ^^^ y60.1.1) + (((x35 &&& x36) ^^^ (x35 &&& x37)) ^^^ (x36 &&& x37)))), x35, x36, x37, ((v_13.getD 3 (0 : UInt32)) + ((((x41 + x46) + ((x38 &&& x39) ^^^ ((~~~ x38) &&& x40))) + x53) + x55)), x38, x39, x40] : List UInt32), ())))
  else none
  else none
 else
  some (.br ((), (state_2, t_4, v_13, ())))
def zq61_s8 (N : Nat) (i_23 : Int) (state_2 : (List UInt32)) (t_4 : (List UInt32)) (v_13 : (List UInt32)) : Option (Lo ((Int × Unit) × ((List UInt32) × (List UInt32) × (List UInt32) × Unit)) (Unit × ((List UInt32) × (List UInt32) × Unit)) zq61_R) :=
 bif (decide (i_23 < (8 : Int))) then
  bif inR i_23 8 then
  bif inR i_23 8 then
  bif inR i_23 8 then
  some (.go (((w64 (i_23 + (1 : Int))), ()), (state_2, t_4, (v_13.set i_23.toNat ((v_13.getD i_23.toNat (0 : UInt32)) + (state_2.getD i_23.toNat (0 : UInt32)))), ())))
  else none
  else none
  else none
 else
  some (.br ((), (t_4, v_13, ())))
def zq61_9 (N : Nat) (t_4 : (List UInt32)) (v_13 : (List UInt32)) : Option zq61_R :=
 some ((v_13, true, ()), ())
def zq61_7 (N : Nat) (i_23 : Int) (state_2 : (List UInt32)) (t_4 : (List UInt32)) (v_13 : (List UInt32)) : Option zq61_R :=
 loopK N (fun y => zq61_s8 N y.1.1 y.2.1 y.2.2.1 y.2.2.2.1) (fun (e : (Unit × ((List UInt32) × (List UInt32) × Unit))) => zq61_9 N e.2.1 e.2.2.1) ((i_23, ()), (state_2, t_4, v_13, ()))
def zq61_6 (N : Nat) (state_2 : (List UInt32)) (t_4 : (List UInt32)) (v_13 : (List UInt32)) : Option zq61_R :=
 zq61_7 N (0 : Int) state_2 t_4 v_13
def zq61_4 (N : Nat) (t_14 : Int) (state_2 : (List UInt32)) (t_4 : (List UInt32)) (w_6 : (List UInt32)) (k_12 : (List UInt32)) (v_13 : (List UInt32)) : Option zq61_R :=
 loopK N (fun y => zq61_s5 N y.1.1 y.2.1 y.2.2.1 y.2.2.2.1 y.2.2.2.2.1 y.2.2.2.2.2.1) (fun (e : (Unit × ((List UInt32) × (List UInt32) × (List UInt32) × Unit))) => zq61_6 N e.2.1 e.2.2.1 e.2.2.2.1) ((t_14, ()), (state_2, t_4, w_6, k_12, v_13, ()))
def zq61_3 (N : Nat) (state_2 : (List UInt32)) (t_4 : (List UInt32)) (w_6 : (List UInt32)) : Option zq61_R :=
 Option.bind (zq20 N) fun y33 =>
 zq61_4 N (0 : Int) state_2 t_4 w_6 y33.1.1 state_2
def zq61_1 (N : Nat) (block_1 : List UInt8) (t_7 : Int) (state_2 : (List UInt32)) (t_4 : (List UInt32)) (w_6 : (List UInt32)) : Option zq61_R :=
 loopK N (fun y => zq61_s2 N y.1.1 y.1.2.1 y.2.1 y.2.2.1 y.2.2.2.1) (fun (e : (Unit × ((List UInt32) × (List UInt32) × (List UInt32) × Unit))) => zq61_3 N e.2.1 e.2.2.1 e.2.2.2.1) ((block_1, t_7, ()), (state_2, t_4, w_6, ()))
def zq61 (N : Nat) (state_0 : (List UInt32)) (block_1 : List UInt8) : Option zq61_R :=
 bif (!(decide ((block_1.length : Int) = (64 : Int)))) then
  some (((List.replicate 8 (0 : UInt32)), false, ()), ())
 else
  zq61_1 N block_1 (0 : Int) state_0 (List.replicate 8 (0 : UInt32)) (List.replicate 64 (0 : UInt32))
def zq61_C (N : Nat) := Cx 175 [(96, zq41_ctr N), (97, zq90_ctr N), (98, zq20_ctr N)]
def zq61_S0 : Spec := ⟨[.val (.sl .u8), .ref 0 (.arr 8 .u32), .ref 1 (.arr 8 .u32), .ref 2 (.arr 64 .u32), .val .i64], [(.box 84 (.arr 8 .u32), .pos 1), (.box 84 (.arr 8 .u32), .pos 2), (.box 100 (.arr 64 .u32), .pos 3)]⟩
def zq61_S1 : Spec := ⟨[.ref 0 (.arr 8 .u32), .ref 1 (.arr 8 .u32), .ref 2 (.arr 64 .u32), .ref 3 (.arr 64 .u32), .ref 4 (.arr 8 .u32), .val .i64], [(.box 84 (.arr 8 .u32), .pos 0), (.box 84 (.arr 8 .u32), .pos 1), (.box 100 (.arr 64 .u32), .pos 2), (.box 100 (.arr 64 .u32), .pos 3), (.box 84 (.arr 8 .u32), .pos 4)]⟩
def zq61_S2 : Spec := ⟨[.ref 0 (.arr 8 .u32), .ref 1 (.arr 8 .u32), .ref 2 (.arr 8 .u32), .val .i64], [(.box 84 (.arr 8 .u32), .pos 0), (.box 84 (.arr 8 .u32), .pos 1), (.box 84 (.arr 8 .u32), .pos 2)]⟩
def zq61_S3 : Spec := ⟨[.ref 0 (.arr 8 .u32), .ref 1 (.arr 8 .u32)], [(.box 84 (.arr 8 .u32), .pos 0), (.box 84 (.arr 8 .u32), .pos 1)]⟩
def zq61_S4 : Spec := ⟨[.ref 0 (.arr 8 .u32), .ref 1 (.arr 8 .u32), .ref 2 (.arr 8 .u32)], [(.box 84 (.arr 8 .u32), .pos 0), (.box 84 (.arr 8 .u32), .pos 1), (.box 84 (.arr 8 .u32), .pos 2)]⟩
def zq61_S5 : Spec := ⟨[.ref 0 (.arr 8 .u32), .ref 1 (.arr 8 .u32), .ref 2 (.arr 64 .u32)], [(.box 84 (.arr 8 .u32), .pos 0), (.box 84 (.arr 8 .u32), .pos 1), (.box 100 (.arr 64 .u32), .pos 2)]⟩
def zq61_S6 : Spec := ⟨[.val (.arr 8 .u32), .val (.sl .u8)], []⟩
def zq61_S7 : Spec := ⟨[.fp (.arr 8 .u32), .val .bool], []⟩
def zq61_K : XE → GS → Option zq61_R := retK 0 [4, 5] [true, false] zq61_S7
noncomputable def zq61_L : List Code := (bodyOf (some Tryz.f71))
def zq61_L2 : List Code := (loopOf (zq61_L[5]?))
def zq61_L5 : List Code := (loopOf (zq61_L[9]?))
def zq61_L8 : List Code := (loopOf (zq61_L[11]?))
def zq61_K2 (N : Nat) := roundK (some 0) (fit 0 [1, 2, 4, 6, 7] zq61_S0) (fit 0 [2, 4, 6] zq61_S5) zq61_K
def zq61_K5 (N : Nat) := roundK (some 2) (fit 0 [2, 4, 6, 12, 13, 14] zq61_S1) (fit 0 [2, 4, 13] zq61_S4) zq61_K
def zq61_K8 (N : Nat) := roundK (some 4) (fit 0 [2, 4, 13, 23] zq61_S2) (fit 0 [4, 13] zq61_S3) zq61_K
theorem zq61_s2_b (N) : Bk 0 (zq61_C N) [1, 2, 4, 6, 7] zq61_S0 (zq61_L2.drop 0) (fun y => zq61_s2 N y.1.1 y.1.2.1 y.2.1 y.2.2.1 y.2.2.2.1) (zq61_K2 N) :=
 cE 4
theorem zq61_s5_b (N) : Bk 0 (zq61_C N) [2, 4, 6, 12, 13, 14] zq61_S1 (zq61_L5.drop 0) (fun y => zq61_s5 N y.1.1 y.2.1 y.2.2.1 y.2.2.2.1 y.2.2.2.2.1 y.2.2.2.2.2.1) (zq61_K5 N) :=
 cE 4
theorem zq61_s8_b (N) : Bk 0 (zq61_C N) [2, 4, 13, 23] zq61_S2 (zq61_L8.drop 0) (fun y => zq61_s8 N y.1.1 y.2.1 y.2.2.1 y.2.2.2.1) (zq61_K8 N) :=
 cE 4
theorem zq61_9_b (N) : Bk 0 (zq61_C N) [4, 13] zq61_S3 (zq61_L.drop 12) (fun y => zq61_9 N y.2.1 y.2.2.1) zq61_K :=
 cE 2
theorem zq61_7_b (N) : Bk 0 (zq61_C N) [2, 4, 13, 23] zq61_S2 (zq61_L.drop 11) (fun y => zq61_7 N y.1.1 y.2.1 y.2.2.1 y.2.2.2.1) zq61_K :=
 lG N zq61_S2 [4, 13] zq61_S3 (zq61_9_b N) (zq61_s8_b N)
theorem zq61_6_b (N) : Bk 0 (zq61_C N) [2, 4, 13] zq61_S4 (zq61_L.drop 10) (fun y => zq61_6 N y.2.1 y.2.2.1 y.2.2.2.1) zq61_K :=
 cG 1 (zq61_7_b N)
theorem zq61_4_b (N) : Bk 0 (zq61_C N) [2, 4, 6, 12, 13, 14] zq61_S1 (zq61_L.drop 9) (fun y => zq61_4 N y.1.1 y.2.1 y.2.2.1 y.2.2.2.1 y.2.2.2.2.1 y.2.2.2.2.2.1) zq61_K :=
 lG N zq61_S1 [2, 4, 13] zq61_S4 (zq61_6_b N) (zq61_s5_b N)
theorem zq61_3_b (N) : Bk 0 (zq61_C N) [2, 4, 6] zq61_S5 (zq61_L.drop 6) (fun y => zq61_3 N y.2.1 y.2.2.1 y.2.2.2.1) zq61_K :=
 cG 3 (zq61_4_b N)
theorem zq61_1_b (N) : Bk 0 (zq61_C N) [1, 2, 4, 6, 7] zq61_S0 (zq61_L.drop 5) (fun y => zq61_1 N y.1.1 y.1.2.1 y.2.1 y.2.2.1 y.2.2.2.1) zq61_K :=
 lG N zq61_S0 [2, 4, 6] zq61_S5 (zq61_3_b N) (zq61_s2_b N)
theorem zq61_b (N) : Bk 0 (zq61_C N) (List.range zq61_S6.ks.length) zq61_S6 (zq61_L.drop 0) (fun y => zq61 N y.1.1 y.1.2.1) zq61_K :=
 cG 5 (zq61_1_b N)
def zq61_ctr (N : Nat) : Ctr := ⟨zq61_S6, zq61_S7.un [true, false], 0, (fun y => zq61 N y.1.1 y.1.2.1)⟩
theorem zq61_ok (N : Nat) : COk 71 (zq61_ctr N) :=
 cF (zw3 (Γ := zq61_C N) zw2 (csc (zq41_ok N) (csc (zq90_ok N) (csc (zq20_ok N) csn)))) Tryz.func71 Tryz.ntmps71 (zq61_b N)
abbrev zq115_R : Type := (Unit × (List UInt8 × Unit))
def zq115_s2 (N : Nat) (all_3 : List UInt8) (i_5 : Int) (v_4 : (List UInt32)) : Option (Lo ((List UInt8 × Int × Unit) × ((List UInt32) × Unit)) (Unit × ((List UInt32) × Unit)) zq115_R) :=
 bif (decide (i_5 < (all_3.length : Int))) then
  let x7 := w64 (i_5 + (64 : Int))
  bif decide (0 ≤ i_5) && decide (i_5 ≤ x7) && decide (x7 ≤ (all_3.length : Int)) && true then
  Option.bind (zq61 N v_4 (cut all_3 i_5.toNat x7.toNat)) fun y9 =>
  some (.go ((all_3, (w64 (i_5 + (64 : Int))), ()), (y9.1.1, ())))
  else none
 else
  some (.br ((), (v_4, ())))
def zq115_s5 (N : Nat) (i_7 : Int) (v_4 : (List UInt32)) (out_6 : List UInt8) : Option (Lo ((Int × Unit) × ((List UInt32) × List UInt8 × Unit)) (Unit × (List UInt8 × Unit)) zq115_R) :=
 bif (decide (i_7 < (8 : Int))) then
  bif inR i_7 8 then
  Option.bind (zq105 N out_6 (v_4.getD i_7.toNat (0 : UInt32)).toUInt64 (4 : Int)) fun y13 =>
  some (.go (((w64 (i_7 + (1 : Int))), ()), (v_4, y13.2.1, ())))
  else none
 else
  some (.br ((), (out_6, ())))
def zq115_6 (N : Nat) (out_6 : List UInt8) : Option zq115_R :=
 some ((), (out_6, ()))
def zq115_4 (N : Nat) (i_7 : Int) (v_4 : (List UInt32)) (out_6 : List UInt8) : Option zq115_R :=
 loopK N (fun y => zq115_s5 N y.1.1 y.2.1 y.2.2.1) (fun (e : (Unit × (List UInt8 × Unit))) => zq115_6 N e.2.1) ((i_7, ()), (v_4, out_6, ()))
def zq115_3 (N : Nat) (v_4 : (List UInt32)) : Option zq115_R :=
 zq115_4 N (0 : Int) v_4 ([] : List UInt8)
def zq115_1 (N : Nat) (i_5 : Int) (all_3 : List UInt8) (v_4 : (List UInt32)) : Option zq115_R :=
 loopK N (fun y => zq115_s2 N y.1.1 y.1.2.1 y.2.1) (fun (e : (Unit × ((List UInt32) × Unit))) => zq115_3 N e.2.1) ((all_3, i_5, ()), (v_4, ()))
def zq115 (N : Nat) (b_0 : List UInt8) : Option zq115_R :=
 bif room (0 + b_0.length) 1 then
 Option.bind (zq113 N (b_0.length : Int)) fun y2 =>
 bif room (b_0.length + y2.2.1.length) 1 then
 zq115_1 N (0 : Int) (b_0 ++ y2.2.1) ([(1779033703 : UInt32), (3144134277 : UInt32), (1013904242 : UInt32), (2773480762 : UInt32), (1359893119 : UInt32), (2600822924 : UInt32), (528734635 : UInt32), (1541459225 : UInt32)] : List UInt32)
 else none
 else none
def zq115_C (N : Nat) := Cx 42 [(70, zq113_ctr N), (71, zq61_ctr N), (72, zq105_ctr N)]
def zq115_S0 : Spec := ⟨[.val (.sl .u8), .ref 0 (.arr 8 .u32), .val .i64], [(.box 84 (.arr 8 .u32), .pos 1)]⟩
def zq115_S1 : Spec := ⟨[.ref 0 (.arr 8 .u32), .row 1, .val .i64], [(.box 84 (.arr 8 .u32), .pos 0), (.row 5 .u8, .pos 1)]⟩
def zq115_S2 : Spec := ⟨[.row 0], [(.row 5 .u8, .pos 0)]⟩
def zq115_S3 : Spec := ⟨[.ref 0 (.arr 8 .u32)], [(.box 84 (.arr 8 .u32), .pos 0)]⟩
def zq115_S4 : Spec := ⟨[.row 0, .ref 1 (.arr 8 .u32), .val .i64], [(.row 5 .u8, .pos 0), (.box 84 (.arr 8 .u32), .pos 1)]⟩
def zq115_S5 : Spec := ⟨[.val (.sl .u8)], []⟩
def zq115_K : XE → GS → Option zq115_R := retK 0 [2] [false] zq115_S2
noncomputable def zq115_L : List Code := (bodyOf (some Tryz.f43))
def zq115_L2 : List Code := (loopOf (zq115_L[4]?))
def zq115_L5 : List Code := (loopOf (zq115_L[7]?))
def zq115_K2 (N : Nat) := roundK (some 0) (fit 0 [3, 4, 5] zq115_S0) (fit 0 [4] zq115_S3) zq115_K
def zq115_K5 (N : Nat) := roundK (some 2) (fit 0 [4, 6, 7] zq115_S1) (fit 0 [6] zq115_S2) zq115_K
theorem zq115_s2_b (N) : Bk 0 (zq115_C N) [3, 4, 5] zq115_S0 (zq115_L2.drop 0) (fun y => zq115_s2 N y.1.1 y.1.2.1 y.2.1) (zq115_K2 N) :=
 cE 4
theorem zq115_s5_b (N) : Bk 0 (zq115_C N) [4, 6, 7] zq115_S1 (zq115_L5.drop 0) (fun y => zq115_s5 N y.1.1 y.2.1 y.2.2.1) (zq115_K5 N) :=
 cE 4
theorem zq115_6_b (N) : Bk 0 (zq115_C N) [6] zq115_S2 (zq115_L.drop 8) (fun y => zq115_6 N y.2.1) zq115_K :=
 cE 2
theorem zq115_4_b (N) : Bk 0 (zq115_C N) [4, 6, 7] zq115_S1 (zq115_L.drop 7) (fun y => zq115_4 N y.1.1 y.2.1 y.2.2.1) zq115_K :=
 lG N zq115_S1 [6] zq115_S2 (zq115_6_b N) (zq115_s5_b N)
theorem zq115_3_b (N) : Bk 0 (zq115_C N) [4] zq115_S3 (zq115_L.drop 5) (fun y => zq115_3 N y.2.1) zq115_K :=
 cG 2 (zq115_4_b N)
theorem zq115_1_b (N) : Bk 0 (zq115_C N) [3, 4, 5] zq115_S4 (zq115_L.drop 4) (fun y => zq115_1 N y.1.1 y.2.1 y.2.2.1) zq115_K :=
 lG N zq115_S0 [4] zq115_S3 (zq115_3_b N) (zq115_s2_b N)
theorem zq115_b (N) : Bk 0 (zq115_C N) (List.range zq115_S5.ks.length) zq115_S5 (zq115_L.drop 0) (fun y => zq115 N y.1.1) zq115_K :=
 cG 4 (zq115_1_b N)
def zq115_ctr (N : Nat) : Ctr := ⟨zq115_S5, zq115_S2.un [false], 0, (fun y => zq115 N y.1.1)⟩
theorem zq115_ok (N : Nat) : COk 43 (zq115_ctr N) :=
 cF (zw3 (Γ := zq115_C N) zw2 (csc (zq113_ok N) (csc (zq61_ok N) (csc (zq105_ok N) csn)))) Tryz.func43 Tryz.ntmps43 (zq115_b N)
abbrev zq54_R : Type := ((Int × Unit) × (List UInt8 × Unit))
def zq54 (N : Nat) (t_0 : D24) : Option zq54_R :=
 Option.bind (zq52 N t_0) fun y1 =>
 bif (!(decide (y1.1.1 = (0 : Int)))) then
  some ((y1.1.1, ()), (([] : List UInt8), ()))
 else
  Option.bind (zq115 N y1.2.1) fun y3 =>
  some (((0 : Int), ()), (y3.2.1, ()))
def zq54_C (N : Nat) := Cx 16 [(13, zq52_ctr N), (43, zq115_ctr N)]
def zq54_S0 : Spec := ⟨[.val T24], []⟩
def zq54_S1 : Spec := ⟨[.row 0, .val .i64], [(.row 5 .u8, .pos 0)]⟩
def zq54_K : XE → GS → Option zq54_R := retK 0 [2, 3] [false, false] zq54_S1
noncomputable def zq54_L : List Code := (bodyOf (some Tryz.f15))
theorem zq54_b (N) : Bk 0 (zq54_C N) (List.range zq54_S0.ks.length) zq54_S0 (zq54_L.drop 0) (fun y => zq54 N y.1.1) zq54_K :=
 cE 6
def zq54_ctr (N : Nat) : Ctr := ⟨zq54_S0, zq54_S1.un [false, false], 0, (fun y => zq54 N y.1.1)⟩
theorem zq54_ok (N : Nat) : COk 15 (zq54_ctr N) :=
 cF (zw3 (Γ := zq54_C N) zw2 (csc (zq52_ok N) (csc (zq115_ok N) csn))) Tryz.func15 Tryz.ntmps15 (zq54_b N)
abbrev zq59_R : Type := (Unit × (List UInt8 × Unit))
def zq59 (N : Nat) (t_0 : D24) : Option zq59_R :=
 Option.bind (zq54 N t_0) fun y1 =>
 some ((), (y1.2.1, ()))
def zq59_C (N : Nat) := Cx 11 [(15, zq54_ctr N)]
def zq59_S0 : Spec := ⟨[.val T24], []⟩
def zq59_S1 : Spec := ⟨[.row 0], [(.row 5 .u8, .pos 0)]⟩
def zq59_K : XE → GS → Option zq59_R := retK 0 [2] [false] zq59_S1
noncomputable def zq59_L : List Code := (bodyOf (some Tryz.f46))
theorem zq59_b (N) : Bk 0 (zq59_C N) (List.range zq59_S0.ks.length) zq59_S0 (zq59_L.drop 0) (fun y => zq59 N y.1.1) zq59_K :=
 cE 4
def zq59_ctr (N : Nat) : Ctr := ⟨zq59_S0, zq59_S1.un [false], 0, (fun y => zq59 N y.1.1)⟩
theorem zq59_ok (N : Nat) : COk 46 (zq59_ctr N) :=
 cF (zw3 (Γ := zq59_C N) zw2 (csc (zq54_ok N) csn)) Tryz.func46 Tryz.ntmps46 (zq59_b N)
abbrev zq71_R : Type := ((Int × Unit) × Unit)
def zq71 (N : Nat) (t_0 : D24) : Option zq71_R :=
 bif (!(decide (t_0.1 = (2 : Int)))) then
  some (((0 : Int), ()), ())
 else
  some ((t_0.2.1, ()), ())
def zq71_C (N : Nat) := Cx 8 []
def zq71_S0 : Spec := ⟨[.val T24], []⟩
def zq71_S1 : Spec := ⟨[.val .i64], []⟩
def zq71_K : XE → GS → Option zq71_R := retK 0 [2] [false] zq71_S1
noncomputable def zq71_L : List Code := (bodyOf (some Tryz.f62))
theorem zq71_b (N) : Bk 0 (zq71_C N) (List.range zq71_S0.ks.length) zq71_S0 (zq71_L.drop 0) (fun y => zq71 N y.1.1) zq71_K :=
 cE 5
def zq71_ctr (N : Nat) : Ctr := ⟨zq71_S0, zq71_S1.un [false], 0, (fun y => zq71 N y.1.1)⟩
theorem zq71_ok (N : Nat) : COk 62 (zq71_ctr N) :=
 cF (zw3 (Γ := zq71_C N) zw2 csn) Tryz.func62 Tryz.ntmps62 (zq71_b N)
abbrev zq34_R : Type := ((UInt64 × Unit) × Unit)
def zq34_s2 (N : Nat) (v_5 : UInt64) (i_6 : Int) (s_3 : List UInt8) : Option (Lo ((UInt64 × Int × Unit) × (List UInt8 × Unit)) ((UInt64 × Unit) × Unit) zq34_R) :=
 bif (decide (i_6 < (8 : Int))) then
  bif inR i_6 s_3.length then
  some (.go ((((shl64 v_5 8) ||| (s_3.getD i_6.toNat (0 : UInt8)).toUInt64), (w64 (i_6 + (1 : Int))), ()), (s_3, ())))
  else none
 else
  some (.br ((v_5, ()), ()))
def zq34_3 (N : Nat) (v_5 : UInt64) : Option zq34_R :=
 some ((((1 : UInt64) + (v_5 % (2305843009213688668 : UInt64))), ()), ())
def zq34_1 (N : Nat) (v_5 : UInt64) (i_6 : Int) (s_3 : List UInt8) : Option zq34_R :=
 loopK N (fun y => zq34_s2 N y.1.1 y.1.2.1 y.2.1) (fun (e : ((UInt64 × Unit) × Unit)) => zq34_3 N e.1.1) ((v_5, i_6, ()), (s_3, ()))
def zq34 (N : Nat) (t_0 : D24) : Option zq34_R :=
 Option.bind (zq54 N t_0) fun y1 =>
 bif (!(decide (y1.1.1 = (0 : Int)))) then
  some (((1 : UInt64), ()), ())
 else
  zq34_1 N (0 : UInt64) (0 : Int) y1.2.1
def zq34_C (N : Nat) := Cx 29 [(15, zq54_ctr N)]
def zq34_S0 : Spec := ⟨[.row 0, .val .u64, .val .i64], [(.row 5 .u8, .pos 0)]⟩
def zq34_S1 : Spec := ⟨[.val .u64], []⟩
def zq34_S2 : Spec := ⟨[.val T24], []⟩
def zq34_K : XE → GS → Option zq34_R := retK 0 [2] [false] zq34_S1
noncomputable def zq34_L : List Code := (bodyOf (some Tryz.f18))
def zq34_L2 : List Code := (loopOf (zq34_L[6]?))
def zq34_K2 (N : Nat) := roundK (some 0) (fit 0 [3, 5, 6] zq34_S0) (fit 0 [5] zq34_S1) zq34_K
theorem zq34_s2_b (N) : Bk 0 (zq34_C N) [3, 5, 6] zq34_S0 (zq34_L2.drop 0) (fun y => zq34_s2 N y.1.1 y.1.2.1 y.2.1) (zq34_K2 N) :=
 cE 4
theorem zq34_3_b (N) : Bk 0 (zq34_C N) [5] zq34_S1 (zq34_L.drop 7) (fun y => zq34_3 N y.1.1) zq34_K :=
 cE 2
theorem zq34_1_b (N) : Bk 0 (zq34_C N) [3, 5, 6] zq34_S0 (zq34_L.drop 6) (fun y => zq34_1 N y.1.1 y.1.2.1 y.2.1) zq34_K :=
 lG N zq34_S0 [5] zq34_S1 (zq34_3_b N) (zq34_s2_b N)
theorem zq34_b (N) : Bk 0 (zq34_C N) (List.range zq34_S2.ks.length) zq34_S2 (zq34_L.drop 0) (fun y => zq34 N y.1.1) zq34_K :=
 cG 6 (zq34_1_b N)
def zq34_ctr (N : Nat) : Ctr := ⟨zq34_S2, zq34_S1.un [false], 0, (fun y => zq34 N y.1.1)⟩
theorem zq34_ok (N : Nat) : COk 18 (zq34_ctr N) :=
 cF (zw3 (Γ := zq34_C N) zw2 (csc (zq54_ok N) csn)) Tryz.func18 Tryz.ntmps18 (zq34_b N)
abbrev zq57_R : Type := ((Bool × Unit) × Unit)
def zq57 (N : Nat) (x_0 : UInt64) : Option zq57_R :=
 bif (decide ((1 : UInt64) ≤ x_0)) then
  some (((decide (x_0 < (2305843009213688669 : UInt64))), ()), ())
 else
  some ((false, ()), ())
def zq57_C (N : Nat) := Cx 9 []
def zq57_S0 : Spec := ⟨[.val .u64], []⟩
def zq57_S1 : Spec := ⟨[.val .bool], []⟩
def zq57_K : XE → GS → Option zq57_R := retK 0 [2] [false] zq57_S1
noncomputable def zq57_L : List Code := (bodyOf (some Tryz.f113))
theorem zq57_b (N) : Bk 0 (zq57_C N) (List.range zq57_S0.ks.length) zq57_S0 (zq57_L.drop 0) (fun y => zq57 N y.1.1) zq57_K :=
 cE 3
def zq57_ctr (N : Nat) : Ctr := ⟨zq57_S0, zq57_S1.un [false], 0, (fun y => zq57 N y.1.1)⟩
theorem zq57_ok (N : Nat) : COk 113 (zq57_ctr N) :=
 cF (zw3 (Γ := zq57_C N) zw2 csn) Tryz.func113 Tryz.ntmps113 (zq57_b N)
abbrev zq116_R : Type := ((UInt64 × Unit) × Unit)
def zq116_s2 (N : Nat) (a_0 : UInt64) (b_1 : UInt64) (out_5 : UInt64) (i_6 : Int) : Option (Lo ((UInt64 × UInt64 × UInt64 × Int × Unit) × Unit) ((UInt64 × Unit) × Unit) zq116_R) :=
 bif (decide (i_6 < (62 : Int))) then
  bif (decide (((shr64 b_1 (iu64 i_6).toNat) &&& (1 : UInt64)) = (1 : UInt64))) then
   some (.go (((((2 : UInt64) * a_0) % (4611686018427377339 : UInt64)), b_1, ((out_5 + a_0) % (4611686018427377339 : UInt64)), (w64 (i_6 + (1 : Int))), ()), ()))
  else
   some (.go (((((2 : UInt64) * a_0) % (4611686018427377339 : UInt64)), b_1, out_5, (w64 (i_6 + (1 : Int))), ()), ()))
 else
  some (.br ((out_5, ()), ()))
def zq116_3 (N : Nat) (out_5 : UInt64) : Option zq116_R :=
 some ((out_5, ()), ())
def zq116_1 (N : Nat) (a_0 : UInt64) (b_1 : UInt64) (out_5 : UInt64) (i_6 : Int) : Option zq116_R :=
 loopK N (fun y => zq116_s2 N y.1.1 y.1.2.1 y.1.2.2.1 y.1.2.2.2.1) (fun (e : ((UInt64 × Unit) × Unit)) => zq116_3 N e.1.1) ((a_0, b_1, out_5, i_6, ()), ())
def zq116 (N : Nat) (a_0 : UInt64) (b_1 : UInt64) : Option zq116_R :=
 zq116_1 N (a_0 % (4611686018427377339 : UInt64)) (b_1 % (4611686018427377339 : UInt64)) (0 : UInt64) (0 : Int)
def zq116_C (N : Nat) := Cx 29 []
def zq116_S0 : Spec := ⟨[.val .u64, .val .u64, .val .u64, .val .i64], []⟩
def zq116_S1 : Spec := ⟨[.val .u64], []⟩
def zq116_S2 : Spec := ⟨[.val .u64, .val .u64], []⟩
def zq116_K : XE → GS → Option zq116_R := retK 0 [4] [false] zq116_S1
noncomputable def zq116_L : List Code := (bodyOf (some Tryz.f129))
def zq116_L2 : List Code := (loopOf (zq116_L[5]?))
def zq116_K2 (N : Nat) := roundK (some 0) (fit 0 [0, 1, 5, 6] zq116_S0) (fit 0 [5] zq116_S1) zq116_K
theorem zq116_s2_b (N) : Bk 0 (zq116_C N) [0, 1, 5, 6] zq116_S0 (zq116_L2.drop 0) (fun y => zq116_s2 N y.1.1 y.1.2.1 y.1.2.2.1 y.1.2.2.2.1) (zq116_K2 N) :=
 cE 4
theorem zq116_3_b (N) : Bk 0 (zq116_C N) [5] zq116_S1 (zq116_L.drop 6) (fun y => zq116_3 N y.1.1) zq116_K :=
 cE 2
theorem zq116_1_b (N) : Bk 0 (zq116_C N) [0, 1, 5, 6] zq116_S0 (zq116_L.drop 5) (fun y => zq116_1 N y.1.1 y.1.2.1 y.1.2.2.1 y.1.2.2.2.1) zq116_K :=
 lG N zq116_S0 [5] zq116_S1 (zq116_3_b N) (zq116_s2_b N)
theorem zq116_b (N) : Bk 0 (zq116_C N) (List.range zq116_S2.ks.length) zq116_S2 (zq116_L.drop 0) (fun y => zq116 N y.1.1 y.1.2.1) zq116_K :=
 cG 5 (zq116_1_b N)
def zq116_ctr (N : Nat) : Ctr := ⟨zq116_S2, zq116_S1.un [false], 0, (fun y => zq116 N y.1.1 y.1.2.1)⟩
theorem zq116_ok (N : Nat) : COk 129 (zq116_ctr N) :=
 cF (zw3 (Γ := zq116_C N) zw2 csn) Tryz.func129 Tryz.ntmps129 (zq116_b N)
abbrev zq79_R : Type := ((UInt64 × Unit) × Unit)
def zq79_s2 (N : Nat) (a_0 : UInt64) (e_1 : UInt64) (out_5 : UInt64) : Option (Lo ((UInt64 × UInt64 × UInt64 × Unit) × Unit) ((UInt64 × Unit) × Unit) zq79_R) :=
 bif (decide ((0 : UInt64) < e_1)) then
  bif (decide ((e_1 &&& (1 : UInt64)) = (1 : UInt64))) then
   Option.bind (zq116 N out_5 a_0) fun y5 =>
   Option.bind (zq116 N a_0 a_0) fun y6 =>
   some (.go ((y6.1.1, (shr64 e_1 1), y5.1.1, ()), ()))
  else
   Option.bind (zq116 N a_0 a_0) fun y8 =>
   some (.go ((y8.1.1, (shr64 e_1 1), out_5, ()), ()))
 else
  some (.br ((out_5, ()), ()))
def zq79_3 (N : Nat) (out_5 : UInt64) : Option zq79_R :=
 some ((out_5, ()), ())
def zq79_1 (N : Nat) (a_0 : UInt64) (e_1 : UInt64) (out_5 : UInt64) : Option zq79_R :=
 loopK N (fun y => zq79_s2 N y.1.1 y.1.2.1 y.1.2.2.1) (fun (e : ((UInt64 × Unit) × Unit)) => zq79_3 N e.1.1) ((a_0, e_1, out_5, ()), ())
def zq79 (N : Nat) (a_0 : UInt64) (e_1 : UInt64) : Option zq79_R :=
 zq79_1 N (a_0 % (4611686018427377339 : UInt64)) e_1 (1 : UInt64)
def zq79_C (N : Nat) := Cx 22 [(129, zq116_ctr N)]
def zq79_S0 : Spec := ⟨[.val .u64, .val .u64, .val .u64], []⟩
def zq79_S1 : Spec := ⟨[.val .u64], []⟩
def zq79_S2 : Spec := ⟨[.val .u64, .val .u64], []⟩
def zq79_K : XE → GS → Option zq79_R := retK 0 [4] [false] zq79_S1
noncomputable def zq79_L : List Code := (bodyOf (some Tryz.f114))
def zq79_L2 : List Code := (loopOf (zq79_L[3]?))
def zq79_K2 (N : Nat) := roundK (some 0) (fit 0 [0, 1, 5] zq79_S0) (fit 0 [5] zq79_S1) zq79_K
theorem zq79_s2_b (N) : Bk 0 (zq79_C N) [0, 1, 5] zq79_S0 (zq79_L2.drop 0) (fun y => zq79_s2 N y.1.1 y.1.2.1 y.1.2.2.1) (zq79_K2 N) :=
 cE 4
theorem zq79_3_b (N) : Bk 0 (zq79_C N) [5] zq79_S1 (zq79_L.drop 4) (fun y => zq79_3 N y.1.1) zq79_K :=
 cE 2
theorem zq79_1_b (N) : Bk 0 (zq79_C N) [0, 1, 5] zq79_S0 (zq79_L.drop 3) (fun y => zq79_1 N y.1.1 y.1.2.1 y.1.2.2.1) zq79_K :=
 lG N zq79_S0 [5] zq79_S1 (zq79_3_b N) (zq79_s2_b N)
theorem zq79_b (N) : Bk 0 (zq79_C N) (List.range zq79_S2.ks.length) zq79_S2 (zq79_L.drop 0) (fun y => zq79 N y.1.1 y.1.2.1) zq79_K :=
 cG 3 (zq79_1_b N)
def zq79_ctr (N : Nat) : Ctr := ⟨zq79_S2, zq79_S1.un [false], 0, (fun y => zq79 N y.1.1 y.1.2.1)⟩
theorem zq79_ok (N : Nat) : COk 114 (zq79_ctr N) :=
 cF (zw3 (Γ := zq79_C N) zw2 (csc (zq116_ok N) csn)) Tryz.func114 Tryz.ntmps114 (zq79_b N)
abbrev zq44_R : Type := ((UInt64 × Int × Unit) × Unit)
def zq44 (N : Nat) (secret_0 : UInt64) : Option zq44_R :=
 Option.bind (zq57 N secret_0) fun y1 =>
 bif (!y1.1.1) then
  some (((0 : UInt64), (13 : Int), ()), ())
 else
  Option.bind (zq79 N (4 : UInt64) secret_0) fun y3 =>
  some ((y3.1.1, (0 : Int), ()), ())
def zq44_C (N : Nat) := Cx 9 [(113, zq57_ctr N), (114, zq79_ctr N)]
def zq44_S0 : Spec := ⟨[.val .u64], []⟩
def zq44_S1 : Spec := ⟨[.val .u64, .val .i64], []⟩
def zq44_K : XE → GS → Option zq44_R := retK 0 [2, 3] [false, false] zq44_S1
noncomputable def zq44_L : List Code := (bodyOf (some Tryz.f91))
theorem zq44_b (N) : Bk 0 (zq44_C N) (List.range zq44_S0.ks.length) zq44_S0 (zq44_L.drop 0) (fun y => zq44 N y.1.1) zq44_K :=
 cE 5
def zq44_ctr (N : Nat) : Ctr := ⟨zq44_S0, zq44_S1.un [false, false], 0, (fun y => zq44 N y.1.1)⟩
theorem zq44_ok (N : Nat) : COk 91 (zq44_ctr N) :=
 cF (zw3 (Γ := zq44_C N) zw2 (csc (zq57_ok N) (csc (zq79_ok N) csn))) Tryz.func91 Tryz.ntmps91 (zq44_b N)
abbrev zq42_R : Type := (Unit × (List UInt8 × Unit))
def zq42 (N : Nat) (t_0 : D24) : Option zq42_R :=
 Option.bind (zq34 N t_0) fun y1 =>
 Option.bind (zq44 N y1.1.1) fun y2 =>
 Option.bind (zq51 N (w64 (y2.1.1.toNat : Int)) (8 : Int) ([] : List UInt8)) fun y4 =>
 some ((), (y4.2.1, ()))
def zq42_C (N : Nat) := Cx 14 [(18, zq34_ctr N), (91, zq44_ctr N), (61, zq51_ctr N)]
def zq42_S0 : Spec := ⟨[.val T24], []⟩
def zq42_S1 : Spec := ⟨[.row 0], [(.row 5 .u8, .pos 0)]⟩
def zq42_K : XE → GS → Option zq42_R := retK 0 [2] [false] zq42_S1
noncomputable def zq42_L : List Code := (bodyOf (some Tryz.f63))
theorem zq42_b (N) : Bk 0 (zq42_C N) (List.range zq42_S0.ks.length) zq42_S0 (zq42_L.drop 0) (fun y => zq42 N y.1.1) zq42_K :=
 cE 4
def zq42_ctr (N : Nat) : Ctr := ⟨zq42_S0, zq42_S1.un [false], 0, (fun y => zq42 N y.1.1)⟩
theorem zq42_ok (N : Nat) : COk 63 (zq42_ctr N) :=
 cF (zw3 (Γ := zq42_C N) zw2 (csc (zq34_ok N) (csc (zq44_ok N) (csc (zq51_ok N) csn)))) Tryz.func63 Tryz.ntmps63 (zq42_b N)
abbrev zq87_R : Type := (Unit × (List UInt8 × Unit))
def zq87_s3 (N : Nat) (key_0 : List UInt8) (m_1 : UInt8) (i_6 : Int) (out_5 : List UInt8) : Option (Lo ((List UInt8 × UInt8 × Int × Unit) × (List UInt8 × Unit)) (Unit × (List UInt8 × Unit)) zq87_R) :=
 bif (decide (i_6 < (64 : Int))) then
  bif inR i_6 out_5.length then
  let x5 := (out_5.set i_6.toNat m_1)
  bif (decide (i_6 < (key_0.length : Int))) then
   bif inR i_6 x5.length then
   bif inR i_6 key_0.length then
   bif inR i_6 x5.length then
   some (.go ((key_0, m_1, (w64 (i_6 + (1 : Int))), ()), ((x5.set i_6.toNat ((x5.getD i_6.toNat (0 : UInt8)) ^^^ (key_0.getD i_6.toNat (0 : UInt8)))), ())))
   else none
   else none
   else none
  else
   some (.go ((key_0, m_1, (w64 (i_6 + (1 : Int))), ()), (x5, ())))
  else none
 else
  some (.br ((), (out_5, ())))
def zq87_4 (N : Nat) (out_5 : List UInt8) : Option zq87_R :=
 some ((), (out_5, ()))
def zq87_2 (N : Nat) (key_0 : List UInt8) (m_1 : UInt8) (i_6 : Int) (out_5 : List UInt8) : Option zq87_R :=
 loopK N (fun y => zq87_s3 N y.1.1 y.1.2.1 y.1.2.2.1 y.2.1) (fun (e : (Unit × (List UInt8 × Unit))) => zq87_4 N e.2.1) ((key_0, m_1, i_6, ()), (out_5, ()))
def zq87_1 (N : Nat) (key_0 : List UInt8) (m_1 : UInt8) : Option zq87_R :=
 zq87_2 N key_0 m_1 (0 : Int) (List.replicate 64 (0 : UInt8))
def zq87 (N : Nat) (key_0 : List UInt8) (m_1 : UInt8) : Option zq87_R :=
 bif (decide ((64 : Int) < (key_0.length : Int))) then
  Option.bind (zq115 N key_0) fun y3 =>
  zq87_1 N y3.2.1 m_1
 else
  zq87_1 N key_0 m_1
def zq87_C (N : Nat) := Cx 36 [(43, zq115_ctr N)]
def zq87_S0 : Spec := ⟨[.val (.sl .u8), .val .u8, .row 0, .val .i64], [(.row 5 .u8, .pos 2)]⟩
def zq87_S1 : Spec := ⟨[.row 0], [(.row 5 .u8, .pos 0)]⟩
def zq87_S2 : Spec := ⟨[.val (.sl .u8), .val .u8], []⟩
def zq87_K : XE → GS → Option zq87_R := retK 0 [4] [false] zq87_S1
noncomputable def zq87_L : List Code := (bodyOf (some Tryz.f75))
def zq87_L3 : List Code := (loopOf (zq87_L[5]?))
def zq87_K3 (N : Nat) := roundK (some 0) (fit 0 [0, 1, 5, 6] zq87_S0) (fit 0 [5] zq87_S1) zq87_K
theorem zq87_s3_b (N) : Bk 0 (zq87_C N) [0, 1, 5, 6] zq87_S0 (zq87_L3.drop 0) (fun y => zq87_s3 N y.1.1 y.1.2.1 y.1.2.2.1 y.2.1) (zq87_K3 N) :=
 cE 4
theorem zq87_4_b (N) : Bk 0 (zq87_C N) [5] zq87_S1 (zq87_L.drop 6) (fun y => zq87_4 N y.2.1) zq87_K :=
 cE 2
theorem zq87_2_b (N) : Bk 0 (zq87_C N) [0, 1, 5, 6] zq87_S0 (zq87_L.drop 5) (fun y => zq87_2 N y.1.1 y.1.2.1 y.1.2.2.1 y.2.1) zq87_K :=
 lG N zq87_S0 [5] zq87_S1 (zq87_4_b N) (zq87_s3_b N)
theorem zq87_1_b (N) : Bk 0 (zq87_C N) [0, 1] zq87_S2 (zq87_L.drop 3) (fun y => zq87_1 N y.1.1 y.1.2.1) zq87_K :=
 cG 2 (zq87_2_b N)
theorem zq87_b (N) : Bk 0 (zq87_C N) (List.range zq87_S2.ks.length) zq87_S2 (zq87_L.drop 0) (fun y => zq87 N y.1.1 y.1.2.1) zq87_K :=
 cG 3 (zq87_1_b N)
def zq87_ctr (N : Nat) : Ctr := ⟨zq87_S2, zq87_S1.un [false], 0, (fun y => zq87 N y.1.1 y.1.2.1)⟩
theorem zq87_ok (N : Nat) : COk 75 (zq87_ctr N) :=
 cF (zw3 (Γ := zq87_C N) zw2 (csc (zq115_ok N) csn)) Tryz.func75 Tryz.ntmps75 (zq87_b N)
abbrev zq102_R : Type := (Unit × (List UInt8 × Unit))
def zq102_s2 (N : Nat) (l_0 : (List (List UInt8))) (i_4 : Int) (out_3 : List UInt8) : Option (Lo (((List (List UInt8)) × Int × Unit) × (List UInt8 × Unit)) (Unit × (List UInt8 × Unit)) zq102_R) :=
 bif (decide (i_4 < (l_0.length : Int))) then
  bif inR i_4 l_0.length then
  let x3 := l_0.getD i_4.toNat ([] : List UInt8)
  bif room (out_3.length + x3.length) 1 then
  some (.go ((l_0, (w64 (i_4 + (1 : Int))), ()), ((out_3 ++ x3), ())))
  else none
  else none
 else
  some (.br ((), (out_3, ())))
def zq102_3 (N : Nat) (out_3 : List UInt8) : Option zq102_R :=
 some ((), (out_3, ()))
def zq102_1 (N : Nat) (l_0 : (List (List UInt8))) (i_4 : Int) (out_3 : List UInt8) : Option zq102_R :=
 loopK N (fun y => zq102_s2 N y.1.1 y.1.2.1 y.2.1) (fun (e : (Unit × (List UInt8 × Unit))) => zq102_3 N e.2.1) ((l_0, i_4, ()), (out_3, ()))
def zq102 (N : Nat) (l_0 : (List (List UInt8))) : Option zq102_R :=
 zq102_1 N l_0 (0 : Int) ([] : List UInt8)
def zq102_C (N : Nat) := Cx 18 []
def zq102_S0 : Spec := ⟨[.val (.sl (.sl .u8)), .row 0, .val .i64], [(.row 5 .u8, .pos 1)]⟩
def zq102_S1 : Spec := ⟨[.row 0], [(.row 5 .u8, .pos 0)]⟩
def zq102_S2 : Spec := ⟨[.val (.sl (.sl .u8))], []⟩
def zq102_K : XE → GS → Option zq102_R := retK 0 [2] [false] zq102_S1
noncomputable def zq102_L : List Code := (bodyOf (some Tryz.f74))
def zq102_L2 : List Code := (loopOf (zq102_L[3]?))
def zq102_K2 (N : Nat) := roundK (some 0) (fit 0 [0, 3, 4] zq102_S0) (fit 0 [3] zq102_S1) zq102_K
theorem zq102_s2_b (N) : Bk 0 (zq102_C N) [0, 3, 4] zq102_S0 (zq102_L2.drop 0) (fun y => zq102_s2 N y.1.1 y.1.2.1 y.2.1) (zq102_K2 N) :=
 cE 4
theorem zq102_3_b (N) : Bk 0 (zq102_C N) [3] zq102_S1 (zq102_L.drop 4) (fun y => zq102_3 N y.2.1) zq102_K :=
 cE 2
theorem zq102_1_b (N) : Bk 0 (zq102_C N) [0, 3, 4] zq102_S0 (zq102_L.drop 3) (fun y => zq102_1 N y.1.1 y.1.2.1 y.2.1) zq102_K :=
 lG N zq102_S0 [3] zq102_S1 (zq102_3_b N) (zq102_s2_b N)
theorem zq102_b (N) : Bk 0 (zq102_C N) (List.range zq102_S2.ks.length) zq102_S2 (zq102_L.drop 0) (fun y => zq102 N y.1.1) zq102_K :=
 cG 3 (zq102_1_b N)
def zq102_ctr (N : Nat) : Ctr := ⟨zq102_S2, zq102_S1.un [false], 0, (fun y => zq102 N y.1.1)⟩
theorem zq102_ok (N : Nat) : COk 74 (zq102_ctr N) :=
 cF (zw3 (Γ := zq102_C N) zw2 csn) Tryz.func74 Tryz.ntmps74 (zq102_b N)
abbrev zq100_R : Type := (Unit × (List UInt8 × Unit))
def zq100 (N : Nat) (key_0 : List UInt8) (b_1 : List UInt8) : Option zq100_R :=
 Option.bind (zq87 N key_0 (92 : UInt8)) fun y1 =>
 Option.bind (zq87 N key_0 (54 : UInt8)) fun y2 =>
 Option.bind (zq102 N ([y2.2.1, b_1] : List (List UInt8))) fun y3 =>
 Option.bind (zq115 N y3.2.1) fun y4 =>
 Option.bind (zq102 N ([y1.2.1, y4.2.1] : List (List UInt8))) fun y5 =>
 Option.bind (zq115 N y5.2.1) fun y6 =>
 some ((), (y6.2.1, ()))
def zq100_C (N : Nat) := Cx 16 [(75, zq87_ctr N), (74, zq102_ctr N), (43, zq115_ctr N)]
def zq100_S0 : Spec := ⟨[.val (.sl .u8), .val (.sl .u8)], []⟩
def zq100_S1 : Spec := ⟨[.row 0], [(.row 5 .u8, .pos 0)]⟩
def zq100_K : XE → GS → Option zq100_R := retK 0 [4] [false] zq100_S1
noncomputable def zq100_L : List Code := (bodyOf (some Tryz.f47))
theorem zq100_b (N) : Bk 0 (zq100_C N) (List.range zq100_S0.ks.length) zq100_S0 (zq100_L.drop 0) (fun y => zq100 N y.1.1 y.1.2.1) zq100_K :=
 cE 3
def zq100_ctr (N : Nat) : Ctr := ⟨zq100_S0, zq100_S1.un [false], 0, (fun y => zq100 N y.1.1 y.1.2.1)⟩
theorem zq100_ok (N : Nat) : COk 47 (zq100_ctr N) :=
 cF (zw3 (Γ := zq100_C N) zw2 (csc (zq87_ok N) (csc (zq102_ok N) (csc (zq115_ok N) csn)))) Tryz.func47 Tryz.ntmps47 (zq100_b N)
abbrev zq111_R : Type := (Unit × (List UInt8 × Unit))
def zq111 (N : Nat) (identity_0 : Int) (body_1 : List UInt8) : Option zq111_R :=
 Option.bind (zq59 N ((9 : Int), identity_0, ([] : List Tree), ())) fun y1 =>
 Option.bind (zq100 N y1.2.1 body_1) fun y2 =>
 some ((), (y2.2.1, ()))
def zq111_C (N : Nat) := Cx 10 [(46, zq59_ctr N), (47, zq100_ctr N)]
def zq111_S0 : Spec := ⟨[.val .i64, .val (.sl .u8)], []⟩
def zq111_S1 : Spec := ⟨[.row 0], [(.row 5 .u8, .pos 0)]⟩
def zq111_K : XE → GS → Option zq111_R := retK 0 [4] [false] zq111_S1
noncomputable def zq111_L : List Code := (bodyOf (some Tryz.f64))
theorem zq111_b (N) : Bk 0 (zq111_C N) (List.range zq111_S0.ks.length) zq111_S0 (zq111_L.drop 0) (fun y => zq111 N y.1.1 y.1.2.1) zq111_K :=
 cE 3
def zq111_ctr (N : Nat) : Ctr := ⟨zq111_S0, zq111_S1.un [false], 0, (fun y => zq111 N y.1.1 y.1.2.1)⟩
theorem zq111_ok (N : Nat) : COk 64 (zq111_ctr N) :=
 cF (zw3 (Γ := zq111_C N) zw2 (csc (zq59_ok N) (csc (zq100_ok N) csn))) Tryz.func64 Tryz.ntmps64 (zq111_b N)
abbrev zq98_R : Type := ((UInt32 × Unit) × Unit)
def zq98 (N : Nat) (b_0 : List UInt8) (i_1 : Int) : Option zq98_R :=
 let x1 := w64 ((4 : Int) * i_1)
 bif inR x1 b_0.length then
 let x4 := w64 ((w64 ((4 : Int) * i_1)) + (1 : Int))
 bif inR x4 b_0.length then
 let x9 := w64 ((w64 ((4 : Int) * i_1)) + (2 : Int))
 bif inR x9 b_0.length then
 let x14 := w64 ((w64 ((4 : Int) * i_1)) + (3 : Int))
 bif inR x14 b_0.length then
 some ((((((b_0.getD x1.toNat (0 : UInt8)).toUInt32 ||| (shl32 (b_0.getD x4.toNat (0 : UInt8)).toUInt32 8)) ||| (shl32 (b_0.getD x9.toNat (0 : UInt8)).toUInt32 16)) ||| (shl32 (b_0.getD x14.toNat (0 : UInt8)).toUInt32 24)), ()), ())
 else none
 else none
 else none
 else none
def zq98_C (N : Nat) := Cx 38 []
def zq98_S0 : Spec := ⟨[.val (.sl .u8), .val .i64], []⟩
def zq98_S1 : Spec := ⟨[.val .u32], []⟩
def zq98_K : XE → GS → Option zq98_R := retK 0 [4] [false] zq98_S1
noncomputable def zq98_L : List Code := (bodyOf (some Tryz.f130))
theorem zq98_b (N) : Bk 0 (zq98_C N) (List.range zq98_S0.ks.length) zq98_S0 (zq98_L.drop 0) (fun y => zq98 N y.1.1 y.1.2.1) zq98_K :=
 cE 3
def zq98_ctr (N : Nat) : Ctr := ⟨zq98_S0, zq98_S1.un [false], 0, (fun y => zq98 N y.1.1 y.1.2.1)⟩
theorem zq98_ok (N : Nat) : COk 130 (zq98_ctr N) :=
 cF (zw3 (Γ := zq98_C N) zw2 csn) Tryz.func130 Tryz.ntmps130 (zq98_b N)
abbrev zq103_R : Type := ((UInt32 × Unit) × Unit)
def zq103 (N : Nat) (x_0 : UInt32) (n_1 : UInt64) : Option zq103_R :=
 some ((((shl32 x_0 n_1.toNat) ||| (shr32 x_0 ((32 : UInt64) - n_1).toNat)), ()), ())
def zq103_C (N : Nat) := Cx 13 []
def zq103_S0 : Spec := ⟨[.val .u32, .val .u64], []⟩
def zq103_S1 : Spec := ⟨[.val .u32], []⟩
def zq103_K : XE → GS → Option zq103_R := retK 0 [4] [false] zq103_S1
noncomputable def zq103_L : List Code := (bodyOf (some Tryz.f153))
theorem zq103_b (N) : Bk 0 (zq103_C N) (List.range zq103_S0.ks.length) zq103_S0 (zq103_L.drop 0) (fun y => zq103 N y.1.1 y.1.2.1) zq103_K :=
 cE 3
def zq103_ctr (N : Nat) : Ctr := ⟨zq103_S0, zq103_S1.un [false], 0, (fun y => zq103 N y.1.1 y.1.2.1)⟩
theorem zq103_ok (N : Nat) : COk 153 (zq103_ctr N) :=
 cF (zw3 (Γ := zq103_C N) zw2 csn) Tryz.func153 Tryz.ntmps153 (zq103_b N)
abbrev zq39_R : Type := ((UInt32 × UInt32 × UInt32 × UInt32 × Unit) × Unit)
def zq39 (N : Nat) (a_0 : UInt32) (b_1 : UInt32) (c_2 : UInt32) (d_3 : UInt32) : Option zq39_R :=
 Option.bind (zq103 N (d_3 ^^^ (a_0 + b_1)) (16 : UInt64)) fun y3 =>
 Option.bind (zq103 N (b_1 ^^^ (c_2 + y3.1.1)) (12 : UInt64)) fun y6 =>
 Option.bind (zq103 N (y3.1.1 ^^^ ((a_0 + b_1) + y6.1.1)) (8 : UInt64)) fun y9 =>
 Option.bind (zq103 N (y6.1.1 ^^^ ((c_2 + y3.1.1) + y9.1.1)) (7 : UInt64)) fun y12 =>
 some ((((a_0 + b_1) + y6.1.1), y12.1.1, ((c_2 + y3.1.1) + y9.1.1), y9.1.1, ()), ())
def zq39_C (N : Nat) := Cx 44 [(153, zq103_ctr N)]
def zq39_S0 : Spec := ⟨[.val .u32, .val .u32, .val .u32, .val .u32], []⟩
def zq39_K : XE → GS → Option zq39_R := retK 0 [8, 9, 10, 11] [false, false, false, false] zq39_S0
noncomputable def zq39_L : List Code := (bodyOf (some Tryz.f144))
theorem zq39_b (N) : Bk 0 (zq39_C N) (List.range zq39_S0.ks.length) zq39_S0 (zq39_L.drop 0) (fun y => zq39 N y.1.1 y.1.2.1 y.1.2.2.1 y.1.2.2.2.1) zq39_K :=
 cE 11
def zq39_ctr (N : Nat) : Ctr := ⟨zq39_S0, zq39_S0.un [false, false, false, false], 0, (fun y => zq39 N y.1.1 y.1.2.1 y.1.2.2.1 y.1.2.2.2.1)⟩
theorem zq39_ok (N : Nat) : COk 144 (zq39_ctr N) :=
 cF (zw3 (Γ := zq39_C N) zw2 (csc (zq103_ok N) csn)) Tryz.func144 Tryz.ntmps144 (zq39_b N)
abbrev zq109_R : Type := (((List UInt32) × Unit) × Unit)
def zq109 (N : Nat) (s_0 : (List UInt32)) (i_1 : Int) (j_2 : Int) (k_3 : Int) (l_4 : Int) : Option zq109_R :=
 bif inR i_1 16 then
 bif inR j_2 16 then
 bif inR k_3 16 then
 bif inR l_4 16 then
 Option.bind (zq39 N (s_0.getD i_1.toNat (0 : UInt32)) (s_0.getD j_2.toNat (0 : UInt32)) (s_0.getD k_3.toNat (0 : UInt32)) (s_0.getD l_4.toNat (0 : UInt32))) fun y5 =>
 bif inR i_1 16 then
 bif inR j_2 16 then
 bif inR k_3 16 then
 bif inR l_4 16 then
 some ((((((s_0.set i_1.toNat y5.1.1).set j_2.toNat y5.1.2.1).set k_3.toNat y5.1.2.2.1).set l_4.toNat y5.1.2.2.2.1), ()), ())
 else none
 else none
 else none
 else none
 else none
 else none
 else none
 else none
def zq109_C (N : Nat) := Cx 46 [(144, zq39_ctr N)]
def zq109_S0 : Spec := ⟨[.val (.arr 16 .u32), .val .i64, .val .i64, .val .i64, .val .i64], []⟩
def zq109_S1 : Spec := ⟨[.fp (.arr 16 .u32)], []⟩
def zq109_K : XE → GS → Option zq109_R := retK 0 [10] [true] zq109_S1
noncomputable def zq109_L : List Code := (bodyOf (some Tryz.f131))
theorem zq109_b (N) : Bk 0 (zq109_C N) (List.range zq109_S0.ks.length) zq109_S0 (zq109_L.drop 0) (fun y => zq109 N y.1.1 y.1.2.1 y.1.2.2.1 y.1.2.2.2.1 y.1.2.2.2.2.1) zq109_K :=
 cE 8
def zq109_ctr (N : Nat) : Ctr := ⟨zq109_S0, zq109_S1.un [true], 0, (fun y => zq109 N y.1.1 y.1.2.1 y.1.2.2.1 y.1.2.2.2.1 y.1.2.2.2.2.1)⟩
theorem zq109_ok (N : Nat) : COk 131 (zq109_ctr N) :=
 cF (zw3 (Γ := zq109_C N) zw2 (csc (zq39_ok N) csn)) Tryz.func131 Tryz.ntmps131 (zq109_b N)
abbrev zq82_R : Type := ((Bool × Unit) × (List UInt8 × Unit))
def zq82_s3 (N : Nat) (key_0 : List UInt8) (counter_1 : UInt32) (nonce_2 : List UInt8) (i_9 : Int) (first_8 : (List UInt32)) : Option (Lo ((List UInt8 × UInt32 × List UInt8 × Int × Unit) × ((List UInt32) × Unit)) ((UInt32 × List UInt8 × Unit) × ((List UInt32) × Unit)) zq82_R) :=
 bif (decide (i_9 < (8 : Int))) then
  let x5 := w64 ((4 : Int) + i_9)
  Option.bind (zq98 N key_0 i_9) fun y6 =>
  bif inR x5 16 then
  some (.go ((key_0, counter_1, nonce_2, (w64 (i_9 + (1 : Int))), ()), ((first_8.set x5.toNat y6.1.1), ())))
  else none
 else
  some (.br ((counter_1, nonce_2, ()), (first_8, ())))
def zq82_s6 (N : Nat) (nonce_2 : List UInt8) (i_10 : Int) (first_8 : (List UInt32)) : Option (Lo ((List UInt8 × Int × Unit) × ((List UInt32) × Unit)) (Unit × ((List UInt32) × Unit)) zq82_R) :=
 bif (decide (i_10 < (3 : Int))) then
  let x11 := w64 ((13 : Int) + i_10)
  Option.bind (zq98 N nonce_2 i_10) fun y12 =>
  bif inR x11 16 then
  some (.go ((nonce_2, (w64 (i_10 + (1 : Int))), ()), ((first_8.set x11.toNat y12.1.1), ())))
  else none
 else
  some (.br ((), (first_8, ())))
def zq82_s14 (N : Nat) (round_12 : Int) (i_13 : Int) (first_8 : (List UInt32)) (s_11 : (List UInt32)) : Option (Lo ((Int × Int × Unit) × ((List UInt32) × (List UInt32) × Unit)) ((Int × Unit) × ((List UInt32) × (List UInt32) × Unit)) (Lo ((Int × Unit) × ((List UInt32) × (List UInt32) × Unit)) (Unit × ((List UInt32) × (List UInt32) × Unit)) zq82_R)) :=
 bif (decide (i_13 < (4 : Int))) then
  Option.bind (zq109 N s_11 i_13 (w64 ((4 : Int) + i_13)) (w64 ((8 : Int) + i_13)) (w64 ((12 : Int) + i_13))) fun y20 =>
  some (.go ((round_12, (w64 (i_13 + (1 : Int))), ()), (first_8, y20.1.1, ())))
 else
  some (.br ((round_12, ()), (first_8, s_11, ())))
def zq82_s17 (N : Nat) (round_12 : Int) (i_14 : Int) (first_8 : (List UInt32)) (s_11 : (List UInt32)) : Option (Lo ((Int × Int × Unit) × ((List UInt32) × (List UInt32) × Unit)) ((Int × Unit) × ((List UInt32) × (List UInt32) × Unit)) (Lo ((Int × Unit) × ((List UInt32) × (List UInt32) × Unit)) (Unit × ((List UInt32) × (List UInt32) × Unit)) zq82_R)) :=
 bif (decide (i_14 < (4 : Int))) then
  Option.bind (zq109 N s_11 i_14 (w64 ((4 : Int) + ((w64 (i_14 + (1 : Int))).tmod (4 : Int)))) (w64 ((8 : Int) + ((w64 (i_14 + (2 : Int))).tmod (4 : Int)))) (w64 ((12 : Int) + ((w64 (i_14 + (3 : Int))).tmod (4 : Int))))) fun y32 =>
  some (.go ((round_12, (w64 (i_14 + (1 : Int))), ()), (first_8, y32.1.1, ())))
 else
  some (.br ((round_12, ()), (first_8, s_11, ())))
def zq82_18 (N : Nat) (round_12 : Int) (first_8 : (List UInt32)) (s_11 : (List UInt32)) : Option (Lo ((Int × Unit) × ((List UInt32) × (List UInt32) × Unit)) (Unit × ((List UInt32) × (List UInt32) × Unit)) zq82_R) :=
 some (.go (((w64 (round_12 + (1 : Int))), ()), (first_8, s_11, ())))
def zq82_16 (N : Nat) (round_12 : Int) (i_14 : Int) (first_8 : (List UInt32)) (s_11 : (List UInt32)) : Option (Lo ((Int × Unit) × ((List UInt32) × (List UInt32) × Unit)) (Unit × ((List UInt32) × (List UInt32) × Unit)) zq82_R) :=
 loopK N (fun y => zq82_s17 N y.1.1 y.1.2.1 y.2.1 y.2.2.1) (fun (e : ((Int × Unit) × ((List UInt32) × (List UInt32) × Unit))) => zq82_18 N e.1.1 e.2.1 e.2.2.1) ((round_12, i_14, ()), (first_8, s_11, ()))
def zq82_15 (N : Nat) (round_12 : Int) (first_8 : (List UInt32)) (s_11 : (List UInt32)) : Option (Lo ((Int × Unit) × ((List UInt32) × (List UInt32) × Unit)) (Unit × ((List UInt32) × (List UInt32) × Unit)) zq82_R) :=
 zq82_16 N round_12 (0 : Int) first_8 s_11
def zq82_13 (N : Nat) (round_12 : Int) (i_13 : Int) (first_8 : (List UInt32)) (s_11 : (List UInt32)) : Option (Lo ((Int × Unit) × ((List UInt32) × (List UInt32) × Unit)) (Unit × ((List UInt32) × (List UInt32) × Unit)) zq82_R) :=
 loopK N (fun y => zq82_s14 N y.1.1 y.1.2.1 y.2.1 y.2.2.1) (fun (e : ((Int × Unit) × ((List UInt32) × (List UInt32) × Unit))) => zq82_15 N e.1.1 e.2.1 e.2.2.1) ((round_12, i_13, ()), (first_8, s_11, ()))
def zq82_12 (N : Nat) (round_12 : Int) (first_8 : (List UInt32)) (s_11 : (List UInt32)) : Option (Lo ((Int × Unit) × ((List UInt32) × (List UInt32) × Unit)) (Unit × ((List UInt32) × (List UInt32) × Unit)) zq82_R) :=
 zq82_13 N round_12 (0 : Int) first_8 s_11
def zq82_10 (N : Nat) (round_12 : Int) (first_8 : (List UInt32)) (s_11 : (List UInt32)) : Option (Lo ((Int × Unit) × ((List UInt32) × (List UInt32) × Unit)) (Unit × ((List UInt32) × (List UInt32) × Unit)) zq82_R) :=
 zq82_12 N round_12 first_8 s_11
def zq82_s9 (N : Nat) (round_12 : Int) (first_8 : (List UInt32)) (s_11 : (List UInt32)) : Option (Lo ((Int × Unit) × ((List UInt32) × (List UInt32) × Unit)) (Unit × ((List UInt32) × (List UInt32) × Unit)) zq82_R) :=
 bif (decide (round_12 < (10 : Int))) then
  zq82_10 N round_12 first_8 s_11
 else
  some (.br ((), (first_8, s_11, ())))
def zq82_s21 (N : Nat) (i_16 : Int) (first_8 : (List UInt32)) (s_11 : (List UInt32)) (out_15 : List UInt8) : Option (Lo ((Int × Unit) × ((List UInt32) × (List UInt32) × List UInt8 × Unit)) (Unit × (List UInt8 × Unit)) zq82_R) :=
 bif (decide (i_16 < (16 : Int))) then
  bif inR i_16 16 then
  let x36 := (s_11.getD i_16.toNat (0 : UInt32))
  bif inR i_16 16 then
  let x37 := (first_8.getD i_16.toNat (0 : UInt32))
  bif room (out_15.length + ([(x36 + x37).toUInt8, (shr32 (x36 + x37) 8).toUInt8, (shr32 (x36 + x37) 16).toUInt8, (shr32 (x36 + x37) 24).toUInt8] : List UInt8).length) 1 then
  some (.go (((w64 (i_16 + (1 : Int))), ()), (first_8, s_11, (out_15 ++ ([(x36 + x37).toUInt8, (shr32 (x36 + x37) 8).toUInt8, (shr32 (x36 + x37) 16).toUInt8, (shr32 (x36 + x37) 24).toUInt8] : List UInt8)), ())))
  else none
  else none
  else none
 else
  some (.br ((), (out_15, ())))
def zq82_22 (N : Nat) (out_15 : List UInt8) : Option zq82_R :=
 some ((true, ()), (out_15, ()))
def zq82_20 (N : Nat) (i_16 : Int) (first_8 : (List UInt32)) (s_11 : (List UInt32)) (out_15 : List UInt8) : Option zq82_R :=
 loopK N (fun y => zq82_s21 N y.1.1 y.2.1 y.2.2.1 y.2.2.2.1) (fun (e : (Unit × (List UInt8 × Unit))) => zq82_22 N e.2.1) ((i_16, ()), (first_8, s_11, out_15, ()))
def zq82_19 (N : Nat) (first_8 : (List UInt32)) (s_11 : (List UInt32)) : Option zq82_R :=
 zq82_20 N (0 : Int) first_8 s_11 ([] : List UInt8)
def zq82_8 (N : Nat) (round_12 : Int) (first_8 : (List UInt32)) (s_11 : (List UInt32)) : Option zq82_R :=
 loopK N (fun y => zq82_s9 N y.1.1 y.2.1 y.2.2.1) (fun (e : (Unit × ((List UInt32) × (List UInt32) × Unit))) => zq82_19 N e.2.1 e.2.2.1) ((round_12, ()), (first_8, s_11, ()))
def zq82_7 (N : Nat) (first_8 : (List UInt32)) : Option zq82_R :=
 zq82_8 N (0 : Int) first_8 first_8
def zq82_5 (N : Nat) (nonce_2 : List UInt8) (i_10 : Int) (first_8 : (List UInt32)) : Option zq82_R :=
 loopK N (fun y => zq82_s6 N y.1.1 y.1.2.1 y.2.1) (fun (e : (Unit × ((List UInt32) × Unit))) => zq82_7 N e.2.1) ((nonce_2, i_10, ()), (first_8, ()))
def zq82_4 (N : Nat) (counter_1 : UInt32) (nonce_2 : List UInt8) (first_8 : (List UInt32)) : Option zq82_R :=
 zq82_5 N nonce_2 (0 : Int) (first_8.set 12 counter_1)
def zq82_2 (N : Nat) (key_0 : List UInt8) (counter_1 : UInt32) (nonce_2 : List UInt8) (i_9 : Int) (first_8 : (List UInt32)) : Option zq82_R :=
 loopK N (fun y => zq82_s3 N y.1.1 y.1.2.1 y.1.2.2.1 y.1.2.2.2.1 y.2.1) (fun (e : ((UInt32 × List UInt8 × Unit) × ((List UInt32) × Unit))) => zq82_4 N e.1.1 e.1.2.1 e.2.1) ((key_0, counter_1, nonce_2, i_9, ()), (first_8, ()))
def zq82_1 (N : Nat) (key_0 : List UInt8) (counter_1 : UInt32) (nonce_2 : List UInt8) (t_25 : Bool) : Option zq82_R :=
 bif t_25 then
  some ((false, ()), (([] : List UInt8), ()))
 else
  zq82_2 N key_0 counter_1 nonce_2 (0 : Int) (((((List.replicate 16 (0 : UInt32)).set 0 (1634760805 : UInt32)).set 1 (857760878 : UInt32)).set 2 (2036477234 : UInt32)).set 3 (1797285236 : UInt32))
def zq82 (N : Nat) (key_0 : List UInt8) (counter_1 : UInt32) (nonce_2 : List UInt8) : Option zq82_R :=
 bif (!(decide ((key_0.length : Int) = (32 : Int)))) then
  zq82_1 N key_0 counter_1 nonce_2 true
 else
  zq82_1 N key_0 counter_1 nonce_2 (!(decide ((nonce_2.length : Int) = (12 : Int))))
def zq82_C (N : Nat) := Cx 112 [(130, zq98_ctr N), (131, zq109_ctr N)]
def zq82_S0 : Spec := ⟨[.val (.sl .u8), .val .u32, .val (.sl .u8), .ref 0 (.arr 16 .u32), .val .i64], [(.box 116 (.arr 16 .u32), .pos 3)]⟩
def zq82_S1 : Spec := ⟨[.val (.sl .u8), .ref 0 (.arr 16 .u32), .val .i64], [(.box 116 (.arr 16 .u32), .pos 1)]⟩
def zq82_S2 : Spec := ⟨[.ref 0 (.arr 16 .u32), .ref 1 (.arr 16 .u32), .val .i64, .val .i64], [(.box 116 (.arr 16 .u32), .pos 0), (.box 116 (.arr 16 .u32), .pos 1)]⟩
def zq82_S3 : Spec := ⟨[.ref 0 (.arr 16 .u32), .ref 1 (.arr 16 .u32), .val .i64], [(.box 116 (.arr 16 .u32), .pos 0), (.box 116 (.arr 16 .u32), .pos 1)]⟩
def zq82_S4 : Spec := ⟨[.ref 0 (.arr 16 .u32), .ref 1 (.arr 16 .u32), .row 2, .val .i64], [(.box 116 (.arr 16 .u32), .pos 0), (.box 116 (.arr 16 .u32), .pos 1), (.row 5 .u8, .pos 2)]⟩
def zq82_S5 : Spec := ⟨[.row 0], [(.row 5 .u8, .pos 0)]⟩
def zq82_S6 : Spec := ⟨[.ref 0 (.arr 16 .u32), .ref 1 (.arr 16 .u32)], [(.box 116 (.arr 16 .u32), .pos 0), (.box 116 (.arr 16 .u32), .pos 1)]⟩
def zq82_S7 : Spec := ⟨[.ref 0 (.arr 16 .u32)], [(.box 116 (.arr 16 .u32), .pos 0)]⟩
def zq82_S8 : Spec := ⟨[.val .u32, .val (.sl .u8), .ref 0 (.arr 16 .u32)], [(.box 116 (.arr 16 .u32), .pos 2)]⟩
def zq82_S9 : Spec := ⟨[.val (.sl .u8), .val .u32, .val (.sl .u8), .val .bool], []⟩
def zq82_S10 : Spec := ⟨[.val (.sl .u8), .val .u32, .val (.sl .u8)], []⟩
def zq82_S11 : Spec := ⟨[.row 0, .val .bool], [(.row 5 .u8, .pos 0)]⟩
def zq82_K : XE → GS → Option zq82_R := retK 0 [6, 7] [false, false] zq82_S11
noncomputable def zq82_L : List Code := (bodyOf (some Tryz.f115))
def zq82_L3 : List Code := (loopOf (zq82_L[5]?))
def zq82_L6 : List Code := (loopOf (zq82_L[8]?))
def zq82_L9 : List Code := (loopOf (zq82_L[11]?))
def zq82_L11b : List Code := (zw17 (zq82_L9[2]?))
def zq82_L14 : List Code := (loopOf (zq82_L11b[1]?))
def zq82_L17 : List Code := (loopOf (zq82_L11b[3]?))
def zq82_L21 : List Code := (loopOf (zq82_L[14]?))
def zq82_K3 (N : Nat) := roundK (some 0) (fit 0 [0, 1, 2, 8, 9] zq82_S0) (fit 0 [1, 2, 8] zq82_S8) zq82_K
def zq82_K6 (N : Nat) := roundK (some 2) (fit 0 [2, 8, 10] zq82_S1) (fit 0 [8] zq82_S7) zq82_K
def zq82_K9 (N : Nat) := roundK (some 4) (fit 0 [8, 11, 12] zq82_S3) (fit 0 [8, 11] zq82_S6) zq82_K
def zq82_K21 (N : Nat) := roundK (some 10) (fit 0 [8, 11, 15, 16] zq82_S4) (fit 0 [15] zq82_S5) zq82_K
def zq82_K11 (N : Nat) : XE → GS → Option (Lo ((Int × Unit) × ((List UInt32) × (List UInt32) × Unit)) (Unit × ((List UInt32) × (List UInt32) × Unit)) zq82_R) := blockK 5 (goK 0 [8, 11, 12] zq82_S3 (fun y => zq82_18 N y.1.1 y.2.1 y.2.2.1)) (zq82_K9 N)
def zq82_K14 (N : Nat) := roundK (some 6) (fit 0 [8, 11, 12, 13] zq82_S2) (fit 0 [8, 11, 12] zq82_S3) (zq82_K11 N)
def zq82_K17 (N : Nat) := roundK (some 8) (fit 0 [8, 11, 12, 14] zq82_S2) (fit 0 [8, 11, 12] zq82_S3) (zq82_K11 N)
theorem zq82_s3_b (N) : Bk 0 (zq82_C N) [0, 1, 2, 8, 9] zq82_S0 (zq82_L3.drop 0) (fun y => zq82_s3 N y.1.1 y.1.2.1 y.1.2.2.1 y.1.2.2.2.1 y.2.1) (zq82_K3 N) :=
 cE 4
theorem zq82_s6_b (N) : Bk 0 (zq82_C N) [2, 8, 10] zq82_S1 (zq82_L6.drop 0) (fun y => zq82_s6 N y.1.1 y.1.2.1 y.2.1) (zq82_K6 N) :=
 cE 4
theorem zq82_s14_b (N) : Bk 0 (zq82_C N) [8, 11, 12, 13] zq82_S2 (zq82_L14.drop 0) (fun y => zq82_s14 N y.1.1 y.1.2.1 y.2.1 y.2.2.1) (zq82_K14 N) :=
 cE 4
theorem zq82_s17_b (N) : Bk 0 (zq82_C N) [8, 11, 12, 14] zq82_S2 (zq82_L17.drop 0) (fun y => zq82_s17 N y.1.1 y.1.2.1 y.2.1 y.2.2.1) (zq82_K17 N) :=
 cE 4
theorem zq82_18_b (N) : Bk 0 (zq82_C N) [8, 11, 12] zq82_S3 (zq82_L9.drop 3) (fun y => zq82_18 N y.1.1 y.2.1 y.2.2.1) (zq82_K9 N) :=
 cE 1
theorem zq82_16_b (N) : Bk 0 (zq82_C N) [8, 11, 12, 14] zq82_S2 (zq82_L11b.drop 3) (fun y => zq82_16 N y.1.1 y.1.2.1 y.2.1 y.2.2.1) (zq82_K11 N) :=
 lE N zq82_S2 [8, 11, 12] zq82_S3 (zq82_s17_b N)
theorem zq82_15_b (N) : Bk 0 (zq82_C N) [8, 11, 12] zq82_S3 (zq82_L11b.drop 2) (fun y => zq82_15 N y.1.1 y.2.1 y.2.2.1) (zq82_K11 N) :=
 cG 1 (zq82_16_b N)
theorem zq82_13_b (N) : Bk 0 (zq82_C N) [8, 11, 12, 13] zq82_S2 (zq82_L11b.drop 1) (fun y => zq82_13 N y.1.1 y.1.2.1 y.2.1 y.2.2.1) (zq82_K11 N) :=
 lG N zq82_S2 [8, 11, 12] zq82_S3 (zq82_15_b N) (zq82_s14_b N)
theorem zq82_12_b (N) : Bk 0 (zq82_C N) [8, 11, 12] zq82_S3 (zq82_L11b.drop 0) (fun y => zq82_12 N y.1.1 y.2.1 y.2.2.1) (zq82_K11 N) :=
 cG 1 (zq82_13_b N)
theorem zq82_10_b (N) : Bk 0 (zq82_C N) [8, 11, 12] zq82_S3 (zq82_L9.drop 2) (fun y => zq82_10 N y.1.1 y.2.1 y.2.2.1) (zq82_K9 N) :=
 fun hb => Blk.blockAt (bid := 5) (X := (goK 0 [8, 11, 12] zq82_S3 (fun y => zq82_18 N y.1.1 y.2.1 y.2.2.1))) (Y := (goK 0 [8, 11, 12] zq82_S3 (fun y => zq82_12 N y.1.1 y.2.1 y.2.2.1))) (by kernel_rfl) (NxOk.go hb (zq82_18_b N hb)) (NxOk.go hb (zq82_12_b N hb)) (fun x => by kernel_rfl)
theorem zq82_s9_b (N) : Bk 0 (zq82_C N) [8, 11, 12] zq82_S3 (zq82_L9.drop 0) (fun y => zq82_s9 N y.1.1 y.2.1 y.2.2.1) (zq82_K9 N) :=
 cG 2 (zq82_10_b N)
theorem zq82_s21_b (N) : Bk 0 (zq82_C N) [8, 11, 15, 16] zq82_S4 (zq82_L21.drop 0) (fun y => zq82_s21 N y.1.1 y.2.1 y.2.2.1 y.2.2.2.1) (zq82_K21 N) :=
 cE 4
theorem zq82_22_b (N) : Bk 0 (zq82_C N) [15] zq82_S5 (zq82_L.drop 15) (fun y => zq82_22 N y.2.1) zq82_K :=
 cE 2
theorem zq82_20_b (N) : Bk 0 (zq82_C N) [8, 11, 15, 16] zq82_S4 (zq82_L.drop 14) (fun y => zq82_20 N y.1.1 y.2.1 y.2.2.1 y.2.2.2.1) zq82_K :=
 lG N zq82_S4 [15] zq82_S5 (zq82_22_b N) (zq82_s21_b N)
theorem zq82_19_b (N) : Bk 0 (zq82_C N) [8, 11] zq82_S6 (zq82_L.drop 12) (fun y => zq82_19 N y.2.1 y.2.2.1) zq82_K :=
 cG 2 (zq82_20_b N)
theorem zq82_8_b (N) : Bk 0 (zq82_C N) [8, 11, 12] zq82_S3 (zq82_L.drop 11) (fun y => zq82_8 N y.1.1 y.2.1 y.2.2.1) zq82_K :=
 lG N zq82_S3 [8, 11] zq82_S6 (zq82_19_b N) (zq82_s9_b N)
theorem zq82_7_b (N) : Bk 0 (zq82_C N) [8] zq82_S7 (zq82_L.drop 9) (fun y => zq82_7 N y.2.1) zq82_K :=
 cG 2 (zq82_8_b N)
theorem zq82_5_b (N) : Bk 0 (zq82_C N) [2, 8, 10] zq82_S1 (zq82_L.drop 8) (fun y => zq82_5 N y.1.1 y.1.2.1 y.2.1) zq82_K :=
 lG N zq82_S1 [8] zq82_S7 (zq82_7_b N) (zq82_s6_b N)
theorem zq82_4_b (N) : Bk 0 (zq82_C N) [1, 2, 8] zq82_S8 (zq82_L.drop 6) (fun y => zq82_4 N y.1.1 y.1.2.1 y.2.1) zq82_K :=
 cG 2 (zq82_5_b N)
theorem zq82_2_b (N) : Bk 0 (zq82_C N) [0, 1, 2, 8, 9] zq82_S0 (zq82_L.drop 5) (fun y => zq82_2 N y.1.1 y.1.2.1 y.1.2.2.1 y.1.2.2.2.1 y.2.1) zq82_K :=
 lG N zq82_S0 [1, 2, 8] zq82_S8 (zq82_4_b N) (zq82_s3_b N)
theorem zq82_1_b (N) : Bk 0 (zq82_C N) [0, 1, 2, 25] zq82_S9 (zq82_L.drop 2) (fun y => zq82_1 N y.1.1 y.1.2.1 y.1.2.2.1 y.1.2.2.2.1) zq82_K :=
 cG 3 (zq82_2_b N)
theorem zq82_b (N) : Bk 0 (zq82_C N) (List.range zq82_S10.ks.length) zq82_S10 (zq82_L.drop 0) (fun y => zq82 N y.1.1 y.1.2.1 y.1.2.2.1) zq82_K :=
 cG 2 (zq82_1_b N)
def zq82_ctr (N : Nat) : Ctr := ⟨zq82_S10, zq82_S11.un [false, false], 0, (fun y => zq82 N y.1.1 y.1.2.1 y.1.2.2.1)⟩
theorem zq82_ok (N : Nat) : COk 115 (zq82_ctr N) :=
 cF (zw3 (Γ := zq82_C N) zw2 (csc (zq98_ok N) (csc (zq109_ok N) csn))) Tryz.func115 Tryz.ntmps115 (zq82_b N)
abbrev zq106_R : Type := ((Bool × Unit) × (List UInt8 × Unit))
def zq106_9 (N : Nat) (key_0 : List UInt8) (counter_1 : UInt32) (nonce_2 : List UInt8) (b_3 : List UInt8) (at_11 : Int) (i_14 : Int) (t_52 : Bool) (out_10 : List UInt8) (s_12 : List UInt8) : Option (Lo ((List UInt8 × UInt32 × List UInt8 × List UInt8 × Int × Int × Unit) × (List UInt8 × List UInt8 × Unit)) ((List UInt8 × UInt32 × List UInt8 × List UInt8 × Int × Unit) × (List UInt8 × Unit)) (Lo ((List UInt8 × UInt32 × List UInt8 × List UInt8 × Int × Unit) × (List UInt8 × Unit)) (Unit × (List UInt8 × Unit)) zq106_R)) :=
 bif t_52 then
  bif inR i_14 out_10.length then
  let x14 := w64 (i_14 - at_11)
  bif inR x14 s_12.length then
  bif inR i_14 out_10.length then
  some (.go ((key_0, counter_1, nonce_2, b_3, at_11, (w64 (i_14 + (1 : Int))), ()), ((out_10.set i_14.toNat ((out_10.getD i_14.toNat (0 : UInt8)) ^^^ (s_12.getD x14.toNat (0 : UInt8)))), s_12, ())))
  else none
  else none
  else none
 else
  some (.br ((key_0, counter_1, nonce_2, b_3, at_11, ()), (out_10, ())))
def zq106_s8 (N : Nat) (key_0 : List UInt8) (counter_1 : UInt32) (nonce_2 : List UInt8) (b_3 : List UInt8) (at_11 : Int) (i_14 : Int) (out_10 : List UInt8) (s_12 : List UInt8) : Option (Lo ((List UInt8 × UInt32 × List UInt8 × List UInt8 × Int × Int × Unit) × (List UInt8 × List UInt8 × Unit)) ((List UInt8 × UInt32 × List UInt8 × List UInt8 × Int × Unit) × (List UInt8 × Unit)) (Lo ((List UInt8 × UInt32 × List UInt8 × List UInt8 × Int × Unit) × (List UInt8 × Unit)) (Unit × (List UInt8 × Unit)) zq106_R)) :=
 bif (decide (i_14 < (b_3.length : Int))) then
  zq106_9 N key_0 counter_1 nonce_2 b_3 at_11 i_14 (decide (i_14 < (w64 (at_11 + (64 : Int))))) out_10 s_12
 else
  zq106_9 N key_0 counter_1 nonce_2 b_3 at_11 i_14 false out_10 s_12
def zq106_10 (N : Nat) (key_0 : List UInt8) (counter_1 : UInt32) (nonce_2 : List UInt8) (b_3 : List UInt8) (at_11 : Int) (out_10 : List UInt8) : Option (Lo ((List UInt8 × UInt32 × List UInt8 × List UInt8 × Int × Unit) × (List UInt8 × Unit)) (Unit × (List UInt8 × Unit)) zq106_R) :=
 some (.go ((key_0, counter_1, nonce_2, b_3, (w64 (at_11 + (64 : Int))), ()), (out_10, ())))
def zq106_7 (N : Nat) (key_0 : List UInt8) (counter_1 : UInt32) (nonce_2 : List UInt8) (b_3 : List UInt8) (at_11 : Int) (i_14 : Int) (out_10 : List UInt8) (s_12 : List UInt8) : Option (Lo ((List UInt8 × UInt32 × List UInt8 × List UInt8 × Int × Unit) × (List UInt8 × Unit)) (Unit × (List UInt8 × Unit)) zq106_R) :=
 loopK N (fun y => zq106_s8 N y.1.1 y.1.2.1 y.1.2.2.1 y.1.2.2.2.1 y.1.2.2.2.2.1 y.1.2.2.2.2.2.1 y.2.1 y.2.2.1) (fun (e : ((List UInt8 × UInt32 × List UInt8 × List UInt8 × Int × Unit) × (List UInt8 × Unit))) => zq106_10 N e.1.1 e.1.2.1 e.1.2.2.1 e.1.2.2.2.1 e.1.2.2.2.2.1 e.2.1) ((key_0, counter_1, nonce_2, b_3, at_11, i_14, ()), (out_10, s_12, ()))
def zq106_6 (N : Nat) (key_0 : List UInt8) (counter_1 : UInt32) (nonce_2 : List UInt8) (b_3 : List UInt8) (at_11 : Int) (out_10 : List UInt8) : Option (Lo ((List UInt8 × UInt32 × List UInt8 × List UInt8 × Int × Unit) × (List UInt8 × Unit)) (Unit × (List UInt8 × Unit)) zq106_R) :=
 Option.bind (zq82 N key_0 (counter_1 + (iu32 (w64 (at_11.tdiv (64 : Int))))) nonce_2) fun y8 =>
 zq106_7 N key_0 counter_1 nonce_2 b_3 at_11 at_11 out_10 y8.2.1
def zq106_4 (N : Nat) (key_0 : List UInt8) (counter_1 : UInt32) (nonce_2 : List UInt8) (b_3 : List UInt8) (at_11 : Int) (out_10 : List UInt8) : Option (Lo ((List UInt8 × UInt32 × List UInt8 × List UInt8 × Int × Unit) × (List UInt8 × Unit)) (Unit × (List UInt8 × Unit)) zq106_R) :=
 zq106_6 N key_0 counter_1 nonce_2 b_3 at_11 out_10
def zq106_s3 (N : Nat) (key_0 : List UInt8) (counter_1 : UInt32) (nonce_2 : List UInt8) (b_3 : List UInt8) (at_11 : Int) (out_10 : List UInt8) : Option (Lo ((List UInt8 × UInt32 × List UInt8 × List UInt8 × Int × Unit) × (List UInt8 × Unit)) (Unit × (List UInt8 × Unit)) zq106_R) :=
 bif (decide (at_11 < (b_3.length : Int))) then
  zq106_4 N key_0 counter_1 nonce_2 b_3 at_11 out_10
 else
  some (.br ((), (out_10, ())))
def zq106_11 (N : Nat) (out_10 : List UInt8) : Option zq106_R :=
 some ((true, ()), (out_10, ()))
def zq106_2 (N : Nat) (key_0 : List UInt8) (counter_1 : UInt32) (nonce_2 : List UInt8) (b_3 : List UInt8) (at_11 : Int) (out_10 : List UInt8) : Option zq106_R :=
 loopK N (fun y => zq106_s3 N y.1.1 y.1.2.1 y.1.2.2.1 y.1.2.2.2.1 y.1.2.2.2.2.1 y.2.1) (fun (e : (Unit × (List UInt8 × Unit))) => zq106_11 N e.2.1) ((key_0, counter_1, nonce_2, b_3, at_11, ()), (out_10, ()))
def zq106_1 (N : Nat) (key_0 : List UInt8) (counter_1 : UInt32) (nonce_2 : List UInt8) (b_3 : List UInt8) (t_22 : Bool) : Option zq106_R :=
 bif t_22 then
  some ((false, ()), (([] : List UInt8), ()))
 else
  bif room (0 + b_3.length) 1 then
  zq106_2 N key_0 counter_1 nonce_2 b_3 (0 : Int) b_3
  else none
def zq106 (N : Nat) (key_0 : List UInt8) (counter_1 : UInt32) (nonce_2 : List UInt8) (b_3 : List UInt8) : Option zq106_R :=
 bif (!(decide ((key_0.length : Int) = (32 : Int)))) then
  zq106_1 N key_0 counter_1 nonce_2 b_3 true
 else
  zq106_1 N key_0 counter_1 nonce_2 b_3 (!(decide ((nonce_2.length : Int) = (12 : Int))))
def zq106_C (N : Nat) := Cx 68 [(115, zq82_ctr N)]
def zq106_S0 : Spec := ⟨[.val (.sl .u8), .val .u32, .val (.sl .u8), .val (.sl .u8), .row 0, .val .i64, .row 1, .val .i64, .val .bool], [(.row 5 .u8, .pos 4), (.row 5 .u8, .pos 6)]⟩
def zq106_S1 : Spec := ⟨[.val (.sl .u8), .val .u32, .val (.sl .u8), .val (.sl .u8), .row 0, .val .i64, .row 1, .val .i64], [(.row 5 .u8, .pos 4), (.row 5 .u8, .pos 6)]⟩
def zq106_S2 : Spec := ⟨[.val (.sl .u8), .val .u32, .val (.sl .u8), .val (.sl .u8), .row 0, .val .i64], [(.row 5 .u8, .pos 4)]⟩
def zq106_S3 : Spec := ⟨[.row 0], [(.row 5 .u8, .pos 0)]⟩
def zq106_S4 : Spec := ⟨[.val (.sl .u8), .val .u32, .val (.sl .u8), .val (.sl .u8), .val .bool], []⟩
def zq106_S5 : Spec := ⟨[.val (.sl .u8), .val .u32, .val (.sl .u8), .val (.sl .u8)], []⟩
def zq106_S6 : Spec := ⟨[.row 0, .val .bool], [(.row 5 .u8, .pos 0)]⟩
def zq106_K : XE → GS → Option zq106_R := retK 0 [8, 9] [false, false] zq106_S6
noncomputable def zq106_L : List Code := (bodyOf (some Tryz.f92))
def zq106_L3 : List Code := (loopOf (zq106_L[5]?))
def zq106_L5b : List Code := (zw17 (zq106_L3[2]?))
def zq106_L8 : List Code := (loopOf (zq106_L5b[2]?))
def zq106_K3 (N : Nat) := roundK (some 0) (fit 0 [0, 1, 2, 3, 10, 11] zq106_S2) (fit 0 [10] zq106_S3) zq106_K
def zq106_K5 (N : Nat) : XE → GS → Option (Lo ((List UInt8 × UInt32 × List UInt8 × List UInt8 × Int × Unit) × (List UInt8 × Unit)) (Unit × (List UInt8 × Unit)) zq106_R) := blockK 1 (goK 0 [0, 1, 2, 3, 10, 11] zq106_S2 (fun y => zq106_10 N y.1.1 y.1.2.1 y.1.2.2.1 y.1.2.2.2.1 y.1.2.2.2.2.1 y.2.1)) (zq106_K3 N)
def zq106_K8 (N : Nat) := roundK (some 2) (fit 0 [0, 1, 2, 3, 10, 11, 12, 14] zq106_S1) (fit 0 [0, 1, 2, 3, 10, 11] zq106_S2) (zq106_K5 N)
theorem zq106_9_b (N) : Bk 0 (zq106_C N) [0, 1, 2, 3, 10, 11, 12, 14, 52] zq106_S0 (zq106_L8.drop 1) (fun y => zq106_9 N y.1.1 y.1.2.1 y.1.2.2.1 y.1.2.2.2.1 y.1.2.2.2.2.1 y.1.2.2.2.2.2.1 y.1.2.2.2.2.2.2.1 y.2.1 y.2.2.1) (zq106_K8 N) :=
 cE 3
theorem zq106_s8_b (N) : Bk 0 (zq106_C N) [0, 1, 2, 3, 10, 11, 12, 14] zq106_S1 (zq106_L8.drop 0) (fun y => zq106_s8 N y.1.1 y.1.2.1 y.1.2.2.1 y.1.2.2.2.1 y.1.2.2.2.2.1 y.1.2.2.2.2.2.1 y.2.1 y.2.2.1) (zq106_K8 N) :=
 cG 1 (zq106_9_b N)
theorem zq106_10_b (N) : Bk 0 (zq106_C N) [0, 1, 2, 3, 10, 11] zq106_S2 (zq106_L3.drop 3) (fun y => zq106_10 N y.1.1 y.1.2.1 y.1.2.2.1 y.1.2.2.2.1 y.1.2.2.2.2.1 y.2.1) (zq106_K3 N) :=
 cE 1
theorem zq106_7_b (N) : Bk 0 (zq106_C N) [0, 1, 2, 3, 10, 11, 12, 14] zq106_S1 (zq106_L5b.drop 2) (fun y => zq106_7 N y.1.1 y.1.2.1 y.1.2.2.1 y.1.2.2.2.1 y.1.2.2.2.2.1 y.1.2.2.2.2.2.1 y.2.1 y.2.2.1) (zq106_K5 N) :=
 lE N zq106_S1 [0, 1, 2, 3, 10, 11] zq106_S2 (zq106_s8_b N)
theorem zq106_6_b (N) : Bk 0 (zq106_C N) [0, 1, 2, 3, 10, 11] zq106_S2 (zq106_L5b.drop 0) (fun y => zq106_6 N y.1.1 y.1.2.1 y.1.2.2.1 y.1.2.2.2.1 y.1.2.2.2.2.1 y.2.1) (zq106_K5 N) :=
 cG 2 (zq106_7_b N)
theorem zq106_4_b (N) : Bk 0 (zq106_C N) [0, 1, 2, 3, 10, 11] zq106_S2 (zq106_L3.drop 2) (fun y => zq106_4 N y.1.1 y.1.2.1 y.1.2.2.1 y.1.2.2.2.1 y.1.2.2.2.2.1 y.2.1) (zq106_K3 N) :=
 fun hb => Blk.blockAt (bid := 1) (X := (goK 0 [0, 1, 2, 3, 10, 11] zq106_S2 (fun y => zq106_10 N y.1.1 y.1.2.1 y.1.2.2.1 y.1.2.2.2.1 y.1.2.2.2.2.1 y.2.1))) (Y := (goK 0 [0, 1, 2, 3, 10, 11] zq106_S2 (fun y => zq106_6 N y.1.1 y.1.2.1 y.1.2.2.1 y.1.2.2.2.1 y.1.2.2.2.2.1 y.2.1))) (by kernel_rfl) (NxOk.go hb (zq106_10_b N hb)) (NxOk.go hb (zq106_6_b N hb)) (fun x => by kernel_rfl)
theorem zq106_s3_b (N) : Bk 0 (zq106_C N) [0, 1, 2, 3, 10, 11] zq106_S2 (zq106_L3.drop 0) (fun y => zq106_s3 N y.1.1 y.1.2.1 y.1.2.2.1 y.1.2.2.2.1 y.1.2.2.2.2.1 y.2.1) (zq106_K3 N) :=
 cG 2 (zq106_4_b N)
theorem zq106_11_b (N) : Bk 0 (zq106_C N) [10] zq106_S3 (zq106_L.drop 6) (fun y => zq106_11 N y.2.1) zq106_K :=
 cE 2
theorem zq106_2_b (N) : Bk 0 (zq106_C N) [0, 1, 2, 3, 10, 11] zq106_S2 (zq106_L.drop 5) (fun y => zq106_2 N y.1.1 y.1.2.1 y.1.2.2.1 y.1.2.2.2.1 y.1.2.2.2.2.1 y.2.1) zq106_K :=
 lG N zq106_S2 [10] zq106_S3 (zq106_11_b N) (zq106_s3_b N)
theorem zq106_1_b (N) : Bk 0 (zq106_C N) [0, 1, 2, 3, 22] zq106_S4 (zq106_L.drop 2) (fun y => zq106_1 N y.1.1 y.1.2.1 y.1.2.2.1 y.1.2.2.2.1 y.1.2.2.2.2.1) zq106_K :=
 cG 3 (zq106_2_b N)
theorem zq106_b (N) : Bk 0 (zq106_C N) (List.range zq106_S5.ks.length) zq106_S5 (zq106_L.drop 0) (fun y => zq106 N y.1.1 y.1.2.1 y.1.2.2.1 y.1.2.2.2.1) zq106_K :=
 cG 2 (zq106_1_b N)
def zq106_ctr (N : Nat) : Ctr := ⟨zq106_S5, zq106_S6.un [false, false], 0, (fun y => zq106 N y.1.1 y.1.2.1 y.1.2.2.1 y.1.2.2.2.1)⟩
theorem zq106_ok (N : Nat) : COk 92 (zq106_ctr N) :=
 cF (zw3 (Γ := zq106_C N) zw2 (csc (zq82_ok N) csn)) Tryz.func92 Tryz.ntmps92 (zq106_b N)
abbrev zq117_R : Type := (Unit × (List UInt8 × Unit))
def zq117_s2 (N : Nat) (out_3 : List UInt8) : Option (Lo (Unit × (List UInt8 × Unit)) (Unit × (List UInt8 × Unit)) zq117_R) :=
 bif (!(decide (((out_3.length : Int).tmod (16 : Int)) = (0 : Int)))) then
  bif room (out_3.length + ([(0 : UInt8)] : List UInt8).length) 1 then
  some (.go ((), ((out_3 ++ ([(0 : UInt8)] : List UInt8)), ())))
  else none
 else
  some (.br ((), (out_3, ())))
def zq117_3 (N : Nat) (out_3 : List UInt8) : Option zq117_R :=
 some ((), (out_3, ()))
def zq117_1 (N : Nat) (out_3 : List UInt8) : Option zq117_R :=
 loopK N (fun y => zq117_s2 N y.2.1) (fun (e : (Unit × (List UInt8 × Unit))) => zq117_3 N e.2.1) ((), (out_3, ()))
def zq117 (N : Nat) (b_0 : List UInt8) : Option zq117_R :=
 bif room (0 + b_0.length) 1 then
 zq117_1 N b_0
 else none
def zq117_C (N : Nat) := Cx 14 []
def zq117_S0 : Spec := ⟨[.row 0], [(.row 5 .u8, .pos 0)]⟩
def zq117_S1 : Spec := ⟨[.val (.sl .u8)], []⟩
def zq117_K : XE → GS → Option zq117_R := retK 0 [2] [false] zq117_S0
noncomputable def zq117_L : List Code := (bodyOf (some Tryz.f116))
def zq117_L2 : List Code := (loopOf (zq117_L[2]?))
def zq117_K2 (N : Nat) := roundK (some 0) (fit 0 [3] zq117_S0) (fit 0 [3] zq117_S0) zq117_K
theorem zq117_s2_b (N) : Bk 0 (zq117_C N) [3] zq117_S0 (zq117_L2.drop 0) (fun y => zq117_s2 N y.2.1) (zq117_K2 N) :=
 cE 3
theorem zq117_3_b (N) : Bk 0 (zq117_C N) [3] zq117_S0 (zq117_L.drop 3) (fun y => zq117_3 N y.2.1) zq117_K :=
 cE 2
theorem zq117_1_b (N) : Bk 0 (zq117_C N) [3] zq117_S0 (zq117_L.drop 2) (fun y => zq117_1 N y.2.1) zq117_K :=
 lG N zq117_S0 [3] zq117_S0 (zq117_3_b N) (zq117_s2_b N)
theorem zq117_b (N) : Bk 0 (zq117_C N) (List.range zq117_S1.ks.length) zq117_S1 (zq117_L.drop 0) (fun y => zq117 N y.1.1) zq117_K :=
 cG 2 (zq117_1_b N)
def zq117_ctr (N : Nat) : Ctr := ⟨zq117_S1, zq117_S0.un [false], 0, (fun y => zq117 N y.1.1)⟩
theorem zq117_ok (N : Nat) : COk 116 (zq117_ctr N) :=
 cF (zw3 (Γ := zq117_C N) zw2 csn) Tryz.func116 Tryz.ntmps116 (zq117_b N)
abbrev zq48_R : Type := (Unit × (List UInt8 × Unit))
def zq48_s2 (N : Nat) (v_1 : UInt64) (i_5 : Int) (b_0 : List UInt8) : Option (Lo ((UInt64 × Int × Unit) × (List UInt8 × Unit)) (Unit × (List UInt8 × Unit)) zq48_R) :=
 bif (decide (i_5 < (8 : Int))) then
  let x4 := shr64 v_1 (iu64 (w64 ((8 : Int) * i_5))).toNat
  bif room (b_0.length + ([x4.toUInt8] : List UInt8).length) 1 then
  some (.go ((v_1, (w64 (i_5 + (1 : Int))), ()), ((b_0 ++ ([x4.toUInt8] : List UInt8)), ())))
  else none
 else
  some (.br ((), (b_0, ())))
def zq48_3 (N : Nat) (b_0 : List UInt8) : Option zq48_R :=
 some ((), (b_0, ()))
def zq48_1 (N : Nat) (v_1 : UInt64) (i_5 : Int) (b_0 : List UInt8) : Option zq48_R :=
 loopK N (fun y => zq48_s2 N y.1.1 y.1.2.1 y.2.1) (fun (e : (Unit × (List UInt8 × Unit))) => zq48_3 N e.2.1) ((v_1, i_5, ()), (b_0, ()))
def zq48 (N : Nat) (v_1 : UInt64) (b_0 : List UInt8) : Option zq48_R :=
 zq48_1 N v_1 (0 : Int) b_0
def zq48_C (N : Nat) := Cx 20 []
def zq48_S0 : Spec := ⟨[.row 0, .val .u64, .val .i64], [(.row 5 .u8, .pos 0)]⟩
def zq48_S1 : Spec := ⟨[.row 0], [(.row 5 .u8, .pos 0)]⟩
def zq48_S2 : Spec := ⟨[.row 0, .val .u64], [(.row 5 .u8, .pos 0)]⟩
def zq48_K : XE → GS → Option zq48_R := retK 0 [4] [false] zq48_S1
noncomputable def zq48_L : List Code := (bodyOf (some Tryz.f117))
def zq48_L2 : List Code := (loopOf (zq48_L[2]?))
def zq48_K2 (N : Nat) := roundK (some 0) (fit 0 [0, 1, 5] zq48_S0) (fit 0 [0] zq48_S1) zq48_K
theorem zq48_s2_b (N) : Bk 0 (zq48_C N) [0, 1, 5] zq48_S0 (zq48_L2.drop 0) (fun y => zq48_s2 N y.1.1 y.1.2.1 y.2.1) (zq48_K2 N) :=
 cE 4
theorem zq48_3_b (N) : Bk 0 (zq48_C N) [0] zq48_S1 (zq48_L.drop 3) (fun y => zq48_3 N y.2.1) zq48_K :=
 cE 2
theorem zq48_1_b (N) : Bk 0 (zq48_C N) [0, 1, 5] zq48_S0 (zq48_L.drop 2) (fun y => zq48_1 N y.1.1 y.1.2.1 y.2.1) zq48_K :=
 lG N zq48_S0 [0] zq48_S1 (zq48_3_b N) (zq48_s2_b N)
theorem zq48_b (N) : Bk 0 (zq48_C N) (List.range zq48_S2.ks.length) zq48_S2 (zq48_L.drop 0) (fun y => zq48 N y.1.1 y.2.1) zq48_K :=
 cG 2 (zq48_1_b N)
def zq48_ctr (N : Nat) : Ctr := ⟨zq48_S2, zq48_S1.un [false], 0, (fun y => zq48 N y.1.1 y.2.1)⟩
theorem zq48_ok (N : Nat) : COk 117 (zq48_ctr N) :=
 cF (zw3 (Γ := zq48_C N) zw2 csn) Tryz.func117 Tryz.ntmps117 (zq48_b N)
abbrev zq73_R : Type := (((List UInt32) × Unit) × Unit)
def zq73_s2 (N : Nat) (key_0 : List UInt8) (i_4 : Int) (t_2 : (List UInt32)) (r_3 : (List UInt32)) : Option (Lo ((List UInt8 × Int × Unit) × ((List UInt32) × (List UInt32) × Unit)) (Unit × ((List UInt32) × (List UInt32) × Unit)) zq73_R) :=
 bif (decide (i_4 < (16 : Int))) then
  bif inR i_4 key_0.length then
  bif inR i_4 17 then
  let x3 := (r_3.set i_4.toNat (key_0.getD i_4.toNat (0 : UInt8)).toUInt32)
  bif (decide ((i_4.tmod (4 : Int)) = (3 : Int))) then
   bif inR i_4 17 then
   bif inR i_4 17 then
   let x8 := (x3.set i_4.toNat ((x3.getD i_4.toNat (0 : UInt32)) &&& (15 : UInt32)))
   bif (decide ((i_4.tmod (4 : Int)) = (0 : Int))) then
    bif (decide ((0 : Int) < i_4)) then
     bif inR i_4 17 then
     bif inR i_4 17 then
     some (.go ((key_0, (w64 (i_4 + (1 : Int))), ()), (t_2, (x8.set i_4.toNat ((x8.getD i_4.toNat (0 : UInt32)) &&& (252 : UInt32))), ())))
     else none
     else none
    else
     some (.go ((key_0, (w64 (i_4 + (1 : Int))), ()), (t_2, x8, ())))
   else
    some (.go ((key_0, (w64 (i_4 + (1 : Int))), ()), (t_2, x8, ())))
   else none
   else none
  else
   bif (decide ((i_4.tmod (4 : Int)) = (0 : Int))) then
    bif (decide ((0 : Int) < i_4)) then
     bif inR i_4 17 then
     bif inR i_4 17 then
     some (.go ((key_0, (w64 (i_4 + (1 : Int))), ()), (t_2, (x3.set i_4.toNat ((x3.getD i_4.toNat (0 : UInt32)) &&& (252 : UInt32))), ())))
     else none
     else none
    else
     some (.go ((key_0, (w64 (i_4 + (1 : Int))), ()), (t_2, x3, ())))
   else
    some (.go ((key_0, (w64 (i_4 + (1 : Int))), ()), (t_2, x3, ())))
  else none
  else none
 else
  some (.br ((), (t_2, r_3, ())))
def zq73_3 (N : Nat) (t_2 : (List UInt32)) (r_3 : (List UInt32)) : Option zq73_R :=
 some ((r_3, ()), ())
def zq73_1 (N : Nat) (key_0 : List UInt8) (i_4 : Int) (t_2 : (List UInt32)) (r_3 : (List UInt32)) : Option zq73_R :=
 loopK N (fun y => zq73_s2 N y.1.1 y.1.2.1 y.2.1 y.2.2.1) (fun (e : (Unit × ((List UInt32) × (List UInt32) × Unit))) => zq73_3 N e.2.1 e.2.2.1) ((key_0, i_4, ()), (t_2, r_3, ()))
def zq73 (N : Nat) (key_0 : List UInt8) : Option zq73_R :=
 zq73_1 N key_0 (0 : Int) (List.replicate 17 (0 : UInt32)) (List.replicate 17 (0 : UInt32))
def zq73_C (N : Nat) := Cx 37 []
def zq73_S0 : Spec := ⟨[.val (.sl .u8), .ref 0 (.arr 17 .u32), .ref 1 (.arr 17 .u32), .val .i64], [(.box 119 (.arr 17 .u32), .pos 1), (.box 119 (.arr 17 .u32), .pos 2)]⟩
def zq73_S1 : Spec := ⟨[.ref 0 (.arr 17 .u32), .ref 1 (.arr 17 .u32)], [(.box 119 (.arr 17 .u32), .pos 0), (.box 119 (.arr 17 .u32), .pos 1)]⟩
def zq73_S2 : Spec := ⟨[.val (.sl .u8)], []⟩
def zq73_S3 : Spec := ⟨[.fp (.arr 17 .u32)], []⟩
def zq73_K : XE → GS → Option zq73_R := retK 0 [2] [true] zq73_S3
noncomputable def zq73_L : List Code := (bodyOf (some Tryz.f132))
def zq73_L2 : List Code := (loopOf (zq73_L[3]?))
def zq73_K2 (N : Nat) := roundK (some 0) (fit 0 [0, 2, 3, 4] zq73_S0) (fit 0 [2, 3] zq73_S1) zq73_K
theorem zq73_s2_b (N) : Bk 0 (zq73_C N) [0, 2, 3, 4] zq73_S0 (zq73_L2.drop 0) (fun y => zq73_s2 N y.1.1 y.1.2.1 y.2.1 y.2.2.1) (zq73_K2 N) :=
 cE 4
theorem zq73_3_b (N) : Bk 0 (zq73_C N) [2, 3] zq73_S1 (zq73_L.drop 4) (fun y => zq73_3 N y.2.1 y.2.2.1) zq73_K :=
 cE 2
theorem zq73_1_b (N) : Bk 0 (zq73_C N) [0, 2, 3, 4] zq73_S0 (zq73_L.drop 3) (fun y => zq73_1 N y.1.1 y.1.2.1 y.2.1 y.2.2.1) zq73_K :=
 lG N zq73_S0 [2, 3] zq73_S1 (zq73_3_b N) (zq73_s2_b N)
theorem zq73_b (N) : Bk 0 (zq73_C N) (List.range zq73_S2.ks.length) zq73_S2 (zq73_L.drop 0) (fun y => zq73 N y.1.1) zq73_K :=
 cG 3 (zq73_1_b N)
def zq73_ctr (N : Nat) : Ctr := ⟨zq73_S2, zq73_S3.un [true], 0, (fun y => zq73 N y.1.1)⟩
theorem zq73_ok (N : Nat) : COk 132 (zq73_ctr N) :=
 cF (zw3 (Γ := zq73_C N) zw2 csn) Tryz.func132 Tryz.ntmps132 (zq73_b N)
abbrev zq68_R : Type := (((List UInt32) × Unit) × Unit)
def zq68_s7 (N : Nat) (round_3 : Int) (u_4 : UInt32) (i_5 : Int) (h_1 : (List UInt32)) (t_2 : (List UInt32)) : Option (Lo ((Int × UInt32 × Int × Unit) × ((List UInt32) × (List UInt32) × Unit)) ((Int × UInt32 × Unit) × ((List UInt32) × (List UInt32) × Unit)) (Lo ((Int × Unit) × ((List UInt32) × (List UInt32) × Unit)) (Unit × ((List UInt32) × (List UInt32) × Unit)) zq68_R)) :=
 bif (decide (i_5 < (17 : Int))) then
  bif inR i_5 17 then
  let x3 := (h_1.getD i_5.toNat (0 : UInt32))
  bif inR i_5 17 then
  let x6 := (h_1.set i_5.toNat ((u_4 + x3) &&& (255 : UInt32)))
  bif (decide (i_5 = (16 : Int))) then
   bif inR i_5 17 then
   some (.go ((round_3, ((5 : UInt32) * (shr32 (u_4 + x3) 2)), (w64 (i_5 + (1 : Int))), ()), ((x6.set i_5.toNat ((u_4 + x3) &&& (3 : UInt32))), t_2, ())))
   else none
  else
   some (.go ((round_3, (shr32 (u_4 + x3) 8), (w64 (i_5 + (1 : Int))), ()), (x6, t_2, ())))
  else none
  else none
 else
  some (.br ((round_3, u_4, ()), (h_1, t_2, ())))
def zq68_9 (N : Nat) (round_3 : Int) (h_1 : (List UInt32)) (t_2 : (List UInt32)) : Option (Lo ((Int × Unit) × ((List UInt32) × (List UInt32) × Unit)) (Unit × ((List UInt32) × (List UInt32) × Unit)) zq68_R) :=
 some (.go (((w64 (round_3 + (1 : Int))), ()), (h_1, t_2, ())))
def zq68_8 (N : Nat) (round_3 : Int) (u_4 : UInt32) (h_1 : (List UInt32)) (t_2 : (List UInt32)) : Option (Lo ((Int × Unit) × ((List UInt32) × (List UInt32) × Unit)) (Unit × ((List UInt32) × (List UInt32) × Unit)) zq68_R) :=
 zq68_9 N round_3 (h_1.set 0 ((h_1.getD 0 (0 : UInt32)) + u_4)) t_2
def zq68_6 (N : Nat) (round_3 : Int) (u_4 : UInt32) (i_5 : Int) (h_1 : (List UInt32)) (t_2 : (List UInt32)) : Option (Lo ((Int × Unit) × ((List UInt32) × (List UInt32) × Unit)) (Unit × ((List UInt32) × (List UInt32) × Unit)) zq68_R) :=
 loopK N (fun y => zq68_s7 N y.1.1 y.1.2.1 y.1.2.2.1 y.2.1 y.2.2.1) (fun (e : ((Int × UInt32 × Unit) × ((List UInt32) × (List UInt32) × Unit))) => zq68_8 N e.1.1 e.1.2.1 e.2.1 e.2.2.1) ((round_3, u_4, i_5, ()), (h_1, t_2, ()))
def zq68_5 (N : Nat) (round_3 : Int) (h_1 : (List UInt32)) (t_2 : (List UInt32)) : Option (Lo ((Int × Unit) × ((List UInt32) × (List UInt32) × Unit)) (Unit × ((List UInt32) × (List UInt32) × Unit)) zq68_R) :=
 zq68_6 N round_3 (0 : UInt32) (0 : Int) h_1 t_2
def zq68_3 (N : Nat) (round_3 : Int) (h_1 : (List UInt32)) (t_2 : (List UInt32)) : Option (Lo ((Int × Unit) × ((List UInt32) × (List UInt32) × Unit)) (Unit × ((List UInt32) × (List UInt32) × Unit)) zq68_R) :=
 zq68_5 N round_3 h_1 t_2
def zq68_s2 (N : Nat) (round_3 : Int) (h_1 : (List UInt32)) (t_2 : (List UInt32)) : Option (Lo ((Int × Unit) × ((List UInt32) × (List UInt32) × Unit)) (Unit × ((List UInt32) × (List UInt32) × Unit)) zq68_R) :=
 bif (decide (round_3 < (3 : Int))) then
  zq68_3 N round_3 h_1 t_2
 else
  some (.br ((), (h_1, t_2, ())))
def zq68_10 (N : Nat) (h_1 : (List UInt32)) (t_2 : (List UInt32)) : Option zq68_R :=
 some ((h_1, ()), ())
def zq68_1 (N : Nat) (round_3 : Int) (h_1 : (List UInt32)) (t_2 : (List UInt32)) : Option zq68_R :=
 loopK N (fun y => zq68_s2 N y.1.1 y.2.1 y.2.2.1) (fun (e : (Unit × ((List UInt32) × (List UInt32) × Unit))) => zq68_10 N e.2.1 e.2.2.1) ((round_3, ()), (h_1, t_2, ()))
def zq68 (N : Nat) (h_0 : (List UInt32)) : Option zq68_R :=
 zq68_1 N (0 : Int) h_0 (List.replicate 17 (0 : UInt32))
def zq68_C (N : Nat) := Cx 40 []
def zq68_S0 : Spec := ⟨[.ref 0 (.arr 17 .u32), .ref 1 (.arr 17 .u32), .val .i64, .val .u32, .val .i64], [(.box 119 (.arr 17 .u32), .pos 0), (.box 119 (.arr 17 .u32), .pos 1)]⟩
def zq68_S1 : Spec := ⟨[.ref 0 (.arr 17 .u32), .ref 1 (.arr 17 .u32), .val .i64], [(.box 119 (.arr 17 .u32), .pos 0), (.box 119 (.arr 17 .u32), .pos 1)]⟩
def zq68_S2 : Spec := ⟨[.ref 0 (.arr 17 .u32), .ref 1 (.arr 17 .u32), .val .i64, .val .u32], [(.box 119 (.arr 17 .u32), .pos 0), (.box 119 (.arr 17 .u32), .pos 1)]⟩
def zq68_S3 : Spec := ⟨[.ref 0 (.arr 17 .u32), .ref 1 (.arr 17 .u32)], [(.box 119 (.arr 17 .u32), .pos 0), (.box 119 (.arr 17 .u32), .pos 1)]⟩
def zq68_S4 : Spec := ⟨[.val (.arr 17 .u32)], []⟩
def zq68_S5 : Spec := ⟨[.fp (.arr 17 .u32)], []⟩
def zq68_K : XE → GS → Option zq68_R := retK 0 [2] [true] zq68_S5
noncomputable def zq68_L : List Code := (bodyOf (some Tryz.f134))
def zq68_L2 : List Code := (loopOf (zq68_L[2]?))
def zq68_L4b : List Code := (zw17 (zq68_L2[2]?))
def zq68_L7 : List Code := (loopOf (zq68_L4b[2]?))
def zq68_K2 (N : Nat) := roundK (some 0) (fit 0 [1, 2, 3] zq68_S1) (fit 0 [1, 2] zq68_S3) zq68_K
def zq68_K4 (N : Nat) : XE → GS → Option (Lo ((Int × Unit) × ((List UInt32) × (List UInt32) × Unit)) (Unit × ((List UInt32) × (List UInt32) × Unit)) zq68_R) := blockK 1 (goK 0 [1, 2, 3] zq68_S1 (fun y => zq68_9 N y.1.1 y.2.1 y.2.2.1)) (zq68_K2 N)
def zq68_K7 (N : Nat) := roundK (some 2) (fit 0 [1, 2, 3, 4, 5] zq68_S0) (fit 0 [1, 2, 3, 4] zq68_S2) (zq68_K4 N)
theorem zq68_s7_b (N) : Bk 0 (zq68_C N) [1, 2, 3, 4, 5] zq68_S0 (zq68_L7.drop 0) (fun y => zq68_s7 N y.1.1 y.1.2.1 y.1.2.2.1 y.2.1 y.2.2.1) (zq68_K7 N) :=
 cE 4
theorem zq68_9_b (N) : Bk 0 (zq68_C N) [1, 2, 3] zq68_S1 (zq68_L2.drop 3) (fun y => zq68_9 N y.1.1 y.2.1 y.2.2.1) (zq68_K2 N) :=
 cE 1
theorem zq68_8_b (N) : Bk 0 (zq68_C N) [1, 2, 3, 4] zq68_S2 (zq68_L4b.drop 3) (fun y => zq68_8 N y.1.1 y.1.2.1 y.2.1 y.2.2.1) (zq68_K4 N) :=
 cE 1
theorem zq68_6_b (N) : Bk 0 (zq68_C N) [1, 2, 3, 4, 5] zq68_S0 (zq68_L4b.drop 2) (fun y => zq68_6 N y.1.1 y.1.2.1 y.1.2.2.1 y.2.1 y.2.2.1) (zq68_K4 N) :=
 lG N zq68_S0 [1, 2, 3, 4] zq68_S2 (zq68_8_b N) (zq68_s7_b N)
theorem zq68_5_b (N) : Bk 0 (zq68_C N) [1, 2, 3] zq68_S1 (zq68_L4b.drop 0) (fun y => zq68_5 N y.1.1 y.2.1 y.2.2.1) (zq68_K4 N) :=
 cG 2 (zq68_6_b N)
theorem zq68_3_b (N) : Bk 0 (zq68_C N) [1, 2, 3] zq68_S1 (zq68_L2.drop 2) (fun y => zq68_3 N y.1.1 y.2.1 y.2.2.1) (zq68_K2 N) :=
 fun hb => Blk.blockAt (bid := 1) (X := (goK 0 [1, 2, 3] zq68_S1 (fun y => zq68_9 N y.1.1 y.2.1 y.2.2.1))) (Y := (goK 0 [1, 2, 3] zq68_S1 (fun y => zq68_5 N y.1.1 y.2.1 y.2.2.1))) (by kernel_rfl) (NxOk.go hb (zq68_9_b N hb)) (NxOk.go hb (zq68_5_b N hb)) (fun x => by kernel_rfl)
theorem zq68_s2_b (N) : Bk 0 (zq68_C N) [1, 2, 3] zq68_S1 (zq68_L2.drop 0) (fun y => zq68_s2 N y.1.1 y.2.1 y.2.2.1) (zq68_K2 N) :=
 cG 2 (zq68_3_b N)
theorem zq68_10_b (N) : Bk 0 (zq68_C N) [1, 2] zq68_S3 (zq68_L.drop 3) (fun y => zq68_10 N y.2.1 y.2.2.1) zq68_K :=
 cE 2
theorem zq68_1_b (N) : Bk 0 (zq68_C N) [1, 2, 3] zq68_S1 (zq68_L.drop 2) (fun y => zq68_1 N y.1.1 y.2.1 y.2.2.1) zq68_K :=
 lG N zq68_S1 [1, 2] zq68_S3 (zq68_10_b N) (zq68_s2_b N)
theorem zq68_b (N) : Bk 0 (zq68_C N) (List.range zq68_S4.ks.length) zq68_S4 (zq68_L.drop 0) (fun y => zq68 N y.1.1) zq68_K :=
 cG 2 (zq68_1_b N)
def zq68_ctr (N : Nat) : Ctr := ⟨zq68_S4, zq68_S5.un [true], 0, (fun y => zq68 N y.1.1)⟩
theorem zq68_ok (N : Nat) : COk 134 (zq68_ctr N) :=
 cF (zw3 (Γ := zq68_C N) zw2 csn) Tryz.func134 Tryz.ntmps134 (zq68_b N)
abbrev zq38_R : Type := (((List UInt32) × Unit) × Unit)
def zq38_s7 (N : Nat) (i_6 : Int) (u_7 : UInt32) (j_8 : Int) (a_2 : (List UInt32)) (b_3 : (List UInt32)) (t_4 : (List UInt32)) (out_5 : (List UInt32)) : Option (Lo ((Int × UInt32 × Int × Unit) × ((List UInt32) × (List UInt32) × (List UInt32) × (List UInt32) × Unit)) ((Int × UInt32 × Unit) × ((List UInt32) × (List UInt32) × (List UInt32) × (List UInt32) × Unit)) (Lo ((Int × Unit) × ((List UInt32) × (List UInt32) × (List UInt32) × (List UInt32) × Unit)) (Unit × ((List UInt32) × (List UInt32) × Unit)) zq38_R)) :=
 bif (decide (j_8 < (17 : Int))) then
  bif (decide (j_8 ≤ i_6)) then
   bif inR j_8 17 then
   let x5 := w64 (i_6 - j_8)
   bif inR x5 17 then
   some (.go ((i_6, (u_7 + ((a_2.getD j_8.toNat (0 : UInt32)) * (b_3.getD x5.toNat (0 : UInt32)))), (w64 (j_8 + (1 : Int))), ()), (a_2, b_3, t_4, out_5, ())))
   else none
   else none
  else
   bif inR j_8 17 then
   let x13 := w64 ((w64 ((17 : Int) + i_6)) - j_8)
   bif inR x13 17 then
   some (.go ((i_6, (u_7 + (((320 : UInt32) * (a_2.getD j_8.toNat (0 : UInt32))) * (b_3.getD x13.toNat (0 : UInt32)))), (w64 (j_8 + (1 : Int))), ()), (a_2, b_3, t_4, out_5, ())))
   else none
   else none
 else
  some (.br ((i_6, u_7, ()), (a_2, b_3, t_4, out_5, ())))
def zq38_9 (N : Nat) (i_6 : Int) (a_2 : (List UInt32)) (b_3 : (List UInt32)) (t_4 : (List UInt32)) (out_5 : (List UInt32)) : Option (Lo ((Int × Unit) × ((List UInt32) × (List UInt32) × (List UInt32) × (List UInt32) × Unit)) (Unit × ((List UInt32) × (List UInt32) × Unit)) zq38_R) :=
 some (.go (((w64 (i_6 + (1 : Int))), ()), (a_2, b_3, t_4, out_5, ())))
def zq38_8 (N : Nat) (i_6 : Int) (u_7 : UInt32) (a_2 : (List UInt32)) (b_3 : (List UInt32)) (t_4 : (List UInt32)) (out_5 : (List UInt32)) : Option (Lo ((Int × Unit) × ((List UInt32) × (List UInt32) × (List UInt32) × (List UInt32) × Unit)) (Unit × ((List UInt32) × (List UInt32) × Unit)) zq38_R) :=
 bif inR i_6 17 then
 zq38_9 N i_6 a_2 b_3 t_4 (out_5.set i_6.toNat u_7)
 else none
def zq38_6 (N : Nat) (i_6 : Int) (u_7 : UInt32) (j_8 : Int) (a_2 : (List UInt32)) (b_3 : (List UInt32)) (t_4 : (List UInt32)) (out_5 : (List UInt32)) : Option (Lo ((Int × Unit) × ((List UInt32) × (List UInt32) × (List UInt32) × (List UInt32) × Unit)) (Unit × ((List UInt32) × (List UInt32) × Unit)) zq38_R) :=
 loopK N (fun y => zq38_s7 N y.1.1 y.1.2.1 y.1.2.2.1 y.2.1 y.2.2.1 y.2.2.2.1 y.2.2.2.2.1) (fun (e : ((Int × UInt32 × Unit) × ((List UInt32) × (List UInt32) × (List UInt32) × (List UInt32) × Unit))) => zq38_8 N e.1.1 e.1.2.1 e.2.1 e.2.2.1 e.2.2.2.1 e.2.2.2.2.1) ((i_6, u_7, j_8, ()), (a_2, b_3, t_4, out_5, ()))
def zq38_5 (N : Nat) (i_6 : Int) (a_2 : (List UInt32)) (b_3 : (List UInt32)) (t_4 : (List UInt32)) (out_5 : (List UInt32)) : Option (Lo ((Int × Unit) × ((List UInt32) × (List UInt32) × (List UInt32) × (List UInt32) × Unit)) (Unit × ((List UInt32) × (List UInt32) × Unit)) zq38_R) :=
 zq38_6 N i_6 (0 : UInt32) (0 : Int) a_2 b_3 t_4 out_5
def zq38_3 (N : Nat) (i_6 : Int) (a_2 : (List UInt32)) (b_3 : (List UInt32)) (t_4 : (List UInt32)) (out_5 : (List UInt32)) : Option (Lo ((Int × Unit) × ((List UInt32) × (List UInt32) × (List UInt32) × (List UInt32) × Unit)) (Unit × ((List UInt32) × (List UInt32) × Unit)) zq38_R) :=
 zq38_5 N i_6 a_2 b_3 t_4 out_5
def zq38_s2 (N : Nat) (i_6 : Int) (a_2 : (List UInt32)) (b_3 : (List UInt32)) (t_4 : (List UInt32)) (out_5 : (List UInt32)) : Option (Lo ((Int × Unit) × ((List UInt32) × (List UInt32) × (List UInt32) × (List UInt32) × Unit)) (Unit × ((List UInt32) × (List UInt32) × Unit)) zq38_R) :=
 bif (decide (i_6 < (17 : Int))) then
  zq38_3 N i_6 a_2 b_3 t_4 out_5
 else
  some (.br ((), (t_4, out_5, ())))
def zq38_10 (N : Nat) (t_4 : (List UInt32)) (out_5 : (List UInt32)) : Option zq38_R :=
 Option.bind (zq68 N out_5) fun y20 =>
 some ((y20.1.1, ()), ())
def zq38_1 (N : Nat) (i_6 : Int) (a_2 : (List UInt32)) (b_3 : (List UInt32)) (t_4 : (List UInt32)) (out_5 : (List UInt32)) : Option zq38_R :=
 loopK N (fun y => zq38_s2 N y.1.1 y.2.1 y.2.2.1 y.2.2.2.1 y.2.2.2.2.1) (fun (e : (Unit × ((List UInt32) × (List UInt32) × Unit))) => zq38_10 N e.2.1 e.2.2.1) ((i_6, ()), (a_2, b_3, t_4, out_5, ()))
def zq38 (N : Nat) (a_0 : (List UInt32)) (b_1 : (List UInt32)) : Option zq38_R :=
 zq38_1 N (0 : Int) a_0 b_1 (List.replicate 17 (0 : UInt32)) (List.replicate 17 (0 : UInt32))
def zq38_C (N : Nat) := Cx 49 [(134, zq68_ctr N)]
def zq38_S0 : Spec := ⟨[.ref 0 (.arr 17 .u32), .ref 1 (.arr 17 .u32), .ref 2 (.arr 17 .u32), .ref 3 (.arr 17 .u32), .val .i64, .val .u32, .val .i64], [(.box 119 (.arr 17 .u32), .pos 0), (.box 119 (.arr 17 .u32), .pos 1), (.box 119 (.arr 17 .u32), .pos 2), (.box 119 (.arr 17 .u32), .pos 3)]⟩
def zq38_S1 : Spec := ⟨[.ref 0 (.arr 17 .u32), .ref 1 (.arr 17 .u32), .ref 2 (.arr 17 .u32), .ref 3 (.arr 17 .u32), .val .i64], [(.box 119 (.arr 17 .u32), .pos 0), (.box 119 (.arr 17 .u32), .pos 1), (.box 119 (.arr 17 .u32), .pos 2), (.box 119 (.arr 17 .u32), .pos 3)]⟩
def zq38_S2 : Spec := ⟨[.ref 0 (.arr 17 .u32), .ref 1 (.arr 17 .u32), .ref 2 (.arr 17 .u32), .ref 3 (.arr 17 .u32), .val .i64, .val .u32], [(.box 119 (.arr 17 .u32), .pos 0), (.box 119 (.arr 17 .u32), .pos 1), (.box 119 (.arr 17 .u32), .pos 2), (.box 119 (.arr 17 .u32), .pos 3)]⟩
def zq38_S3 : Spec := ⟨[.ref 0 (.arr 17 .u32), .ref 1 (.arr 17 .u32)], [(.box 119 (.arr 17 .u32), .pos 0), (.box 119 (.arr 17 .u32), .pos 1)]⟩
def zq38_S4 : Spec := ⟨[.val (.arr 17 .u32), .val (.arr 17 .u32)], []⟩
def zq38_S5 : Spec := ⟨[.fp (.arr 17 .u32)], []⟩
def zq38_K : XE → GS → Option zq38_R := retK 0 [4] [true] zq38_S5
noncomputable def zq38_L : List Code := (bodyOf (some Tryz.f133))
def zq38_L2 : List Code := (loopOf (zq38_L[3]?))
def zq38_L4b : List Code := (zw17 (zq38_L2[2]?))
def zq38_L7 : List Code := (loopOf (zq38_L4b[2]?))
def zq38_K2 (N : Nat) := roundK (some 0) (fit 0 [2, 3, 4, 5, 6] zq38_S1) (fit 0 [4, 5] zq38_S3) zq38_K
def zq38_K4 (N : Nat) : XE → GS → Option (Lo ((Int × Unit) × ((List UInt32) × (List UInt32) × (List UInt32) × (List UInt32) × Unit)) (Unit × ((List UInt32) × (List UInt32) × Unit)) zq38_R) := blockK 1 (goK 0 [2, 3, 4, 5, 6] zq38_S1 (fun y => zq38_9 N y.1.1 y.2.1 y.2.2.1 y.2.2.2.1 y.2.2.2.2.1)) (zq38_K2 N)
def zq38_K7 (N : Nat) := roundK (some 2) (fit 0 [2, 3, 4, 5, 6, 7, 8] zq38_S0) (fit 0 [2, 3, 4, 5, 6, 7] zq38_S2) (zq38_K4 N)
theorem zq38_s7_b (N) : Bk 0 (zq38_C N) [2, 3, 4, 5, 6, 7, 8] zq38_S0 (zq38_L7.drop 0) (fun y => zq38_s7 N y.1.1 y.1.2.1 y.1.2.2.1 y.2.1 y.2.2.1 y.2.2.2.1 y.2.2.2.2.1) (zq38_K7 N) :=
 cE 4
theorem zq38_9_b (N) : Bk 0 (zq38_C N) [2, 3, 4, 5, 6] zq38_S1 (zq38_L2.drop 3) (fun y => zq38_9 N y.1.1 y.2.1 y.2.2.1 y.2.2.2.1 y.2.2.2.2.1) (zq38_K2 N) :=
 cE 1
theorem zq38_8_b (N) : Bk 0 (zq38_C N) [2, 3, 4, 5, 6, 7] zq38_S2 (zq38_L4b.drop 3) (fun y => zq38_8 N y.1.1 y.1.2.1 y.2.1 y.2.2.1 y.2.2.2.1 y.2.2.2.2.1) (zq38_K4 N) :=
 cE 1
theorem zq38_6_b (N) : Bk 0 (zq38_C N) [2, 3, 4, 5, 6, 7, 8] zq38_S0 (zq38_L4b.drop 2) (fun y => zq38_6 N y.1.1 y.1.2.1 y.1.2.2.1 y.2.1 y.2.2.1 y.2.2.2.1 y.2.2.2.2.1) (zq38_K4 N) :=
 lG N zq38_S0 [2, 3, 4, 5, 6, 7] zq38_S2 (zq38_8_b N) (zq38_s7_b N)
theorem zq38_5_b (N) : Bk 0 (zq38_C N) [2, 3, 4, 5, 6] zq38_S1 (zq38_L4b.drop 0) (fun y => zq38_5 N y.1.1 y.2.1 y.2.2.1 y.2.2.2.1 y.2.2.2.2.1) (zq38_K4 N) :=
 cG 2 (zq38_6_b N)
theorem zq38_3_b (N) : Bk 0 (zq38_C N) [2, 3, 4, 5, 6] zq38_S1 (zq38_L2.drop 2) (fun y => zq38_3 N y.1.1 y.2.1 y.2.2.1 y.2.2.2.1 y.2.2.2.2.1) (zq38_K2 N) :=
 fun hb => Blk.blockAt (bid := 1) (X := (goK 0 [2, 3, 4, 5, 6] zq38_S1 (fun y => zq38_9 N y.1.1 y.2.1 y.2.2.1 y.2.2.2.1 y.2.2.2.2.1))) (Y := (goK 0 [2, 3, 4, 5, 6] zq38_S1 (fun y => zq38_5 N y.1.1 y.2.1 y.2.2.1 y.2.2.2.1 y.2.2.2.2.1))) (by kernel_rfl) (NxOk.go hb (zq38_9_b N hb)) (NxOk.go hb (zq38_5_b N hb)) (fun x => by kernel_rfl)
theorem zq38_s2_b (N) : Bk 0 (zq38_C N) [2, 3, 4, 5, 6] zq38_S1 (zq38_L2.drop 0) (fun y => zq38_s2 N y.1.1 y.2.1 y.2.2.1 y.2.2.2.1 y.2.2.2.2.1) (zq38_K2 N) :=
 cG 2 (zq38_3_b N)
theorem zq38_10_b (N) : Bk 0 (zq38_C N) [4, 5] zq38_S3 (zq38_L.drop 4) (fun y => zq38_10 N y.2.1 y.2.2.1) zq38_K :=
 cE 2
theorem zq38_1_b (N) : Bk 0 (zq38_C N) [2, 3, 4, 5, 6] zq38_S1 (zq38_L.drop 3) (fun y => zq38_1 N y.1.1 y.2.1 y.2.2.1 y.2.2.2.1 y.2.2.2.2.1) zq38_K :=
 lG N zq38_S1 [4, 5] zq38_S3 (zq38_10_b N) (zq38_s2_b N)
theorem zq38_b (N) : Bk 0 (zq38_C N) (List.range zq38_S4.ks.length) zq38_S4 (zq38_L.drop 0) (fun y => zq38 N y.1.1 y.1.2.1) zq38_K :=
 cG 3 (zq38_1_b N)
def zq38_ctr (N : Nat) : Ctr := ⟨zq38_S4, zq38_S5.un [true], 0, (fun y => zq38 N y.1.1 y.1.2.1)⟩
theorem zq38_ok (N : Nat) : COk 133 (zq38_ctr N) :=
 cF (zw3 (Γ := zq38_C N) zw2 (csc (zq68_ok N) csn)) Tryz.func133 Tryz.ntmps133 (zq38_b N)
abbrev zq112_R : Type := ((Bool × Unit) × (List UInt8 × Unit))
def zq112_s7 (N : Nat) (key_0 : List UInt8) (b_1 : List UInt8) (at_8 : Int) (n_9 : Int) (i_10 : Int) (r_6 : (List UInt32)) (h_7 : (List UInt32)) : Option (Lo ((List UInt8 × List UInt8 × Int × Int × Int × Unit) × ((List UInt32) × (List UInt32) × Unit)) ((List UInt8 × List UInt8 × Int × Int × Unit) × ((List UInt32) × (List UInt32) × Unit)) (Lo ((List UInt8 × List UInt8 × Int × Unit) × ((List UInt32) × (List UInt32) × Unit)) ((List UInt8 × Unit) × ((List UInt32) × Unit)) zq112_R)) :=
 bif (decide (i_10 < n_9)) then
  bif inR i_10 17 then
  let x11 := w64 (at_8 + i_10)
  bif inR x11 b_1.length then
  bif inR i_10 17 then
  some (.go ((key_0, b_1, at_8, n_9, (w64 (i_10 + (1 : Int))), ()), (r_6, (h_7.set i_10.toNat ((h_7.getD i_10.toNat (0 : UInt32)) + (b_1.getD x11.toNat (0 : UInt8)).toUInt32)), ())))
  else none
  else none
  else none
 else
  some (.br ((key_0, b_1, at_8, n_9, ()), (r_6, h_7, ())))
def zq112_9 (N : Nat) (key_0 : List UInt8) (b_1 : List UInt8) (at_8 : Int) (r_6 : (List UInt32)) (h_7 : (List UInt32)) : Option (Lo ((List UInt8 × List UInt8 × Int × Unit) × ((List UInt32) × (List UInt32) × Unit)) ((List UInt8 × Unit) × ((List UInt32) × Unit)) zq112_R) :=
 some (.go ((key_0, b_1, (w64 (at_8 + (16 : Int))), ()), (r_6, h_7, ())))
def zq112_8 (N : Nat) (key_0 : List UInt8) (b_1 : List UInt8) (at_8 : Int) (n_9 : Int) (r_6 : (List UInt32)) (h_7 : (List UInt32)) : Option (Lo ((List UInt8 × List UInt8 × Int × Unit) × ((List UInt32) × (List UInt32) × Unit)) ((List UInt8 × Unit) × ((List UInt32) × Unit)) zq112_R) :=
 bif inR n_9 17 then
 bif inR n_9 17 then
 Option.bind (zq68 N (h_7.set n_9.toNat ((h_7.getD n_9.toNat (0 : UInt32)) + (1 : UInt32)))) fun y19 =>
 Option.bind (zq38 N y19.1.1 r_6) fun y20 =>
 zq112_9 N key_0 b_1 at_8 r_6 y20.1.1
 else none
 else none
def zq112_6 (N : Nat) (key_0 : List UInt8) (b_1 : List UInt8) (at_8 : Int) (n_9 : Int) (i_10 : Int) (r_6 : (List UInt32)) (h_7 : (List UInt32)) : Option (Lo ((List UInt8 × List UInt8 × Int × Unit) × ((List UInt32) × (List UInt32) × Unit)) ((List UInt8 × Unit) × ((List UInt32) × Unit)) zq112_R) :=
 loopK N (fun y => zq112_s7 N y.1.1 y.1.2.1 y.1.2.2.1 y.1.2.2.2.1 y.1.2.2.2.2.1 y.2.1 y.2.2.1) (fun (e : ((List UInt8 × List UInt8 × Int × Int × Unit) × ((List UInt32) × (List UInt32) × Unit))) => zq112_8 N e.1.1 e.1.2.1 e.1.2.2.1 e.1.2.2.2.1 e.2.1 e.2.2.1) ((key_0, b_1, at_8, n_9, i_10, ()), (r_6, h_7, ()))
def zq112_5 (N : Nat) (key_0 : List UInt8) (b_1 : List UInt8) (at_8 : Int) (r_6 : (List UInt32)) (h_7 : (List UInt32)) : Option (Lo ((List UInt8 × List UInt8 × Int × Unit) × ((List UInt32) × (List UInt32) × Unit)) ((List UInt8 × Unit) × ((List UInt32) × Unit)) zq112_R) :=
 let x7 := w64 ((b_1.length : Int) - at_8)
 zq112_6 N key_0 b_1 at_8 (bif decide (x7 < (16 : Int)) then x7 else (16 : Int)) (0 : Int) r_6 h_7
def zq112_3 (N : Nat) (key_0 : List UInt8) (b_1 : List UInt8) (at_8 : Int) (r_6 : (List UInt32)) (h_7 : (List UInt32)) : Option (Lo ((List UInt8 × List UInt8 × Int × Unit) × ((List UInt32) × (List UInt32) × Unit)) ((List UInt8 × Unit) × ((List UInt32) × Unit)) zq112_R) :=
 zq112_5 N key_0 b_1 at_8 r_6 h_7
def zq112_s2 (N : Nat) (key_0 : List UInt8) (b_1 : List UInt8) (at_8 : Int) (r_6 : (List UInt32)) (h_7 : (List UInt32)) : Option (Lo ((List UInt8 × List UInt8 × Int × Unit) × ((List UInt32) × (List UInt32) × Unit)) ((List UInt8 × Unit) × ((List UInt32) × Unit)) zq112_R) :=
 bif (decide (at_8 < (b_1.length : Int))) then
  zq112_3 N key_0 b_1 at_8 r_6 h_7
 else
  some (.br ((key_0, ()), (h_7, ())))
def zq112_s12 (N : Nat) (key_0 : List UInt8) (u_12 : UInt32) (i_13 : Int) (h_7 : (List UInt32)) (g_11 : (List UInt32)) : Option (Lo ((List UInt8 × UInt32 × Int × Unit) × ((List UInt32) × (List UInt32) × Unit)) ((List UInt8 × Unit) × ((List UInt32) × (List UInt32) × Unit)) zq112_R) :=
 bif (decide (i_13 < (17 : Int))) then
  bif inR i_13 17 then
  let x24 := (h_7.getD i_13.toNat (0 : UInt32))
  bif inR i_13 17 then
  some (.go ((key_0, (shr32 (u_12 + x24) 8), (w64 (i_13 + (1 : Int))), ()), (h_7, (g_11.set i_13.toNat ((u_12 + x24) &&& (255 : UInt32))), ())))
  else none
  else none
 else
  some (.br ((key_0, ()), (h_7, g_11, ())))
def zq112_s16 (N : Nat) (key_0 : List UInt8) (u_12 : UInt32) (i_15 : Int) (h_7 : (List UInt32)) (out_14 : List UInt8) : Option (Lo ((List UInt8 × UInt32 × Int × Unit) × ((List UInt32) × List UInt8 × Unit)) (Unit × (List UInt8 × Unit)) zq112_R) :=
 bif (decide (i_15 < (16 : Int))) then
  bif inR i_15 17 then
  let x34 := w64 ((16 : Int) + i_15)
  bif inR x34 key_0.length then
  let x36 := (h_7.getD i_15.toNat (0 : UInt32)) + (key_0.getD x34.toNat (0 : UInt8)).toUInt32
  bif room (out_14.length + ([(u_12 + x36).toUInt8] : List UInt8).length) 1 then
  some (.go ((key_0, (shr32 (u_12 + x36) 8), (w64 (i_15 + (1 : Int))), ()), (h_7, (out_14 ++ ([(u_12 + x36).toUInt8] : List UInt8)), ())))
  else none
  else none
  else none
 else
  some (.br ((), (out_14, ())))
def zq112_17 (N : Nat) (out_14 : List UInt8) : Option zq112_R :=
 some ((true, ()), (out_14, ()))
def zq112_15 (N : Nat) (key_0 : List UInt8) (u_12 : UInt32) (i_15 : Int) (h_7 : (List UInt32)) (out_14 : List UInt8) : Option zq112_R :=
 loopK N (fun y => zq112_s16 N y.1.1 y.1.2.1 y.1.2.2.1 y.2.1 y.2.2.1) (fun (e : (Unit × (List UInt8 × Unit))) => zq112_17 N e.2.1) ((key_0, u_12, i_15, ()), (h_7, out_14, ()))
def zq112_14 (N : Nat) (key_0 : List UInt8) (h_7 : (List UInt32)) : Option zq112_R :=
 zq112_15 N key_0 (0 : UInt32) (0 : Int) h_7 ([] : List UInt8)
def zq112_13 (N : Nat) (key_0 : List UInt8) (h_7 : (List UInt32)) (g_11 : (List UInt32)) : Option zq112_R :=
 bif (decide ((4 : UInt32) ≤ (g_11.getD 16 (0 : UInt32)))) then
  zq112_14 N key_0 g_11
 else
  zq112_14 N key_0 h_7
def zq112_11 (N : Nat) (key_0 : List UInt8) (u_12 : UInt32) (i_13 : Int) (h_7 : (List UInt32)) (g_11 : (List UInt32)) : Option zq112_R :=
 loopK N (fun y => zq112_s12 N y.1.1 y.1.2.1 y.1.2.2.1 y.2.1 y.2.2.1) (fun (e : ((List UInt8 × Unit) × ((List UInt32) × (List UInt32) × Unit))) => zq112_13 N e.1.1 e.2.1 e.2.2.1) ((key_0, u_12, i_13, ()), (h_7, g_11, ()))
def zq112_10 (N : Nat) (key_0 : List UInt8) (h_7 : (List UInt32)) : Option zq112_R :=
 Option.bind (zq68 N h_7) fun y22 =>
 zq112_11 N key_0 (5 : UInt32) (0 : Int) y22.1.1 (List.replicate 17 (0 : UInt32))
def zq112_1 (N : Nat) (key_0 : List UInt8) (b_1 : List UInt8) (at_8 : Int) (r_6 : (List UInt32)) (h_7 : (List UInt32)) : Option zq112_R :=
 loopK N (fun y => zq112_s2 N y.1.1 y.1.2.1 y.1.2.2.1 y.2.1 y.2.2.1) (fun (e : ((List UInt8 × Unit) × ((List UInt32) × Unit))) => zq112_10 N e.1.1 e.2.1) ((key_0, b_1, at_8, ()), (r_6, h_7, ()))
def zq112 (N : Nat) (key_0 : List UInt8) (b_1 : List UInt8) : Option zq112_R :=
 bif (!(decide ((key_0.length : Int) = (32 : Int)))) then
  some ((false, ()), (([] : List UInt8), ()))
 else
  Option.bind (zq73 N key_0) fun y3 =>
  zq112_1 N key_0 b_1 (0 : Int) y3.1.1 (List.replicate 17 (0 : UInt32))
def zq112_C (N : Nat) := Cx 103 [(132, zq73_ctr N), (134, zq68_ctr N), (133, zq38_ctr N)]
def zq112_S0 : Spec := ⟨[.val (.sl .u8), .val (.sl .u8), .ref 0 (.arr 17 .u32), .ref 1 (.arr 17 .u32), .val .i64, .val .i64, .val .i64], [(.box 119 (.arr 17 .u32), .pos 2), (.box 119 (.arr 17 .u32), .pos 3)]⟩
def zq112_S1 : Spec := ⟨[.val (.sl .u8), .val (.sl .u8), .ref 0 (.arr 17 .u32), .ref 1 (.arr 17 .u32), .val .i64], [(.box 119 (.arr 17 .u32), .pos 2), (.box 119 (.arr 17 .u32), .pos 3)]⟩
def zq112_S2 : Spec := ⟨[.val (.sl .u8), .val (.sl .u8), .ref 0 (.arr 17 .u32), .ref 1 (.arr 17 .u32), .val .i64, .val .i64], [(.box 119 (.arr 17 .u32), .pos 2), (.box 119 (.arr 17 .u32), .pos 3)]⟩
def zq112_S3 : Spec := ⟨[.val (.sl .u8), .ref 0 (.arr 17 .u32), .ref 1 (.arr 17 .u32), .val .u32, .val .i64], [(.box 119 (.arr 17 .u32), .pos 1), (.box 119 (.arr 17 .u32), .pos 2)]⟩
def zq112_S4 : Spec := ⟨[.val (.sl .u8), .ref 0 (.arr 17 .u32), .val .u32, .row 1, .val .i64], [(.box 119 (.arr 17 .u32), .pos 1), (.row 5 .u8, .pos 3)]⟩
def zq112_S5 : Spec := ⟨[.row 0], [(.row 5 .u8, .pos 0)]⟩
def zq112_S6 : Spec := ⟨[.val (.sl .u8), .ref 0 (.arr 17 .u32)], [(.box 119 (.arr 17 .u32), .pos 1)]⟩
def zq112_S7 : Spec := ⟨[.val (.sl .u8), .ref 0 (.arr 17 .u32), .ref 1 (.arr 17 .u32)], [(.box 119 (.arr 17 .u32), .pos 1), (.box 119 (.arr 17 .u32), .pos 2)]⟩
def zq112_S8 : Spec := ⟨[.val (.sl .u8), .val (.sl .u8)], []⟩
def zq112_S9 : Spec := ⟨[.row 0, .val .bool], [(.row 5 .u8, .pos 0)]⟩
def zq112_K : XE → GS → Option zq112_R := retK 0 [4, 5] [false, false] zq112_S9
noncomputable def zq112_L : List Code := (bodyOf (some Tryz.f118))
def zq112_L2 : List Code := (loopOf (zq112_L[6]?))
def zq112_L4b : List Code := (zw17 (zq112_L2[2]?))
def zq112_L7 : List Code := (loopOf (zq112_L4b[2]?))
def zq112_L12 : List Code := (loopOf (zq112_L[11]?))
def zq112_L16 : List Code := (loopOf (zq112_L[17]?))
def zq112_K2 (N : Nat) := roundK (some 0) (fit 0 [0, 1, 6, 7, 8] zq112_S1) (fit 0 [0, 7] zq112_S6) zq112_K
def zq112_K12 (N : Nat) := roundK (some 4) (fit 0 [0, 7, 11, 12, 13] zq112_S3) (fit 0 [0, 7, 11] zq112_S7) zq112_K
def zq112_K16 (N : Nat) := roundK (some 6) (fit 0 [0, 7, 12, 14, 15] zq112_S4) (fit 0 [14] zq112_S5) zq112_K
def zq112_K4 (N : Nat) : XE → GS → Option (Lo ((List UInt8 × List UInt8 × Int × Unit) × ((List UInt32) × (List UInt32) × Unit)) ((List UInt8 × Unit) × ((List UInt32) × Unit)) zq112_R) := blockK 1 (goK 0 [0, 1, 6, 7, 8] zq112_S1 (fun y => zq112_9 N y.1.1 y.1.2.1 y.1.2.2.1 y.2.1 y.2.2.1)) (zq112_K2 N)
def zq112_K7 (N : Nat) := roundK (some 2) (fit 0 [0, 1, 6, 7, 8, 9, 10] zq112_S0) (fit 0 [0, 1, 6, 7, 8, 9] zq112_S2) (zq112_K4 N)
theorem zq112_s7_b (N) : Bk 0 (zq112_C N) [0, 1, 6, 7, 8, 9, 10] zq112_S0 (zq112_L7.drop 0) (fun y => zq112_s7 N y.1.1 y.1.2.1 y.1.2.2.1 y.1.2.2.2.1 y.1.2.2.2.2.1 y.2.1 y.2.2.1) (zq112_K7 N) :=
 cE 4
theorem zq112_9_b (N) : Bk 0 (zq112_C N) [0, 1, 6, 7, 8] zq112_S1 (zq112_L2.drop 3) (fun y => zq112_9 N y.1.1 y.1.2.1 y.1.2.2.1 y.2.1 y.2.2.1) (zq112_K2 N) :=
 cE 1
theorem zq112_8_b (N) : Bk 0 (zq112_C N) [0, 1, 6, 7, 8, 9] zq112_S2 (zq112_L4b.drop 3) (fun y => zq112_8 N y.1.1 y.1.2.1 y.1.2.2.1 y.1.2.2.2.1 y.2.1 y.2.2.1) (zq112_K4 N) :=
 cE 2
theorem zq112_6_b (N) : Bk 0 (zq112_C N) [0, 1, 6, 7, 8, 9, 10] zq112_S0 (zq112_L4b.drop 2) (fun y => zq112_6 N y.1.1 y.1.2.1 y.1.2.2.1 y.1.2.2.2.1 y.1.2.2.2.2.1 y.2.1 y.2.2.1) (zq112_K4 N) :=
 lG N zq112_S0 [0, 1, 6, 7, 8, 9] zq112_S2 (zq112_8_b N) (zq112_s7_b N)
theorem zq112_5_b (N) : Bk 0 (zq112_C N) [0, 1, 6, 7, 8] zq112_S1 (zq112_L4b.drop 0) (fun y => zq112_5 N y.1.1 y.1.2.1 y.1.2.2.1 y.2.1 y.2.2.1) (zq112_K4 N) :=
 cG 2 (zq112_6_b N)
theorem zq112_3_b (N) : Bk 0 (zq112_C N) [0, 1, 6, 7, 8] zq112_S1 (zq112_L2.drop 2) (fun y => zq112_3 N y.1.1 y.1.2.1 y.1.2.2.1 y.2.1 y.2.2.1) (zq112_K2 N) :=
 fun hb => Blk.blockAt (bid := 1) (X := (goK 0 [0, 1, 6, 7, 8] zq112_S1 (fun y => zq112_9 N y.1.1 y.1.2.1 y.1.2.2.1 y.2.1 y.2.2.1))) (Y := (goK 0 [0, 1, 6, 7, 8] zq112_S1 (fun y => zq112_5 N y.1.1 y.1.2.1 y.1.2.2.1 y.2.1 y.2.2.1))) (by kernel_rfl) (NxOk.go hb (zq112_9_b N hb)) (NxOk.go hb (zq112_5_b N hb)) (fun x => by kernel_rfl)
theorem zq112_s2_b (N) : Bk 0 (zq112_C N) [0, 1, 6, 7, 8] zq112_S1 (zq112_L2.drop 0) (fun y => zq112_s2 N y.1.1 y.1.2.1 y.1.2.2.1 y.2.1 y.2.2.1) (zq112_K2 N) :=
 cG 2 (zq112_3_b N)
theorem zq112_s12_b (N) : Bk 0 (zq112_C N) [0, 7, 11, 12, 13] zq112_S3 (zq112_L12.drop 0) (fun y => zq112_s12 N y.1.1 y.1.2.1 y.1.2.2.1 y.2.1 y.2.2.1) (zq112_K12 N) :=
 cE 4
theorem zq112_s16_b (N) : Bk 0 (zq112_C N) [0, 7, 12, 14, 15] zq112_S4 (zq112_L16.drop 0) (fun y => zq112_s16 N y.1.1 y.1.2.1 y.1.2.2.1 y.2.1 y.2.2.1) (zq112_K16 N) :=
 cE 4
theorem zq112_17_b (N) : Bk 0 (zq112_C N) [14] zq112_S5 (zq112_L.drop 18) (fun y => zq112_17 N y.2.1) zq112_K :=
 cE 2
theorem zq112_15_b (N) : Bk 0 (zq112_C N) [0, 7, 12, 14, 15] zq112_S4 (zq112_L.drop 17) (fun y => zq112_15 N y.1.1 y.1.2.1 y.1.2.2.1 y.2.1 y.2.2.1) zq112_K :=
 lG N zq112_S4 [14] zq112_S5 (zq112_17_b N) (zq112_s16_b N)
theorem zq112_14_b (N) : Bk 0 (zq112_C N) [0, 7] zq112_S6 (zq112_L.drop 14) (fun y => zq112_14 N y.1.1 y.2.1) zq112_K :=
 cG 3 (zq112_15_b N)
theorem zq112_13_b (N) : Bk 0 (zq112_C N) [0, 7, 11] zq112_S7 (zq112_L.drop 12) (fun y => zq112_13 N y.1.1 y.2.1 y.2.2.1) zq112_K :=
 cG 2 (zq112_14_b N)
theorem zq112_11_b (N) : Bk 0 (zq112_C N) [0, 7, 11, 12, 13] zq112_S3 (zq112_L.drop 11) (fun y => zq112_11 N y.1.1 y.1.2.1 y.1.2.2.1 y.2.1 y.2.2.1) zq112_K :=
 lG N zq112_S3 [0, 7, 11] zq112_S7 (zq112_13_b N) (zq112_s12_b N)
theorem zq112_10_b (N) : Bk 0 (zq112_C N) [0, 7] zq112_S6 (zq112_L.drop 7) (fun y => zq112_10 N y.1.1 y.2.1) zq112_K :=
 cG 4 (zq112_11_b N)
theorem zq112_1_b (N) : Bk 0 (zq112_C N) [0, 1, 6, 7, 8] zq112_S1 (zq112_L.drop 6) (fun y => zq112_1 N y.1.1 y.1.2.1 y.1.2.2.1 y.2.1 y.2.2.1) zq112_K :=
 lG N zq112_S1 [0, 7] zq112_S6 (zq112_10_b N) (zq112_s2_b N)
theorem zq112_b (N) : Bk 0 (zq112_C N) (List.range zq112_S8.ks.length) zq112_S8 (zq112_L.drop 0) (fun y => zq112 N y.1.1 y.1.2.1) zq112_K :=
 cG 6 (zq112_1_b N)
def zq112_ctr (N : Nat) : Ctr := ⟨zq112_S8, zq112_S9.un [false, false], 0, (fun y => zq112 N y.1.1 y.1.2.1)⟩
theorem zq112_ok (N : Nat) : COk 118 (zq112_ctr N) :=
 cF (zw3 (Γ := zq112_C N) zw2 (csc (zq73_ok N) (csc (zq68_ok N) (csc (zq38_ok N) csn)))) Tryz.func118 Tryz.ntmps118 (zq112_b N)
abbrev zq114_R : Type := ((Bool × Unit) × (List UInt8 × Unit))
def zq114 (N : Nat) (key_0 : List UInt8) (nonce_1 : List UInt8) (data_2 : List UInt8) (cipher_3 : List UInt8) : Option zq114_R :=
 Option.bind (zq82 N key_0 (0 : UInt32) nonce_1) fun y1 =>
 bif (!y1.1.1) then
  some ((false, ()), (([] : List UInt8), ()))
 else
  Option.bind (zq117 N data_2) fun y3 =>
  Option.bind (zq117 N cipher_3) fun y4 =>
  bif room (y3.2.1.length + y4.2.1.length) 1 then
  Option.bind (zq48 N (iu64 (data_2.length : Int)) (y3.2.1 ++ y4.2.1)) fun y8 =>
  Option.bind (zq48 N (iu64 (cipher_3.length : Int)) y8.2.1) fun y11 =>
  bif decide (0 ≤ (0 : Int)) && decide ((0 : Int) ≤ (32 : Int)) && decide ((32 : Int) ≤ (y1.2.1.length : Int)) && true then
  Option.bind (zq112 N (cut y1.2.1 0 32) y11.2.1) fun y13 =>
  some ((y13.1.1, ()), (y13.2.1, ()))
  else none
  else none
def zq114_C (N : Nat) := Cx 41 [(115, zq82_ctr N), (116, zq117_ctr N), (117, zq48_ctr N), (118, zq112_ctr N)]
def zq114_S0 : Spec := ⟨[.val (.sl .u8), .val (.sl .u8), .val (.sl .u8), .val (.sl .u8)], []⟩
def zq114_S1 : Spec := ⟨[.row 0, .val .bool], [(.row 5 .u8, .pos 0)]⟩
def zq114_K : XE → GS → Option zq114_R := retK 0 [8, 9] [false, false] zq114_S1
noncomputable def zq114_L : List Code := (bodyOf (some Tryz.f93))
theorem zq114_b (N) : Bk 0 (zq114_C N) (List.range zq114_S0.ks.length) zq114_S0 (zq114_L.drop 0) (fun y => zq114 N y.1.1 y.1.2.1 y.1.2.2.1 y.1.2.2.2.1) zq114_K :=
 cE 8
def zq114_ctr (N : Nat) : Ctr := ⟨zq114_S0, zq114_S1.un [false, false], 0, (fun y => zq114 N y.1.1 y.1.2.1 y.1.2.2.1 y.1.2.2.2.1)⟩
theorem zq114_ok (N : Nat) : COk 93 (zq114_ctr N) :=
 cF (zw3 (Γ := zq114_C N) zw2 (csc (zq82_ok N) (csc (zq117_ok N) (csc (zq48_ok N) (csc (zq112_ok N) csn))))) Tryz.func93 Tryz.ntmps93 (zq114_b N)
abbrev zq84_R : Type := ((Int × Unit) × (List UInt8 × Unit))
def zq84 (N : Nat) (key_0 : List UInt8) (nonce_1 : List UInt8) (data_2 : List UInt8) (plain_3 : List UInt8) : Option zq84_R :=
 Option.bind (zq106 N key_0 (1 : UInt32) nonce_1 plain_3) fun y1 =>
 bif (!y1.1.1) then
  some (((13 : Int), ()), (([] : List UInt8), ()))
 else
  Option.bind (zq114 N key_0 nonce_1 data_2 y1.2.1) fun y3 =>
  bif room (y1.2.1.length + y3.2.1.length) 1 then
  some (((0 : Int), ()), ((y1.2.1 ++ y3.2.1), ()))
  else none
def zq84_C (N : Nat) := Cx 34 [(92, zq106_ctr N), (93, zq114_ctr N)]
def zq84_S0 : Spec := ⟨[.val (.sl .u8), .val (.sl .u8), .val (.sl .u8), .val (.sl .u8)], []⟩
def zq84_S1 : Spec := ⟨[.row 0, .val .i64], [(.row 5 .u8, .pos 0)]⟩
def zq84_K : XE → GS → Option zq84_R := retK 0 [8, 9] [false, false] zq84_S1
noncomputable def zq84_L : List Code := (bodyOf (some Tryz.f65))
theorem zq84_b (N) : Bk 0 (zq84_C N) (List.range zq84_S0.ks.length) zq84_S0 (zq84_L.drop 0) (fun y => zq84 N y.1.1 y.1.2.1 y.1.2.2.1 y.1.2.2.2.1) zq84_K :=
 cE 7
def zq84_ctr (N : Nat) : Ctr := ⟨zq84_S0, zq84_S1.un [false, false], 0, (fun y => zq84 N y.1.1 y.1.2.1 y.1.2.2.1 y.1.2.2.2.1)⟩
theorem zq84_ok (N : Nat) : COk 65 (zq84_ctr N) :=
 cF (zw3 (Γ := zq84_C N) zw2 (csc (zq106_ok N) (csc (zq114_ok N) csn))) Tryz.func65 Tryz.ntmps65 (zq84_b N)
abbrev zq60_R : Type := ((List UInt8 × Unit) × Unit)
def zq60 (N : Nat) (key_0 : D24) : Option zq60_R :=
 Option.bind (zq59 N key_0) fun y1 =>
 Option.bind (zq100 N y1.2.1 ([(1 : UInt8)] : List UInt8)) fun y2 =>
 bif decide (0 ≤ (0 : Int)) && decide ((0 : Int) ≤ (8 : Int)) && decide ((8 : Int) ≤ (y2.2.1.length : Int)) && true then
 some (((cut y2.2.1 0 8), ()), ())
 else none
def zq60_C (N : Nat) := Cx 8 [(46, zq59_ctr N), (47, zq100_ctr N)]
def zq60_S0 : Spec := ⟨[.val T24], []⟩
def zq60_S1 : Spec := ⟨[.val (.sl .u8)], []⟩
def zq60_K : XE → GS → Option zq60_R := retK 0 [2] [false] zq60_S1
noncomputable def zq60_L : List Code := (bodyOf (some Tryz.f66))
theorem zq60_b (N) : Bk 0 (zq60_C N) (List.range zq60_S0.ks.length) zq60_S0 (zq60_L.drop 0) (fun y => zq60 N y.1.1) zq60_K :=
 cE 3
def zq60_ctr (N : Nat) : Ctr := ⟨zq60_S0, zq60_S1.un [false], 0, (fun y => zq60 N y.1.1)⟩
theorem zq60_ok (N : Nat) : COk 66 (zq60_ctr N) :=
 cF (zw3 (Γ := zq60_C N) zw2 (csc (zq59_ok N) (csc (zq100_ok N) csn))) Tryz.func66 Tryz.ntmps66 (zq60_b N)
abbrev zq72_R : Type := ((Bool × Unit) × (List UInt8 × Unit))
def zq72_7 (N : Nat) (rc : D24 → Option zq72_R) (b_4 : List UInt8) : Option zq72_R :=
 some (((decide ((b_4.length : Int) ≤ (8192 : Int))), ()), (b_4, ()))
def zq72_6 (N : Nat) (rc : D24 → Option zq72_R) (t_1 : D24) (b_4 : List UInt8) : Option zq72_R :=
 Option.bind (zq51 N t_1.2.1 (8 : Int) b_4) fun y3 =>
 zq72_7 N rc y3.2.1
def zq72_11 (N : Nat) (rc : D24 → Option zq72_R) (t_1 : D24) (b_4 : List UInt8) : Option zq72_R :=
 Option.bind (zq51 N t_1.2.1 (8 : Int) b_4) fun y7 =>
 Option.bind (zq59 N t_1) fun y8 =>
 bif decide (0 ≤ (0 : Int)) && decide ((0 : Int) ≤ (16 : Int)) && decide ((16 : Int) ≤ (y8.2.1.length : Int)) && true then
 let x9 := cut y8.2.1 0 16
 bif room (y7.2.1.length + x9.length) 1 then
 zq72_7 N rc (y7.2.1 ++ x9)
 else none
 else none
def zq72_s17 (N : Nat) (rc : D24 → Option zq72_R) (i_5 : Int) (t_1 : D24) (b_4 : List UInt8) : Option (Lo ((Int × Unit) × (D24 × List UInt8 × Unit)) (Unit × (List UInt8 × Unit)) zq72_R) :=
 bif (decide (i_5 < ((List.map Tree.un t_1.2.2.1).length : Int))) then
  let x18 := List.map Tree.un t_1.2.2.1
  bif inR i_5 x18.length then
  Option.bind (rc (x18.getD i_5.toNat ((0 : Int), (0 : Int), ([] : List Tree), ()))) fun y20 =>
  bif (!y20.1.1) then
   some (.rt ((false, ()), (([] : List UInt8), ())))
  else
   Option.bind (zq51 N (y20.2.1.length : Int) (2 : Int) b_4) fun y23 =>
   bif room (y23.2.1.length + y20.2.1.length) 1 then
   some (.go (((w64 (i_5 + (1 : Int))), ()), (t_1, (y23.2.1 ++ y20.2.1), ())))
   else none
  else none
 else
  some (.br ((), (b_4, ())))
def zq72_16 (N : Nat) (rc : D24 → Option zq72_R) (i_5 : Int) (t_1 : D24) (b_4 : List UInt8) : Option zq72_R :=
 loopK N (fun y => zq72_s17 N rc y.1.1 y.2.1 y.2.2.1) (fun (e : (Unit × (List UInt8 × Unit))) => zq72_7 N rc e.2.1) ((i_5, ()), (t_1, b_4, ()))
def zq72_15 (N : Nat) (rc : D24 → Option zq72_R) (t_1 : D24) (b_4 : List UInt8) : Option zq72_R :=
 Option.bind (zq51 N ((List.map Tree.un t_1.2.2.1).length : Int) (2 : Int) b_4) fun y14 =>
 zq72_16 N rc (0 : Int) t_1 y14.2.1
def zq72_18 (N : Nat) (rc : D24 → Option zq72_R) (t_21 : Int) (t_1 : D24) (b_4 : List UInt8) : Option zq72_R :=
 bif (decide (t_21 = (4 : Int))) then
  let x27 := List.map Tree.un t_1.2.2.1
  bif inR (0 : Int) x27.length then
  Option.bind (zq71 N (x27.getD 0 ((0 : Int), (0 : Int), ([] : List Tree), ()))) fun y29 =>
  Option.bind (zq51 N y29.1.1 (8 : Int) b_4) fun y30 =>
  let x31 := List.map Tree.un t_1.2.2.1
  bif inR (0 : Int) x31.length then
  Option.bind (zq42 N (x31.getD 0 ((0 : Int), (0 : Int), ([] : List Tree), ()))) fun y33 =>
  bif room (y30.2.1.length + y33.2.1.length) 1 then
  zq72_7 N rc (y30.2.1 ++ y33.2.1)
  else none
  else none
  else none
 else
  bif (decide (t_21 = (8 : Int))) then
   let x36 := List.map Tree.un t_1.2.2.1
   bif inR (0 : Int) x36.length then
   Option.bind (rc (x36.getD 0 ((0 : Int), (0 : Int), ([] : List Tree), ()))) fun y38 =>
   bif (!y38.1.1) then
    some ((false, ()), (([] : List UInt8), ()))
   else
    Option.bind (zq51 N t_1.2.1 (8 : Int) b_4) fun y40 =>
    Option.bind (zq51 N (y38.2.1.length : Int) (2 : Int) y40.2.1) fun y42 =>
    bif room (y42.2.1.length + y38.2.1.length) 1 then
    let x43 := y42.2.1 ++ y38.2.1
    Option.bind (zq111 N t_1.2.1 y38.2.1) fun y44 =>
    bif room (x43.length + y44.2.1.length) 1 then
    zq72_7 N rc (x43 ++ y44.2.1)
    else none
    else none
   else none
  else
   bif (decide (t_21 = (7 : Int))) then
    let x47 := List.map Tree.un t_1.2.2.1
    bif inR (1 : Int) x47.length then
    Option.bind (rc (x47.getD 1 ((0 : Int), (0 : Int), ([] : List Tree), ()))) fun y49 =>
    bif (!y49.1.1) then
     some ((false, ()), (([] : List UInt8), ()))
    else
     let x51 := List.map Tree.un t_1.2.2.1
     bif inR (0 : Int) x51.length then
     Option.bind (zq59 N (x51.getD 0 ((0 : Int), (0 : Int), ([] : List Tree), ()))) fun y53 =>
     Option.bind (zq100 N y53.2.1 y49.2.1) fun y54 =>
     bif decide (0 ≤ (0 : Int)) && decide ((0 : Int) ≤ (12 : Int)) && decide ((12 : Int) ≤ (y54.2.1.length : Int)) && true then
     let x55 := cut y54.2.1 0 12
     Option.bind (zq84 N y53.2.1 x55 ([] : List UInt8) y49.2.1) fun y56 =>
     let x57 := List.map Tree.un t_1.2.2.1
     bif inR (0 : Int) x57.length then
     Option.bind (zq60 N (x57.getD 0 ((0 : Int), (0 : Int), ([] : List Tree), ()))) fun y59 =>
     bif room (b_4.length + y59.1.1.length) 1 then
     bif room ((b_4 ++ y59.1.1).length + x55.length) 1 then
     bif room (((b_4 ++ y59.1.1) ++ x55).length + y56.2.1.length) 1 then
     zq72_7 N rc (((b_4 ++ y59.1.1) ++ x55) ++ y56.2.1)
     else none
     else none
     else none
     else none
     else none
     else none
    else none
   else
    Option.bind (zq59 N t_1) fun y63 =>
    bif room (b_4.length + y63.2.1.length) 1 then
    zq72_7 N rc (b_4 ++ y63.2.1)
    else none
def zq72_13 (N : Nat) (rc : D24 → Option zq72_R) (t_21 : Int) (t_43 : Bool) (t_1 : D24) (b_4 : List UInt8) : Option zq72_R :=
 bif t_43 then
  zq72_15 N rc t_1 b_4
 else
  zq72_18 N rc t_21 t_1 b_4
def zq72_12 (N : Nat) (rc : D24 → Option zq72_R) (t_21 : Int) (t_1 : D24) (b_4 : List UInt8) : Option zq72_R :=
 zq72_13 N rc t_21 (decide (t_21 = (3 : Int))) t_1 b_4
def zq72_9 (N : Nat) (rc : D24 → Option zq72_R) (t_21 : Int) (t_33 : Bool) (t_1 : D24) (b_4 : List UInt8) : Option zq72_R :=
 bif t_33 then
  zq72_11 N rc t_1 b_4
 else
  zq72_12 N rc t_21 t_1 b_4
def zq72_8 (N : Nat) (rc : D24 → Option zq72_R) (t_21 : Int) (t_1 : D24) (b_4 : List UInt8) : Option zq72_R :=
 zq72_9 N rc t_21 (decide (t_21 = (2 : Int))) t_1 b_4
def zq72_4 (N : Nat) (rc : D24 → Option zq72_R) (t_21 : Int) (t_26 : Bool) (t_1 : D24) (b_4 : List UInt8) : Option zq72_R :=
 bif t_26 then
  zq72_6 N rc t_1 b_4
 else
  zq72_8 N rc t_21 t_1 b_4
def zq72_3 (N : Nat) (rc : D24 → Option zq72_R) (t_21 : Int) (t_1 : D24) (b_4 : List UInt8) : Option zq72_R :=
 bif (decide (t_21 = (1 : Int))) then
  zq72_4 N rc t_21 true t_1 b_4
 else
  zq72_4 N rc t_21 (decide (t_21 = (10 : Int))) t_1 b_4
def zq72_1 (N : Nat) (rc : D24 → Option zq72_R) (t_21 : Int) (t_1 : D24) (b_4 : List UInt8) : Option zq72_R :=
 zq72_3 N rc t_21 t_1 b_4
def zq72 (N : Nat) (rc : D24 → Option zq72_R) (t_0 : D24) : Option zq72_R :=
 zq72_1 N rc t_0.1 t_0 ([(iu8 t_0.1)] : List UInt8)
def zq72_S0 : Spec := ⟨[.row 0], [(.row 5 .u8, .pos 0)]⟩
def zq72_S1 : Spec := ⟨[.ref 0 T24, .row 1], [(.box 24 T24, .pos 0), (.row 5 .u8, .pos 1)]⟩
def zq72_S2 : Spec := ⟨[.ref 0 T24, .row 1, .val .i64], [(.box 24 T24, .pos 0), (.row 5 .u8, .pos 1)]⟩
def zq72_S3 : Spec := ⟨[.ref 0 T24, .row 1, .val .i64, .val .bool], [(.box 24 T24, .pos 0), (.row 5 .u8, .pos 1)]⟩
def zq72_S4 : Spec := ⟨[.val T24], []⟩
def zq72_S5 : Spec := ⟨[.row 0, .val .bool], [(.row 5 .u8, .pos 0)]⟩
def zq72_ftr (N : Nat) (rc : D24 → Option zq72_R) : Ctr := ⟨zq72_S4, zq72_S5.un [false, false], 0, (fun y => rc y.1.1)⟩
def zq72_C (N : Nat) (rc : D24 → Option zq72_R) := Cx 159 [(61, zq51_ctr N), (46, zq59_ctr N), (62, zq71_ctr N), (63, zq42_ctr N), (64, zq111_ctr N), (47, zq100_ctr N), (65, zq84_ctr N), (66, zq60_ctr N), (39, zq72_ftr N rc)]
def zq72_K : XE → GS → Option zq72_R := retK 0 [2, 3] [false, false] zq72_S5
noncomputable def zq72_L : List Code := (bodyOf (some Tryz.f39))
def zq72_L2b : List Code := (zw17 (zq72_L[3]?))
def zq72_L5t : List Code := (thenOf (zq72_L2b[2]?))
def zq72_L5e : List Code := (elseOf (zq72_L2b[2]?))
def zq72_L10t : List Code := (thenOf (zq72_L5e[1]?))
def zq72_L10e : List Code := (elseOf (zq72_L5e[1]?))
def zq72_L14t : List Code := (thenOf (zq72_L10e[1]?))
def zq72_L17 : List Code := (loopOf (zq72_L14t[2]?))
def zq72_L14e : List Code := (elseOf (zq72_L10e[1]?))
def zq72_K2 (N : Nat) (rc : D24 → Option zq72_R) : XE → GS → Option zq72_R := blockK 0 (goK 0 [4] zq72_S0 (fun y => zq72_7 N rc y.2.1)) zq72_K
def zq72_K5 (N : Nat) (rc : D24 → Option zq72_R) : XE → GS → Option zq72_R := nextK (zq72_K2 N rc .normal) (zq72_K2 N rc)
def zq72_K10 (N : Nat) (rc : D24 → Option zq72_R) : XE → GS → Option zq72_R := nextK (zq72_K5 N rc .normal) (zq72_K5 N rc)
def zq72_K14 (N : Nat) (rc : D24 → Option zq72_R) : XE → GS → Option zq72_R := nextK (zq72_K10 N rc .normal) (zq72_K10 N rc)
def zq72_K17 (N : Nat) (rc : D24 → Option zq72_R) := roundK (some 1) (fit 0 [1, 4, 5] zq72_S2) (fit 0 [4] zq72_S0) (zq72_K14 N rc)
theorem zq72_7_b (N) (rc) : Bk 0 (zq72_C N rc) [4] zq72_S0 (zq72_L.drop 4) (fun y => zq72_7 N rc y.2.1) zq72_K :=
 cE 2
theorem zq72_6_b (N) (rc) : Bk 0 (zq72_C N rc) [1, 4] zq72_S1 (zq72_L5t.drop 0) (fun y => zq72_6 N rc y.2.1 y.2.2.1) (zq72_K5 N rc) :=
 cE 1
theorem zq72_11_b (N) (rc) : Bk 0 (zq72_C N rc) [1, 4] zq72_S1 (zq72_L10t.drop 0) (fun y => zq72_11 N rc y.2.1 y.2.2.1) (zq72_K10 N rc) :=
 cE 1
theorem zq72_s17_b (N) (rc) : Bk 0 (zq72_C N rc) [1, 4, 5] zq72_S2 (zq72_L17.drop 0) (fun y => zq72_s17 N rc y.1.1 y.2.1 y.2.2.1) (zq72_K17 N rc) :=
 cE 4
theorem zq72_16_b (N) (rc) : Bk 0 (zq72_C N rc) [1, 4, 5] zq72_S2 (zq72_L14t.drop 2) (fun y => zq72_16 N rc y.1.1 y.2.1 y.2.2.1) (zq72_K14 N rc) :=
 lE N zq72_S2 [4] zq72_S0 (zq72_s17_b N rc)
theorem zq72_15_b (N) (rc) : Bk 0 (zq72_C N rc) [1, 4] zq72_S1 (zq72_L14t.drop 0) (fun y => zq72_15 N rc y.2.1 y.2.2.1) (zq72_K14 N rc) :=
 cG 2 (zq72_16_b N rc)
theorem zq72_18_b (N) (rc) : Bk 0 (zq72_C N rc) [1, 4, 21] zq72_S2 (zq72_L14e.drop 0) (fun y => zq72_18 N rc y.1.1 y.2.1 y.2.2.1) (zq72_K14 N rc) :=
 cE 2
theorem zq72_13_b (N) (rc) : Bk 0 (zq72_C N rc) [1, 4, 21, 43] zq72_S3 (zq72_L10e.drop 1) (fun y => zq72_13 N rc y.1.1 y.1.2.1 y.2.1 y.2.2.1) (zq72_K10 N rc) :=
 fun hb => Blk.condAt (n := 43) (X := (zq72_K10 N rc .normal)) (A := (goK 0 [1, 4] zq72_S1 (fun y => zq72_15 N rc y.2.1 y.2.2.1))) (B := (goK 0 [1, 4, 21] zq72_S2 (fun y => zq72_18 N rc y.1.1 y.2.1 y.2.2.1))) (by kernel_rfl) (NxOk.end (by kernel_rfl)) (NxOk.go hb (zq72_15_b N rc hb)) (NxOk.go hb (zq72_18_b N rc hb)) (fun x => by kernel_rfl)
theorem zq72_12_b (N) (rc) : Bk 0 (zq72_C N rc) [1, 4, 21] zq72_S2 (zq72_L10e.drop 0) (fun y => zq72_12 N rc y.1.1 y.2.1 y.2.2.1) (zq72_K10 N rc) :=
 cG 1 (zq72_13_b N rc)
theorem zq72_9_b (N) (rc) : Bk 0 (zq72_C N rc) [1, 4, 21, 33] zq72_S3 (zq72_L5e.drop 1) (fun y => zq72_9 N rc y.1.1 y.1.2.1 y.2.1 y.2.2.1) (zq72_K5 N rc) :=
 fun hb => Blk.condAt (n := 33) (X := (zq72_K5 N rc .normal)) (A := (goK 0 [1, 4] zq72_S1 (fun y => zq72_11 N rc y.2.1 y.2.2.1))) (B := (goK 0 [1, 4, 21] zq72_S2 (fun y => zq72_12 N rc y.1.1 y.2.1 y.2.2.1))) (by kernel_rfl) (NxOk.end (by kernel_rfl)) (NxOk.go hb (zq72_11_b N rc hb)) (NxOk.go hb (zq72_12_b N rc hb)) (fun x => by kernel_rfl)
theorem zq72_8_b (N) (rc) : Bk 0 (zq72_C N rc) [1, 4, 21] zq72_S2 (zq72_L5e.drop 0) (fun y => zq72_8 N rc y.1.1 y.2.1 y.2.2.1) (zq72_K5 N rc) :=
 cG 1 (zq72_9_b N rc)
theorem zq72_4_b (N) (rc) : Bk 0 (zq72_C N rc) [1, 4, 21, 26] zq72_S3 (zq72_L2b.drop 2) (fun y => zq72_4 N rc y.1.1 y.1.2.1 y.2.1 y.2.2.1) (zq72_K2 N rc) :=
 fun hb => Blk.condAt (n := 26) (X := (zq72_K2 N rc .normal)) (A := (goK 0 [1, 4] zq72_S1 (fun y => zq72_6 N rc y.2.1 y.2.2.1))) (B := (goK 0 [1, 4, 21] zq72_S2 (fun y => zq72_8 N rc y.1.1 y.2.1 y.2.2.1))) (by kernel_rfl) (NxOk.end (by kernel_rfl)) (NxOk.go hb (zq72_6_b N rc hb)) (NxOk.go hb (zq72_8_b N rc hb)) (fun x => by kernel_rfl)
theorem zq72_3_b (N) (rc) : Bk 0 (zq72_C N rc) [1, 4, 21] zq72_S2 (zq72_L2b.drop 0) (fun y => zq72_3 N rc y.1.1 y.2.1 y.2.2.1) (zq72_K2 N rc) :=
 cG 2 (zq72_4_b N rc)
theorem zq72_1_b (N) (rc) : Bk 0 (zq72_C N rc) [1, 4, 21] zq72_S2 (zq72_L.drop 3) (fun y => zq72_1 N rc y.1.1 y.2.1 y.2.2.1) zq72_K :=
 fun hb => Blk.blockAt (bid := 0) (X := (goK 0 [4] zq72_S0 (fun y => zq72_7 N rc y.2.1))) (Y := (goK 0 [1, 4, 21] zq72_S2 (fun y => zq72_3 N rc y.1.1 y.2.1 y.2.2.1))) (by kernel_rfl) (NxOk.go hb (zq72_7_b N rc hb)) (NxOk.go hb (zq72_3_b N rc hb)) (fun x => by kernel_rfl)
theorem zq72_b (N) (rc) : Bk 0 (zq72_C N rc) (List.range zq72_S4.ks.length) zq72_S4 (zq72_L.drop 0) (fun y => zq72 N rc y.1.1) zq72_K :=
 cG 3 (zq72_1_b N rc)
def zq72_octr (N : Nat) (rc : D24 → Option zq72_R) : Ctr := ⟨zq72_S4, zq72_S5.un [false, false], 0, (fun y => zq72 N rc y.1.1)⟩
theorem zq72_ook (N : Nat) (rc : D24 → Option zq72_R) (hf : COk 39 (zq72_ftr N rc))  : COk 39 (zq72_octr N rc) :=
 cF (zw3 (Γ := zq72_C N rc) zw2 (csc (zq51_ok N) (csc (zq59_ok N) (csc (zq71_ok N) (csc (zq42_ok N) (csc (zq111_ok N) (csc (zq100_ok N) (csc (zq84_ok N) (csc (zq60_ok N) (csc hf csn)))))))))) Tryz.func39 Tryz.ntmps39 (zq72_b N rc)
def zw2x (N : Nat) : Nat → D24 → Option zq72_R
 | 0 => fun _ => none
 | n + 1 => fun t_0 => zq72 N (zw2x N n) t_0
theorem zw9k (N : Nat) : ∀ n : Nat, COk 39 (zq72_ftr N (zw2x N n))
 | 0 => zw14 Tryz.func39 (by kernel_rfl) (by kernel_rfl) (fun x => rfl)
 | n + 1 => zq72_ook N (zw2x N n) (zw9k N n)
def zq72_ctr (N : Nat) : Ctr := zq72_ftr N (zw2x N N)
theorem zq72_ok (N : Nat) : COk 39 (zq72_ctr N) := zw9k N N
abbrev zq63_R : Type := ((Int × Unit) × (List UInt8 × Unit))
def zq63 (N : Nat) (t_0 : D24) : Option zq63_R :=
 Option.bind (zq74 N t_0) fun y1 =>
 bif (!y1.1.1) then
  some (((26 : Int), ()), (([] : List UInt8), ()))
 else
  Option.bind (zw2x N N t_0) fun y3 =>
  bif (!y3.1.1) then
   some (((11 : Int), ()), (([] : List UInt8), ()))
  else
   some (((0 : Int), ()), (y3.2.1, ()))
def zq63_C (N : Nat) := Cx 17 [(38, zq74_ctr N), (39, zq72_ctr N)]
def zq63_S0 : Spec := ⟨[.val T24], []⟩
def zq63_S1 : Spec := ⟨[.row 0, .val .i64], [(.row 5 .u8, .pos 0)]⟩
def zq63_K : XE → GS → Option zq63_R := retK 0 [2, 3] [false, false] zq63_S1
noncomputable def zq63_L : List Code := (bodyOf (some Tryz.f11))
theorem zq63_b (N) : Bk 0 (zq63_C N) (List.range zq63_S0.ks.length) zq63_S0 (zq63_L.drop 0) (fun y => zq63 N y.1.1) zq63_K :=
 cE 8
def zq63_ctr (N : Nat) : Ctr := ⟨zq63_S0, zq63_S1.un [false, false], 0, (fun y => zq63 N y.1.1)⟩
theorem zq63_ok (N : Nat) : COk 11 (zq63_ctr N) :=
 cF (zw3 (Γ := zq63_C N) zw2 (csc (zq74_ok N) (csc (zq72_ok N) csn))) Tryz.func11 Tryz.ntmps11 (zq63_b N)
abbrev zq24_R : Type := ((Bool × Unit) × Unit)
def zq24_s2 (N : Nat) (a_0 : List UInt8) (b_1 : List UInt8) (i_5 : Int) : Option (Lo ((List UInt8 × List UInt8 × Int × Unit) × Unit) (Unit × Unit) zq24_R) :=
 bif (decide (i_5 < (a_0.length : Int))) then
  bif inR i_5 a_0.length then
  bif inR i_5 b_1.length then
  bif (!(decide ((a_0.getD i_5.toNat (0 : UInt8)) = (b_1.getD i_5.toNat (0 : UInt8))))) then
   some (.rt ((false, ()), ()))
  else
   some (.go ((a_0, b_1, (w64 (i_5 + (1 : Int))), ()), ()))
  else none
  else none
 else
  some (.br ((), ()))
def zq24_3 (N : Nat) : Option zq24_R :=
 some ((true, ()), ())
def zq24_1 (N : Nat) (a_0 : List UInt8) (b_1 : List UInt8) (i_5 : Int) : Option zq24_R :=
 loopK N (fun y => zq24_s2 N y.1.1 y.1.2.1 y.1.2.2.1) (fun (e : (Unit × Unit)) => zq24_3 N) ((a_0, b_1, i_5, ()), ())
def zq24 (N : Nat) (a_0 : List UInt8) (b_1 : List UInt8) : Option zq24_R :=
 bif (!(decide ((a_0.length : Int) = (b_1.length : Int)))) then
  some ((false, ()), ())
 else
  zq24_1 N a_0 b_1 (0 : Int)
def zq24_C (N : Nat) := Cx 26 []
def zq24_S0 : Spec := ⟨[.val (.sl .u8), .val (.sl .u8), .val .i64], []⟩
def zq24_S1 : Spec := ⟨[], []⟩
def zq24_S2 : Spec := ⟨[.val (.sl .u8), .val (.sl .u8)], []⟩
def zq24_S3 : Spec := ⟨[.val .bool], []⟩
def zq24_K : XE → GS → Option zq24_R := retK 0 [4] [false] zq24_S3
noncomputable def zq24_L : List Code := (bodyOf (some Tryz.f16))
def zq24_L2 : List Code := (loopOf (zq24_L[4]?))
def zq24_K2 (N : Nat) := roundK (some 0) (fit 0 [0, 1, 5] zq24_S0) (fit 0 [] zq24_S1) zq24_K
theorem zq24_s2_b (N) : Bk 0 (zq24_C N) [0, 1, 5] zq24_S0 (zq24_L2.drop 0) (fun y => zq24_s2 N y.1.1 y.1.2.1 y.1.2.2.1) (zq24_K2 N) :=
 cE 4
theorem zq24_3_b (N) : Bk 0 (zq24_C N) [] zq24_S1 (zq24_L.drop 5) (fun y => zq24_3 N) zq24_K :=
 cE 2
theorem zq24_1_b (N) : Bk 0 (zq24_C N) [0, 1, 5] zq24_S0 (zq24_L.drop 4) (fun y => zq24_1 N y.1.1 y.1.2.1 y.1.2.2.1) zq24_K :=
 lG N zq24_S0 [] zq24_S1 (zq24_3_b N) (zq24_s2_b N)
theorem zq24_b (N) : Bk 0 (zq24_C N) (List.range zq24_S2.ks.length) zq24_S2 (zq24_L.drop 0) (fun y => zq24 N y.1.1 y.1.2.1) zq24_K :=
 cG 4 (zq24_1_b N)
def zq24_ctr (N : Nat) : Ctr := ⟨zq24_S2, zq24_S3.un [false], 0, (fun y => zq24 N y.1.1 y.1.2.1)⟩
theorem zq24_ok (N : Nat) : COk 16 (zq24_ctr N) :=
 cF (zw3 (Γ := zq24_C N) zw2 csn) Tryz.func16 Tryz.ntmps16 (zq24_b N)
abbrev zq0_R : Type := ((Bool × Unit) × Unit)
def zq0_s2 (N : Nat) (s1_0 : List UInt8) (s2_1 : List UInt8) (t_12 : Int) (t_13 : Int) : Option (Lo ((List UInt8 × List UInt8 × Int × Int × Unit) × Unit) (Unit × Unit) zq0_R) :=
 bif (decide (t_13 < t_12)) then
  bif inR t_13 s1_0.length then
  bif inR t_13 s2_1.length then
  bif (!(decide ((s1_0.getD t_13.toNat (0 : UInt8)) = (s2_1.getD t_13.toNat (0 : UInt8))))) then
   some (.rt ((false, ()), ()))
  else
   some (.go ((s1_0, s2_1, t_12, (w64 (t_13 + (1 : Int))), ()), ()))
  else none
  else none
 else
  some (.br ((), ()))
def zq0_3 (N : Nat) : Option zq0_R :=
 some ((true, ()), ())
def zq0_1 (N : Nat) (s1_0 : List UInt8) (s2_1 : List UInt8) (t_12 : Int) (t_13 : Int) : Option zq0_R :=
 loopK N (fun y => zq0_s2 N y.1.1 y.1.2.1 y.1.2.2.1 y.1.2.2.2.1) (fun (e : (Unit × Unit)) => zq0_3 N) ((s1_0, s2_1, t_12, t_13, ()), ())
def zq0 (N : Nat) (s1_0 : List UInt8) (s2_1 : List UInt8) : Option zq0_R :=
 bif (!(decide ((s1_0.length : Int) = (s2_1.length : Int)))) then
  some ((false, ()), ())
 else
  zq0_1 N s1_0 s2_1 (s1_0.length : Int) (0 : Int)
def zq0_C (N : Nat) := Cx 26 []
def zq0_S0 : Spec := ⟨[.val (.sl .u8), .val (.sl .u8), .val .i64, .val .i64], []⟩
def zq0_S1 : Spec := ⟨[], []⟩
def zq0_S2 : Spec := ⟨[.val (.sl .u8), .val (.sl .u8)], []⟩
def zq0_S3 : Spec := ⟨[.val .bool], []⟩
def zq0_K : XE → GS → Option zq0_R := retK 0 [4] [false] zq0_S3
noncomputable def zq0_L : List Code := (bodyOf (some Tryz.f45))
def zq0_L2 : List Code := (loopOf (zq0_L[4]?))
def zq0_K2 (N : Nat) := roundK (some 0) (fit 0 [0, 1, 12, 13] zq0_S0) (fit 0 [] zq0_S1) zq0_K
theorem zq0_s2_b (N) : Bk 0 (zq0_C N) [0, 1, 12, 13] zq0_S0 (zq0_L2.drop 0) (fun y => zq0_s2 N y.1.1 y.1.2.1 y.1.2.2.1 y.1.2.2.2.1) (zq0_K2 N) :=
 cE 4
theorem zq0_3_b (N) : Bk 0 (zq0_C N) [] zq0_S1 (zq0_L.drop 5) (fun y => zq0_3 N) zq0_K :=
 cE 2
theorem zq0_1_b (N) : Bk 0 (zq0_C N) [0, 1, 12, 13] zq0_S0 (zq0_L.drop 4) (fun y => zq0_1 N y.1.1 y.1.2.1 y.1.2.2.1 y.1.2.2.2.1) zq0_K :=
 lG N zq0_S0 [] zq0_S1 (zq0_3_b N) (zq0_s2_b N)
theorem zq0_b (N) : Bk 0 (zq0_C N) (List.range zq0_S2.ks.length) zq0_S2 (zq0_L.drop 0) (fun y => zq0 N y.1.1 y.1.2.1) zq0_K :=
 cG 4 (zq0_1_b N)
def zq0_ctr (N : Nat) : Ctr := ⟨zq0_S2, zq0_S3.un [false], 0, (fun y => zq0 N y.1.1 y.1.2.1)⟩
theorem zq0_ok (N : Nat) : COk 45 (zq0_ctr N) :=
 cF (zw3 (Γ := zq0_C N) zw2 csn) Tryz.func45 Tryz.ntmps45 (zq0_b N)
abbrev zq36_R : Type := ((Bool × Unit) × Unit)
def zq36 (N : Nat) (a_0 : D24) (b_1 : D24) : Option zq36_R :=
 Option.bind (zq18 N a_0) fun y1 =>
 Option.bind (zq18 N b_1) fun y2 =>
 bif (decide (y1.1.1 = (0 : Int))) then
  bif (decide (y2.1.1 = (0 : Int))) then
   Option.bind (zq0 N y1.2.1 y2.2.1) fun y5 =>
   some ((y5.1.1, ()), ())
  else
   some ((false, ()), ())
 else
  some ((false, ()), ())
def zq36_C (N : Nat) := Cx 30 [(12, zq18_ctr N), (45, zq0_ctr N)]
def zq36_S0 : Spec := ⟨[.val T24, .val T24], []⟩
def zq36_S1 : Spec := ⟨[.val .bool], []⟩
def zq36_K : XE → GS → Option zq36_R := retK 0 [4] [false] zq36_S1
noncomputable def zq36_L : List Code := (bodyOf (some Tryz.f19))
theorem zq36_b (N) : Bk 0 (zq36_C N) (List.range zq36_S0.ks.length) zq36_S0 (zq36_L.drop 0) (fun y => zq36 N y.1.1 y.1.2.1) zq36_K :=
 cE 5
def zq36_ctr (N : Nat) : Ctr := ⟨zq36_S0, zq36_S1.un [false], 0, (fun y => zq36 N y.1.1 y.1.2.1)⟩
theorem zq36_ok (N : Nat) : COk 19 (zq36_ctr N) :=
 cF (zw3 (Γ := zq36_C N) zw2 (csc (zq18_ok N) (csc (zq0_ok N) csn))) Tryz.func19 Tryz.ntmps19 (zq36_b N)
abbrev zq101_R : Type := ((Bool × Unit) × Unit)
def zq101 (N : Nat) (a_0 : D24) (b_1 : D24) : Option zq101_R :=
 Option.bind (zq52 N a_0) fun y1 =>
 Option.bind (zq52 N b_1) fun y2 =>
 bif (decide (y1.1.1 = (0 : Int))) then
  bif (decide (y2.1.1 = (0 : Int))) then
   Option.bind (zq24 N y1.2.1 y2.2.1) fun y5 =>
   some ((y5.1.1, ()), ())
  else
   some ((false, ()), ())
 else
  some ((false, ()), ())
def zq101_C (N : Nat) := Cx 30 [(13, zq52_ctr N), (16, zq24_ctr N)]
def zq101_S0 : Spec := ⟨[.val T24, .val T24], []⟩
def zq101_S1 : Spec := ⟨[.val .bool], []⟩
def zq101_K : XE → GS → Option zq101_R := retK 0 [4] [false] zq101_S1
noncomputable def zq101_L : List Code := (bodyOf (some Tryz.f20))
theorem zq101_b (N) : Bk 0 (zq101_C N) (List.range zq101_S0.ks.length) zq101_S0 (zq101_L.drop 0) (fun y => zq101 N y.1.1 y.1.2.1) zq101_K :=
 cE 5
def zq101_ctr (N : Nat) : Ctr := ⟨zq101_S0, zq101_S1.un [false], 0, (fun y => zq101 N y.1.1 y.1.2.1)⟩
theorem zq101_ok (N : Nat) : COk 20 (zq101_ctr N) :=
 cF (zw3 (Γ := zq101_C N) zw2 (csc (zq52_ok N) (csc (zq24_ok N) csn))) Tryz.func20 Tryz.ntmps20 (zq101_b N)
abbrev zq5_R : Type := ((Bool × Unit) × Unit)
def zq5_s3 (N : Nat) (t_38 : Int) (t_39 : Int) (a_2 : D24) (t_6 : D24) (t_37 : (List D24)) : Option (Lo ((Int × Int × Unit) × (D24 × D24 × (List D24) × Unit)) (Unit × (D24 × D24 × Unit)) zq5_R) :=
 bif (decide (t_39 < t_38)) then
  bif inR t_39 t_37.length then
  let x9 := (t_37.getD t_39.toNat ((0 : Int), (0 : Int), ([] : List Tree), ()))
  Option.bind (zq33 N x9) fun y10 =>
  Option.bind (zq63 N x9) fun y11 =>
  Option.bind (zq18 N x9) fun y12 =>
  Option.bind (zq52 N x9) fun y13 =>
  Option.bind (zq17 N x9) fun y14 =>
  Option.bind (zq54 N x9) fun y15 =>
  bif (!(decide (y10.1.1 = y11.1.1))) then
   some (.rt ((false, ()), ()))
  else
   bif (!(decide (y12.1.1 = y13.1.1))) then
    some (.rt ((false, ()), ()))
   else
    bif (!(decide (y14.1.1 = y15.1.1))) then
     some (.rt ((false, ()), ()))
    else
     Option.bind (zq24 N y10.2.1 y11.2.1) fun y19 =>
     bif (!y19.1.1) then
      some (.rt ((false, ()), ()))
     else
      Option.bind (zq24 N y12.2.1 y13.2.1) fun y21 =>
      bif (!y21.1.1) then
       some (.rt ((false, ()), ()))
      else
       Option.bind (zq24 N y14.2.1 y15.2.1) fun y23 =>
       bif (!y23.1.1) then
        some (.rt ((false, ()), ()))
       else
        Option.bind (zq14 N x9) fun y25 =>
        Option.bind (zq34 N x9) fun y26 =>
        bif (!(decide (y25.1.1 = y26.1.1))) then
         some (.rt ((false, ()), ()))
        else
         some (.go ((t_38, (w64 (t_39 + (1 : Int))), ()), (a_2, t_6, t_37, ())))
  else none
 else
  some (.br ((), (a_2, t_6, ())))
def zq5_4 (N : Nat) (a_2 : D24) (t_6 : D24) : Option zq5_R :=
 Option.bind (zq36 N a_2 t_6) fun y29 =>
 Option.bind (zq101 N a_2 t_6) fun y30 =>
 bif (decide (y29.1.1 = y30.1.1)) then
  Option.bind (zq36 N t_6 t_6) fun y32 =>
  some ((y32.1.1, ()), ())
 else
  some ((false, ()), ())
def zq5_2 (N : Nat) (t_38 : Int) (t_39 : Int) (a_2 : D24) (t_6 : D24) (t_37 : (List D24)) : Option zq5_R :=
 loopK N (fun y => zq5_s3 N y.1.1 y.1.2.1 y.2.1 y.2.2.1 y.2.2.2.1) (fun (e : (Unit × (D24 × D24 × Unit))) => zq5_4 N e.2.1 e.2.2.1) ((t_38, t_39, ()), (a_2, t_6, t_37, ()))
def zq5_1 (N : Nat) (codes_1 : List UInt8) (t_27 : Bool) (a_2 : D24) : Option zq5_R :=
 bif t_27 then
  Option.bind (zw1l N N a_2) fun y3 =>
  some (((decide ((300 : Int) ≤ y3.1.1)), ()), ())
 else
  Option.bind (zq121 N codes_1 (120 : Int)) fun y5 =>
  Option.bind (zw21 N N (5 : Int) y5.2.1) fun y6 =>
  zq5_2 N (([a_2, y6.1.1] : List D24).length : Int) (0 : Int) a_2 y6.1.1 ([a_2, y6.1.1] : List D24)
def zq5 (N : Nat) (a_0 : D24) (codes_1 : List UInt8) : Option zq5_R :=
 Option.bind (zq64 N) fun y1 =>
 bif (!y1.1.1) then
  zq5_1 N codes_1 true a_0
 else
  Option.bind (zw1l N N a_0) fun y33 =>
  zq5_1 N codes_1 (decide ((300 : Int) ≤ y33.1.1)) a_0
def zq5_C (N : Nat) := Cx 124 [(6, zq64_ctr N), (7, zq86_ctr N), (8, zq121_ctr N), (9, zq22_ctr N), (10, zq33_ctr N), (11, zq63_ctr N), (12, zq18_ctr N), (13, zq52_ctr N), (14, zq17_ctr N), (15, zq54_ctr N), (16, zq24_ctr N), (17, zq14_ctr N), (18, zq34_ctr N), (19, zq36_ctr N), (20, zq101_ctr N)]
def zq5_S0 : Spec := ⟨[.ref 0 T24, .ref 1 T24, .row 2, .val .i64, .val .i64], [(.box 24 T24, .pos 0), (.box 24 T24, .pos 1), (.row 24 T24, .pos 2)]⟩
def zq5_S1 : Spec := ⟨[.ref 0 T24, .ref 1 T24], [(.box 24 T24, .pos 0), (.box 24 T24, .pos 1)]⟩
def zq5_S2 : Spec := ⟨[.val (.sl .u8), .ref 0 T24, .val .bool], [(.box 24 T24, .pos 1)]⟩
def zq5_S3 : Spec := ⟨[.val T24, .val (.sl .u8)], []⟩
def zq5_S4 : Spec := ⟨[.val .bool], []⟩
def zq5_K : XE → GS → Option zq5_R := retK 0 [4] [false] zq5_S4
noncomputable def zq5_L : List Code := (bodyOf (some Tryz.f3))
def zq5_L3 : List Code := (loopOf (zq5_L[6]?))
def zq5_K3 (N : Nat) := roundK (some 0) (fit 0 [2, 6, 37, 38, 39] zq5_S0) (fit 0 [2, 6] zq5_S1) zq5_K
theorem zq5_s3_b (N) : Bk 0 (zq5_C N) [2, 6, 37, 38, 39] zq5_S0 (zq5_L3.drop 0) (fun y => zq5_s3 N y.1.1 y.1.2.1 y.2.1 y.2.2.1 y.2.2.2.1) (zq5_K3 N) :=
 cE 4
theorem zq5_4_b (N) : Bk 0 (zq5_C N) [2, 6] zq5_S1 (zq5_L.drop 7) (fun y => zq5_4 N y.2.1 y.2.2.1) zq5_K :=
 cE 2
theorem zq5_2_b (N) : Bk 0 (zq5_C N) [2, 6, 37, 38, 39] zq5_S0 (zq5_L.drop 6) (fun y => zq5_2 N y.1.1 y.1.2.1 y.2.1 y.2.2.1 y.2.2.2.1) zq5_K :=
 lG N zq5_S0 [2, 6] zq5_S1 (zq5_4_b N) (zq5_s3_b N)
theorem zq5_1_b (N) : Bk 0 (zq5_C N) [1, 2, 27] zq5_S2 (zq5_L.drop 2) (fun y => zq5_1 N y.1.1 y.1.2.1 y.2.1) zq5_K :=
 cG 4 (zq5_2_b N)
theorem zq5_b (N) : Bk 0 (zq5_C N) (List.range zq5_S3.ks.length) zq5_S3 (zq5_L.drop 0) (fun y => zq5 N y.1.1 y.1.2.1) zq5_K :=
 cG 2 (zq5_1_b N)
def zq5_ctr (N : Nat) : Ctr := ⟨zq5_S3, zq5_S4.un [false], 0, (fun y => zq5 N y.1.1 y.1.2.1)⟩
theorem zq5_ok (N : Nat) : COk 3 (zq5_ctr N) :=
 cF (zw3 (Γ := zq5_C N) zw2 (csc (zq64_ok N) (csc (zq86_ok N) (csc (zq121_ok N) (csc (zq22_ok N) (csc (zq33_ok N) (csc (zq63_ok N) (csc (zq18_ok N) (csc (zq52_ok N) (csc (zq17_ok N) (csc (zq54_ok N) (csc (zq24_ok N) (csc (zq14_ok N) (csc (zq34_ok N) (csc (zq36_ok N) (csc (zq101_ok N) csn)))))))))))))))) Tryz.func3 Tryz.ntmps3 (zq5_b N)
end
end Go.Proofs.YtajpblfinenmjaaGreatDoor