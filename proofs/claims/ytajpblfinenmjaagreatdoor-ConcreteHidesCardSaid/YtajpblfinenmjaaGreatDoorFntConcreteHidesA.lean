/- Functions of the program as plain functions, each with the proof that the text computes it. -/
import Derived.Test.YtajpblfinenmjaaGreatDoorFnsConcreteHidesA
import Derived.Test.YtajpblfinenmjaaGreatDoorRngConcreteHidesA
set_option linter.unusedVariables false
set_option linter.unusedSimpArgs false
namespace Go.Proofs.YtajpblfinenmjaaGreatDoor
open Go
set_option maxRecDepth 100000
set_option linter.unusedVariables false
noncomputable section
abbrev zq34_R : Type := ((Unit) × ((List UInt8) × Unit))
def zq34_s2 (N : Nat) (rc : D24 → (List UInt8) → Option zq34_R) (t_25 : (List D24)) (t_26 : Int) (t_27 : Int) (b_0 : (List UInt8)) : Option (Lo (((List D24) × Int × Int × Unit) × ((List UInt8) × Unit)) ((Unit) × ((List UInt8) × Unit)) zq34_R) :=
 bif (decide (t_27 < t_26)) then
  bif inR t_27 t_25.length then
  Option.bind (rc (t_25.getD t_27.toNat ((0 : Int), (0 : Int), ([] : List Tree), ())) b_0) fun y13 =>
  some (.go ((t_25, t_26, (w64 (t_27 + (1 : Int))), ()), (y13.2.1, ())))
  else none
 else
  some (.br ((()), (b_0, ())))
def zq34_3 (N : Nat) (rc : D24 → (List UInt8) → Option zq34_R) (b_0 : (List UInt8)) : Option zq34_R :=
 some ((()), (b_0, ()))
def zq34_1 (N : Nat) (rc : D24 → (List UInt8) → Option zq34_R) (t_25 : (List D24)) (t_26 : Int) (t_27 : Int) (b_0 : (List UInt8)) : Option zq34_R :=
 loopK N (fun y => zq34_s2 N rc y.1.1 y.1.2.1 y.1.2.2.1 y.2.1) (fun (e : ((Unit) × ((List UInt8) × Unit))) => zq34_3 N rc e.2.1) ((t_25, t_26, t_27, ()), (b_0, ()))
def zq34 (N : Nat) (rc : D24 → (List UInt8) → Option zq34_R) (t_1 : D24) (b_0 : (List UInt8)) : Option zq34_R :=
 bif room (b_0.length + ([(iu8 t_1.1)] : List UInt8).length) 1 then
 Option.bind (zq115 N (iu64 t_1.2.1) (8 : Int) (b_0 ++ ([(iu8 t_1.1)] : List UInt8))) fun y4 =>
 Option.bind (zq115 N (iu64 ((List.map Tree.un t_1.2.2.1).length : Int)) (2 : Int) y4.2.1) fun y8 =>
 let x9 := List.map Tree.un t_1.2.2.1
 zq34_1 N rc x9 (x9.length : Int) (0 : Int) y8.2.1
 else none
def zq34_S0 : Spec := ⟨[.row 0, .val (.sl T24), .val .i64, .val .i64], [(.row 5 .u8, .pos 0)]⟩
def zq34_S1 : Spec := ⟨[.row 0], [(.row 5 .u8, .pos 0)]⟩
def zq34_S2 : Spec := ⟨[.row 0, .val T24], [(.row 5 .u8, .pos 0)]⟩
def zq34_ftr (N : Nat) (rc : D24 → (List UInt8) → Option zq34_R) : Ctr := ⟨zq34_S2, zq34_S1.un [false], 0, (fun y => rc y.1.1 y.2.1)⟩
def zq34_C (N : Nat) (rc : D24 → (List UInt8) → Option zq34_R) := Cx 36 [(67, zq115_ctr N), (40, zq34_ftr N rc)]
def zq34_K : XE → GS → Option zq34_R := retK 0 [4] [false] zq34_S1
noncomputable def zq34_L : List Code := (bodyOf (some Tryz.f40))
def zq34_L2 : List Code := (loopOf (zq34_L[5]?))
def zq34_K2 (N : Nat) (rc : D24 → (List UInt8) → Option zq34_R) := roundK (some 0) (fit 0 [0, 25, 26, 27] zq34_S0) (fit 0 [0] zq34_S1) zq34_K
theorem zq34_s2_b (N) (rc) : Bk 0 (zq34_C N rc) [0, 25, 26, 27] zq34_S0 (zq34_L2.drop 0) (fun y => zq34_s2 N rc y.1.1 y.1.2.1 y.1.2.2.1 y.2.1) (zq34_K2 N rc) :=
 cE 4
theorem zq34_3_b (N) (rc) : Bk 0 (zq34_C N rc) [0] zq34_S1 (zq34_L.drop 6) (fun y => zq34_3 N rc y.2.1) zq34_K :=
 cE 2
theorem zq34_1_b (N) (rc) : Bk 0 (zq34_C N rc) [0, 25, 26, 27] zq34_S0 (zq34_L.drop 5) (fun y => zq34_1 N rc y.1.1 y.1.2.1 y.1.2.2.1 y.2.1) zq34_K :=
 lG N zq34_S0 [0] zq34_S1 (zq34_3_b N rc) (zq34_s2_b N rc)
theorem zq34_b (N) (rc) : Bk 0 (zq34_C N rc) (List.range zq34_S2.ks.length) zq34_S2 (zq34_L.drop 0) (fun y => zq34 N rc y.1.1 y.2.1) zq34_K :=
 cG 5 (zq34_1_b N rc)
def zq34_octr (N : Nat) (rc : D24 → (List UInt8) → Option zq34_R) : Ctr := ⟨zq34_S2, zq34_S1.un [false], 0, (fun y => zq34 N rc y.1.1 y.2.1)⟩
theorem zq34_ook (N : Nat) (rc : D24 → (List UInt8) → Option zq34_R) (hf : COk 40 (zq34_ftr N rc))  : COk 40 (zq34_octr N rc) :=
 cF (zw2 (Γ := zq34_C N rc) zw1 (csc (zq115_ok N) (csc hf csn))) Tryz.func40 Tryz.ntmps40 (zq34_b N rc)
def zw13 (N : Nat) : Nat → D24 → (List UInt8) → Option zq34_R
 | 0 => fun _ _ => none
 | n + 1 => fun t_1 b_0 => zq34 N (zw13 N n) t_1 b_0
theorem zw8r (N : Nat) : ∀ n : Nat, COk 40 (zq34_ftr N (zw13 N n))
 | 0 => zw1a Tryz.func40 (by kernel_rfl) (by kernel_rfl) (fun x => rfl)
 | n + 1 => zq34_ook N (zw13 N n) (zw8r N n)
def zq34_ctr (N : Nat) : Ctr := zq34_ftr N (zw13 N N)
theorem zq34_ok (N : Nat) : COk 40 (zq34_ctr N) := zw8r N N
abbrev zq38_R : Type := ((Int × Unit) × ((List UInt8) × Unit))
def zq38 (N : Nat) (t_0 : D24) : Option zq38_R :=
 Option.bind (zq98 N t_0) fun y1 =>
 bif (!y1.1.1) then
  some (((26 : Int), ()), (([] : List UInt8), ()))
 else
  Option.bind (zw13 N N t_0 ([] : List UInt8)) fun y3 =>
  some (((0 : Int), ()), (y3.2.1, ()))
def zq38_C (N : Nat) := Cx 9 [(34, zq98_ctr N), (40, zq34_ctr N)]
def zq38_S0 : Spec := ⟨[.val T24], []⟩
def zq38_S1 : Spec := ⟨[.row 0, .val .i64], [(.row 5 .u8, .pos 0)]⟩
def zq38_K : XE → GS → Option zq38_R := retK 0 [2, 3] [false, false] zq38_S1
noncomputable def zq38_L : List Code := (bodyOf (some Tryz.f12))
theorem zq38_b (N) : Bk 0 (zq38_C N) (List.range zq38_S0.ks.length) zq38_S0 (zq38_L.drop 0) (fun y => zq38 N y.1.1) zq38_K :=
 cE 5
def zq38_ctr (N : Nat) : Ctr := ⟨zq38_S0, zq38_S1.un [false, false], 0, (fun y => zq38 N y.1.1)⟩
theorem zq38_ok (N : Nat) : COk 12 (zq38_ctr N) :=
 cF (zw2 (Γ := zq38_C N) zw1 (csc (zq98_ok N) (csc (zq34_ok N) csn))) Tryz.func12 Tryz.ntmps12 (zq38_b N)
abbrev zq99_R : Type := ((Unit) × ((List UInt8) × Unit))
def zq99_s2 (N : Nat) (length_0 : Int) (b_3 : (List UInt8)) : Option (Lo ((Int × Unit) × ((List UInt8) × Unit)) ((Int × Unit) × ((List UInt8) × Unit)) zq99_R) :=
 bif (!(decide (((w64 ((length_0.tmod (64 : Int)) + (b_3.length : Int))).tmod (64 : Int)) = (56 : Int)))) then
  bif room (b_3.length + ([(0 : UInt8)] : List UInt8).length) 1 then
  some (.go ((length_0, ()), ((b_3 ++ ([(0 : UInt8)] : List UInt8)), ())))
  else none
 else
  some (.br ((length_0, ()), (b_3, ())))
def zq99_3 (N : Nat) (length_0 : Int) (b_3 : (List UInt8)) : Option zq99_R :=
 Option.bind (zq115 N ((iu64 length_0) * (8 : UInt64)) (8 : Int) b_3) fun y10 =>
 some ((()), (y10.2.1, ()))
def zq99_1 (N : Nat) (length_0 : Int) (b_3 : (List UInt8)) : Option zq99_R :=
 loopK N (fun y => zq99_s2 N y.1.1 y.2.1) (fun (e : ((Int × Unit) × ((List UInt8) × Unit))) => zq99_3 N e.1.1 e.2.1) ((length_0, ()), (b_3, ()))
def zq99 (N : Nat) (length_0 : Int) : Option zq99_R :=
 bif (decide (length_0 < (0 : Int))) then
  some ((()), (([] : List UInt8), ()))
 else
  zq99_1 N length_0 ([(128 : UInt8)] : List UInt8)
def zq99_C (N : Nat) := Cx 22 [(67, zq115_ctr N)]
def zq99_S0 : Spec := ⟨[.val .i64, .row 0], [(.row 5 .u8, .pos 1)]⟩
def zq99_S1 : Spec := ⟨[.val .i64], []⟩
def zq99_S2 : Spec := ⟨[.row 0], [(.row 5 .u8, .pos 0)]⟩
def zq99_K : XE → GS → Option zq99_R := retK 0 [2] [false] zq99_S2
noncomputable def zq99_L : List Code := (bodyOf (some Tryz.f68))
def zq99_L2 : List Code := (loopOf (zq99_L[4]?))
def zq99_K2 (N : Nat) := roundK (some 0) (fit 0 [0, 3] zq99_S0) (fit 0 [0, 3] zq99_S0) zq99_K
theorem zq99_s2_b (N) : Bk 0 (zq99_C N) [0, 3] zq99_S0 (zq99_L2.drop 0) (fun y => zq99_s2 N y.1.1 y.2.1) (zq99_K2 N) :=
 cE 3
theorem zq99_3_b (N) : Bk 0 (zq99_C N) [0, 3] zq99_S0 (zq99_L.drop 5) (fun y => zq99_3 N y.1.1 y.2.1) zq99_K :=
 cE 2
theorem zq99_1_b (N) : Bk 0 (zq99_C N) [0, 3] zq99_S0 (zq99_L.drop 4) (fun y => zq99_1 N y.1.1 y.2.1) zq99_K :=
 lG N zq99_S0 [0, 3] zq99_S0 (zq99_3_b N) (zq99_s2_b N)
theorem zq99_b (N) : Bk 0 (zq99_C N) (List.range zq99_S1.ks.length) zq99_S1 (zq99_L.drop 0) (fun y => zq99 N y.1.1) zq99_K :=
 cG 4 (zq99_1_b N)
def zq99_ctr (N : Nat) : Ctr := ⟨zq99_S1, zq99_S2.un [false], 0, (fun y => zq99 N y.1.1)⟩
theorem zq99_ok (N : Nat) : COk 68 (zq99_ctr N) :=
 cF (zw2 (Γ := zq99_C N) zw1 (csc (zq115_ok N) csn)) Tryz.func68 Tryz.ntmps68 (zq99_b N)
abbrev zq90_R : Type := (((List UInt8) × Bool × Unit) × (Unit))
def zq90_1 (N : Nat) (b_0 : (List UInt8)) (at_1 : Int) (n_2 : Int) (t_27 : Bool) : Option zq90_R :=
 bif t_27 then
  some ((([] : List UInt8), false, ()), (()))
 else
  let x2 := w64 (at_1 + n_2)
  let x3 := w64 (at_1 + n_2)
  bif decide (0 ≤ at_1) && decide (at_1 ≤ x2) && decide (x2 ≤ (b_0.length : Int)) && (decide (x2 ≤ x3) && decide (x3 ≤ (b_0.length : Int))) then
  some (((cut b_0 at_1.toNat x2.toNat), true, ()), (()))
  else none
def zq90 (N : Nat) (b_0 : (List UInt8)) (at_1 : Int) (n_2 : Int) : Option zq90_R :=
 bif (decide (at_1 < (0 : Int))) then
  zq90_1 N b_0 at_1 n_2 true
 else
  bif (decide (n_2 < (0 : Int))) then
   zq90_1 N b_0 at_1 n_2 true
  else
   bif (decide ((b_0.length : Int) < at_1)) then
    zq90_1 N b_0 at_1 n_2 true
   else
    zq90_1 N b_0 at_1 n_2 (decide ((w64 ((b_0.length : Int) - at_1)) < n_2))
def zq90_C (N : Nat) := Cx 37 []
def zq90_S0 : Spec := ⟨[.val (.sl .u8), .val .i64, .val .i64, .val .bool], []⟩
def zq90_S1 : Spec := ⟨[.val (.sl .u8), .val .i64, .val .i64], []⟩
def zq90_S2 : Spec := ⟨[.val (.sl .u8), .val .bool], []⟩
def zq90_K : XE → GS → Option zq90_R := retK 0 [6, 7] [false, false] zq90_S2
noncomputable def zq90_L : List Code := (bodyOf (some Tryz.f73))
theorem zq90_1_b (N) : Bk 0 (zq90_C N) [0, 1, 2, 27] zq90_S0 (zq90_L.drop 2) (fun y => zq90_1 N y.1.1 y.1.2.1 y.1.2.2.1 y.1.2.2.2.1) zq90_K :=
 cE 3
theorem zq90_b (N) : Bk 0 (zq90_C N) (List.range zq90_S1.ks.length) zq90_S1 (zq90_L.drop 0) (fun y => zq90 N y.1.1 y.1.2.1 y.1.2.2.1) zq90_K :=
 cG 2 (zq90_1_b N)
def zq90_ctr (N : Nat) : Ctr := ⟨zq90_S1, zq90_S2.un [false, false], 0, (fun y => zq90 N y.1.1 y.1.2.1 y.1.2.2.1)⟩
theorem zq90_ok (N : Nat) : COk 73 (zq90_ctr N) :=
 cF (zw2 (Γ := zq90_C N) zw1 csn) Tryz.func73 Tryz.ntmps73 (zq90_b N)
abbrev zq82_R : Type := ((UInt64 × Bool × Unit) × (Unit))
def zq82_s3 (N : Nat) (v_10 : UInt64) (t_28 : (List UInt8)) (t_29 : Int) (t_30 : Int) : Option (Lo ((UInt64 × (List UInt8) × Int × Int × Unit) × (Unit)) ((UInt64 × Unit) × (Unit)) zq82_R) :=
 bif (decide (t_30 < t_29)) then
  bif inR t_30 t_28.length then
  some (.go ((((shl64 v_10 8) ||| (t_28.getD t_30.toNat (0 : UInt8)).toUInt64), t_28, t_29, (w64 (t_30 + (1 : Int))), ()), (())))
  else none
 else
  some (.br ((v_10, ()), (())))
def zq82_4 (N : Nat) (v_10 : UInt64) : Option zq82_R :=
 some ((v_10, true, ()), (()))
def zq82_2 (N : Nat) (v_10 : UInt64) (t_28 : (List UInt8)) (t_29 : Int) (t_30 : Int) : Option zq82_R :=
 loopK N (fun y => zq82_s3 N y.1.1 y.1.2.1 y.1.2.2.1 y.1.2.2.2.1) (fun (e : ((UInt64 × Unit) × (Unit))) => zq82_4 N e.1.1) ((v_10, t_28, t_29, t_30, ()), (()))
def zq82_1 (N : Nat) (b_0 : (List UInt8)) (at_1 : Int) (width_2 : Int) (t_18 : Bool) : Option zq82_R :=
 bif t_18 then
  some (((0 : UInt64), false, ()), (()))
 else
  Option.bind (zq90 N b_0 at_1 width_2) fun y2 =>
  bif (!y2.1.2.1) then
   some (((0 : UInt64), false, ()), (()))
  else
   zq82_2 N (0 : UInt64) y2.1.1 (y2.1.1.length : Int) (0 : Int)
def zq82 (N : Nat) (b_0 : (List UInt8)) (at_1 : Int) (width_2 : Int) : Option zq82_R :=
 bif (decide (width_2 < (1 : Int))) then
  zq82_1 N b_0 at_1 width_2 true
 else
  zq82_1 N b_0 at_1 width_2 (decide ((8 : Int) < width_2))
def zq82_C (N : Nat) := Cx 41 [(73, zq90_ctr N)]
def zq82_S0 : Spec := ⟨[.val .u64, .val (.sl .u8), .val .i64, .val .i64], []⟩
def zq82_S1 : Spec := ⟨[.val .u64], []⟩
def zq82_S2 : Spec := ⟨[.val (.sl .u8), .val .i64, .val .i64, .val .bool], []⟩
def zq82_S3 : Spec := ⟨[.val (.sl .u8), .val .i64, .val .i64], []⟩
def zq82_S4 : Spec := ⟨[.val .u64, .val .bool], []⟩
def zq82_K : XE → GS → Option zq82_R := retK 0 [6, 7] [false, false] zq82_S4
noncomputable def zq82_L : List Code := (bodyOf (some Tryz.f44))
def zq82_L3 : List Code := (loopOf (zq82_L[8]?))
def zq82_K3 (N : Nat) := roundK (some 0) (fit 0 [10, 28, 29, 30] zq82_S0) (fit 0 [10] zq82_S1) zq82_K
theorem zq82_s3_b (N) : Bk 0 (zq82_C N) [10, 28, 29, 30] zq82_S0 (zq82_L3.drop 0) (fun y => zq82_s3 N y.1.1 y.1.2.1 y.1.2.2.1 y.1.2.2.2.1) (zq82_K3 N) :=
 cE 4
theorem zq82_4_b (N) : Bk 0 (zq82_C N) [10] zq82_S1 (zq82_L.drop 9) (fun y => zq82_4 N y.1.1) zq82_K :=
 cE 2
theorem zq82_2_b (N) : Bk 0 (zq82_C N) [10, 28, 29, 30] zq82_S0 (zq82_L.drop 8) (fun y => zq82_2 N y.1.1 y.1.2.1 y.1.2.2.1 y.1.2.2.2.1) zq82_K :=
 lG N zq82_S0 [10] zq82_S1 (zq82_4_b N) (zq82_s3_b N)
theorem zq82_1_b (N) : Bk 0 (zq82_C N) [0, 1, 2, 18] zq82_S2 (zq82_L.drop 2) (fun y => zq82_1 N y.1.1 y.1.2.1 y.1.2.2.1 y.1.2.2.2.1) zq82_K :=
 cG 6 (zq82_2_b N)
theorem zq82_b (N) : Bk 0 (zq82_C N) (List.range zq82_S3.ks.length) zq82_S3 (zq82_L.drop 0) (fun y => zq82 N y.1.1 y.1.2.1 y.1.2.2.1) zq82_K :=
 cG 2 (zq82_1_b N)
def zq82_ctr (N : Nat) : Ctr := ⟨zq82_S3, zq82_S4.un [false, false], 0, (fun y => zq82 N y.1.1 y.1.2.1 y.1.2.2.1)⟩
theorem zq82_ok (N : Nat) : COk 44 (zq82_ctr N) :=
 cF (zw2 (Γ := zq82_C N) zw1 (csc (zq90_ok N) csn)) Tryz.func44 Tryz.ntmps44 (zq82_b N)
abbrev zq4_R : Type := ((UInt32 × Unit) × (Unit))
def zq4 (N : Nat) (x_0 : UInt32) (k_1 : Int) : Option zq4_R :=
 let x2 := (iu64 k_1) &&& (31 : UInt64)
 some ((((shl32 x_0 x2.toNat) ||| (shr32 x_0 ((32 : UInt64) - x2).toNat)), ()), (()))
def zq4_C (N : Nat) := Cx 17 []
def zq4_S0 : Spec := ⟨[.val .u32, .val .i64], []⟩
def zq4_S1 : Spec := ⟨[.val .u32], []⟩
def zq4_K : XE → GS → Option zq4_R := retK 0 [4] [false] zq4_S1
noncomputable def zq4_L : List Code := (bodyOf (some Tryz.f119))
theorem zq4_b (N) : Bk 0 (zq4_C N) (List.range zq4_S0.ks.length) zq4_S0 (zq4_L.drop 0) (fun y => zq4 N y.1.1 y.1.2.1) zq4_K :=
 cE 4
def zq4_ctr (N : Nat) : Ctr := ⟨zq4_S0, zq4_S1.un [false], 0, (fun y => zq4 N y.1.1 y.1.2.1)⟩
theorem zq4_ok (N : Nat) : COk 119 (zq4_ctr N) :=
 cF (zw2 (Γ := zq4_C N) zw1 csn) Tryz.func119 Tryz.ntmps119 (zq4_b N)
abbrev zq53_R : Type := ((UInt32 × Unit) × (Unit))
def zq53 (N : Nat) (x_0 : UInt32) (n_1 : Int) : Option zq53_R :=
 Option.bind (zq4 N x_0 (w64 (0 - n_1))) fun y2 =>
 some ((y2.1.1, ()), (()))
def zq53_C (N : Nat) := Cx 9 [(119, zq4_ctr N)]
def zq53_S0 : Spec := ⟨[.val .u32, .val .i64], []⟩
def zq53_S1 : Spec := ⟨[.val .u32], []⟩
def zq53_K : XE → GS → Option zq53_R := retK 0 [4] [false] zq53_S1
noncomputable def zq53_L : List Code := (bodyOf (some Tryz.f95))
theorem zq53_b (N) : Bk 0 (zq53_C N) (List.range zq53_S0.ks.length) zq53_S0 (zq53_L.drop 0) (fun y => zq53 N y.1.1 y.1.2.1) zq53_K :=
 cE 3
def zq53_ctr (N : Nat) : Ctr := ⟨zq53_S0, zq53_S1.un [false], 0, (fun y => zq53 N y.1.1 y.1.2.1)⟩
theorem zq53_ok (N : Nat) : COk 95 (zq53_ctr N) :=
 cF (zw2 (Γ := zq53_C N) zw1 (csc (zq4_ok N) csn)) Tryz.func95 Tryz.ntmps95 (zq53_b N)
abbrev zq32_R : Type := (((List UInt32) × Unit) × (Unit))
def zq32_s2 (N : Nat) (block_0 : (List UInt8)) (t_9 : Int) (t_2 : (List UInt32)) (w_3 : (List UInt32)) : Option (Lo (((List UInt8) × Int × Unit) × ((List UInt32) × (List UInt32) × Unit)) ((Unit) × ((List UInt32) × (List UInt32) × Unit)) zq32_R) :=
 bif (decide (t_9 < (64 : Int))) then
  bif (decide (t_9 < (16 : Int))) then
   Option.bind (zq82 N block_0 (w64 ((4 : Int) * t_9)) (4 : Int)) fun y4 =>
   bif inR t_9 64 then
   some (.go ((block_0, (w64 (t_9 + (1 : Int))), ()), (t_2, (w_3.set t_9.toNat y4.1.1.toUInt32), ())))
   else none
  else
   let x7 := w64 (t_9 - (2 : Int))
   bif inR x7 64 then
   let x8 := (w_3.getD x7.toNat (0 : UInt32))
   let x9 := w64 (t_9 - (15 : Int))
   bif inR x9 64 then
   let x10 := (w_3.getD x9.toNat (0 : UInt32))
   Option.bind (zq53 N x8 (17 : Int)) fun y11 =>
   Option.bind (zq53 N x8 (19 : Int)) fun y12 =>
   let x16 := w64 (t_9 - (7 : Int))
   bif inR x16 64 then
   Option.bind (zq53 N x10 (7 : Int)) fun y19 =>
   Option.bind (zq53 N x10 (18 : Int)) fun y20 =>
   let x25 := w64 (t_9 - (16 : Int))
   bif inR x25 64 then
   bif inR t_9 64 then
   some (.go ((block_0, (w64 (t_9 + (1 : Int))), ()), (t_2, (w_3.set t_9.toNat (((((y11.1.1 ^^^ y12.1.1) ^^^ (shr32 x8 10)) + (w_3.getD x16.toNat (0 : UInt32))) + ((y19.1.1 ^^^ y20.1.1) ^^^ (shr32 x10 3))) + (w_3.getD x25.toNat (0 : UInt32)))), ())))
   else none
   else none
   else none
   else none
   else none
 else
  some (.br ((()), (t_2, w_3, ())))
def zq32_3 (N : Nat) (t_2 : (List UInt32)) (w_3 : (List UInt32)) : Option zq32_R :=
 some ((w_3, ()), (()))
def zq32_1 (N : Nat) (block_0 : (List UInt8)) (t_9 : Int) (t_2 : (List UInt32)) (w_3 : (List UInt32)) : Option zq32_R :=
 loopK N (fun y => zq32_s2 N y.1.1 y.1.2.1 y.2.1 y.2.2.1) (fun (e : ((Unit) × ((List UInt32) × (List UInt32) × Unit))) => zq32_3 N e.2.1 e.2.2.1) ((block_0, t_9, ()), (t_2, w_3, ()))
def zq32 (N : Nat) (block_0 : (List UInt8)) : Option zq32_R :=
 zq32_1 N block_0 (0 : Int) (List.replicate 64 (0 : UInt32)) (List.replicate 64 (0 : UInt32))
def zq32_C (N : Nat) := Cx 64 [(44, zq82_ctr N), (95, zq53_ctr N)]
def zq32_S0 : Spec := ⟨[.val (.sl .u8), .ref 0 (.arr 64 .u32), .ref 1 (.arr 64 .u32), .val .i64], [(.box 100 (.arr 64 .u32), .pos 1), (.box 100 (.arr 64 .u32), .pos 2)]⟩
def zq32_S1 : Spec := ⟨[.ref 0 (.arr 64 .u32), .ref 1 (.arr 64 .u32)], [(.box 100 (.arr 64 .u32), .pos 0), (.box 100 (.arr 64 .u32), .pos 1)]⟩
def zq32_S2 : Spec := ⟨[.val (.sl .u8)], []⟩
def zq32_S3 : Spec := ⟨[.fp (.arr 64 .u32)], []⟩
def zq32_K : XE → GS → Option zq32_R := retK 0 [2] [true] zq32_S3
noncomputable def zq32_L : List Code := (bodyOf (some Tryz.f94))
def zq32_L2 : List Code := (loopOf (zq32_L[3]?))
def zq32_K2 (N : Nat) := roundK (some 0) (fit 0 [0, 2, 3, 9] zq32_S0) (fit 0 [2, 3] zq32_S1) zq32_K
theorem zq32_s2_b (N) : Bk 0 (zq32_C N) [0, 2, 3, 9] zq32_S0 (zq32_L2.drop 0) (fun y => zq32_s2 N y.1.1 y.1.2.1 y.2.1 y.2.2.1) (zq32_K2 N) :=
 cE 4
theorem zq32_3_b (N) : Bk 0 (zq32_C N) [2, 3] zq32_S1 (zq32_L.drop 4) (fun y => zq32_3 N y.2.1 y.2.2.1) zq32_K :=
 cE 2
theorem zq32_1_b (N) : Bk 0 (zq32_C N) [0, 2, 3, 9] zq32_S0 (zq32_L.drop 3) (fun y => zq32_1 N y.1.1 y.1.2.1 y.2.1 y.2.2.1) zq32_K :=
 lG N zq32_S0 [2, 3] zq32_S1 (zq32_3_b N) (zq32_s2_b N)
theorem zq32_b (N) : Bk 0 (zq32_C N) (List.range zq32_S2.ks.length) zq32_S2 (zq32_L.drop 0) (fun y => zq32 N y.1.1) zq32_K :=
 cG 3 (zq32_1_b N)
def zq32_ctr (N : Nat) : Ctr := ⟨zq32_S2, zq32_S3.un [true], 0, (fun y => zq32 N y.1.1)⟩
theorem zq32_ok (N : Nat) : COk 94 (zq32_ctr N) :=
 cF (zw2 (Γ := zq32_C N) zw1 (csc (zq82_ok N) (csc (zq53_ok N) csn))) Tryz.func94 Tryz.ntmps94 (zq32_b N)
abbrev zq67_R : Type := (((List UInt32) × Bool × Unit) × (Unit))
def zq67_s2 (N : Nat) (a_6 : UInt32) (b_7 : UInt32) (c_8 : UInt32) (d_9 : UInt32) (e_10 : UInt32) (f_11 : UInt32) (g_12 : UInt32) (h_13 : UInt32) (t_41 : (List UInt32)) (t_42 : Int) (state_2 : (List UInt32)) (t_4 : (List UInt32)) : Option (Lo ((UInt32 × UInt32 × UInt32 × UInt32 × UInt32 × UInt32 × UInt32 × UInt32 × (List UInt32) × Int × Unit) × ((List UInt32) × (List UInt32) × Unit)) ((UInt32 × UInt32 × UInt32 × UInt32 × UInt32 × UInt32 × UInt32 × UInt32 × Unit) × ((List UInt32) × (List UInt32) × Unit)) zq67_R) :=
 bif (decide (t_42 < (64 : Int))) then
  bif inR t_42 64 then
  let x14 := t_41.getD t_42.toNat (0 : UInt32)
  Option.bind (zq53 N e_10 (6 : Int)) fun y15 =>
  Option.bind (zq53 N e_10 (11 : Int)) fun y16 =>
  Option.bind (zq53 N e_10 (25 : Int)) fun y18 =>
  let x19 := (y15.1.1 ^^^ y16.1.1) ^^^ y18.1.1
  bif inR t_42 64 then
  let x26 := zw1x.getD t_42.toNat (0 : UInt32)
  Option.bind (zq53 N a_6 (2 : Int)) fun y29 =>
  Option.bind (zq53 N a_6 (13 : Int)) fun y30 =>
  Option.bind (zq53 N a_6 (22 : Int)) fun y32 =>
  some (.go (((((((h_13 + x19) + ((e_10 &&& f_11) ^^^ ((~~~ e_10) &&& g_12))) + x26) + x14) + (((y29.1.1 ^^^ y30.1.1) ^^^ y32.1.1) + (((a_6 &&& b_7) ^^^ (a_6 &&& c_8)) ^^^ (b_7 &&& c_8)))), a_6, b_7, c_8, (d_9 + ((((h_13 + x19) + ((e_10 &&& f_11) ^^^ ((~~~ e_10) &&& g_12))) + x26) + x14)), e_10, f_11, g_12, t_41, (w64 (t_42 + (1 : Int))), ()), (state_2, t_4, ())))
  else none
  else none
 else
  some (.br ((a_6, b_7, c_8, d_9, e_10, f_11, g_12, h_13, ()), (state_2, t_4, ())))
def zq67_s5 (N : Nat) (t_112 : (List UInt32)) (t_113 : Int) (state_2 : (List UInt32)) (t_4 : (List UInt32)) : Option (Lo (((List UInt32) × Int × Unit) × ((List UInt32) × (List UInt32) × Unit)) ((Unit) × ((List UInt32) × (List UInt32) × Unit)) zq67_R) :=
 bif (decide (t_113 < (8 : Int))) then
  bif inR t_113 8 then
  bif inR t_113 8 then
  bif inR t_113 8 then
  some (.go ((t_112, (w64 (t_113 + (1 : Int))), ()), ((state_2.set t_113.toNat ((state_2.getD t_113.toNat (0 : UInt32)) + (t_112.getD t_113.toNat (0 : UInt32)))), t_4, ())))
  else none
  else none
  else none
 else
  some (.br ((()), (state_2, t_4, ())))
def zq67_6 (N : Nat) (state_2 : (List UInt32)) (t_4 : (List UInt32)) : Option zq67_R :=
 some ((state_2, true, ()), (()))
def zq67_4 (N : Nat) (t_112 : (List UInt32)) (t_113 : Int) (state_2 : (List UInt32)) (t_4 : (List UInt32)) : Option zq67_R :=
 loopK N (fun y => zq67_s5 N y.1.1 y.1.2.1 y.2.1 y.2.2.1) (fun (e : ((Unit) × ((List UInt32) × (List UInt32) × Unit))) => zq67_6 N e.2.1 e.2.2.1) ((t_112, t_113, ()), (state_2, t_4, ()))
def zq67_3 (N : Nat) (a_6 : UInt32) (b_7 : UInt32) (c_8 : UInt32) (d_9 : UInt32) (e_10 : UInt32) (f_11 : UInt32) (g_12 : UInt32) (h_13 : UInt32) (state_2 : (List UInt32)) (t_4 : (List UInt32)) : Option zq67_R :=
 zq67_4 N ([a_6, b_7, c_8, d_9, e_10, f_11, g_12, h_13] : List UInt32) (0 : Int) state_2 t_4
def zq67_1 (N : Nat) (a_6 : UInt32) (b_7 : UInt32) (c_8 : UInt32) (d_9 : UInt32) (e_10 : UInt32) (f_11 : UInt32) (g_12 : UInt32) (h_13 : UInt32) (t_41 : (List UInt32)) (t_42 : Int) (state_2 : (List UInt32)) (t_4 : (List UInt32)) : Option zq67_R :=
 loopK N (fun y => zq67_s2 N y.1.1 y.1.2.1 y.1.2.2.1 y.1.2.2.2.1 y.1.2.2.2.2.1 y.1.2.2.2.2.2.1 y.1.2.2.2.2.2.2.1 y.1.2.2.2.2.2.2.2.1 y.1.2.2.2.2.2.2.2.2.1 y.1.2.2.2.2.2.2.2.2.2.1 y.2.1 y.2.2.1) (fun (e : ((UInt32 × UInt32 × UInt32 × UInt32 × UInt32 × UInt32 × UInt32 × UInt32 × Unit) × ((List UInt32) × (List UInt32) × Unit))) => zq67_3 N e.1.1 e.1.2.1 e.1.2.2.1 e.1.2.2.2.1 e.1.2.2.2.2.1 e.1.2.2.2.2.2.1 e.1.2.2.2.2.2.2.1 e.1.2.2.2.2.2.2.2.1 e.2.1 e.2.2.1) ((a_6, b_7, c_8, d_9, e_10, f_11, g_12, h_13, t_41, t_42, ()), (state_2, t_4, ()))
def zq67 (N : Nat) (state_0 : (List UInt32)) (block_1 : (List UInt8)) : Option zq67_R :=
 bif (!(decide ((block_1.length : Int) = (64 : Int)))) then
  some (((List.replicate 8 (0 : UInt32)), false, ()), (()))
 else
  Option.bind (zq32 N block_1) fun y12 =>
  zq67_1 N (state_0.getD 0 (0 : UInt32)) (state_0.getD 1 (0 : UInt32)) (state_0.getD 2 (0 : UInt32)) (state_0.getD 3 (0 : UInt32)) (state_0.getD 4 (0 : UInt32)) (state_0.getD 5 (0 : UInt32)) (state_0.getD 6 (0 : UInt32)) (state_0.getD 7 (0 : UInt32)) y12.1.1 (0 : Int) state_0 (List.replicate 8 (0 : UInt32))
def zq67_C (N : Nat) := Cx 125 [(94, zq32_ctr N), (95, zq53_ctr N)]
def zq67_S0 : Spec := ⟨[.ref 0 (.arr 8 .u32), .ref 1 (.arr 8 .u32), .val .u32, .val .u32, .val .u32, .val .u32, .val .u32, .val .u32, .val .u32, .val .u32, .val (.arr 64 .u32), .val .i64], [(.box 84 (.arr 8 .u32), .pos 0), (.box 84 (.arr 8 .u32), .pos 1)]⟩
def zq67_S1 : Spec := ⟨[.ref 0 (.arr 8 .u32), .ref 1 (.arr 8 .u32), .val (.arr 8 .u32), .val .i64], [(.box 84 (.arr 8 .u32), .pos 0), (.box 84 (.arr 8 .u32), .pos 1)]⟩
def zq67_S2 : Spec := ⟨[.ref 0 (.arr 8 .u32), .ref 1 (.arr 8 .u32)], [(.box 84 (.arr 8 .u32), .pos 0), (.box 84 (.arr 8 .u32), .pos 1)]⟩
def zq67_S3 : Spec := ⟨[.ref 0 (.arr 8 .u32), .ref 1 (.arr 8 .u32), .val .u32, .val .u32, .val .u32, .val .u32, .val .u32, .val .u32, .val .u32, .val .u32], [(.box 84 (.arr 8 .u32), .pos 0), (.box 84 (.arr 8 .u32), .pos 1)]⟩
def zq67_S4 : Spec := ⟨[.val (.arr 8 .u32), .val (.sl .u8)], []⟩
def zq67_S5 : Spec := ⟨[.fp (.arr 8 .u32), .val .bool], []⟩
def zq67_K : XE → GS → Option zq67_R := retK 0 [4, 5] [true, false] zq67_S5
noncomputable def zq67_L : List Code := (bodyOf (some Tryz.f69))
def zq67_L2 : List Code := (loopOf (zq67_L[5]?))
def zq67_L5 : List Code := (loopOf (zq67_L[7]?))
def zq67_K2 (N : Nat) := roundK (some 0) (fit 0 [2, 4, 6, 7, 8, 9, 10, 11, 12, 13, 41, 42] zq67_S0) (fit 0 [2, 4, 6, 7, 8, 9, 10, 11, 12, 13] zq67_S3) zq67_K
def zq67_K5 (N : Nat) := roundK (some 2) (fit 0 [2, 4, 112, 113] zq67_S1) (fit 0 [2, 4] zq67_S2) zq67_K
theorem zq67_s2_b (N) : Bk 0 (zq67_C N) [2, 4, 6, 7, 8, 9, 10, 11, 12, 13, 41, 42] zq67_S0 (zq67_L2.drop 0) (fun y => zq67_s2 N y.1.1 y.1.2.1 y.1.2.2.1 y.1.2.2.2.1 y.1.2.2.2.2.1 y.1.2.2.2.2.2.1 y.1.2.2.2.2.2.2.1 y.1.2.2.2.2.2.2.2.1 y.1.2.2.2.2.2.2.2.2.1 y.1.2.2.2.2.2.2.2.2.2.1 y.2.1 y.2.2.1) (zq67_K2 N) :=
 cE 4
theorem zq67_s5_b (N) : Bk 0 (zq67_C N) [2, 4, 112, 113] zq67_S1 (zq67_L5.drop 0) (fun y => zq67_s5 N y.1.1 y.1.2.1 y.2.1 y.2.2.1) (zq67_K5 N) :=
 cE 4
theorem zq67_6_b (N) : Bk 0 (zq67_C N) [2, 4] zq67_S2 (zq67_L.drop 8) (fun y => zq67_6 N y.2.1 y.2.2.1) zq67_K :=
 cE 2
theorem zq67_4_b (N) : Bk 0 (zq67_C N) [2, 4, 112, 113] zq67_S1 (zq67_L.drop 7) (fun y => zq67_4 N y.1.1 y.1.2.1 y.2.1 y.2.2.1) zq67_K :=
 lG N zq67_S1 [2, 4] zq67_S2 (zq67_6_b N) (zq67_s5_b N)
theorem zq67_3_b (N) : Bk 0 (zq67_C N) [2, 4, 6, 7, 8, 9, 10, 11, 12, 13] zq67_S3 (zq67_L.drop 6) (fun y => zq67_3 N y.1.1 y.1.2.1 y.1.2.2.1 y.1.2.2.2.1 y.1.2.2.2.2.1 y.1.2.2.2.2.2.1 y.1.2.2.2.2.2.2.1 y.1.2.2.2.2.2.2.2.1 y.2.1 y.2.2.1) zq67_K :=
 cG 1 (zq67_4_b N)
theorem zq67_1_b (N) : Bk 0 (zq67_C N) [2, 4, 6, 7, 8, 9, 10, 11, 12, 13, 41, 42] zq67_S0 (zq67_L.drop 5) (fun y => zq67_1 N y.1.1 y.1.2.1 y.1.2.2.1 y.1.2.2.2.1 y.1.2.2.2.2.1 y.1.2.2.2.2.2.1 y.1.2.2.2.2.2.2.1 y.1.2.2.2.2.2.2.2.1 y.1.2.2.2.2.2.2.2.2.1 y.1.2.2.2.2.2.2.2.2.2.1 y.2.1 y.2.2.1) zq67_K :=
 lG N zq67_S0 [2, 4, 6, 7, 8, 9, 10, 11, 12, 13] zq67_S3 (zq67_3_b N) (zq67_s2_b N)
theorem zq67_b (N) : Bk 0 (zq67_C N) (List.range zq67_S4.ks.length) zq67_S4 (zq67_L.drop 0) (fun y => zq67 N y.1.1 y.1.2.1) zq67_K :=
 cG 5 (zq67_1_b N)
def zq67_ctr (N : Nat) : Ctr := ⟨zq67_S4, zq67_S5.un [true, false], 0, (fun y => zq67 N y.1.1 y.1.2.1)⟩
theorem zq67_ok (N : Nat) : COk 69 (zq67_ctr N) :=
 cF (zw2 (Γ := zq67_C N) zw1 (csc (zq32_ok N) (csc (zq53_ok N) csn))) Tryz.func69 Tryz.ntmps69 (zq67_b N)
abbrev zq88_R : Type := ((Unit) × ((List UInt8) × Unit))
def zq88_s2 (N : Nat) (all_3 : (List UInt8)) (at_5 : Int) (state_4 : (List UInt32)) : Option (Lo (((List UInt8) × Int × Unit) × ((List UInt32) × Unit)) ((Unit) × ((List UInt32) × Unit)) zq88_R) :=
 bif (decide (at_5 < (all_3.length : Int))) then
  let x6 := w64 (at_5 + (64 : Int))
  bif decide (0 ≤ at_5) && decide (at_5 ≤ x6) && decide (x6 ≤ (all_3.length : Int)) && true then
  Option.bind (zq67 N state_4 (cut all_3 at_5.toNat x6.toNat)) fun y8 =>
  some (.go ((all_3, (w64 (at_5 + (64 : Int))), ()), (y8.1.1, ())))
  else none
 else
  some (.br ((()), (state_4, ())))
def zq88_s5 (N : Nat) (t_32 : (List UInt32)) (t_33 : Int) (out_6 : (List UInt8)) : Option (Lo (((List UInt32) × Int × Unit) × ((List UInt8) × Unit)) ((Unit) × ((List UInt8) × Unit)) zq88_R) :=
 bif (decide (t_33 < (8 : Int))) then
  bif inR t_33 8 then
  Option.bind (zq115 N (t_32.getD t_33.toNat (0 : UInt32)).toUInt64 (4 : Int) out_6) fun y12 =>
  some (.go ((t_32, (w64 (t_33 + (1 : Int))), ()), (y12.2.1, ())))
  else none
 else
  some (.br ((()), (out_6, ())))
def zq88_6 (N : Nat) (out_6 : (List UInt8)) : Option zq88_R :=
 some ((()), (out_6, ()))
def zq88_4 (N : Nat) (t_32 : (List UInt32)) (t_33 : Int) (out_6 : (List UInt8)) : Option zq88_R :=
 loopK N (fun y => zq88_s5 N y.1.1 y.1.2.1 y.2.1) (fun (e : ((Unit) × ((List UInt8) × Unit))) => zq88_6 N e.2.1) ((t_32, t_33, ()), (out_6, ()))
def zq88_3 (N : Nat) (state_4 : (List UInt32)) : Option zq88_R :=
 zq88_4 N state_4 (0 : Int) ([] : List UInt8)
def zq88_1 (N : Nat) (at_5 : Int) (all_3 : (List UInt8)) (state_4 : (List UInt32)) : Option zq88_R :=
 loopK N (fun y => zq88_s2 N y.1.1 y.1.2.1 y.2.1) (fun (e : ((Unit) × ((List UInt32) × Unit))) => zq88_3 N e.2.1) ((all_3, at_5, ()), (state_4, ()))
def zq88 (N : Nat) (b_0 : (List UInt8)) : Option zq88_R :=
 bif room (0 + b_0.length) 1 then
 Option.bind (zq99 N (b_0.length : Int)) fun y2 =>
 bif room (b_0.length + y2.2.1.length) 1 then
 zq88_1 N (0 : Int) (b_0 ++ y2.2.1) zw1b
 else none
 else none
def zq88_C (N : Nat) := Cx 42 [(68, zq99_ctr N), (69, zq67_ctr N), (67, zq115_ctr N)]
def zq88_S0 : Spec := ⟨[.val (.sl .u8), .ref 0 (.arr 8 .u32), .val .i64], [(.box 84 (.arr 8 .u32), .pos 1)]⟩
def zq88_S1 : Spec := ⟨[.row 0, .val (.arr 8 .u32), .val .i64], [(.row 5 .u8, .pos 0)]⟩
def zq88_S2 : Spec := ⟨[.row 0], [(.row 5 .u8, .pos 0)]⟩
def zq88_S3 : Spec := ⟨[.ref 0 (.arr 8 .u32)], [(.box 84 (.arr 8 .u32), .pos 0)]⟩
def zq88_S4 : Spec := ⟨[.row 0, .ref 1 (.arr 8 .u32), .val .i64], [(.row 5 .u8, .pos 0), (.box 84 (.arr 8 .u32), .pos 1)]⟩
def zq88_S5 : Spec := ⟨[.val (.sl .u8)], []⟩
def zq88_K : XE → GS → Option zq88_R := retK 0 [2] [false] zq88_S2
noncomputable def zq88_L : List Code := (bodyOf (some Tryz.f42))
def zq88_L2 : List Code := (loopOf (zq88_L[4]?))
def zq88_L5 : List Code := (loopOf (zq88_L[7]?))
def zq88_K2 (N : Nat) := roundK (some 0) (fit 0 [3, 4, 5] zq88_S0) (fit 0 [4] zq88_S3) zq88_K
def zq88_K5 (N : Nat) := roundK (some 2) (fit 0 [6, 32, 33] zq88_S1) (fit 0 [6] zq88_S2) zq88_K
theorem zq88_s2_b (N) : Bk 0 (zq88_C N) [3, 4, 5] zq88_S0 (zq88_L2.drop 0) (fun y => zq88_s2 N y.1.1 y.1.2.1 y.2.1) (zq88_K2 N) :=
 cE 4
theorem zq88_s5_b (N) : Bk 0 (zq88_C N) [6, 32, 33] zq88_S1 (zq88_L5.drop 0) (fun y => zq88_s5 N y.1.1 y.1.2.1 y.2.1) (zq88_K5 N) :=
 cE 4
theorem zq88_6_b (N) : Bk 0 (zq88_C N) [6] zq88_S2 (zq88_L.drop 8) (fun y => zq88_6 N y.2.1) zq88_K :=
 cE 2
theorem zq88_4_b (N) : Bk 0 (zq88_C N) [6, 32, 33] zq88_S1 (zq88_L.drop 7) (fun y => zq88_4 N y.1.1 y.1.2.1 y.2.1) zq88_K :=
 lG N zq88_S1 [6] zq88_S2 (zq88_6_b N) (zq88_s5_b N)
theorem zq88_3_b (N) : Bk 0 (zq88_C N) [4] zq88_S3 (zq88_L.drop 5) (fun y => zq88_3 N y.2.1) zq88_K :=
 cG 2 (zq88_4_b N)
theorem zq88_1_b (N) : Bk 0 (zq88_C N) [3, 4, 5] zq88_S4 (zq88_L.drop 4) (fun y => zq88_1 N y.1.1 y.2.1 y.2.2.1) zq88_K :=
 lG N zq88_S0 [4] zq88_S3 (zq88_3_b N) (zq88_s2_b N)
theorem zq88_b (N) : Bk 0 (zq88_C N) (List.range zq88_S5.ks.length) zq88_S5 (zq88_L.drop 0) (fun y => zq88 N y.1.1) zq88_K :=
 cG 4 (zq88_1_b N)
def zq88_ctr (N : Nat) : Ctr := ⟨zq88_S5, zq88_S2.un [false], 0, (fun y => zq88 N y.1.1)⟩
theorem zq88_ok (N : Nat) : COk 42 (zq88_ctr N) :=
 cF (zw2 (Γ := zq88_C N) zw1 (csc (zq99_ok N) (csc (zq67_ok N) (csc (zq115_ok N) csn)))) Tryz.func42 Tryz.ntmps42 (zq88_b N)
abbrev zq39_R : Type := ((Int × Unit) × ((List UInt8) × Unit))
def zq39 (N : Nat) (t_0 : D24) : Option zq39_R :=
 Option.bind (zq38 N t_0) fun y1 =>
 bif (!(decide (y1.1.1 = (0 : Int)))) then
  some ((y1.1.1, ()), (([] : List UInt8), ()))
 else
  Option.bind (zq88 N y1.2.1) fun y3 =>
  some (((0 : Int), ()), (y3.2.1, ()))
def zq39_C (N : Nat) := Cx 16 [(12, zq38_ctr N), (42, zq88_ctr N)]
def zq39_S0 : Spec := ⟨[.val T24], []⟩
def zq39_S1 : Spec := ⟨[.row 0, .val .i64], [(.row 5 .u8, .pos 0)]⟩
def zq39_K : XE → GS → Option zq39_R := retK 0 [2, 3] [false, false] zq39_S1
noncomputable def zq39_L : List Code := (bodyOf (some Tryz.f14))
theorem zq39_b (N) : Bk 0 (zq39_C N) (List.range zq39_S0.ks.length) zq39_S0 (zq39_L.drop 0) (fun y => zq39 N y.1.1) zq39_K :=
 cE 6
def zq39_ctr (N : Nat) : Ctr := ⟨zq39_S0, zq39_S1.un [false, false], 0, (fun y => zq39 N y.1.1)⟩
theorem zq39_ok (N : Nat) : COk 14 (zq39_ctr N) :=
 cF (zw2 (Γ := zq39_C N) zw1 (csc (zq38_ok N) (csc (zq88_ok N) csn))) Tryz.func14 Tryz.ntmps14 (zq39_b N)
abbrev zq52_R : Type := ((Unit) × ((List UInt8) × Unit))
def zq52 (N : Nat) (t_0 : D24) : Option zq52_R :=
 Option.bind (zq39 N t_0) fun y1 =>
 bif (!(decide (y1.1.1 = (0 : Int)))) then
  none
 else
  some ((()), (y1.2.1, ()))
def zq52_C (N : Nat) := Cx 15 [(14, zq39_ctr N)]
def zq52_S0 : Spec := ⟨[.val T24], []⟩
def zq52_S1 : Spec := ⟨[.row 0], [(.row 5 .u8, .pos 0)]⟩
def zq52_K : XE → GS → Option zq52_R := retK 0 [2] [false] zq52_S1
noncomputable def zq52_L : List Code := (bodyOf (some Tryz.f84))
theorem zq52_b (N) : Bk 0 (zq52_C N) (List.range zq52_S0.ks.length) zq52_S0 (zq52_L.drop 0) (fun y => zq52 N y.1.1) zq52_K :=
 cE 6
def zq52_ctr (N : Nat) : Ctr := ⟨zq52_S0, zq52_S1.un [false], 0, (fun y => zq52 N y.1.1)⟩
theorem zq52_ok (N : Nat) : COk 84 (zq52_ctr N) :=
 cF (zw2 (Γ := zq52_C N) zw1 (csc (zq39_ok N) csn)) Tryz.func84 Tryz.ntmps84 (zq52_b N)
abbrev zq17_R : Type := ((Unit) × ((List UInt8) × Unit))
def zq17 (N : Nat) (t_1 : D24) (b_0 : (List UInt8)) : Option zq17_R :=
 Option.bind (zq52 N t_1) fun y1 =>
 bif room (b_0.length + y1.2.1.length) 1 then
 some ((()), ((b_0 ++ y1.2.1), ()))
 else none
def zq17_C (N : Nat) := Cx 9 [(84, zq52_ctr N)]
def zq17_S0 : Spec := ⟨[.row 0, .val T24], [(.row 5 .u8, .pos 0)]⟩
def zq17_S1 : Spec := ⟨[.row 0], [(.row 5 .u8, .pos 0)]⟩
def zq17_K : XE → GS → Option zq17_R := retK 0 [4] [false] zq17_S1
noncomputable def zq17_L : List Code := (bodyOf (some Tryz.f83))
theorem zq17_b (N) : Bk 0 (zq17_C N) (List.range zq17_S0.ks.length) zq17_S0 (zq17_L.drop 0) (fun y => zq17 N y.1.1 y.2.1) zq17_K :=
 cE 3
def zq17_ctr (N : Nat) : Ctr := ⟨zq17_S0, zq17_S1.un [false], 0, (fun y => zq17 N y.1.1 y.2.1)⟩
theorem zq17_ok (N : Nat) : COk 83 (zq17_ctr N) :=
 cF (zw2 (Γ := zq17_C N) zw1 (csc (zq52_ok N) csn)) Tryz.func83 Tryz.ntmps83 (zq17_b N)
abbrev zq21_R : Type := ((Unit) × ((List UInt8) × Unit))
def zq21_s2 (N : Nat) (rc : D24 → Option ((Unit) × ((List UInt8) × Unit))) (t_15 : (List D24)) (t_16 : Int) (t_17 : Int) (b_0 : (List UInt8)) : Option (Lo (((List D24) × Int × Int × Unit) × ((List UInt8) × Unit)) ((Unit) × ((List UInt8) × Unit)) zq21_R) :=
 bif (decide (t_17 < t_16)) then
  bif inR t_17 t_15.length then
  Option.bind (rc (t_15.getD t_17.toNat ((0 : Int), (0 : Int), ([] : List Tree), ()))) fun y9 =>
  Option.bind (zq115 N (iu64 (y9.2.1.length : Int)) (2 : Int) b_0) fun y12 =>
  bif room (y12.2.1.length + y9.2.1.length) 1 then
  some (.go ((t_15, t_16, (w64 (t_17 + (1 : Int))), ()), ((y12.2.1 ++ y9.2.1), ())))
  else none
  else none
 else
  some (.br ((()), (b_0, ())))
def zq21_3 (N : Nat) (rc : D24 → Option ((Unit) × ((List UInt8) × Unit))) (b_0 : (List UInt8)) : Option zq21_R :=
 some ((()), (b_0, ()))
def zq21_1 (N : Nat) (rc : D24 → Option ((Unit) × ((List UInt8) × Unit))) (t_15 : (List D24)) (t_16 : Int) (t_17 : Int) (b_0 : (List UInt8)) : Option zq21_R :=
 loopK N (fun y => zq21_s2 N rc y.1.1 y.1.2.1 y.1.2.2.1 y.2.1) (fun (e : ((Unit) × ((List UInt8) × Unit))) => zq21_3 N rc e.2.1) ((t_15, t_16, t_17, ()), (b_0, ()))
def zq21 (N : Nat) (rc : D24 → Option ((Unit) × ((List UInt8) × Unit))) (t_1 : D24) (b_0 : (List UInt8)) : Option zq21_R :=
 Option.bind (zq115 N (iu64 ((List.map Tree.un t_1.2.2.1).length : Int)) (2 : Int) b_0) fun y4 =>
 let x5 := List.map Tree.un t_1.2.2.1
 zq21_1 N rc x5 (x5.length : Int) (0 : Int) y4.2.1
def zq21_S0 : Spec := ⟨[.row 0, .val (.sl T24), .val .i64, .val .i64], [(.row 5 .u8, .pos 0)]⟩
def zq21_S1 : Spec := ⟨[.row 0], [(.row 5 .u8, .pos 0)]⟩
def zq21_S2 : Spec := ⟨[.row 0, .val T24], [(.row 5 .u8, .pos 0)]⟩
def zq21_S3 : Spec := ⟨[.val T24], []⟩
def zq21_ftr (N : Nat) (rc : D24 → Option ((Unit) × ((List UInt8) × Unit))) : Ctr := ⟨zq21_S3, zq21_S1.un [false], 0, (fun y => rc y.1.1)⟩
def zq21_C (N : Nat) (rc : D24 → Option ((Unit) × ((List UInt8) × Unit))) := Cx 32 [(67, zq115_ctr N), (37, zq21_ftr N rc)]
def zq21_K : XE → GS → Option zq21_R := retK 0 [4] [false] zq21_S1
noncomputable def zq21_L : List Code := (bodyOf (some Tryz.f86))
def zq21_L2 : List Code := (loopOf (zq21_L[3]?))
def zq21_K2 (N : Nat) (rc : D24 → Option ((Unit) × ((List UInt8) × Unit))) := roundK (some 0) (fit 0 [0, 15, 16, 17] zq21_S0) (fit 0 [0] zq21_S1) zq21_K
theorem zq21_s2_b (N) (rc) : Bk 0 (zq21_C N rc) [0, 15, 16, 17] zq21_S0 (zq21_L2.drop 0) (fun y => zq21_s2 N rc y.1.1 y.1.2.1 y.1.2.2.1 y.2.1) (zq21_K2 N rc) :=
 cE 4
theorem zq21_3_b (N) (rc) : Bk 0 (zq21_C N rc) [0] zq21_S1 (zq21_L.drop 4) (fun y => zq21_3 N rc y.2.1) zq21_K :=
 cE 2
theorem zq21_1_b (N) (rc) : Bk 0 (zq21_C N rc) [0, 15, 16, 17] zq21_S0 (zq21_L.drop 3) (fun y => zq21_1 N rc y.1.1 y.1.2.1 y.1.2.2.1 y.2.1) zq21_K :=
 lG N zq21_S0 [0] zq21_S1 (zq21_3_b N rc) (zq21_s2_b N rc)
theorem zq21_b (N) (rc) : Bk 0 (zq21_C N rc) (List.range zq21_S2.ks.length) zq21_S2 (zq21_L.drop 0) (fun y => zq21 N rc y.1.1 y.2.1) zq21_K :=
 cG 3 (zq21_1_b N rc)
def zq21_octr (N : Nat) (rc : D24 → Option ((Unit) × ((List UInt8) × Unit))) : Ctr := ⟨zq21_S2, zq21_S1.un [false], 0, (fun y => zq21 N rc y.1.1 y.2.1)⟩
theorem zq21_ook (N : Nat) (rc : D24 → Option ((Unit) × ((List UInt8) × Unit))) (hf : COk 37 (zq21_ftr N rc))  : COk 86 (zq21_octr N rc) :=
 cF (zw2 (Γ := zq21_C N rc) zw1 (csc (zq115_ok N) (csc hf csn))) Tryz.func86 Tryz.ntmps86 (zq21_b N rc)
abbrev zq25_R : Type := ((UInt64 × Unit) × (Unit))
def zq25 (N : Nat) (t_0 : D24) : Option zq25_R :=
 Option.bind (zq39 N t_0) fun y1 =>
 bif (!(decide (y1.1.1 = (0 : Int)))) then
  some (((1 : UInt64), ()), (()))
 else
  Option.bind (zq82 N y1.2.1 (0 : Int) (8 : Int)) fun y3 =>
  some ((((1 : UInt64) + (y3.1.1 % (2305843009213688668 : UInt64))), ()), (()))
def zq25_C (N : Nat) := Cx 22 [(14, zq39_ctr N), (44, zq82_ctr N)]
def zq25_S0 : Spec := ⟨[.val T24], []⟩
def zq25_S1 : Spec := ⟨[.val .u64], []⟩
def zq25_K : XE → GS → Option zq25_R := retK 0 [2] [false] zq25_S1
noncomputable def zq25_L : List Code := (bodyOf (some Tryz.f17))
theorem zq25_b (N) : Bk 0 (zq25_C N) (List.range zq25_S0.ks.length) zq25_S0 (zq25_L.drop 0) (fun y => zq25 N y.1.1) zq25_K :=
 cE 7
def zq25_ctr (N : Nat) : Ctr := ⟨zq25_S0, zq25_S1.un [false], 0, (fun y => zq25 N y.1.1)⟩
theorem zq25_ok (N : Nat) : COk 17 (zq25_ctr N) :=
 cF (zw2 (Γ := zq25_C N) zw1 (csc (zq39_ok N) (csc (zq82_ok N) csn))) Tryz.func17 Tryz.ntmps17 (zq25_b N)
abbrev zq84_R : Type := ((Bool × Unit) × (Unit))
def zq84 (N : Nat) (secret_0 : UInt64) : Option zq84_R :=
 bif (decide ((1 : UInt64) ≤ secret_0)) then
  some (((decide (secret_0 < (2305843009213688669 : UInt64))), ()), (()))
 else
  some ((false, ()), (()))
def zq84_C (N : Nat) := Cx 9 []
def zq84_S0 : Spec := ⟨[.val .u64], []⟩
def zq84_S1 : Spec := ⟨[.val .bool], []⟩
def zq84_K : XE → GS → Option zq84_R := retK 0 [2] [false] zq84_S1
noncomputable def zq84_L : List Code := (bodyOf (some Tryz.f137))
theorem zq84_b (N) : Bk 0 (zq84_C N) (List.range zq84_S0.ks.length) zq84_S0 (zq84_L.drop 0) (fun y => zq84 N y.1.1) zq84_K :=
 cE 3
def zq84_ctr (N : Nat) : Ctr := ⟨zq84_S0, zq84_S1.un [false], 0, (fun y => zq84 N y.1.1)⟩
theorem zq84_ok (N : Nat) : COk 137 (zq84_ctr N) :=
 cF (zw2 (Γ := zq84_C N) zw1 csn) Tryz.func137 Tryz.ntmps137 (zq84_b N)
abbrev zq41_R : Type := ((UInt64 × UInt64 × Unit) × (Unit))
def zq41 (N : Nat) (x_0 : UInt64) (y_1 : UInt64) : Option zq41_R :=
 let x1 := x_0 &&& (4294967295 : UInt64)
 let x3 := y_1 &&& (4294967295 : UInt64)
 some ((((((shr64 x_0 32) * (shr64 y_1 32)) + (shr64 (((shr64 x_0 32) * x3) + (shr64 (x1 * x3) 32)) 32)) + (shr64 (((((shr64 x_0 32) * x3) + (shr64 (x1 * x3) 32)) &&& (4294967295 : UInt64)) + (x1 * (shr64 y_1 32))) 32)), (x_0 * y_1), ()), (()))
def zq41_C (N : Nat) := Cx 51 []
def zq41_S0 : Spec := ⟨[.val .u64, .val .u64], []⟩
def zq41_K : XE → GS → Option zq41_R := retK 0 [4, 5] [false, false] zq41_S0
noncomputable def zq41_L : List Code := (bodyOf (some Tryz.f154))
theorem zq41_b (N) : Bk 0 (zq41_C N) (List.range zq41_S0.ks.length) zq41_S0 (zq41_L.drop 0) (fun y => zq41 N y.1.1 y.1.2.1) zq41_K :=
 cE 13
def zq41_ctr (N : Nat) : Ctr := ⟨zq41_S0, zq41_S0.un [false, false], 0, (fun y => zq41 N y.1.1 y.1.2.1)⟩
theorem zq41_ok (N : Nat) : COk 154 (zq41_ctr N) :=
 cF (zw2 (Γ := zq41_C N) zw1 csn) Tryz.func154 Tryz.ntmps154 (zq41_b N)
abbrev zq35_R : Type := ((Int × Unit) × (Unit))
def zq35_3 (N : Nat) (x_0 : UInt64) (n_2 : Int) : Option zq35_R :=
 bif inR (x_0.toUInt8.toNat : Int) (([0, 1, 2, 2, 3, 3, 3, 3, 4, 4, 4, 4, 4, 4, 4, 4, 5, 5, 5, 5, 5, 5, 5, 5, 5, 5, 5, 5, 5, 5, 5, 5, 6, 6, 6, 6, 6, 6, 6, 6, 6, 6, 6, 6, 6, 6, 6, 6, 6, 6, 6, 6, 6, 6, 6, 6, 6, 6, 6, 6, 6, 6, 6, 6, 7, 7, 7, 7, 7, 7, 7, 7, 7, 7, 7, 7, 7, 7, 7, 7, 7, 7, 7, 7, 7, 7, 7, 7, 7, 7, 7, 7, 7, 7, 7, 7, 7, 7, 7, 7, 7, 7, 7, 7, 7, 7, 7, 7, 7, 7, 7, 7, 7, 7, 7, 7, 7, 7, 7, 7, 7, 7, 7, 7, 7, 7, 7, 7, 8, 8, 8, 8, 8, 8, 8, 8, 8, 8, 8, 8, 8, 8, 8, 8, 8, 8, 8, 8, 8, 8, 8, 8, 8, 8, 8, 8, 8, 8, 8, 8, 8, 8, 8, 8, 8, 8, 8, 8, 8, 8, 8, 8, 8, 8, 8, 8, 8, 8, 8, 8, 8, 8, 8, 8, 8, 8, 8, 8, 8, 8, 8, 8, 8, 8, 8, 8, 8, 8, 8, 8, 8, 8, 8, 8, 8, 8, 8, 8, 8, 8, 8, 8, 8, 8, 8, 8, 8, 8, 8, 8, 8, 8, 8, 8, 8, 8, 8, 8, 8, 8, 8, 8, 8, 8, 8, 8, 8, 8, 8, 8, 8, 8, 8, 8, 8, 8, 8, 8, 8, 8, 8, 8, 8, 8, 8, 8] : List UInt8).length) then
 some (((w64 (n_2 + ((([0, 1, 2, 2, 3, 3, 3, 3, 4, 4, 4, 4, 4, 4, 4, 4, 5, 5, 5, 5, 5, 5, 5, 5, 5, 5, 5, 5, 5, 5, 5, 5, 6, 6, 6, 6, 6, 6, 6, 6, 6, 6, 6, 6, 6, 6, 6, 6, 6, 6, 6, 6, 6, 6, 6, 6, 6, 6, 6, 6, 6, 6, 6, 6, 7, 7, 7, 7, 7, 7, 7, 7, 7, 7, 7, 7, 7, 7, 7, 7, 7, 7, 7, 7, 7, 7, 7, 7, 7, 7, 7, 7, 7, 7, 7, 7, 7, 7, 7, 7, 7, 7, 7, 7, 7, 7, 7, 7, 7, 7, 7, 7, 7, 7, 7, 7, 7, 7, 7, 7, 7, 7, 7, 7, 7, 7, 7, 7, 8, 8, 8, 8, 8, 8, 8, 8, 8, 8, 8, 8, 8, 8, 8, 8, 8, 8, 8, 8, 8, 8, 8, 8, 8, 8, 8, 8, 8, 8, 8, 8, 8, 8, 8, 8, 8, 8, 8, 8, 8, 8, 8, 8, 8, 8, 8, 8, 8, 8, 8, 8, 8, 8, 8, 8, 8, 8, 8, 8, 8, 8, 8, 8, 8, 8, 8, 8, 8, 8, 8, 8, 8, 8, 8, 8, 8, 8, 8, 8, 8, 8, 8, 8, 8, 8, 8, 8, 8, 8, 8, 8, 8, 8, 8, 8, 8, 8, 8, 8, 8, 8, 8, 8, 8, 8, 8, 8, 8, 8, 8, 8, 8, 8, 8, 8, 8, 8, 8, 8, 8, 8, 8, 8, 8, 8, 8, 8] : List UInt8).getD ((x_0.toUInt8.toNat : Int).toNat) 0).toNat : Int))), ()), (()))
 else none
def zq35_2 (N : Nat) (x_0 : UInt64) (n_2 : Int) : Option zq35_R :=
 bif (decide ((256 : UInt64) ≤ x_0)) then
  zq35_3 N (shr64 x_0 8) (w64 (n_2 + (8 : Int)))
 else
  zq35_3 N x_0 n_2
def zq35_1 (N : Nat) (x_0 : UInt64) (n_2 : Int) : Option zq35_R :=
 bif (decide ((65536 : UInt64) ≤ x_0)) then
  zq35_2 N (shr64 x_0 16) (w64 (n_2 + (16 : Int)))
 else
  zq35_2 N x_0 n_2
def zq35 (N : Nat) (x_0 : UInt64) : Option zq35_R :=
 bif (decide ((4294967296 : UInt64) ≤ x_0)) then
  zq35_1 N (shr64 x_0 32) (32 : Int)
 else
  zq35_1 N x_0 (0 : Int)
def zq35_C (N : Nat) := Cx 25 []
def zq35_S0 : Spec := ⟨[.val .u64, .val .i64], []⟩
def zq35_S1 : Spec := ⟨[.val .u64], []⟩
def zq35_S2 : Spec := ⟨[.val .i64], []⟩
def zq35_K : XE → GS → Option zq35_R := retK 0 [2] [false] zq35_S2
noncomputable def zq35_L : List Code := (bodyOf (some Tryz.f158))
theorem zq35_3_b (N) : Bk 0 (zq35_C N) [0, 2] zq35_S0 (zq35_L.drop 7) (fun y => zq35_3 N y.1.1 y.1.2.1) zq35_K :=
 cE 2
theorem zq35_2_b (N) : Bk 0 (zq35_C N) [0, 2] zq35_S0 (zq35_L.drop 5) (fun y => zq35_2 N y.1.1 y.1.2.1) zq35_K :=
 cG 2 (zq35_3_b N)
theorem zq35_1_b (N) : Bk 0 (zq35_C N) [0, 2] zq35_S0 (zq35_L.drop 3) (fun y => zq35_1 N y.1.1 y.1.2.1) zq35_K :=
 cG 2 (zq35_2_b N)
theorem zq35_b (N) : Bk 0 (zq35_C N) (List.range zq35_S1.ks.length) zq35_S1 (zq35_L.drop 0) (fun y => zq35 N y.1.1) zq35_K :=
 cG 3 (zq35_1_b N)
def zq35_ctr (N : Nat) : Ctr := ⟨zq35_S1, zq35_S2.un [false], 0, (fun y => zq35 N y.1.1)⟩
theorem zq35_ok (N : Nat) : COk 158 (zq35_ctr N) :=
 cF (zw2 (Γ := zq35_C N) zw1 csn) Tryz.func158 Tryz.ntmps158 (zq35_b N)
abbrev zq2_R : Type := ((Int × Unit) × (Unit))
def zq2 (N : Nat) (x_0 : UInt64) : Option zq2_R :=
 Option.bind (zq35 N x_0) fun y1 =>
 some (((w64 ((64 : Int) - y1.1.1)), ()), (()))
def zq2_C (N : Nat) := Cx 6 [(158, zq35_ctr N)]
def zq2_S0 : Spec := ⟨[.val .u64], []⟩
def zq2_S1 : Spec := ⟨[.val .i64], []⟩
def zq2_K : XE → GS → Option zq2_R := retK 0 [2] [false] zq2_S1
noncomputable def zq2_L : List Code := (bodyOf (some Tryz.f157))
theorem zq2_b (N) : Bk 0 (zq2_C N) (List.range zq2_S0.ks.length) zq2_S0 (zq2_L.drop 0) (fun y => zq2 N y.1.1) zq2_K :=
 cE 3
def zq2_ctr (N : Nat) : Ctr := ⟨zq2_S0, zq2_S1.un [false], 0, (fun y => zq2 N y.1.1)⟩
theorem zq2_ok (N : Nat) : COk 157 (zq2_ctr N) :=
 cF (zw2 (Γ := zq2_C N) zw1 (csc (zq35_ok N) csn)) Tryz.func157 Tryz.ntmps157 (zq2_b N)
abbrev zq31_R : Type := ((UInt64 × UInt64 × Unit) × (Unit))
def zq31_5 (N : Nat) (y_2 : UInt64) (s_8 : UInt64) (yn1_9 : UInt64) (yn0_10 : UInt64) (un32_11 : UInt64) (un1_13 : UInt64) (un0_14 : UInt64) (q1_15 : UInt64) (rhat_16 : UInt64) (t_78 : Bool) : Option (Lo ((UInt64 × UInt64 × UInt64 × UInt64 × UInt64 × UInt64 × UInt64 × UInt64 × UInt64 × Unit) × (Unit)) ((UInt64 × UInt64 × UInt64 × UInt64 × UInt64 × UInt64 × UInt64 × UInt64 × Unit) × (Unit)) zq31_R) :=
 bif t_78 then
  let x22 := q1_15 - (1 : UInt64)
  let x23 := rhat_16 + yn1_9
  bif (decide ((4294967296 : UInt64) ≤ x23)) then
   some (.br ((y_2, s_8, yn1_9, yn0_10, un32_11, un1_13, un0_14, x22, ()), (())))
  else
   some (.go ((y_2, s_8, yn1_9, yn0_10, un32_11, un1_13, un0_14, x22, x23, ()), (())))
 else
  some (.br ((y_2, s_8, yn1_9, yn0_10, un32_11, un1_13, un0_14, q1_15, ()), (())))
def zq31_s4 (N : Nat) (y_2 : UInt64) (s_8 : UInt64) (yn1_9 : UInt64) (yn0_10 : UInt64) (un32_11 : UInt64) (un1_13 : UInt64) (un0_14 : UInt64) (q1_15 : UInt64) (rhat_16 : UInt64) : Option (Lo ((UInt64 × UInt64 × UInt64 × UInt64 × UInt64 × UInt64 × UInt64 × UInt64 × UInt64 × Unit) × (Unit)) ((UInt64 × UInt64 × UInt64 × UInt64 × UInt64 × UInt64 × UInt64 × UInt64 × Unit) × (Unit)) zq31_R) :=
 bif (decide ((4294967296 : UInt64) ≤ q1_15)) then
  zq31_5 N y_2 s_8 yn1_9 yn0_10 un32_11 un1_13 un0_14 q1_15 rhat_16 true
 else
  zq31_5 N y_2 s_8 yn1_9 yn0_10 un32_11 un1_13 un0_14 q1_15 rhat_16 (decide ((((4294967296 : UInt64) * rhat_16) + un1_13) < (q1_15 * yn0_10)))
def zq31_9 (N : Nat) (y_2 : UInt64) (s_8 : UInt64) (yn1_9 : UInt64) (yn0_10 : UInt64) (un0_14 : UInt64) (q1_15 : UInt64) (rhat_16 : UInt64) (un21_17 : UInt64) (q0_18 : UInt64) (t_113 : Bool) : Option (Lo ((UInt64 × UInt64 × UInt64 × UInt64 × UInt64 × UInt64 × UInt64 × UInt64 × UInt64 × Unit) × (Unit)) ((UInt64 × UInt64 × UInt64 × UInt64 × UInt64 × UInt64 × Unit) × (Unit)) zq31_R) :=
 bif t_113 then
  let x37 := q0_18 - (1 : UInt64)
  let x38 := rhat_16 + yn1_9
  bif (decide ((4294967296 : UInt64) ≤ x38)) then
   some (.br ((y_2, s_8, un0_14, q1_15, un21_17, x37, ()), (())))
  else
   some (.go ((y_2, s_8, yn1_9, yn0_10, un0_14, q1_15, x38, un21_17, x37, ()), (())))
 else
  some (.br ((y_2, s_8, un0_14, q1_15, un21_17, q0_18, ()), (())))
def zq31_s8 (N : Nat) (y_2 : UInt64) (s_8 : UInt64) (yn1_9 : UInt64) (yn0_10 : UInt64) (un0_14 : UInt64) (q1_15 : UInt64) (rhat_16 : UInt64) (un21_17 : UInt64) (q0_18 : UInt64) : Option (Lo ((UInt64 × UInt64 × UInt64 × UInt64 × UInt64 × UInt64 × UInt64 × UInt64 × UInt64 × Unit) × (Unit)) ((UInt64 × UInt64 × UInt64 × UInt64 × UInt64 × UInt64 × Unit) × (Unit)) zq31_R) :=
 bif (decide ((4294967296 : UInt64) ≤ q0_18)) then
  zq31_9 N y_2 s_8 yn1_9 yn0_10 un0_14 q1_15 rhat_16 un21_17 q0_18 true
 else
  zq31_9 N y_2 s_8 yn1_9 yn0_10 un0_14 q1_15 rhat_16 un21_17 q0_18 (decide ((((4294967296 : UInt64) * rhat_16) + un0_14) < (q0_18 * yn0_10)))
def zq31_10 (N : Nat) (y_2 : UInt64) (s_8 : UInt64) (un0_14 : UInt64) (q1_15 : UInt64) (un21_17 : UInt64) (q0_18 : UInt64) : Option zq31_R :=
 some ((((q1_15 * (4294967296 : UInt64)) + q0_18), (shr64 (((un21_17 * (4294967296 : UInt64)) + un0_14) - (q0_18 * y_2)) s_8.toNat), ()), (()))
def zq31_7 (N : Nat) (y_2 : UInt64) (s_8 : UInt64) (yn1_9 : UInt64) (yn0_10 : UInt64) (un0_14 : UInt64) (q1_15 : UInt64) (rhat_16 : UInt64) (un21_17 : UInt64) (q0_18 : UInt64) : Option zq31_R :=
 loopK N (fun y => zq31_s8 N y.1.1 y.1.2.1 y.1.2.2.1 y.1.2.2.2.1 y.1.2.2.2.2.1 y.1.2.2.2.2.2.1 y.1.2.2.2.2.2.2.1 y.1.2.2.2.2.2.2.2.1 y.1.2.2.2.2.2.2.2.2.1) (fun (e : ((UInt64 × UInt64 × UInt64 × UInt64 × UInt64 × UInt64 × Unit) × (Unit))) => zq31_10 N e.1.1 e.1.2.1 e.1.2.2.1 e.1.2.2.2.1 e.1.2.2.2.2.1 e.1.2.2.2.2.2.1) ((y_2, s_8, yn1_9, yn0_10, un0_14, q1_15, rhat_16, un21_17, q0_18, ()), (()))
def zq31_6 (N : Nat) (y_2 : UInt64) (s_8 : UInt64) (yn1_9 : UInt64) (yn0_10 : UInt64) (un32_11 : UInt64) (un1_13 : UInt64) (un0_14 : UInt64) (q1_15 : UInt64) : Option zq31_R :=
 let x29 := un32_11 * (4294967296 : UInt64)
 bif !(decide (yn1_9 = 0)) then
 zq31_7 N y_2 s_8 yn1_9 yn0_10 un0_14 q1_15 (((x29 + un1_13) - (q1_15 * y_2)) - ((((x29 + un1_13) - (q1_15 * y_2)) / yn1_9) * yn1_9)) ((x29 + un1_13) - (q1_15 * y_2)) (((x29 + un1_13) - (q1_15 * y_2)) / yn1_9)
 else none
def zq31_3 (N : Nat) (y_2 : UInt64) (s_8 : UInt64) (yn1_9 : UInt64) (yn0_10 : UInt64) (un32_11 : UInt64) (un1_13 : UInt64) (un0_14 : UInt64) (q1_15 : UInt64) (rhat_16 : UInt64) : Option zq31_R :=
 loopK N (fun y => zq31_s4 N y.1.1 y.1.2.1 y.1.2.2.1 y.1.2.2.2.1 y.1.2.2.2.2.1 y.1.2.2.2.2.2.1 y.1.2.2.2.2.2.2.1 y.1.2.2.2.2.2.2.2.1 y.1.2.2.2.2.2.2.2.2.1) (fun (e : ((UInt64 × UInt64 × UInt64 × UInt64 × UInt64 × UInt64 × UInt64 × UInt64 × Unit) × (Unit))) => zq31_6 N e.1.1 e.1.2.1 e.1.2.2.1 e.1.2.2.2.1 e.1.2.2.2.2.1 e.1.2.2.2.2.2.1 e.1.2.2.2.2.2.2.1 e.1.2.2.2.2.2.2.2.1) ((y_2, s_8, yn1_9, yn0_10, un32_11, un1_13, un0_14, q1_15, rhat_16, ()), (()))
def zq31_2 (N : Nat) (hi_0 : UInt64) (lo_1 : UInt64) (y_2 : UInt64) : Option zq31_R :=
 bif (decide (hi_0 = (0 : UInt64))) then
  bif !(decide (y_2 = 0)) then
  bif !(decide (y_2 = 0)) then
  some (((lo_1 / y_2), (lo_1 % y_2), ()), (()))
  else none
  else none
 else
  Option.bind (zq2 N y_2) fun y6 =>
  let x8 := shl64 y_2 (iu64 y6.1.1).toNat
  let x11 := shl64 hi_0 (iu64 y6.1.1).toNat
  let x13 := shr64 lo_1 ((64 : UInt64) - (iu64 y6.1.1)).toNat
  let x15 := shl64 lo_1 (iu64 y6.1.1).toNat
  bif !(decide ((shr64 x8 32) = 0)) then
  zq31_3 N x8 (iu64 y6.1.1) (shr64 x8 32) (x8 &&& (4294967295 : UInt64)) (x11 ||| x13) (shr64 x15 32) (x15 &&& (4294967295 : UInt64)) ((x11 ||| x13) / (shr64 x8 32)) ((x11 ||| x13) - (((x11 ||| x13) / (shr64 x8 32)) * (shr64 x8 32)))
  else none
def zq31_1 (N : Nat) (hi_0 : UInt64) (lo_1 : UInt64) (y_2 : UInt64) : Option zq31_R :=
 bif (decide (y_2 ≤ hi_0)) then
  none
 else
  zq31_2 N hi_0 lo_1 y_2
def zq31 (N : Nat) (hi_0 : UInt64) (lo_1 : UInt64) (y_2 : UInt64) : Option zq31_R :=
 bif (decide (y_2 = (0 : UInt64))) then
  none
 else
  zq31_1 N hi_0 lo_1 y_2
def zq31_C (N : Nat) := Cx 135 [(157, zq2_ctr N)]
def zq31_S0 : Spec := ⟨[.val .u64, .val .u64, .val .u64, .val .u64, .val .u64, .val .u64, .val .u64, .val .u64, .val .u64, .val .bool], []⟩
def zq31_S1 : Spec := ⟨[.val .u64, .val .u64, .val .u64, .val .u64, .val .u64, .val .u64, .val .u64, .val .u64, .val .u64], []⟩
def zq31_S2 : Spec := ⟨[.val .u64, .val .u64, .val .u64, .val .u64, .val .u64, .val .u64], []⟩
def zq31_S3 : Spec := ⟨[.val .u64, .val .u64, .val .u64, .val .u64, .val .u64, .val .u64, .val .u64, .val .u64], []⟩
def zq31_S4 : Spec := ⟨[.val .u64, .val .u64, .val .u64], []⟩
def zq31_S5 : Spec := ⟨[.val .u64, .val .u64], []⟩
def zq31_K : XE → GS → Option zq31_R := retK 0 [6, 7] [false, false] zq31_S5
noncomputable def zq31_L : List Code := (bodyOf (some Tryz.f155))
def zq31_L4 : List Code := (loopOf (zq31_L[17]?))
def zq31_L8 : List Code := (loopOf (zq31_L[21]?))
def zq31_K4 (N : Nat) := roundK (some 0) (fit 0 [2, 8, 9, 10, 11, 13, 14, 15, 16] zq31_S1) (fit 0 [2, 8, 9, 10, 11, 13, 14, 15] zq31_S3) zq31_K
def zq31_K8 (N : Nat) := roundK (some 2) (fit 0 [2, 8, 9, 10, 14, 15, 16, 17, 18] zq31_S1) (fit 0 [2, 8, 14, 15, 17, 18] zq31_S2) zq31_K
theorem zq31_5_b (N) : Bk 0 (zq31_C N) [2, 8, 9, 10, 11, 13, 14, 15, 16, 78] zq31_S0 (zq31_L4.drop 1) (fun y => zq31_5 N y.1.1 y.1.2.1 y.1.2.2.1 y.1.2.2.2.1 y.1.2.2.2.2.1 y.1.2.2.2.2.2.1 y.1.2.2.2.2.2.2.1 y.1.2.2.2.2.2.2.2.1 y.1.2.2.2.2.2.2.2.2.1 y.1.2.2.2.2.2.2.2.2.2.1) (zq31_K4 N) :=
 cE 2
theorem zq31_s4_b (N) : Bk 0 (zq31_C N) [2, 8, 9, 10, 11, 13, 14, 15, 16] zq31_S1 (zq31_L4.drop 0) (fun y => zq31_s4 N y.1.1 y.1.2.1 y.1.2.2.1 y.1.2.2.2.1 y.1.2.2.2.2.1 y.1.2.2.2.2.2.1 y.1.2.2.2.2.2.2.1 y.1.2.2.2.2.2.2.2.1 y.1.2.2.2.2.2.2.2.2.1) (zq31_K4 N) :=
 cG 1 (zq31_5_b N)
theorem zq31_9_b (N) : Bk 0 (zq31_C N) [2, 8, 9, 10, 14, 15, 16, 17, 18, 113] zq31_S0 (zq31_L8.drop 1) (fun y => zq31_9 N y.1.1 y.1.2.1 y.1.2.2.1 y.1.2.2.2.1 y.1.2.2.2.2.1 y.1.2.2.2.2.2.1 y.1.2.2.2.2.2.2.1 y.1.2.2.2.2.2.2.2.1 y.1.2.2.2.2.2.2.2.2.1 y.1.2.2.2.2.2.2.2.2.2.1) (zq31_K8 N) :=
 cE 2
theorem zq31_s8_b (N) : Bk 0 (zq31_C N) [2, 8, 9, 10, 14, 15, 16, 17, 18] zq31_S1 (zq31_L8.drop 0) (fun y => zq31_s8 N y.1.1 y.1.2.1 y.1.2.2.1 y.1.2.2.2.1 y.1.2.2.2.2.1 y.1.2.2.2.2.2.1 y.1.2.2.2.2.2.2.1 y.1.2.2.2.2.2.2.2.1 y.1.2.2.2.2.2.2.2.2.1) (zq31_K8 N) :=
 cG 1 (zq31_9_b N)
theorem zq31_10_b (N) : Bk 0 (zq31_C N) [2, 8, 14, 15, 17, 18] zq31_S2 (zq31_L.drop 22) (fun y => zq31_10 N y.1.1 y.1.2.1 y.1.2.2.1 y.1.2.2.2.1 y.1.2.2.2.2.1 y.1.2.2.2.2.2.1) zq31_K :=
 cE 2
theorem zq31_7_b (N) : Bk 0 (zq31_C N) [2, 8, 9, 10, 14, 15, 16, 17, 18] zq31_S1 (zq31_L.drop 21) (fun y => zq31_7 N y.1.1 y.1.2.1 y.1.2.2.1 y.1.2.2.2.1 y.1.2.2.2.2.1 y.1.2.2.2.2.2.1 y.1.2.2.2.2.2.2.1 y.1.2.2.2.2.2.2.2.1 y.1.2.2.2.2.2.2.2.2.1) zq31_K :=
 lG N zq31_S1 [2, 8, 14, 15, 17, 18] zq31_S2 (zq31_10_b N) (zq31_s8_b N)
theorem zq31_6_b (N) : Bk 0 (zq31_C N) [2, 8, 9, 10, 11, 13, 14, 15] zq31_S3 (zq31_L.drop 18) (fun y => zq31_6 N y.1.1 y.1.2.1 y.1.2.2.1 y.1.2.2.2.1 y.1.2.2.2.2.1 y.1.2.2.2.2.2.1 y.1.2.2.2.2.2.2.1 y.1.2.2.2.2.2.2.2.1) zq31_K :=
 cG 3 (zq31_7_b N)
theorem zq31_3_b (N) : Bk 0 (zq31_C N) [2, 8, 9, 10, 11, 13, 14, 15, 16] zq31_S1 (zq31_L.drop 17) (fun y => zq31_3 N y.1.1 y.1.2.1 y.1.2.2.1 y.1.2.2.2.1 y.1.2.2.2.2.1 y.1.2.2.2.2.2.1 y.1.2.2.2.2.2.2.1 y.1.2.2.2.2.2.2.2.1 y.1.2.2.2.2.2.2.2.2.1) zq31_K :=
 lG N zq31_S1 [2, 8, 9, 10, 11, 13, 14, 15] zq31_S3 (zq31_6_b N) (zq31_s4_b N)
theorem zq31_2_b (N) : Bk 0 (zq31_C N) [0, 1, 2] zq31_S4 (zq31_L.drop 5) (fun y => zq31_2 N y.1.1 y.1.2.1 y.1.2.2.1) zq31_K :=
 cG 12 (zq31_3_b N)
theorem zq31_1_b (N) : Bk 0 (zq31_C N) [0, 1, 2] zq31_S4 (zq31_L.drop 3) (fun y => zq31_1 N y.1.1 y.1.2.1 y.1.2.2.1) zq31_K :=
 cG 2 (zq31_2_b N)
theorem zq31_b (N) : Bk 0 (zq31_C N) (List.range zq31_S4.ks.length) zq31_S4 (zq31_L.drop 0) (fun y => zq31 N y.1.1 y.1.2.1 y.1.2.2.1) zq31_K :=
 cG 3 (zq31_1_b N)
def zq31_ctr (N : Nat) : Ctr := ⟨zq31_S4, zq31_S5.un [false, false], 0, (fun y => zq31 N y.1.1 y.1.2.1 y.1.2.2.1)⟩
theorem zq31_ok (N : Nat) : COk 155 (zq31_ctr N) :=
 cF (zw2 (Γ := zq31_C N) zw1 (csc (zq2_ok N) csn)) Tryz.func155 Tryz.ntmps155 (zq31_b N)
abbrev zq107_R : Type := ((UInt64 × Unit) × (Unit))
def zq107 (N : Nat) (a_0 : UInt64) (b_1 : UInt64) : Option zq107_R :=
 Option.bind (zq41 N (a_0 % (4611686018427377339 : UInt64)) (b_1 % (4611686018427377339 : UInt64))) fun y3 =>
 Option.bind (zq31 N y3.1.1 y3.1.2.1 (4611686018427377339 : UInt64)) fun y4 =>
 some ((y4.1.2.1, ()), (()))
def zq107_C (N : Nat) := Cx 24 [(154, zq41_ctr N), (155, zq31_ctr N)]
def zq107_S0 : Spec := ⟨[.val .u64, .val .u64], []⟩
def zq107_S1 : Spec := ⟨[.val .u64], []⟩
def zq107_K : XE → GS → Option zq107_R := retK 0 [4] [false] zq107_S1
noncomputable def zq107_L : List Code := (bodyOf (some Tryz.f145))
theorem zq107_b (N) : Bk 0 (zq107_C N) (List.range zq107_S0.ks.length) zq107_S0 (zq107_L.drop 0) (fun y => zq107 N y.1.1 y.1.2.1) zq107_K :=
 cE 5
def zq107_ctr (N : Nat) : Ctr := ⟨zq107_S0, zq107_S1.un [false], 0, (fun y => zq107 N y.1.1 y.1.2.1)⟩
theorem zq107_ok (N : Nat) : COk 145 (zq107_ctr N) :=
 cF (zw2 (Γ := zq107_C N) zw1 (csc (zq41_ok N) (csc (zq31_ok N) csn))) Tryz.func145 Tryz.ntmps145 (zq107_b N)
abbrev zq73_R : Type := ((UInt64 × Unit) × (Unit))
def zq73_s2 (N : Nat) (a_0 : UInt64) (e_1 : UInt64) (r_5 : UInt64) : Option (Lo ((UInt64 × UInt64 × UInt64 × Unit) × (Unit)) ((UInt64 × Unit) × (Unit)) zq73_R) :=
 bif (decide ((0 : UInt64) < e_1)) then
  bif (decide ((e_1 &&& (1 : UInt64)) = (1 : UInt64))) then
   Option.bind (zq107 N r_5 a_0) fun y4 =>
   Option.bind (zq107 N a_0 a_0) fun y5 =>
   some (.go ((y5.1.1, (shr64 e_1 1), y4.1.1, ()), (())))
  else
   Option.bind (zq107 N a_0 a_0) fun y7 =>
   some (.go ((y7.1.1, (shr64 e_1 1), r_5, ()), (())))
 else
  some (.br ((r_5, ()), (())))
def zq73_3 (N : Nat) (r_5 : UInt64) : Option zq73_R :=
 some ((r_5, ()), (()))
def zq73_1 (N : Nat) (a_0 : UInt64) (e_1 : UInt64) (r_5 : UInt64) : Option zq73_R :=
 loopK N (fun y => zq73_s2 N y.1.1 y.1.2.1 y.1.2.2.1) (fun (e : ((UInt64 × Unit) × (Unit))) => zq73_3 N e.1.1) ((a_0, e_1, r_5, ()), (()))
def zq73 (N : Nat) (a_0 : UInt64) (e_1 : UInt64) : Option zq73_R :=
 zq73_1 N a_0 e_1 (1 : UInt64)
def zq73_C (N : Nat) := Cx 20 [(145, zq107_ctr N)]
def zq73_S0 : Spec := ⟨[.val .u64, .val .u64, .val .u64], []⟩
def zq73_S1 : Spec := ⟨[.val .u64], []⟩
def zq73_S2 : Spec := ⟨[.val .u64, .val .u64], []⟩
def zq73_K : XE → GS → Option zq73_R := retK 0 [4] [false] zq73_S1
noncomputable def zq73_L : List Code := (bodyOf (some Tryz.f138))
def zq73_L2 : List Code := (loopOf (zq73_L[2]?))
def zq73_K2 (N : Nat) := roundK (some 0) (fit 0 [0, 1, 5] zq73_S0) (fit 0 [5] zq73_S1) zq73_K
theorem zq73_s2_b (N) : Bk 0 (zq73_C N) [0, 1, 5] zq73_S0 (zq73_L2.drop 0) (fun y => zq73_s2 N y.1.1 y.1.2.1 y.1.2.2.1) (zq73_K2 N) :=
 cE 4
theorem zq73_3_b (N) : Bk 0 (zq73_C N) [5] zq73_S1 (zq73_L.drop 3) (fun y => zq73_3 N y.1.1) zq73_K :=
 cE 2
theorem zq73_1_b (N) : Bk 0 (zq73_C N) [0, 1, 5] zq73_S0 (zq73_L.drop 2) (fun y => zq73_1 N y.1.1 y.1.2.1 y.1.2.2.1) zq73_K :=
 lG N zq73_S0 [5] zq73_S1 (zq73_3_b N) (zq73_s2_b N)
theorem zq73_b (N) : Bk 0 (zq73_C N) (List.range zq73_S2.ks.length) zq73_S2 (zq73_L.drop 0) (fun y => zq73 N y.1.1 y.1.2.1) zq73_K :=
 cG 2 (zq73_1_b N)
def zq73_ctr (N : Nat) : Ctr := ⟨zq73_S2, zq73_S1.un [false], 0, (fun y => zq73 N y.1.1 y.1.2.1)⟩
theorem zq73_ok (N : Nat) : COk 138 (zq73_ctr N) :=
 cF (zw2 (Γ := zq73_C N) zw1 (csc (zq107_ok N) csn)) Tryz.func138 Tryz.ntmps138 (zq73_b N)
abbrev zq55_R : Type := ((UInt64 × Int × Unit) × (Unit))
def zq55 (N : Nat) (secret_0 : UInt64) : Option zq55_R :=
 Option.bind (zq84 N secret_0) fun y1 =>
 bif (!y1.1.1) then
  some (((0 : UInt64), (13 : Int), ()), (()))
 else
  Option.bind (zq73 N (4 : UInt64) secret_0) fun y3 =>
  some ((y3.1.1, (0 : Int), ()), (()))
def zq55_C (N : Nat) := Cx 9 [(137, zq84_ctr N), (138, zq73_ctr N)]
def zq55_S0 : Spec := ⟨[.val .u64], []⟩
def zq55_S1 : Spec := ⟨[.val .u64, .val .i64], []⟩
def zq55_K : XE → GS → Option zq55_R := retK 0 [2, 3] [false, false] zq55_S1
noncomputable def zq55_L : List Code := (bodyOf (some Tryz.f124))
theorem zq55_b (N) : Bk 0 (zq55_C N) (List.range zq55_S0.ks.length) zq55_S0 (zq55_L.drop 0) (fun y => zq55 N y.1.1) zq55_K :=
 cE 5
def zq55_ctr (N : Nat) : Ctr := ⟨zq55_S0, zq55_S1.un [false, false], 0, (fun y => zq55 N y.1.1)⟩
theorem zq55_ok (N : Nat) : COk 124 (zq55_ctr N) :=
 cF (zw2 (Γ := zq55_C N) zw1 (csc (zq84_ok N) (csc (zq73_ok N) csn))) Tryz.func124 Tryz.ntmps124 (zq55_b N)
abbrev zq28_R : Type := ((UInt64 × Unit) × (Unit))
def zq28 (N : Nat) (exponent_0 : D24) : Option zq28_R :=
 Option.bind (zq25 N exponent_0) fun y1 =>
 Option.bind (zq55 N y1.1.1) fun y2 =>
 some ((y2.1.1, ()), (()))
def zq28_C (N : Nat) := Cx 12 [(17, zq25_ctr N), (124, zq55_ctr N)]
def zq28_S0 : Spec := ⟨[.val T24], []⟩
def zq28_S1 : Spec := ⟨[.val .u64], []⟩
def zq28_K : XE → GS → Option zq28_R := retK 0 [2] [false] zq28_S1
noncomputable def zq28_L : List Code := (bodyOf (some Tryz.f108))
theorem zq28_b (N) : Bk 0 (zq28_C N) (List.range zq28_S0.ks.length) zq28_S0 (zq28_L.drop 0) (fun y => zq28 N y.1.1) zq28_K :=
 cE 4
def zq28_ctr (N : Nat) : Ctr := ⟨zq28_S0, zq28_S1.un [false], 0, (fun y => zq28 N y.1.1)⟩
theorem zq28_ok (N : Nat) : COk 108 (zq28_ctr N) :=
 cF (zw2 (Γ := zq28_C N) zw1 (csc (zq25_ok N) (csc (zq55_ok N) csn))) Tryz.func108 Tryz.ntmps108 (zq28_b N)
abbrev zq11_R : Type := ((Unit) × ((List UInt8) × Unit))
def zq11_1 (N : Nat) (owner_5 : Int) (b_0 : (List UInt8)) (t_3 : D24) : Option zq11_R :=
 Option.bind (zq115 N (iu64 owner_5) (8 : Int) b_0) fun y7 =>
 let x8 := List.map Tree.un t_3.2.2.1
 bif inR (0 : Int) x8.length then
 Option.bind (zq28 N (x8.getD 0 ((0 : Int), (0 : Int), ([] : List Tree), ()))) fun y10 =>
 Option.bind (zq115 N y10.1.1 (8 : Int) y7.2.1) fun y11 =>
 some ((()), (y11.2.1, ()))
 else none
def zq11 (N : Nat) (t_1 : D24) (b_0 : (List UInt8)) : Option zq11_R :=
 let x1 := List.map Tree.un t_1.2.2.1
 bif inR (0 : Int) x1.length then
 bif (decide ((x1.getD 0 ((0 : Int), (0 : Int), ([] : List Tree), ())).1 = (2 : Int))) then
  let x4 := List.map Tree.un t_1.2.2.1
  bif inR (0 : Int) x4.length then
  zq11_1 N (x4.getD 0 ((0 : Int), (0 : Int), ([] : List Tree), ())).2.1 b_0 t_1
  else none
 else
  zq11_1 N (0 : Int) b_0 t_1
 else none
def zq11_C (N : Nat) := Cx 27 [(67, zq115_ctr N), (108, zq28_ctr N)]
def zq11_S0 : Spec := ⟨[.row 0, .ref 1 T24, .val .i64], [(.row 5 .u8, .pos 0), (.box 24 T24, .pos 1)]⟩
def zq11_S1 : Spec := ⟨[.row 0, .val T24], [(.row 5 .u8, .pos 0)]⟩
def zq11_S2 : Spec := ⟨[.row 0], [(.row 5 .u8, .pos 0)]⟩
def zq11_K : XE → GS → Option zq11_R := retK 0 [4] [false] zq11_S2
noncomputable def zq11_L : List Code := (bodyOf (some Tryz.f87))
theorem zq11_1_b (N) : Bk 0 (zq11_C N) [0, 3, 5] zq11_S0 (zq11_L.drop 4) (fun y => zq11_1 N y.1.1 y.2.1 y.2.2.1) zq11_K :=
 cE 2
theorem zq11_b (N) : Bk 0 (zq11_C N) (List.range zq11_S1.ks.length) zq11_S1 (zq11_L.drop 0) (fun y => zq11 N y.1.1 y.2.1) zq11_K :=
 cG 4 (zq11_1_b N)
def zq11_ctr (N : Nat) : Ctr := ⟨zq11_S1, zq11_S2.un [false], 0, (fun y => zq11 N y.1.1 y.2.1)⟩
theorem zq11_ok (N : Nat) : COk 87 (zq11_ctr N) :=
 cF (zw2 (Γ := zq11_C N) zw1 (csc (zq115_ok N) (csc (zq28_ok N) csn))) Tryz.func87 Tryz.ntmps87 (zq11_b N)
abbrev zq74_R : Type := ((Unit) × ((List UInt8) × Unit))
def zq74_s2 (N : Nat) (mask_0 : UInt8) (b_1 : (List UInt8)) (t_9 : (List UInt8)) (t_10 : Int) (l_6 : (List UInt8)) : Option (Lo ((UInt8 × (List UInt8) × (List UInt8) × Int × Unit) × ((List UInt8) × Unit)) (((List UInt8) × Unit) × ((List UInt8) × Unit)) zq74_R) :=
 bif (decide (t_10 < (64 : Int))) then
  bif inR t_10 64 then
  let x2 := t_9.getD t_10.toNat (0 : UInt8)
  bif room (l_6.length + ([(x2 ^^^ mask_0)] : List UInt8).length) 1 then
  some (.go ((mask_0, b_1, t_9, (w64 (t_10 + (1 : Int))), ()), ((l_6 ++ ([(x2 ^^^ mask_0)] : List UInt8)), ())))
  else none
  else none
 else
  some (.br ((b_1, ()), (l_6, ())))
def zq74_3 (N : Nat) (b_1 : (List UInt8)) (l_6 : (List UInt8)) : Option zq74_R :=
 bif room (l_6.length + b_1.length) 1 then
 Option.bind (zq88 N (l_6 ++ b_1)) fun y7 =>
 some ((()), (y7.2.1, ()))
 else none
def zq74_1 (N : Nat) (mask_0 : UInt8) (b_1 : (List UInt8)) (t_9 : (List UInt8)) (t_10 : Int) (l_6 : (List UInt8)) : Option zq74_R :=
 loopK N (fun y => zq74_s2 N y.1.1 y.1.2.1 y.1.2.2.1 y.1.2.2.2.1 y.2.1) (fun (e : (((List UInt8) × Unit) × ((List UInt8) × Unit))) => zq74_3 N e.1.1 e.2.1) ((mask_0, b_1, t_9, t_10, ()), (l_6, ()))
def zq74 (N : Nat) (mask_0 : UInt8) (b_1 : (List UInt8)) (t_2 : (List UInt8)) : Option zq74_R :=
 zq74_1 N mask_0 b_1 t_2 (0 : Int) ([] : List UInt8)
def zq74_C (N : Nat) := Cx 24 [(42, zq88_ctr N)]
def zq74_S0 : Spec := ⟨[.val .u8, .val (.sl .u8), .row 0, .val (.arr 64 .u8), .val .i64], [(.row 5 .u8, .pos 2)]⟩
def zq74_S1 : Spec := ⟨[.val (.sl .u8), .row 0], [(.row 5 .u8, .pos 1)]⟩
def zq74_S2 : Spec := ⟨[.val .u8, .val (.sl .u8), .fp (.arr 64 .u8)], []⟩
def zq74_S3 : Spec := ⟨[.row 0], [(.row 5 .u8, .pos 0)]⟩
def zq74_K : XE → GS → Option zq74_R := retK 0 [5] [false] zq74_S3
noncomputable def zq74_L : List Code := (bodyOf (some Tryz.f125))
def zq74_L2 : List Code := (loopOf (zq74_L[3]?))
def zq74_K2 (N : Nat) := roundK (some 0) (fit 0 [0, 1, 6, 9, 10] zq74_S0) (fit 0 [1, 6] zq74_S1) zq74_K
theorem zq74_s2_b (N) : Bk 0 (zq74_C N) [0, 1, 6, 9, 10] zq74_S0 (zq74_L2.drop 0) (fun y => zq74_s2 N y.1.1 y.1.2.1 y.1.2.2.1 y.1.2.2.2.1 y.2.1) (zq74_K2 N) :=
 cE 4
theorem zq74_3_b (N) : Bk 0 (zq74_C N) [1, 6] zq74_S1 (zq74_L.drop 4) (fun y => zq74_3 N y.1.1 y.2.1) zq74_K :=
 cE 2
theorem zq74_1_b (N) : Bk 0 (zq74_C N) [0, 1, 6, 9, 10] zq74_S0 (zq74_L.drop 3) (fun y => zq74_1 N y.1.1 y.1.2.1 y.1.2.2.1 y.1.2.2.2.1 y.2.1) zq74_K :=
 lG N zq74_S0 [1, 6] zq74_S1 (zq74_3_b N) (zq74_s2_b N)
theorem zq74_b (N) : Bk 0 (zq74_C N) (List.range zq74_S2.ks.length) zq74_S2 (zq74_L.drop 0) (fun y => zq74 N y.1.1 y.1.2.1 y.1.2.2.1) zq74_K :=
 cG 3 (zq74_1_b N)
def zq74_ctr (N : Nat) : Ctr := ⟨zq74_S2, zq74_S3.un [false], 0, (fun y => zq74 N y.1.1 y.1.2.1 y.1.2.2.1)⟩
theorem zq74_ok (N : Nat) : COk 125 (zq74_ctr N) :=
 cF (zw2 (Γ := zq74_C N) zw1 (csc (zq88_ok N) csn)) Tryz.func125 Tryz.ntmps125 (zq74_b N)
abbrev zq114_R : Type := ((Unit) × ((List UInt8) × Unit))
def zq114_1 (N : Nat) (key_0 : (List UInt8)) (b_1 : (List UInt8)) (padded_5 : (List UInt8)) : Option zq114_R :=
 let x4 := splice padded_5 key_0
 Option.bind (zq74 N (54 : UInt8) b_1 x4) fun y5 =>
 Option.bind (zq74 N (92 : UInt8) y5.2.1 x4) fun y6 =>
 some ((()), (y6.2.1, ()))
def zq114 (N : Nat) (key_0 : (List UInt8)) (b_1 : (List UInt8)) : Option zq114_R :=
 bif (decide ((64 : Int) < (key_0.length : Int))) then
  Option.bind (zq88 N key_0) fun y3 =>
  zq114_1 N y3.2.1 b_1 (List.replicate 64 (0 : UInt8))
 else
  zq114_1 N key_0 b_1 (List.replicate 64 (0 : UInt8))
def zq114_C (N : Nat) := Cx 21 [(42, zq88_ctr N), (125, zq74_ctr N)]
def zq114_S0 : Spec := ⟨[.val (.sl .u8), .val (.sl .u8), .ref 0 (.arr 64 .u8)], [(.box 114 (.arr 64 .u8), .pos 2)]⟩
def zq114_S1 : Spec := ⟨[.val (.sl .u8), .val (.sl .u8)], []⟩
def zq114_S2 : Spec := ⟨[.row 0], [(.row 5 .u8, .pos 0)]⟩
def zq114_K : XE → GS → Option zq114_R := retK 0 [4] [false] zq114_S2
noncomputable def zq114_L : List Code := (bodyOf (some Tryz.f109))
theorem zq114_1_b (N) : Bk 0 (zq114_C N) [0, 1, 5] zq114_S0 (zq114_L.drop 4) (fun y => zq114_1 N y.1.1 y.1.2.1 y.2.1) zq114_K :=
 cE 4
theorem zq114_b (N) : Bk 0 (zq114_C N) (List.range zq114_S1.ks.length) zq114_S1 (zq114_L.drop 0) (fun y => zq114 N y.1.1 y.1.2.1) zq114_K :=
 cG 4 (zq114_1_b N)
def zq114_ctr (N : Nat) : Ctr := ⟨zq114_S1, zq114_S2.un [false], 0, (fun y => zq114 N y.1.1 y.1.2.1)⟩
theorem zq114_ok (N : Nat) : COk 109 (zq114_ctr N) :=
 cF (zw2 (Γ := zq114_C N) zw1 (csc (zq88_ok N) (csc (zq74_ok N) csn))) Tryz.func109 Tryz.ntmps109 (zq114_b N)
abbrev zq89_R : Type := ((Bool × Unit) × (Unit))
def zq89 (N : Nat) (key_0 : (List UInt8)) (nonce_1 : (List UInt8)) : Option zq89_R :=
 bif (decide ((key_0.length : Int) = (32 : Int))) then
  some (((decide ((nonce_1.length : Int) = (12 : Int))), ()), (()))
 else
  some ((false, ()), (()))
def zq89_C (N : Nat) := Cx 13 []
def zq89_S0 : Spec := ⟨[.val (.sl .u8), .val (.sl .u8)], []⟩
def zq89_S1 : Spec := ⟨[.val .bool], []⟩
def zq89_K : XE → GS → Option zq89_R := retK 0 [4] [false] zq89_S1
noncomputable def zq89_L : List Code := (bodyOf (some Tryz.f126))
theorem zq89_b (N) : Bk 0 (zq89_C N) (List.range zq89_S0.ks.length) zq89_S0 (zq89_L.drop 0) (fun y => zq89 N y.1.1 y.1.2.1) zq89_K :=
 cE 3
def zq89_ctr (N : Nat) : Ctr := ⟨zq89_S0, zq89_S1.un [false], 0, (fun y => zq89 N y.1.1 y.1.2.1)⟩
theorem zq89_ok (N : Nat) : COk 126 (zq89_ctr N) :=
 cF (zw2 (Γ := zq89_C N) zw1 csn) Tryz.func126 Tryz.ntmps126 (zq89_b N)
abbrev zq78_R : Type := ((UInt32 × Unit) × (Unit))
def zq78 (N : Nat) (b_0 : (List UInt8)) : Option zq78_R :=
 bif inR (0 : Int) b_0.length then
 bif inR (1 : Int) b_0.length then
 bif inR (2 : Int) b_0.length then
 bif inR (3 : Int) b_0.length then
 some ((((((b_0.getD 0 (0 : UInt8)).toUInt32 ||| (shl32 (b_0.getD 1 (0 : UInt8)).toUInt32 8)) ||| (shl32 (b_0.getD 2 (0 : UInt8)).toUInt32 16)) ||| (shl32 (b_0.getD 3 (0 : UInt8)).toUInt32 24)), ()), (()))
 else none
 else none
 else none
 else none
def zq78_C (N : Nat) := Cx 25 []
def zq78_S0 : Spec := ⟨[.val (.sl .u8)], []⟩
def zq78_S1 : Spec := ⟨[.val .u32], []⟩
def zq78_K : XE → GS → Option zq78_R := retK 0 [2] [false] zq78_S1
noncomputable def zq78_L : List Code := (bodyOf (some Tryz.f146))
theorem zq78_b (N) : Bk 0 (zq78_C N) (List.range zq78_S0.ks.length) zq78_S0 (zq78_L.drop 0) (fun y => zq78 N y.1.1) zq78_K :=
 cE 3
def zq78_ctr (N : Nat) : Ctr := ⟨zq78_S0, zq78_S1.un [false], 0, (fun y => zq78 N y.1.1)⟩
theorem zq78_ok (N : Nat) : COk 146 (zq78_ctr N) :=
 cF (zw2 (Γ := zq78_C N) zw1 csn) Tryz.func146 Tryz.ntmps146 (zq78_b N)
abbrev zq65_R : Type := (((List UInt32) × Bool × Unit) × (Unit))
def zq65_s3 (N : Nat) (key_0 : (List UInt8)) (nonce_2 : (List UInt8)) (t_22 : Int) (t_6 : (List UInt32)) (s_8 : (List UInt32)) : Option (Lo (((List UInt8) × (List UInt8) × Int × Unit) × ((List UInt32) × (List UInt32) × Unit)) (((List UInt8) × Unit) × ((List UInt32) × (List UInt32) × Unit)) zq65_R) :=
 bif (decide (t_22 < (8 : Int))) then
  let x6 := w64 ((4 : Int) + t_22)
  let x7 := w64 ((4 : Int) * t_22)
  bif decide (0 ≤ x7) && decide (x7 ≤ (key_0.length : Int)) && decide ((key_0.length : Int) ≤ (key_0.length : Int)) && true then
  Option.bind (zq78 N (cut key_0 x7.toNat key_0.length)) fun y9 =>
  bif inR x6 16 then
  some (.go ((key_0, nonce_2, (w64 (t_22 + (1 : Int))), ()), (t_6, (s_8.set x6.toNat y9.1.1), ())))
  else none
  else none
 else
  some (.br ((nonce_2, ()), (t_6, s_8, ())))
def zq65_s6 (N : Nat) (nonce_2 : (List UInt8)) (t_34 : Int) (t_6 : (List UInt32)) (s_8 : (List UInt32)) : Option (Lo (((List UInt8) × Int × Unit) × ((List UInt32) × (List UInt32) × Unit)) ((Unit) × ((List UInt32) × (List UInt32) × Unit)) zq65_R) :=
 bif (decide (t_34 < (3 : Int))) then
  let x13 := w64 ((13 : Int) + t_34)
  let x14 := w64 ((4 : Int) * t_34)
  bif decide (0 ≤ x14) && decide (x14 ≤ (nonce_2.length : Int)) && decide ((nonce_2.length : Int) ≤ (nonce_2.length : Int)) && true then
  Option.bind (zq78 N (cut nonce_2 x14.toNat nonce_2.length)) fun y16 =>
  bif inR x13 16 then
  some (.go ((nonce_2, (w64 (t_34 + (1 : Int))), ()), (t_6, (s_8.set x13.toNat y16.1.1), ())))
  else none
  else none
 else
  some (.br ((()), (t_6, s_8, ())))
def zq65_7 (N : Nat) (t_6 : (List UInt32)) (s_8 : (List UInt32)) : Option zq65_R :=
 some ((s_8, true, ()), (()))
def zq65_5 (N : Nat) (nonce_2 : (List UInt8)) (t_34 : Int) (t_6 : (List UInt32)) (s_8 : (List UInt32)) : Option zq65_R :=
 loopK N (fun y => zq65_s6 N y.1.1 y.1.2.1 y.2.1 y.2.2.1) (fun (e : ((Unit) × ((List UInt32) × (List UInt32) × Unit))) => zq65_7 N e.2.1 e.2.2.1) ((nonce_2, t_34, ()), (t_6, s_8, ()))
def zq65_4 (N : Nat) (nonce_2 : (List UInt8)) (t_6 : (List UInt32)) (s_8 : (List UInt32)) : Option zq65_R :=
 zq65_5 N nonce_2 (0 : Int) t_6 s_8
def zq65_2 (N : Nat) (key_0 : (List UInt8)) (nonce_2 : (List UInt8)) (t_22 : Int) (t_6 : (List UInt32)) (s_8 : (List UInt32)) : Option zq65_R :=
 loopK N (fun y => zq65_s3 N y.1.1 y.1.2.1 y.1.2.2.1 y.2.1 y.2.2.1) (fun (e : (((List UInt8) × Unit) × ((List UInt32) × (List UInt32) × Unit))) => zq65_4 N e.1.1 e.2.1 e.2.2.1) ((key_0, nonce_2, t_22, ()), (t_6, s_8, ()))
def zq65_1 (N : Nat) (key_0 : (List UInt8)) (counter_1 : UInt32) (nonce_2 : (List UInt8)) (t_18 : Bool) (t_6 : (List UInt32)) : Option zq65_R :=
 bif t_18 then
  some (((List.replicate 16 (0 : UInt32)), false, ()), (()))
 else
  zq65_2 N key_0 nonce_2 (0 : Int) t_6 ((((((List.replicate 16 (0 : UInt32)).set 0 (1634760805 : UInt32)).set 1 (857760878 : UInt32)).set 2 (2036477234 : UInt32)).set 3 (1797285236 : UInt32)).set 12 counter_1)
def zq65 (N : Nat) (key_0 : (List UInt8)) (counter_1 : UInt32) (nonce_2 : (List UInt8)) : Option zq65_R :=
 bif (!(decide ((key_0.length : Int) = (32 : Int)))) then
  zq65_1 N key_0 counter_1 nonce_2 true (List.replicate 16 (0 : UInt32))
 else
  zq65_1 N key_0 counter_1 nonce_2 (!(decide ((nonce_2.length : Int) = (12 : Int)))) (List.replicate 16 (0 : UInt32))
def zq65_C (N : Nat) := Cx 47 [(146, zq78_ctr N)]
def zq65_S0 : Spec := ⟨[.val (.sl .u8), .val (.sl .u8), .ref 0 (.arr 16 .u32), .ref 1 (.arr 16 .u32), .val .i64], [(.box 116 (.arr 16 .u32), .pos 2), (.box 116 (.arr 16 .u32), .pos 3)]⟩
def zq65_S1 : Spec := ⟨[.val (.sl .u8), .ref 0 (.arr 16 .u32), .ref 1 (.arr 16 .u32), .val .i64], [(.box 116 (.arr 16 .u32), .pos 1), (.box 116 (.arr 16 .u32), .pos 2)]⟩
def zq65_S2 : Spec := ⟨[.ref 0 (.arr 16 .u32), .ref 1 (.arr 16 .u32)], [(.box 116 (.arr 16 .u32), .pos 0), (.box 116 (.arr 16 .u32), .pos 1)]⟩
def zq65_S3 : Spec := ⟨[.val (.sl .u8), .ref 0 (.arr 16 .u32), .ref 1 (.arr 16 .u32)], [(.box 116 (.arr 16 .u32), .pos 1), (.box 116 (.arr 16 .u32), .pos 2)]⟩
def zq65_S4 : Spec := ⟨[.val (.sl .u8), .val .u32, .val (.sl .u8), .ref 0 (.arr 16 .u32), .val .bool], [(.box 116 (.arr 16 .u32), .pos 3)]⟩
def zq65_S5 : Spec := ⟨[.val (.sl .u8), .val .u32, .val (.sl .u8)], []⟩
def zq65_S6 : Spec := ⟨[.fp (.arr 16 .u32), .val .bool], []⟩
def zq65_K : XE → GS → Option zq65_R := retK 0 [6, 7] [true, false] zq65_S6
noncomputable def zq65_L : List Code := (bodyOf (some Tryz.f139))
def zq65_L3 : List Code := (loopOf (zq65_L[5]?))
def zq65_L6 : List Code := (loopOf (zq65_L[7]?))
def zq65_K3 (N : Nat) := roundK (some 0) (fit 0 [0, 2, 6, 8, 22] zq65_S0) (fit 0 [2, 6, 8] zq65_S3) zq65_K
def zq65_K6 (N : Nat) := roundK (some 2) (fit 0 [2, 6, 8, 34] zq65_S1) (fit 0 [6, 8] zq65_S2) zq65_K
theorem zq65_s3_b (N) : Bk 0 (zq65_C N) [0, 2, 6, 8, 22] zq65_S0 (zq65_L3.drop 0) (fun y => zq65_s3 N y.1.1 y.1.2.1 y.1.2.2.1 y.2.1 y.2.2.1) (zq65_K3 N) :=
 cE 4
theorem zq65_s6_b (N) : Bk 0 (zq65_C N) [2, 6, 8, 34] zq65_S1 (zq65_L6.drop 0) (fun y => zq65_s6 N y.1.1 y.1.2.1 y.2.1 y.2.2.1) (zq65_K6 N) :=
 cE 4
theorem zq65_7_b (N) : Bk 0 (zq65_C N) [6, 8] zq65_S2 (zq65_L.drop 8) (fun y => zq65_7 N y.2.1 y.2.2.1) zq65_K :=
 cE 2
theorem zq65_5_b (N) : Bk 0 (zq65_C N) [2, 6, 8, 34] zq65_S1 (zq65_L.drop 7) (fun y => zq65_5 N y.1.1 y.1.2.1 y.2.1 y.2.2.1) zq65_K :=
 lG N zq65_S1 [6, 8] zq65_S2 (zq65_7_b N) (zq65_s6_b N)
theorem zq65_4_b (N) : Bk 0 (zq65_C N) [2, 6, 8] zq65_S3 (zq65_L.drop 6) (fun y => zq65_4 N y.1.1 y.2.1 y.2.2.1) zq65_K :=
 cG 1 (zq65_5_b N)
theorem zq65_2_b (N) : Bk 0 (zq65_C N) [0, 2, 6, 8, 22] zq65_S0 (zq65_L.drop 5) (fun y => zq65_2 N y.1.1 y.1.2.1 y.1.2.2.1 y.2.1 y.2.2.1) zq65_K :=
 lG N zq65_S0 [2, 6, 8] zq65_S3 (zq65_4_b N) (zq65_s3_b N)
theorem zq65_1_b (N) : Bk 0 (zq65_C N) [0, 1, 2, 6, 18] zq65_S4 (zq65_L.drop 2) (fun y => zq65_1 N y.1.1 y.1.2.1 y.1.2.2.1 y.1.2.2.2.1 y.2.1) zq65_K :=
 cG 3 (zq65_2_b N)
theorem zq65_b (N) : Bk 0 (zq65_C N) (List.range zq65_S5.ks.length) zq65_S5 (zq65_L.drop 0) (fun y => zq65 N y.1.1 y.1.2.1 y.1.2.2.1) zq65_K :=
 cG 2 (zq65_1_b N)
def zq65_ctr (N : Nat) : Ctr := ⟨zq65_S5, zq65_S6.un [true, false], 0, (fun y => zq65 N y.1.1 y.1.2.1 y.1.2.2.1)⟩
theorem zq65_ok (N : Nat) : COk 139 (zq65_ctr N) :=
 cF (zw2 (Γ := zq65_C N) zw1 (csc (zq78_ok N) csn)) Tryz.func139 Tryz.ntmps139 (zq65_b N)
abbrev zq48_R : Type := ((UInt32 × UInt32 × UInt32 × UInt32 × Unit) × (Unit))
def zq48 (N : Nat) (a_0 : UInt32) (b_1 : UInt32) (c_2 : UInt32) (d_3 : UInt32) : Option zq48_R :=
 Option.bind (zq4 N (d_3 ^^^ (a_0 + b_1)) (16 : Int)) fun y3 =>
 Option.bind (zq4 N (b_1 ^^^ (c_2 + y3.1.1)) (12 : Int)) fun y6 =>
 Option.bind (zq4 N (y3.1.1 ^^^ ((a_0 + b_1) + y6.1.1)) (8 : Int)) fun y9 =>
 Option.bind (zq4 N (y6.1.1 ^^^ ((c_2 + y3.1.1) + y9.1.1)) (7 : Int)) fun y12 =>
 some ((((a_0 + b_1) + y6.1.1), y12.1.1, ((c_2 + y3.1.1) + y9.1.1), y9.1.1, ()), (()))
def zq48_C (N : Nat) := Cx 49 [(119, zq4_ctr N)]
def zq48_S0 : Spec := ⟨[.val .u32, .val .u32, .val .u32, .val .u32], []⟩
def zq48_K : XE → GS → Option zq48_R := retK 0 [8, 9, 10, 11] [false, false, false, false] zq48_S0
noncomputable def zq48_L : List Code := (bodyOf (some Tryz.f147))
theorem zq48_b (N) : Bk 0 (zq48_C N) (List.range zq48_S0.ks.length) zq48_S0 (zq48_L.drop 0) (fun y => zq48 N y.1.1 y.1.2.1 y.1.2.2.1 y.1.2.2.2.1) zq48_K :=
 cE 12
def zq48_ctr (N : Nat) : Ctr := ⟨zq48_S0, zq48_S0.un [false, false, false, false], 0, (fun y => zq48 N y.1.1 y.1.2.1 y.1.2.2.1 y.1.2.2.2.1)⟩
theorem zq48_ok (N : Nat) : COk 147 (zq48_ctr N) :=
 cF (zw2 (Γ := zq48_C N) zw1 (csc (zq4_ok N) csn)) Tryz.func147 Tryz.ntmps147 (zq48_b N)
abbrev zq56_R : Type := ((Bool × Unit) × ((List UInt8) × Unit))
def zq56_s7 (N : Nat) (t_26 : Int) (t_28 : (List (List Int))) (t_29 : Int) (first_8 : (List UInt32)) (s_10 : (List UInt32)) : Option (Lo ((Int × (List (List Int)) × Int × Unit) × ((List UInt32) × (List UInt32) × Unit)) ((Int × Unit) × ((List UInt32) × (List UInt32) × Unit)) (Lo ((Int × Unit) × ((List UInt32) × (List UInt32) × Unit)) ((Unit) × ((List UInt32) × (List UInt32) × Unit)) zq56_R)) :=
 bif (decide (t_29 < (8 : Int))) then
  bif inR t_29 8 then
  let x5 := t_28.getD t_29.toNat (List.replicate 4 (0 : Int))
  let x6 := (x5.getD 0 (0 : Int))
  let x7 := (x5.getD 1 (0 : Int))
  let x8 := (x5.getD 2 (0 : Int))
  let x9 := (x5.getD 3 (0 : Int))
  let x10 := (x5.getD 0 (0 : Int))
  bif inR x10 16 then
  let x12 := (x5.getD 1 (0 : Int))
  bif inR x12 16 then
  let x14 := (x5.getD 2 (0 : Int))
  bif inR x14 16 then
  let x16 := (x5.getD 3 (0 : Int))
  bif inR x16 16 then
  Option.bind (zq48 N (s_10.getD x10.toNat (0 : UInt32)) (s_10.getD x12.toNat (0 : UInt32)) (s_10.getD x14.toNat (0 : UInt32)) (s_10.getD x16.toNat (0 : UInt32))) fun y18 =>
  bif inR x6 16 then
  bif inR x7 16 then
  bif inR x8 16 then
  bif inR x9 16 then
  some (.go ((t_26, t_28, (w64 (t_29 + (1 : Int))), ()), (first_8, ((((s_10.set x6.toNat y18.1.1).set x7.toNat y18.1.2.1).set x8.toNat y18.1.2.2.1).set x9.toNat y18.1.2.2.2.1), ())))
  else none
  else none
  else none
  else none
  else none
  else none
  else none
  else none
  else none
 else
  some (.br ((t_26, ()), (first_8, s_10, ())))
def zq56_8 (N : Nat) (t_26 : Int) (first_8 : (List UInt32)) (s_10 : (List UInt32)) : Option (Lo ((Int × Unit) × ((List UInt32) × (List UInt32) × Unit)) ((Unit) × ((List UInt32) × (List UInt32) × Unit)) zq56_R) :=
 some (.go (((w64 (t_26 + (1 : Int))), ()), (first_8, s_10, ())))
def zq56_6 (N : Nat) (t_26 : Int) (t_28 : (List (List Int))) (t_29 : Int) (first_8 : (List UInt32)) (s_10 : (List UInt32)) : Option (Lo ((Int × Unit) × ((List UInt32) × (List UInt32) × Unit)) ((Unit) × ((List UInt32) × (List UInt32) × Unit)) zq56_R) :=
 loopK N (fun y => zq56_s7 N y.1.1 y.1.2.1 y.1.2.2.1 y.2.1 y.2.2.1) (fun (e : ((Int × Unit) × ((List UInt32) × (List UInt32) × Unit))) => zq56_8 N e.1.1 e.2.1 e.2.2.1) ((t_26, t_28, t_29, ()), (first_8, s_10, ()))
def zq56_5 (N : Nat) (t_26 : Int) (first_8 : (List UInt32)) (s_10 : (List UInt32)) : Option (Lo ((Int × Unit) × ((List UInt32) × (List UInt32) × Unit)) ((Unit) × ((List UInt32) × (List UInt32) × Unit)) zq56_R) :=
 zq56_6 N t_26 zwb (0 : Int) first_8 s_10
def zq56_3 (N : Nat) (t_26 : Int) (first_8 : (List UInt32)) (s_10 : (List UInt32)) : Option (Lo ((Int × Unit) × ((List UInt32) × (List UInt32) × Unit)) ((Unit) × ((List UInt32) × (List UInt32) × Unit)) zq56_R) :=
 zq56_5 N t_26 first_8 s_10
def zq56_s2 (N : Nat) (t_26 : Int) (first_8 : (List UInt32)) (s_10 : (List UInt32)) : Option (Lo ((Int × Unit) × ((List UInt32) × (List UInt32) × Unit)) ((Unit) × ((List UInt32) × (List UInt32) × Unit)) zq56_R) :=
 bif (decide (t_26 < (10 : Int))) then
  zq56_3 N t_26 first_8 s_10
 else
  some (.br ((()), (first_8, s_10, ())))
def zq56_s11 (N : Nat) (t_68 : (List UInt32)) (t_69 : Int) (first_8 : (List UInt32)) (out_13 : (List UInt8)) : Option (Lo (((List UInt32) × Int × Unit) × ((List UInt32) × (List UInt8) × Unit)) ((Unit) × ((List UInt8) × Unit)) zq56_R) :=
 bif (decide (t_69 < (16 : Int))) then
  bif inR t_69 16 then
  let x26 := t_68.getD t_69.toNat (0 : UInt32)
  bif inR t_69 16 then
  let x27 := (first_8.getD t_69.toNat (0 : UInt32))
  bif room (out_13.length + ([(x26 + x27).toUInt8, (shr32 (x26 + x27) 8).toUInt8, (shr32 (x26 + x27) 16).toUInt8, (shr32 (x26 + x27) 24).toUInt8] : List UInt8).length) 1 then
  some (.go ((t_68, (w64 (t_69 + (1 : Int))), ()), (first_8, (out_13 ++ ([(x26 + x27).toUInt8, (shr32 (x26 + x27) 8).toUInt8, (shr32 (x26 + x27) 16).toUInt8, (shr32 (x26 + x27) 24).toUInt8] : List UInt8)), ())))
  else none
  else none
  else none
 else
  some (.br ((()), (out_13, ())))
def zq56_12 (N : Nat) (out_13 : (List UInt8)) : Option zq56_R :=
 some ((true, ()), (out_13, ()))
def zq56_10 (N : Nat) (t_68 : (List UInt32)) (t_69 : Int) (first_8 : (List UInt32)) (out_13 : (List UInt8)) : Option zq56_R :=
 loopK N (fun y => zq56_s11 N y.1.1 y.1.2.1 y.2.1 y.2.2.1) (fun (e : ((Unit) × ((List UInt8) × Unit))) => zq56_12 N e.2.1) ((t_68, t_69, ()), (first_8, out_13, ()))
def zq56_9 (N : Nat) (first_8 : (List UInt32)) (s_10 : (List UInt32)) : Option zq56_R :=
 zq56_10 N s_10 (0 : Int) first_8 ([] : List UInt8)
def zq56_1 (N : Nat) (t_26 : Int) (first_8 : (List UInt32)) (s_10 : (List UInt32)) : Option zq56_R :=
 loopK N (fun y => zq56_s2 N y.1.1 y.2.1 y.2.2.1) (fun (e : ((Unit) × ((List UInt32) × (List UInt32) × Unit))) => zq56_9 N e.2.1 e.2.2.1) ((t_26, ()), (first_8, s_10, ()))
def zq56 (N : Nat) (key_0 : (List UInt8)) (counter_1 : UInt32) (nonce_2 : (List UInt8)) : Option zq56_R :=
 Option.bind (zq65 N key_0 counter_1 nonce_2) fun y1 =>
 bif (!y1.1.2.1) then
  some ((false, ()), (([] : List UInt8), ()))
 else
  zq56_1 N (0 : Int) y1.1.1 y1.1.1
def zq56_C (N : Nat) := Cx 94 [(139, zq65_ctr N), (147, zq48_ctr N)]
def zq56_S0 : Spec := ⟨[.ref 0 (.arr 16 .u32), .ref 1 (.arr 16 .u32), .val .i64, .val (.arr 8 (.arr 4 .i64)), .val .i64], [(.box 116 (.arr 16 .u32), .pos 0), (.box 116 (.arr 16 .u32), .pos 1)]⟩
def zq56_S1 : Spec := ⟨[.ref 0 (.arr 16 .u32), .ref 1 (.arr 16 .u32), .val .i64], [(.box 116 (.arr 16 .u32), .pos 0), (.box 116 (.arr 16 .u32), .pos 1)]⟩
def zq56_S2 : Spec := ⟨[.ref 0 (.arr 16 .u32), .row 1, .val (.arr 16 .u32), .val .i64], [(.box 116 (.arr 16 .u32), .pos 0), (.row 5 .u8, .pos 1)]⟩
def zq56_S3 : Spec := ⟨[.row 0], [(.row 5 .u8, .pos 0)]⟩
def zq56_S4 : Spec := ⟨[.ref 0 (.arr 16 .u32), .ref 1 (.arr 16 .u32)], [(.box 116 (.arr 16 .u32), .pos 0), (.box 116 (.arr 16 .u32), .pos 1)]⟩
def zq56_S5 : Spec := ⟨[.val (.sl .u8), .val .u32, .val (.sl .u8)], []⟩
def zq56_S6 : Spec := ⟨[.row 0, .val .bool], [(.row 5 .u8, .pos 0)]⟩
def zq56_K : XE → GS → Option zq56_R := retK 0 [6, 7] [false, false] zq56_S6
noncomputable def zq56_L : List Code := (bodyOf (some Tryz.f140))
def zq56_L2 : List Code := (loopOf (zq56_L[6]?))
def zq56_L4b : List Code := (zw2h (zq56_L2[2]?))
def zq56_L7 : List Code := (loopOf (zq56_L4b[1]?))
def zq56_L11 : List Code := (loopOf (zq56_L[9]?))
def zq56_K2 (N : Nat) := roundK (some 0) (fit 0 [8, 10, 26] zq56_S1) (fit 0 [8, 10] zq56_S4) zq56_K
def zq56_K11 (N : Nat) := roundK (some 4) (fit 0 [8, 13, 68, 69] zq56_S2) (fit 0 [13] zq56_S3) zq56_K
def zq56_K4 (N : Nat) : XE → GS → Option (Lo ((Int × Unit) × ((List UInt32) × (List UInt32) × Unit)) ((Unit) × ((List UInt32) × (List UInt32) × Unit)) zq56_R) := blockK 1 (goK 0 [8, 10, 26] zq56_S1 (fun y => zq56_8 N y.1.1 y.2.1 y.2.2.1)) (zq56_K2 N)
def zq56_K7 (N : Nat) := roundK (some 2) (fit 0 [8, 10, 26, 28, 29] zq56_S0) (fit 0 [8, 10, 26] zq56_S1) (zq56_K4 N)
theorem zq56_s7_b (N) : Bk 0 (zq56_C N) [8, 10, 26, 28, 29] zq56_S0 (zq56_L7.drop 0) (fun y => zq56_s7 N y.1.1 y.1.2.1 y.1.2.2.1 y.2.1 y.2.2.1) (zq56_K7 N) :=
 cE 4
theorem zq56_8_b (N) : Bk 0 (zq56_C N) [8, 10, 26] zq56_S1 (zq56_L2.drop 3) (fun y => zq56_8 N y.1.1 y.2.1 y.2.2.1) (zq56_K2 N) :=
 cE 1
theorem zq56_6_b (N) : Bk 0 (zq56_C N) [8, 10, 26, 28, 29] zq56_S0 (zq56_L4b.drop 1) (fun y => zq56_6 N y.1.1 y.1.2.1 y.1.2.2.1 y.2.1 y.2.2.1) (zq56_K4 N) :=
 lE N zq56_S0 [8, 10, 26] zq56_S1 (zq56_s7_b N)
theorem zq56_5_b (N) : Bk 0 (zq56_C N) [8, 10, 26] zq56_S1 (zq56_L4b.drop 0) (fun y => zq56_5 N y.1.1 y.2.1 y.2.2.1) (zq56_K4 N) :=
 cG 1 (zq56_6_b N)
theorem zq56_3_b (N) : Bk 0 (zq56_C N) [8, 10, 26] zq56_S1 (zq56_L2.drop 2) (fun y => zq56_3 N y.1.1 y.2.1 y.2.2.1) (zq56_K2 N) :=
 fun hb => Blk.blockAt (bid := 1) (X := (goK 0 [8, 10, 26] zq56_S1 (fun y => zq56_8 N y.1.1 y.2.1 y.2.2.1))) (Y := (goK 0 [8, 10, 26] zq56_S1 (fun y => zq56_5 N y.1.1 y.2.1 y.2.2.1))) (by kernel_rfl) (NxOk.go hb (zq56_8_b N hb)) (NxOk.go hb (zq56_5_b N hb)) (fun x => by kernel_rfl)
theorem zq56_s2_b (N) : Bk 0 (zq56_C N) [8, 10, 26] zq56_S1 (zq56_L2.drop 0) (fun y => zq56_s2 N y.1.1 y.2.1 y.2.2.1) (zq56_K2 N) :=
 cG 2 (zq56_3_b N)
theorem zq56_s11_b (N) : Bk 0 (zq56_C N) [8, 13, 68, 69] zq56_S2 (zq56_L11.drop 0) (fun y => zq56_s11 N y.1.1 y.1.2.1 y.2.1 y.2.2.1) (zq56_K11 N) :=
 cE 4
theorem zq56_12_b (N) : Bk 0 (zq56_C N) [13] zq56_S3 (zq56_L.drop 10) (fun y => zq56_12 N y.2.1) zq56_K :=
 cE 2
theorem zq56_10_b (N) : Bk 0 (zq56_C N) [8, 13, 68, 69] zq56_S2 (zq56_L.drop 9) (fun y => zq56_10 N y.1.1 y.1.2.1 y.2.1 y.2.2.1) zq56_K :=
 lG N zq56_S2 [13] zq56_S3 (zq56_12_b N) (zq56_s11_b N)
theorem zq56_9_b (N) : Bk 0 (zq56_C N) [8, 10] zq56_S4 (zq56_L.drop 7) (fun y => zq56_9 N y.2.1 y.2.2.1) zq56_K :=
 cG 2 (zq56_10_b N)
theorem zq56_1_b (N) : Bk 0 (zq56_C N) [8, 10, 26] zq56_S1 (zq56_L.drop 6) (fun y => zq56_1 N y.1.1 y.2.1 y.2.2.1) zq56_K :=
 lG N zq56_S1 [8, 10] zq56_S4 (zq56_9_b N) (zq56_s2_b N)
theorem zq56_b (N) : Bk 0 (zq56_C N) (List.range zq56_S5.ks.length) zq56_S5 (zq56_L.drop 0) (fun y => zq56 N y.1.1 y.1.2.1 y.1.2.2.1) zq56_K :=
 cG 6 (zq56_1_b N)
def zq56_ctr (N : Nat) : Ctr := ⟨zq56_S5, zq56_S6.un [false, false], 0, (fun y => zq56 N y.1.1 y.1.2.1 y.1.2.2.1)⟩
theorem zq56_ok (N : Nat) : COk 140 (zq56_ctr N) :=
 cF (zw2 (Γ := zq56_C N) zw1 (csc (zq65_ok N) (csc (zq48_ok N) csn))) Tryz.func140 Tryz.ntmps140 (zq56_b N)
abbrev zq102_R : Type := ((Bool × Unit) × ((List UInt8) × Unit))
def zq102_s2 (N : Nat) (key_0 : (List UInt8)) (counter_1 : UInt32) (nonce_2 : (List UInt8)) (t_25 : (List UInt8)) (t_26 : Int) (t_27 : Int) (out_12 : (List UInt8)) (mask_13 : (List UInt8)) : Option (Lo (((List UInt8) × UInt32 × (List UInt8) × (List UInt8) × Int × Int × Unit) × ((List UInt8) × (List UInt8) × Unit)) ((Unit) × ((List UInt8) × Unit)) zq102_R) :=
 bif (decide (t_27 < t_26)) then
  bif inR t_27 t_25.length then
  let x5 := t_25.getD t_27.toNat (0 : UInt8)
  bif (decide ((t_27.tmod (64 : Int)) = (0 : Int))) then
   Option.bind (zq56 N key_0 counter_1 nonce_2) fun y8 =>
   let x10 := t_27.tmod (64 : Int)
   bif inR x10 y8.2.1.length then
   let x11 := (y8.2.1.getD x10.toNat (0 : UInt8))
   bif room (out_12.length + ([(x5 ^^^ x11)] : List UInt8).length) 1 then
   some (.go ((key_0, (counter_1 + (1 : UInt32)), nonce_2, t_25, t_26, (w64 (t_27 + (1 : Int))), ()), ((out_12 ++ ([(x5 ^^^ x11)] : List UInt8)), y8.2.1, ())))
   else none
   else none
  else
   let x15 := t_27.tmod (64 : Int)
   bif inR x15 mask_13.length then
   let x16 := (mask_13.getD x15.toNat (0 : UInt8))
   bif room (out_12.length + ([(x5 ^^^ x16)] : List UInt8).length) 1 then
   some (.go ((key_0, counter_1, nonce_2, t_25, t_26, (w64 (t_27 + (1 : Int))), ()), ((out_12 ++ ([(x5 ^^^ x16)] : List UInt8)), mask_13, ())))
   else none
   else none
  else none
 else
  some (.br ((()), (out_12, ())))
def zq102_3 (N : Nat) (out_12 : (List UInt8)) : Option zq102_R :=
 some ((true, ()), (out_12, ()))
def zq102_1 (N : Nat) (key_0 : (List UInt8)) (counter_1 : UInt32) (nonce_2 : (List UInt8)) (t_25 : (List UInt8)) (t_26 : Int) (t_27 : Int) (out_12 : (List UInt8)) (mask_13 : (List UInt8)) : Option zq102_R :=
 loopK N (fun y => zq102_s2 N y.1.1 y.1.2.1 y.1.2.2.1 y.1.2.2.2.1 y.1.2.2.2.2.1 y.1.2.2.2.2.2.1 y.2.1 y.2.2.1) (fun (e : ((Unit) × ((List UInt8) × Unit))) => zq102_3 N e.2.1) ((key_0, counter_1, nonce_2, t_25, t_26, t_27, ()), (out_12, mask_13, ()))
def zq102 (N : Nat) (key_0 : (List UInt8)) (counter_1 : UInt32) (nonce_2 : (List UInt8)) (b_3 : (List UInt8)) : Option zq102_R :=
 Option.bind (zq65 N key_0 counter_1 nonce_2) fun y1 =>
 bif (!y1.1.2.1) then
  some ((false, ()), (([] : List UInt8), ()))
 else
  zq102_1 N key_0 counter_1 nonce_2 b_3 (b_3.length : Int) (0 : Int) ([] : List UInt8) ([] : List UInt8)
def zq102_C (N : Nat) := Cx 56 [(139, zq65_ctr N), (140, zq56_ctr N)]
def zq102_S0 : Spec := ⟨[.val (.sl .u8), .val .u32, .val (.sl .u8), .row 0, .row 1, .val (.sl .u8), .val .i64, .val .i64], [(.row 5 .u8, .pos 3), (.row 5 .u8, .pos 4)]⟩
def zq102_S1 : Spec := ⟨[.row 0], [(.row 5 .u8, .pos 0)]⟩
def zq102_S2 : Spec := ⟨[.val (.sl .u8), .val .u32, .val (.sl .u8), .val (.sl .u8)], []⟩
def zq102_S3 : Spec := ⟨[.row 0, .val .bool], [(.row 5 .u8, .pos 0)]⟩
def zq102_K : XE → GS → Option zq102_R := retK 0 [8, 9] [false, false] zq102_S3
noncomputable def zq102_L : List Code := (bodyOf (some Tryz.f127))
def zq102_L2 : List Code := (loopOf (zq102_L[6]?))
def zq102_K2 (N : Nat) := roundK (some 0) (fit 0 [0, 1, 2, 12, 13, 25, 26, 27] zq102_S0) (fit 0 [12] zq102_S1) zq102_K
theorem zq102_s2_b (N) : Bk 0 (zq102_C N) [0, 1, 2, 12, 13, 25, 26, 27] zq102_S0 (zq102_L2.drop 0) (fun y => zq102_s2 N y.1.1 y.1.2.1 y.1.2.2.1 y.1.2.2.2.1 y.1.2.2.2.2.1 y.1.2.2.2.2.2.1 y.2.1 y.2.2.1) (zq102_K2 N) :=
 cE 4
theorem zq102_3_b (N) : Bk 0 (zq102_C N) [12] zq102_S1 (zq102_L.drop 7) (fun y => zq102_3 N y.2.1) zq102_K :=
 cE 2
theorem zq102_1_b (N) : Bk 0 (zq102_C N) [0, 1, 2, 12, 13, 25, 26, 27] zq102_S0 (zq102_L.drop 6) (fun y => zq102_1 N y.1.1 y.1.2.1 y.1.2.2.1 y.1.2.2.2.1 y.1.2.2.2.2.1 y.1.2.2.2.2.2.1 y.2.1 y.2.2.1) zq102_K :=
 lG N zq102_S0 [12] zq102_S1 (zq102_3_b N) (zq102_s2_b N)
theorem zq102_b (N) : Bk 0 (zq102_C N) (List.range zq102_S2.ks.length) zq102_S2 (zq102_L.drop 0) (fun y => zq102 N y.1.1 y.1.2.1 y.1.2.2.1 y.1.2.2.2.1) zq102_K :=
 cG 6 (zq102_1_b N)
def zq102_ctr (N : Nat) : Ctr := ⟨zq102_S2, zq102_S3.un [false, false], 0, (fun y => zq102 N y.1.1 y.1.2.1 y.1.2.2.1 y.1.2.2.2.1)⟩
theorem zq102_ok (N : Nat) : COk 127 (zq102_ctr N) :=
 cF (zw2 (Γ := zq102_C N) zw1 (csc (zq65_ok N) (csc (zq56_ok N) csn))) Tryz.func127 Tryz.ntmps127 (zq102_b N)
abbrev zq83_R : Type := ((Unit) × ((List UInt8) × Unit))
def zq83 (N : Nat) (b_1 : (List UInt8)) (l_0 : (List UInt8)) : Option zq83_R :=
 bif room (l_0.length + b_1.length) 1 then
 let x5 := (w64 ((16 : Int) - ((b_1.length : Int).tmod (16 : Int)))).tmod (16 : Int)
 bif decide (0 ≤ x5) then
 bif room ((l_0 ++ b_1).length + (List.replicate x5.toNat (0 : UInt8)).length) 1 then
 some ((()), (((l_0 ++ b_1) ++ (List.replicate x5.toNat (0 : UInt8))), ()))
 else none
 else none
 else none
def zq83_C (N : Nat) := Cx 15 []
def zq83_S0 : Spec := ⟨[.row 0, .val (.sl .u8)], [(.row 5 .u8, .pos 0)]⟩
def zq83_S1 : Spec := ⟨[.row 0], [(.row 5 .u8, .pos 0)]⟩
def zq83_K : XE → GS → Option zq83_R := retK 0 [4] [false] zq83_S1
noncomputable def zq83_L : List Code := (bodyOf (some Tryz.f141))
theorem zq83_b (N) : Bk 0 (zq83_C N) (List.range zq83_S0.ks.length) zq83_S0 (zq83_L.drop 0) (fun y => zq83 N y.1.1 y.2.1) zq83_K :=
 cE 4
def zq83_ctr (N : Nat) : Ctr := ⟨zq83_S0, zq83_S1.un [false], 0, (fun y => zq83 N y.1.1 y.2.1)⟩
theorem zq83_ok (N : Nat) : COk 141 (zq83_ctr N) :=
 cF (zw2 (Γ := zq83_C N) zw1 csn) Tryz.func141 Tryz.ntmps141 (zq83_b N)
abbrev zq87_R : Type := ((Unit) × ((List UInt8) × Unit))
def zq87_s2 (N : Nat) (n_1 : Int) (t_6 : Int) (l_0 : (List UInt8)) : Option (Lo ((Int × Int × Unit) × ((List UInt8) × Unit)) ((Unit) × ((List UInt8) × Unit)) zq87_R) :=
 bif (decide (t_6 < (8 : Int))) then
  let x3 := w64 ((8 : Int) * t_6)
  bif decide (0 ≤ x3) then
  let x4 := shr64 (iu64 n_1) x3.toNat
  bif room (l_0.length + ([x4.toUInt8] : List UInt8).length) 1 then
  some (.go ((n_1, (w64 (t_6 + (1 : Int))), ()), ((l_0 ++ ([x4.toUInt8] : List UInt8)), ())))
  else none
  else none
 else
  some (.br ((()), (l_0, ())))
def zq87_3 (N : Nat) (l_0 : (List UInt8)) : Option zq87_R :=
 some ((()), (l_0, ()))
def zq87_1 (N : Nat) (n_1 : Int) (t_6 : Int) (l_0 : (List UInt8)) : Option zq87_R :=
 loopK N (fun y => zq87_s2 N y.1.1 y.1.2.1 y.2.1) (fun (e : ((Unit) × ((List UInt8) × Unit))) => zq87_3 N e.2.1) ((n_1, t_6, ()), (l_0, ()))
def zq87 (N : Nat) (n_1 : Int) (l_0 : (List UInt8)) : Option zq87_R :=
 zq87_1 N n_1 (0 : Int) l_0
def zq87_C (N : Nat) := Cx 20 []
def zq87_S0 : Spec := ⟨[.row 0, .val .i64, .val .i64], [(.row 5 .u8, .pos 0)]⟩
def zq87_S1 : Spec := ⟨[.row 0], [(.row 5 .u8, .pos 0)]⟩
def zq87_S2 : Spec := ⟨[.row 0, .val .i64], [(.row 5 .u8, .pos 0)]⟩
def zq87_K : XE → GS → Option zq87_R := retK 0 [4] [false] zq87_S1
noncomputable def zq87_L : List Code := (bodyOf (some Tryz.f143))
def zq87_L2 : List Code := (loopOf (zq87_L[2]?))
def zq87_K2 (N : Nat) := roundK (some 0) (fit 0 [0, 1, 6] zq87_S0) (fit 0 [0] zq87_S1) zq87_K
theorem zq87_s2_b (N) : Bk 0 (zq87_C N) [0, 1, 6] zq87_S0 (zq87_L2.drop 0) (fun y => zq87_s2 N y.1.1 y.1.2.1 y.2.1) (zq87_K2 N) :=
 cE 4
theorem zq87_3_b (N) : Bk 0 (zq87_C N) [0] zq87_S1 (zq87_L.drop 3) (fun y => zq87_3 N y.2.1) zq87_K :=
 cE 2
theorem zq87_1_b (N) : Bk 0 (zq87_C N) [0, 1, 6] zq87_S0 (zq87_L.drop 2) (fun y => zq87_1 N y.1.1 y.1.2.1 y.2.1) zq87_K :=
 lG N zq87_S0 [0] zq87_S1 (zq87_3_b N) (zq87_s2_b N)
theorem zq87_b (N) : Bk 0 (zq87_C N) (List.range zq87_S2.ks.length) zq87_S2 (zq87_L.drop 0) (fun y => zq87 N y.1.1 y.2.1) zq87_K :=
 cG 2 (zq87_1_b N)
def zq87_ctr (N : Nat) : Ctr := ⟨zq87_S2, zq87_S1.un [false], 0, (fun y => zq87 N y.1.1 y.2.1)⟩
theorem zq87_ok (N : Nat) : COk 143 (zq87_ctr N) :=
 cF (zw2 (Γ := zq87_C N) zw1 csn) Tryz.func143 Tryz.ntmps143 (zq87_b N)
abbrev zq45_R : Type := ((Unit) × ((List UInt8) × Unit))
def zq45_s2 (N : Nat) (t_8 : Int) (t_9 : Int) (r_3 : (List UInt8)) : Option (Lo ((Int × Int × Unit) × ((List UInt8) × Unit)) ((Unit) × ((List UInt8) × Unit)) zq45_R) :=
 bif (decide (t_9 < t_8)) then
  bif (decide ((t_9.tmod (4 : Int)) = (3 : Int))) then
   bif inR t_9 r_3.length then
   bif inR t_9 r_3.length then
   let x7 := (r_3.set t_9.toNat ((r_3.getD t_9.toNat (0 : UInt8)) &&& (15 : UInt8)))
   bif (decide ((t_9.tmod (4 : Int)) = (0 : Int))) then
    bif (decide ((0 : Int) < t_9)) then
     bif inR t_9 x7.length then
     bif inR t_9 x7.length then
     some (.go ((t_8, (w64 (t_9 + (1 : Int))), ()), ((x7.set t_9.toNat ((x7.getD t_9.toNat (0 : UInt8)) &&& (252 : UInt8))), ())))
     else none
     else none
    else
     some (.go ((t_8, (w64 (t_9 + (1 : Int))), ()), (x7, ())))
   else
    some (.go ((t_8, (w64 (t_9 + (1 : Int))), ()), (x7, ())))
   else none
   else none
  else
   bif (decide ((t_9.tmod (4 : Int)) = (0 : Int))) then
    bif (decide ((0 : Int) < t_9)) then
     bif inR t_9 r_3.length then
     bif inR t_9 r_3.length then
     some (.go ((t_8, (w64 (t_9 + (1 : Int))), ()), ((r_3.set t_9.toNat ((r_3.getD t_9.toNat (0 : UInt8)) &&& (252 : UInt8))), ())))
     else none
     else none
    else
     some (.go ((t_8, (w64 (t_9 + (1 : Int))), ()), (r_3, ())))
   else
    some (.go ((t_8, (w64 (t_9 + (1 : Int))), ()), (r_3, ())))
 else
  some (.br ((()), (r_3, ())))
def zq45_3 (N : Nat) (r_3 : (List UInt8)) : Option zq45_R :=
 some ((()), (r_3, ()))
def zq45_1 (N : Nat) (t_8 : Int) (t_9 : Int) (r_3 : (List UInt8)) : Option zq45_R :=
 loopK N (fun y => zq45_s2 N y.1.1 y.1.2.1 y.2.1) (fun (e : ((Unit) × ((List UInt8) × Unit))) => zq45_3 N e.2.1) ((t_8, t_9, ()), (r_3, ()))
def zq45 (N : Nat) (key_0 : (List UInt8)) : Option zq45_R :=
 bif room (0 + key_0.length) 1 then
 zq45_1 N (key_0.length : Int) (0 : Int) key_0
 else none
def zq45_C (N : Nat) := Cx 36 []
def zq45_S0 : Spec := ⟨[.row 0, .val .i64, .val .i64], [(.row 5 .u8, .pos 0)]⟩
def zq45_S1 : Spec := ⟨[.row 0], [(.row 5 .u8, .pos 0)]⟩
def zq45_S2 : Spec := ⟨[.val (.sl .u8)], []⟩
def zq45_K : XE → GS → Option zq45_R := retK 0 [2] [false] zq45_S1
noncomputable def zq45_L : List Code := (bodyOf (some Tryz.f149))
def zq45_L2 : List Code := (loopOf (zq45_L[3]?))
def zq45_K2 (N : Nat) := roundK (some 0) (fit 0 [3, 8, 9] zq45_S0) (fit 0 [3] zq45_S1) zq45_K
theorem zq45_s2_b (N) : Bk 0 (zq45_C N) [3, 8, 9] zq45_S0 (zq45_L2.drop 0) (fun y => zq45_s2 N y.1.1 y.1.2.1 y.2.1) (zq45_K2 N) :=
 cE 4
theorem zq45_3_b (N) : Bk 0 (zq45_C N) [3] zq45_S1 (zq45_L.drop 4) (fun y => zq45_3 N y.2.1) zq45_K :=
 cE 2
theorem zq45_1_b (N) : Bk 0 (zq45_C N) [3, 8, 9] zq45_S0 (zq45_L.drop 3) (fun y => zq45_1 N y.1.1 y.1.2.1 y.2.1) zq45_K :=
 lG N zq45_S0 [3] zq45_S1 (zq45_3_b N) (zq45_s2_b N)
theorem zq45_b (N) : Bk 0 (zq45_C N) (List.range zq45_S2.ks.length) zq45_S2 (zq45_L.drop 0) (fun y => zq45 N y.1.1) zq45_K :=
 cG 3 (zq45_1_b N)
def zq45_ctr (N : Nat) : Ctr := ⟨zq45_S2, zq45_S1.un [false], 0, (fun y => zq45 N y.1.1)⟩
theorem zq45_ok (N : Nat) : COk 149 (zq45_ctr N) :=
 cF (zw2 (Γ := zq45_C N) zw1 csn) Tryz.func149 Tryz.ntmps149 (zq45_b N)
abbrev zq33_R : Type := (((List UInt64) × Unit) × (Unit))
def zq33_s2 (N : Nat) (t_7 : (List UInt8)) (t_8 : Int) (t_9 : Int) (t_2 : (List UInt64)) (l_3 : (List UInt64)) : Option (Lo (((List UInt8) × Int × Int × Unit) × ((List UInt64) × (List UInt64) × Unit)) ((Unit) × ((List UInt64) × (List UInt64) × Unit)) zq33_R) :=
 bif (decide (t_9 < t_8)) then
  bif inR t_9 t_7.length then
  let x3 := t_7.getD t_9.toNat (0 : UInt8)
  let x4 := w64 ((8 : Int) * t_9)
  let x5 := w64 (x4.tdiv (26 : Int))
  bif inR x5 5 then
  let x7 := x4.tmod (26 : Int)
  bif decide (0 ≤ x7) then
  bif inR x5 5 then
  let x11 := (l_3.set x5.toNat ((l_3.getD x5.toNat (0 : UInt64)) + ((shl64 x3.toUInt64 x7.toNat) &&& (67108863 : UInt64))))
  bif (decide ((18 : Int) < (x4.tmod (26 : Int)))) then
   bif (decide ((w64 (x4.tdiv (26 : Int))) < (4 : Int))) then
    let x17 := w64 ((w64 (x4.tdiv (26 : Int))) + (1 : Int))
    bif inR x17 5 then
    let x20 := w64 ((26 : Int) - (x4.tmod (26 : Int)))
    bif decide (0 ≤ x20) then
    bif inR x17 5 then
    some (.go ((t_7, t_8, (w64 (t_9 + (1 : Int))), ()), (t_2, (x11.set x17.toNat ((x11.getD x17.toNat (0 : UInt64)) + (shr64 x3.toUInt64 x20.toNat))), ())))
    else none
    else none
    else none
   else
    some (.go ((t_7, t_8, (w64 (t_9 + (1 : Int))), ()), (t_2, x11, ())))
  else
   some (.go ((t_7, t_8, (w64 (t_9 + (1 : Int))), ()), (t_2, x11, ())))
  else none
  else none
  else none
  else none
 else
  some (.br ((()), (t_2, l_3, ())))
def zq33_3 (N : Nat) (t_2 : (List UInt64)) (l_3 : (List UInt64)) : Option zq33_R :=
 some ((l_3, ()), (()))
def zq33_1 (N : Nat) (t_7 : (List UInt8)) (t_8 : Int) (t_9 : Int) (t_2 : (List UInt64)) (l_3 : (List UInt64)) : Option zq33_R :=
 loopK N (fun y => zq33_s2 N y.1.1 y.1.2.1 y.1.2.2.1 y.2.1 y.2.2.1) (fun (e : ((Unit) × ((List UInt64) × (List UInt64) × Unit))) => zq33_3 N e.2.1 e.2.2.1) ((t_7, t_8, t_9, ()), (t_2, l_3, ()))
def zq33 (N : Nat) (b_0 : (List UInt8)) : Option zq33_R :=
 zq33_1 N b_0 (b_0.length : Int) (0 : Int) (List.replicate 5 (0 : UInt64)) (List.replicate 5 (0 : UInt64))
def zq33_C (N : Nat) := Cx 51 []
def zq33_S0 : Spec := ⟨[.ref 0 (.arr 5 .u64), .ref 1 (.arr 5 .u64), .val (.sl .u8), .val .i64, .val .i64], [(.box 133 (.arr 5 .u64), .pos 0), (.box 133 (.arr 5 .u64), .pos 1)]⟩
def zq33_S1 : Spec := ⟨[.ref 0 (.arr 5 .u64), .ref 1 (.arr 5 .u64)], [(.box 133 (.arr 5 .u64), .pos 0), (.box 133 (.arr 5 .u64), .pos 1)]⟩
def zq33_S2 : Spec := ⟨[.val (.sl .u8)], []⟩
def zq33_S3 : Spec := ⟨[.fp (.arr 5 .u64)], []⟩
def zq33_K : XE → GS → Option zq33_R := retK 0 [2] [true] zq33_S3
noncomputable def zq33_L : List Code := (bodyOf (some Tryz.f148))
def zq33_L2 : List Code := (loopOf (zq33_L[3]?))
def zq33_K2 (N : Nat) := roundK (some 0) (fit 0 [2, 3, 7, 8, 9] zq33_S0) (fit 0 [2, 3] zq33_S1) zq33_K
theorem zq33_s2_b (N) : Bk 0 (zq33_C N) [2, 3, 7, 8, 9] zq33_S0 (zq33_L2.drop 0) (fun y => zq33_s2 N y.1.1 y.1.2.1 y.1.2.2.1 y.2.1 y.2.2.1) (zq33_K2 N) :=
 cE 4
theorem zq33_3_b (N) : Bk 0 (zq33_C N) [2, 3] zq33_S1 (zq33_L.drop 4) (fun y => zq33_3 N y.2.1 y.2.2.1) zq33_K :=
 cE 2
theorem zq33_1_b (N) : Bk 0 (zq33_C N) [2, 3, 7, 8, 9] zq33_S0 (zq33_L.drop 3) (fun y => zq33_1 N y.1.1 y.1.2.1 y.1.2.2.1 y.2.1 y.2.2.1) zq33_K :=
 lG N zq33_S0 [2, 3] zq33_S1 (zq33_3_b N) (zq33_s2_b N)
theorem zq33_b (N) : Bk 0 (zq33_C N) (List.range zq33_S2.ks.length) zq33_S2 (zq33_L.drop 0) (fun y => zq33 N y.1.1) zq33_K :=
 cG 3 (zq33_1_b N)
def zq33_ctr (N : Nat) : Ctr := ⟨zq33_S2, zq33_S3.un [true], 0, (fun y => zq33 N y.1.1)⟩
theorem zq33_ok (N : Nat) : COk 148 (zq33_ctr N) :=
 cF (zw2 (Γ := zq33_C N) zw1 csn) Tryz.func148 Tryz.ntmps148 (zq33_b N)
abbrev zq14_R : Type := (((List UInt64) × Unit) × (Unit))
def zq14_s7 (N : Nat) (c_3 : UInt64) (t_5 : Int) (t_7 : Int) (a_1 : (List UInt64)) (t_2 : (List UInt64)) : Option (Lo ((UInt64 × Int × Int × Unit) × ((List UInt64) × (List UInt64) × Unit)) ((UInt64 × Int × Unit) × ((List UInt64) × (List UInt64) × Unit)) (Lo ((Int × Unit) × ((List UInt64) × (List UInt64) × Unit)) ((Unit) × ((List UInt64) × (List UInt64) × Unit)) zq14_R)) :=
 bif (decide (t_7 < (5 : Int))) then
  bif inR t_7 5 then
  bif inR t_7 5 then
  let x5 := (a_1.set t_7.toNat ((a_1.getD t_7.toNat (0 : UInt64)) + c_3))
  bif inR t_7 5 then
  bif inR t_7 5 then
  bif inR t_7 5 then
  some (.go (((shr64 (x5.getD t_7.toNat (0 : UInt64)) 26), t_5, (w64 (t_7 + (1 : Int))), ()), ((x5.set t_7.toNat ((x5.getD t_7.toNat (0 : UInt64)) &&& (67108863 : UInt64))), t_2, ())))
  else none
  else none
  else none
  else none
  else none
 else
  some (.br ((c_3, t_5, ()), (a_1, t_2, ())))
def zq14_9 (N : Nat) (t_5 : Int) (a_1 : (List UInt64)) (t_2 : (List UInt64)) : Option (Lo ((Int × Unit) × ((List UInt64) × (List UInt64) × Unit)) ((Unit) × ((List UInt64) × (List UInt64) × Unit)) zq14_R) :=
 some (.go (((w64 (t_5 + (1 : Int))), ()), (a_1, t_2, ())))
def zq14_8 (N : Nat) (c_3 : UInt64) (t_5 : Int) (a_1 : (List UInt64)) (t_2 : (List UInt64)) : Option (Lo ((Int × Unit) × ((List UInt64) × (List UInt64) × Unit)) ((Unit) × ((List UInt64) × (List UInt64) × Unit)) zq14_R) :=
 zq14_9 N t_5 (a_1.set 0 ((a_1.getD 0 (0 : UInt64)) + ((5 : UInt64) * c_3))) t_2
def zq14_6 (N : Nat) (c_3 : UInt64) (t_5 : Int) (t_7 : Int) (a_1 : (List UInt64)) (t_2 : (List UInt64)) : Option (Lo ((Int × Unit) × ((List UInt64) × (List UInt64) × Unit)) ((Unit) × ((List UInt64) × (List UInt64) × Unit)) zq14_R) :=
 loopK N (fun y => zq14_s7 N y.1.1 y.1.2.1 y.1.2.2.1 y.2.1 y.2.2.1) (fun (e : ((UInt64 × Int × Unit) × ((List UInt64) × (List UInt64) × Unit))) => zq14_8 N e.1.1 e.1.2.1 e.2.1 e.2.2.1) ((c_3, t_5, t_7, ()), (a_1, t_2, ()))
def zq14_5 (N : Nat) (t_5 : Int) (a_1 : (List UInt64)) (t_2 : (List UInt64)) : Option (Lo ((Int × Unit) × ((List UInt64) × (List UInt64) × Unit)) ((Unit) × ((List UInt64) × (List UInt64) × Unit)) zq14_R) :=
 zq14_6 N (0 : UInt64) t_5 (0 : Int) a_1 t_2
def zq14_3 (N : Nat) (t_5 : Int) (a_1 : (List UInt64)) (t_2 : (List UInt64)) : Option (Lo ((Int × Unit) × ((List UInt64) × (List UInt64) × Unit)) ((Unit) × ((List UInt64) × (List UInt64) × Unit)) zq14_R) :=
 zq14_5 N t_5 a_1 t_2
def zq14_s2 (N : Nat) (t_5 : Int) (a_1 : (List UInt64)) (t_2 : (List UInt64)) : Option (Lo ((Int × Unit) × ((List UInt64) × (List UInt64) × Unit)) ((Unit) × ((List UInt64) × (List UInt64) × Unit)) zq14_R) :=
 bif (decide (t_5 < (2 : Int))) then
  zq14_3 N t_5 a_1 t_2
 else
  some (.br ((()), (a_1, t_2, ())))
def zq14_10 (N : Nat) (a_1 : (List UInt64)) (t_2 : (List UInt64)) : Option zq14_R :=
 some ((a_1, ()), (()))
def zq14_1 (N : Nat) (t_5 : Int) (a_1 : (List UInt64)) (t_2 : (List UInt64)) : Option zq14_R :=
 loopK N (fun y => zq14_s2 N y.1.1 y.2.1 y.2.2.1) (fun (e : ((Unit) × ((List UInt64) × (List UInt64) × Unit))) => zq14_10 N e.2.1 e.2.2.1) ((t_5, ()), (a_1, t_2, ()))
def zq14 (N : Nat) (a_0 : (List UInt64)) : Option zq14_R :=
 zq14_1 N (0 : Int) a_0 (List.replicate 5 (0 : UInt64))
def zq14_C (N : Nat) := Cx 34 []
def zq14_S0 : Spec := ⟨[.ref 0 (.arr 5 .u64), .ref 1 (.arr 5 .u64), .val .u64, .val .i64, .val .i64], [(.box 133 (.arr 5 .u64), .pos 0), (.box 133 (.arr 5 .u64), .pos 1)]⟩
def zq14_S1 : Spec := ⟨[.ref 0 (.arr 5 .u64), .ref 1 (.arr 5 .u64), .val .i64], [(.box 133 (.arr 5 .u64), .pos 0), (.box 133 (.arr 5 .u64), .pos 1)]⟩
def zq14_S2 : Spec := ⟨[.ref 0 (.arr 5 .u64), .ref 1 (.arr 5 .u64), .val .u64, .val .i64], [(.box 133 (.arr 5 .u64), .pos 0), (.box 133 (.arr 5 .u64), .pos 1)]⟩
def zq14_S3 : Spec := ⟨[.ref 0 (.arr 5 .u64), .ref 1 (.arr 5 .u64)], [(.box 133 (.arr 5 .u64), .pos 0), (.box 133 (.arr 5 .u64), .pos 1)]⟩
def zq14_S4 : Spec := ⟨[.val (.arr 5 .u64)], []⟩
def zq14_S5 : Spec := ⟨[.fp (.arr 5 .u64)], []⟩
def zq14_K : XE → GS → Option zq14_R := retK 0 [2] [true] zq14_S5
noncomputable def zq14_L : List Code := (bodyOf (some Tryz.f156))
def zq14_L2 : List Code := (loopOf (zq14_L[2]?))
def zq14_L4b : List Code := (zw2h (zq14_L2[2]?))
def zq14_L7 : List Code := (loopOf (zq14_L4b[2]?))
def zq14_K2 (N : Nat) := roundK (some 0) (fit 0 [1, 2, 5] zq14_S1) (fit 0 [1, 2] zq14_S3) zq14_K
def zq14_K4 (N : Nat) : XE → GS → Option (Lo ((Int × Unit) × ((List UInt64) × (List UInt64) × Unit)) ((Unit) × ((List UInt64) × (List UInt64) × Unit)) zq14_R) := blockK 1 (goK 0 [1, 2, 5] zq14_S1 (fun y => zq14_9 N y.1.1 y.2.1 y.2.2.1)) (zq14_K2 N)
def zq14_K7 (N : Nat) := roundK (some 2) (fit 0 [1, 2, 3, 5, 7] zq14_S0) (fit 0 [1, 2, 3, 5] zq14_S2) (zq14_K4 N)
theorem zq14_s7_b (N) : Bk 0 (zq14_C N) [1, 2, 3, 5, 7] zq14_S0 (zq14_L7.drop 0) (fun y => zq14_s7 N y.1.1 y.1.2.1 y.1.2.2.1 y.2.1 y.2.2.1) (zq14_K7 N) :=
 cE 4
theorem zq14_9_b (N) : Bk 0 (zq14_C N) [1, 2, 5] zq14_S1 (zq14_L2.drop 3) (fun y => zq14_9 N y.1.1 y.2.1 y.2.2.1) (zq14_K2 N) :=
 cE 1
theorem zq14_8_b (N) : Bk 0 (zq14_C N) [1, 2, 3, 5] zq14_S2 (zq14_L4b.drop 3) (fun y => zq14_8 N y.1.1 y.1.2.1 y.2.1 y.2.2.1) (zq14_K4 N) :=
 cE 1
theorem zq14_6_b (N) : Bk 0 (zq14_C N) [1, 2, 3, 5, 7] zq14_S0 (zq14_L4b.drop 2) (fun y => zq14_6 N y.1.1 y.1.2.1 y.1.2.2.1 y.2.1 y.2.2.1) (zq14_K4 N) :=
 lG N zq14_S0 [1, 2, 3, 5] zq14_S2 (zq14_8_b N) (zq14_s7_b N)
theorem zq14_5_b (N) : Bk 0 (zq14_C N) [1, 2, 5] zq14_S1 (zq14_L4b.drop 0) (fun y => zq14_5 N y.1.1 y.2.1 y.2.2.1) (zq14_K4 N) :=
 cG 2 (zq14_6_b N)
theorem zq14_3_b (N) : Bk 0 (zq14_C N) [1, 2, 5] zq14_S1 (zq14_L2.drop 2) (fun y => zq14_3 N y.1.1 y.2.1 y.2.2.1) (zq14_K2 N) :=
 fun hb => Blk.blockAt (bid := 1) (X := (goK 0 [1, 2, 5] zq14_S1 (fun y => zq14_9 N y.1.1 y.2.1 y.2.2.1))) (Y := (goK 0 [1, 2, 5] zq14_S1 (fun y => zq14_5 N y.1.1 y.2.1 y.2.2.1))) (by kernel_rfl) (NxOk.go hb (zq14_9_b N hb)) (NxOk.go hb (zq14_5_b N hb)) (fun x => by kernel_rfl)
theorem zq14_s2_b (N) : Bk 0 (zq14_C N) [1, 2, 5] zq14_S1 (zq14_L2.drop 0) (fun y => zq14_s2 N y.1.1 y.2.1 y.2.2.1) (zq14_K2 N) :=
 cG 2 (zq14_3_b N)
theorem zq14_10_b (N) : Bk 0 (zq14_C N) [1, 2] zq14_S3 (zq14_L.drop 3) (fun y => zq14_10 N y.2.1 y.2.2.1) zq14_K :=
 cE 2
theorem zq14_1_b (N) : Bk 0 (zq14_C N) [1, 2, 5] zq14_S1 (zq14_L.drop 2) (fun y => zq14_1 N y.1.1 y.2.1 y.2.2.1) zq14_K :=
 lG N zq14_S1 [1, 2] zq14_S3 (zq14_10_b N) (zq14_s2_b N)
theorem zq14_b (N) : Bk 0 (zq14_C N) (List.range zq14_S4.ks.length) zq14_S4 (zq14_L.drop 0) (fun y => zq14 N y.1.1) zq14_K :=
 cG 2 (zq14_1_b N)
def zq14_ctr (N : Nat) : Ctr := ⟨zq14_S4, zq14_S5.un [true], 0, (fun y => zq14 N y.1.1)⟩
theorem zq14_ok (N : Nat) : COk 156 (zq14_ctr N) :=
 cF (zw2 (Γ := zq14_C N) zw1 csn) Tryz.func156 Tryz.ntmps156 (zq14_b N)
abbrev zq24_R : Type := (((List UInt64) × Unit) × (Unit))
def zq24_s2 (N : Nat) (t_6 : Int) (a_2 : (List UInt64)) (b_3 : (List UInt64)) (t_4 : (List UInt64)) : Option (Lo ((Int × Unit) × ((List UInt64) × (List UInt64) × (List UInt64) × Unit)) ((Unit) × ((List UInt64) × (List UInt64) × Unit)) zq24_R) :=
 bif (decide (t_6 < (5 : Int))) then
  bif inR t_6 5 then
  bif inR t_6 5 then
  bif inR t_6 5 then
  some (.go (((w64 (t_6 + (1 : Int))), ()), ((a_2.set t_6.toNat ((a_2.getD t_6.toNat (0 : UInt64)) + (b_3.getD t_6.toNat (0 : UInt64)))), b_3, t_4, ())))
  else none
  else none
  else none
 else
  some (.br ((()), (a_2, t_4, ())))
def zq24_3 (N : Nat) (a_2 : (List UInt64)) (t_4 : (List UInt64)) : Option zq24_R :=
 Option.bind (zq14 N a_2) fun y7 =>
 some ((y7.1.1, ()), (()))
def zq24_1 (N : Nat) (t_6 : Int) (a_2 : (List UInt64)) (b_3 : (List UInt64)) (t_4 : (List UInt64)) : Option zq24_R :=
 loopK N (fun y => zq24_s2 N y.1.1 y.2.1 y.2.2.1 y.2.2.2.1) (fun (e : ((Unit) × ((List UInt64) × (List UInt64) × Unit))) => zq24_3 N e.2.1 e.2.2.1) ((t_6, ()), (a_2, b_3, t_4, ()))
def zq24 (N : Nat) (a_0 : (List UInt64)) (b_1 : (List UInt64)) : Option zq24_R :=
 zq24_1 N (0 : Int) a_0 b_1 (List.replicate 5 (0 : UInt64))
def zq24_C (N : Nat) := Cx 20 [(156, zq14_ctr N)]
def zq24_S0 : Spec := ⟨[.ref 0 (.arr 5 .u64), .ref 1 (.arr 5 .u64), .ref 2 (.arr 5 .u64), .val .i64], [(.box 133 (.arr 5 .u64), .pos 0), (.box 133 (.arr 5 .u64), .pos 1), (.box 133 (.arr 5 .u64), .pos 2)]⟩
def zq24_S1 : Spec := ⟨[.ref 0 (.arr 5 .u64), .ref 1 (.arr 5 .u64)], [(.box 133 (.arr 5 .u64), .pos 0), (.box 133 (.arr 5 .u64), .pos 1)]⟩
def zq24_S2 : Spec := ⟨[.val (.arr 5 .u64), .val (.arr 5 .u64)], []⟩
def zq24_S3 : Spec := ⟨[.fp (.arr 5 .u64)], []⟩
def zq24_K : XE → GS → Option zq24_R := retK 0 [4] [true] zq24_S3
noncomputable def zq24_L : List Code := (bodyOf (some Tryz.f150))
def zq24_L2 : List Code := (loopOf (zq24_L[2]?))
def zq24_K2 (N : Nat) := roundK (some 0) (fit 0 [2, 3, 4, 6] zq24_S0) (fit 0 [2, 4] zq24_S1) zq24_K
theorem zq24_s2_b (N) : Bk 0 (zq24_C N) [2, 3, 4, 6] zq24_S0 (zq24_L2.drop 0) (fun y => zq24_s2 N y.1.1 y.2.1 y.2.2.1 y.2.2.2.1) (zq24_K2 N) :=
 cE 4
theorem zq24_3_b (N) : Bk 0 (zq24_C N) [2, 4] zq24_S1 (zq24_L.drop 3) (fun y => zq24_3 N y.2.1 y.2.2.1) zq24_K :=
 cE 2
theorem zq24_1_b (N) : Bk 0 (zq24_C N) [2, 3, 4, 6] zq24_S0 (zq24_L.drop 2) (fun y => zq24_1 N y.1.1 y.2.1 y.2.2.1 y.2.2.2.1) zq24_K :=
 lG N zq24_S0 [2, 4] zq24_S1 (zq24_3_b N) (zq24_s2_b N)
theorem zq24_b (N) : Bk 0 (zq24_C N) (List.range zq24_S2.ks.length) zq24_S2 (zq24_L.drop 0) (fun y => zq24 N y.1.1 y.1.2.1) zq24_K :=
 cG 2 (zq24_1_b N)
def zq24_ctr (N : Nat) : Ctr := ⟨zq24_S2, zq24_S3.un [true], 0, (fun y => zq24 N y.1.1 y.1.2.1)⟩
theorem zq24_ok (N : Nat) : COk 150 (zq24_ctr N) :=
 cF (zw2 (Γ := zq24_C N) zw1 (csc (zq14_ok N) csn)) Tryz.func150 Tryz.ntmps150 (zq24_b N)
abbrev zq22_R : Type := (((List UInt64) × Unit) × (Unit))
def zq22_s7 (N : Nat) (i_6 : Int) (t_9 : Int) (t_12 : Int) (a_2 : (List UInt64)) (b_3 : (List UInt64)) (t_4 : (List UInt64)) (out_5 : (List UInt64)) : Option (Lo ((Int × Int × Int × Unit) × ((List UInt64) × (List UInt64) × (List UInt64) × (List UInt64) × Unit)) ((Int × Unit) × ((List UInt64) × (List UInt64) × (List UInt64) × (List UInt64) × Unit)) (Lo ((Int × Unit) × ((List UInt64) × (List UInt64) × (List UInt64) × (List UInt64) × Unit)) ((Unit) × ((List UInt64) × (List UInt64) × Unit)) zq22_R)) :=
 bif (decide (t_12 < (5 : Int))) then
  bif inR i_6 5 then
  let x3 := (a_2.getD i_6.toNat (0 : UInt64))
  bif inR t_12 5 then
  let x4 := (b_3.getD t_12.toNat (0 : UInt64))
  bif (decide ((5 : Int) ≤ (w64 (i_6 + t_12)))) then
   let x10 := (w64 (i_6 + t_12)).tmod (5 : Int)
   bif inR x10 5 then
   bif inR x10 5 then
   some (.go ((i_6, t_9, (w64 (t_12 + (1 : Int))), ()), (a_2, b_3, t_4, (out_5.set x10.toNat ((out_5.getD x10.toNat (0 : UInt64)) + ((x3 * x4) * (5 : UInt64)))), ())))
   else none
   else none
  else
   let x16 := (w64 (i_6 + t_12)).tmod (5 : Int)
   bif inR x16 5 then
   bif inR x16 5 then
   some (.go ((i_6, t_9, (w64 (t_12 + (1 : Int))), ()), (a_2, b_3, t_4, (out_5.set x16.toNat ((out_5.getD x16.toNat (0 : UInt64)) + (x3 * x4))), ())))
   else none
   else none
  else none
  else none
 else
  some (.br ((t_9, ()), (a_2, b_3, t_4, out_5, ())))
def zq22_8 (N : Nat) (t_9 : Int) (a_2 : (List UInt64)) (b_3 : (List UInt64)) (t_4 : (List UInt64)) (out_5 : (List UInt64)) : Option (Lo ((Int × Unit) × ((List UInt64) × (List UInt64) × (List UInt64) × (List UInt64) × Unit)) ((Unit) × ((List UInt64) × (List UInt64) × Unit)) zq22_R) :=
 some (.go (((w64 (t_9 + (1 : Int))), ()), (a_2, b_3, t_4, out_5, ())))
def zq22_6 (N : Nat) (i_6 : Int) (t_9 : Int) (t_12 : Int) (a_2 : (List UInt64)) (b_3 : (List UInt64)) (t_4 : (List UInt64)) (out_5 : (List UInt64)) : Option (Lo ((Int × Unit) × ((List UInt64) × (List UInt64) × (List UInt64) × (List UInt64) × Unit)) ((Unit) × ((List UInt64) × (List UInt64) × Unit)) zq22_R) :=
 loopK N (fun y => zq22_s7 N y.1.1 y.1.2.1 y.1.2.2.1 y.2.1 y.2.2.1 y.2.2.2.1 y.2.2.2.2.1) (fun (e : ((Int × Unit) × ((List UInt64) × (List UInt64) × (List UInt64) × (List UInt64) × Unit))) => zq22_8 N e.1.1 e.2.1 e.2.2.1 e.2.2.2.1 e.2.2.2.2.1) ((i_6, t_9, t_12, ()), (a_2, b_3, t_4, out_5, ()))
def zq22_5 (N : Nat) (t_9 : Int) (a_2 : (List UInt64)) (b_3 : (List UInt64)) (t_4 : (List UInt64)) (out_5 : (List UInt64)) : Option (Lo ((Int × Unit) × ((List UInt64) × (List UInt64) × (List UInt64) × (List UInt64) × Unit)) ((Unit) × ((List UInt64) × (List UInt64) × Unit)) zq22_R) :=
 zq22_6 N t_9 t_9 (0 : Int) a_2 b_3 t_4 out_5
def zq22_3 (N : Nat) (t_9 : Int) (a_2 : (List UInt64)) (b_3 : (List UInt64)) (t_4 : (List UInt64)) (out_5 : (List UInt64)) : Option (Lo ((Int × Unit) × ((List UInt64) × (List UInt64) × (List UInt64) × (List UInt64) × Unit)) ((Unit) × ((List UInt64) × (List UInt64) × Unit)) zq22_R) :=
 zq22_5 N t_9 a_2 b_3 t_4 out_5
def zq22_s2 (N : Nat) (t_9 : Int) (a_2 : (List UInt64)) (b_3 : (List UInt64)) (t_4 : (List UInt64)) (out_5 : (List UInt64)) : Option (Lo ((Int × Unit) × ((List UInt64) × (List UInt64) × (List UInt64) × (List UInt64) × Unit)) ((Unit) × ((List UInt64) × (List UInt64) × Unit)) zq22_R) :=
 bif (decide (t_9 < (5 : Int))) then
  zq22_3 N t_9 a_2 b_3 t_4 out_5
 else
  some (.br ((()), (t_4, out_5, ())))
def zq22_9 (N : Nat) (t_4 : (List UInt64)) (out_5 : (List UInt64)) : Option zq22_R :=
 Option.bind (zq14 N out_5) fun y22 =>
 some ((y22.1.1, ()), (()))
def zq22_1 (N : Nat) (t_9 : Int) (a_2 : (List UInt64)) (b_3 : (List UInt64)) (t_4 : (List UInt64)) (out_5 : (List UInt64)) : Option zq22_R :=
 loopK N (fun y => zq22_s2 N y.1.1 y.2.1 y.2.2.1 y.2.2.2.1 y.2.2.2.2.1) (fun (e : ((Unit) × ((List UInt64) × (List UInt64) × Unit))) => zq22_9 N e.2.1 e.2.2.1) ((t_9, ()), (a_2, b_3, t_4, out_5, ()))
def zq22 (N : Nat) (a_0 : (List UInt64)) (b_1 : (List UInt64)) : Option zq22_R :=
 zq22_1 N (0 : Int) a_0 b_1 (List.replicate 5 (0 : UInt64)) (List.replicate 5 (0 : UInt64))
def zq22_C (N : Nat) := Cx 41 [(156, zq14_ctr N)]
def zq22_S0 : Spec := ⟨[.ref 0 (.arr 5 .u64), .ref 1 (.arr 5 .u64), .ref 2 (.arr 5 .u64), .ref 3 (.arr 5 .u64), .val .i64, .val .i64, .val .i64], [(.box 133 (.arr 5 .u64), .pos 0), (.box 133 (.arr 5 .u64), .pos 1), (.box 133 (.arr 5 .u64), .pos 2), (.box 133 (.arr 5 .u64), .pos 3)]⟩
def zq22_S1 : Spec := ⟨[.ref 0 (.arr 5 .u64), .ref 1 (.arr 5 .u64), .ref 2 (.arr 5 .u64), .ref 3 (.arr 5 .u64), .val .i64], [(.box 133 (.arr 5 .u64), .pos 0), (.box 133 (.arr 5 .u64), .pos 1), (.box 133 (.arr 5 .u64), .pos 2), (.box 133 (.arr 5 .u64), .pos 3)]⟩
def zq22_S2 : Spec := ⟨[.ref 0 (.arr 5 .u64), .ref 1 (.arr 5 .u64)], [(.box 133 (.arr 5 .u64), .pos 0), (.box 133 (.arr 5 .u64), .pos 1)]⟩
def zq22_S3 : Spec := ⟨[.val (.arr 5 .u64), .val (.arr 5 .u64)], []⟩
def zq22_S4 : Spec := ⟨[.fp (.arr 5 .u64)], []⟩
def zq22_K : XE → GS → Option zq22_R := retK 0 [4] [true] zq22_S4
noncomputable def zq22_L : List Code := (bodyOf (some Tryz.f151))
def zq22_L2 : List Code := (loopOf (zq22_L[3]?))
def zq22_L4b : List Code := (zw2h (zq22_L2[2]?))
def zq22_L7 : List Code := (loopOf (zq22_L4b[2]?))
def zq22_K2 (N : Nat) := roundK (some 0) (fit 0 [2, 3, 4, 5, 9] zq22_S1) (fit 0 [4, 5] zq22_S2) zq22_K
def zq22_K4 (N : Nat) : XE → GS → Option (Lo ((Int × Unit) × ((List UInt64) × (List UInt64) × (List UInt64) × (List UInt64) × Unit)) ((Unit) × ((List UInt64) × (List UInt64) × Unit)) zq22_R) := blockK 1 (goK 0 [2, 3, 4, 5, 9] zq22_S1 (fun y => zq22_8 N y.1.1 y.2.1 y.2.2.1 y.2.2.2.1 y.2.2.2.2.1)) (zq22_K2 N)
def zq22_K7 (N : Nat) := roundK (some 2) (fit 0 [2, 3, 4, 5, 6, 9, 12] zq22_S0) (fit 0 [2, 3, 4, 5, 9] zq22_S1) (zq22_K4 N)
theorem zq22_s7_b (N) : Bk 0 (zq22_C N) [2, 3, 4, 5, 6, 9, 12] zq22_S0 (zq22_L7.drop 0) (fun y => zq22_s7 N y.1.1 y.1.2.1 y.1.2.2.1 y.2.1 y.2.2.1 y.2.2.2.1 y.2.2.2.2.1) (zq22_K7 N) :=
 cE 4
theorem zq22_8_b (N) : Bk 0 (zq22_C N) [2, 3, 4, 5, 9] zq22_S1 (zq22_L2.drop 3) (fun y => zq22_8 N y.1.1 y.2.1 y.2.2.1 y.2.2.2.1 y.2.2.2.2.1) (zq22_K2 N) :=
 cE 1
theorem zq22_6_b (N) : Bk 0 (zq22_C N) [2, 3, 4, 5, 6, 9, 12] zq22_S0 (zq22_L4b.drop 2) (fun y => zq22_6 N y.1.1 y.1.2.1 y.1.2.2.1 y.2.1 y.2.2.1 y.2.2.2.1 y.2.2.2.2.1) (zq22_K4 N) :=
 lE N zq22_S0 [2, 3, 4, 5, 9] zq22_S1 (zq22_s7_b N)
theorem zq22_5_b (N) : Bk 0 (zq22_C N) [2, 3, 4, 5, 9] zq22_S1 (zq22_L4b.drop 0) (fun y => zq22_5 N y.1.1 y.2.1 y.2.2.1 y.2.2.2.1 y.2.2.2.2.1) (zq22_K4 N) :=
 cG 2 (zq22_6_b N)
theorem zq22_3_b (N) : Bk 0 (zq22_C N) [2, 3, 4, 5, 9] zq22_S1 (zq22_L2.drop 2) (fun y => zq22_3 N y.1.1 y.2.1 y.2.2.1 y.2.2.2.1 y.2.2.2.2.1) (zq22_K2 N) :=
 fun hb => Blk.blockAt (bid := 1) (X := (goK 0 [2, 3, 4, 5, 9] zq22_S1 (fun y => zq22_8 N y.1.1 y.2.1 y.2.2.1 y.2.2.2.1 y.2.2.2.2.1))) (Y := (goK 0 [2, 3, 4, 5, 9] zq22_S1 (fun y => zq22_5 N y.1.1 y.2.1 y.2.2.1 y.2.2.2.1 y.2.2.2.2.1))) (by kernel_rfl) (NxOk.go hb (zq22_8_b N hb)) (NxOk.go hb (zq22_5_b N hb)) (fun x => by kernel_rfl)
theorem zq22_s2_b (N) : Bk 0 (zq22_C N) [2, 3, 4, 5, 9] zq22_S1 (zq22_L2.drop 0) (fun y => zq22_s2 N y.1.1 y.2.1 y.2.2.1 y.2.2.2.1 y.2.2.2.2.1) (zq22_K2 N) :=
 cG 2 (zq22_3_b N)
theorem zq22_9_b (N) : Bk 0 (zq22_C N) [4, 5] zq22_S2 (zq22_L.drop 4) (fun y => zq22_9 N y.2.1 y.2.2.1) zq22_K :=
 cE 2
theorem zq22_1_b (N) : Bk 0 (zq22_C N) [2, 3, 4, 5, 9] zq22_S1 (zq22_L.drop 3) (fun y => zq22_1 N y.1.1 y.2.1 y.2.2.1 y.2.2.2.1 y.2.2.2.2.1) zq22_K :=
 lG N zq22_S1 [4, 5] zq22_S2 (zq22_9_b N) (zq22_s2_b N)
theorem zq22_b (N) : Bk 0 (zq22_C N) (List.range zq22_S3.ks.length) zq22_S3 (zq22_L.drop 0) (fun y => zq22 N y.1.1 y.1.2.1) zq22_K :=
 cG 3 (zq22_1_b N)
def zq22_ctr (N : Nat) : Ctr := ⟨zq22_S3, zq22_S4.un [true], 0, (fun y => zq22 N y.1.1 y.1.2.1)⟩
theorem zq22_ok (N : Nat) : COk 151 (zq22_ctr N) :=
 cF (zw2 (Γ := zq22_C N) zw1 (csc (zq14_ok N) csn)) Tryz.func151 Tryz.ntmps151 (zq22_b N)
abbrev zq7_R : Type := (((List UInt64) × Unit) × (Unit))
def zq7_s2 (N : Nat) (t_13 : Int) (a_1 : (List UInt64)) (t_2 : (List UInt64)) (b_3 : (List UInt64)) : Option (Lo ((Int × Unit) × ((List UInt64) × (List UInt64) × (List UInt64) × Unit)) ((Unit) × ((List UInt64) × (List UInt64) × (List UInt64) × Unit)) zq7_R) :=
 bif (decide (t_13 < (4 : Int))) then
  let x7 := w64 (t_13 + (1 : Int))
  bif inR x7 5 then
  bif inR t_13 5 then
  bif inR x7 5 then
  let x12 := (b_3.set x7.toNat ((b_3.getD x7.toNat (0 : UInt64)) + (shr64 (b_3.getD t_13.toNat (0 : UInt64)) 26)))
  bif inR t_13 5 then
  bif inR t_13 5 then
  some (.go (((w64 (t_13 + (1 : Int))), ()), (a_1, t_2, (x12.set t_13.toNat ((x12.getD t_13.toNat (0 : UInt64)) &&& (67108863 : UInt64))), ())))
  else none
  else none
  else none
  else none
  else none
 else
  some (.br ((()), (a_1, t_2, b_3, ())))
def zq7_3 (N : Nat) (a_1 : (List UInt64)) (t_2 : (List UInt64)) (b_3 : (List UInt64)) : Option zq7_R :=
 bif (decide ((shr64 (b_3.getD 4 (0 : UInt64)) 26) = (0 : UInt64))) then
  some ((a_1, ()), (()))
 else
  some (((b_3.set 4 ((b_3.getD 4 (0 : UInt64)) &&& (67108863 : UInt64))), ()), (()))
def zq7_1 (N : Nat) (t_13 : Int) (a_1 : (List UInt64)) (t_2 : (List UInt64)) (b_3 : (List UInt64)) : Option zq7_R :=
 loopK N (fun y => zq7_s2 N y.1.1 y.2.1 y.2.2.1 y.2.2.2.1) (fun (e : ((Unit) × ((List UInt64) × (List UInt64) × (List UInt64) × Unit))) => zq7_3 N e.2.1 e.2.2.1 e.2.2.2.1) ((t_13, ()), (a_1, t_2, b_3, ()))
def zq7 (N : Nat) (a_0 : (List UInt64)) : Option zq7_R :=
 Option.bind (zq14 N a_0) fun y1 =>
 Option.bind (zq14 N y1.1.1) fun y2 =>
 zq7_1 N (0 : Int) y2.1.1 (List.replicate 5 (0 : UInt64)) (y2.1.1.set 0 ((y2.1.1.getD 0 (0 : UInt64)) + (5 : UInt64)))
def zq7_C (N : Nat) := Cx 42 [(156, zq14_ctr N)]
def zq7_S0 : Spec := ⟨[.ref 0 (.arr 5 .u64), .ref 1 (.arr 5 .u64), .ref 2 (.arr 5 .u64), .val .i64], [(.box 133 (.arr 5 .u64), .pos 0), (.box 133 (.arr 5 .u64), .pos 1), (.box 133 (.arr 5 .u64), .pos 2)]⟩
def zq7_S1 : Spec := ⟨[.ref 0 (.arr 5 .u64), .ref 1 (.arr 5 .u64), .ref 2 (.arr 5 .u64)], [(.box 133 (.arr 5 .u64), .pos 0), (.box 133 (.arr 5 .u64), .pos 1), (.box 133 (.arr 5 .u64), .pos 2)]⟩
def zq7_S2 : Spec := ⟨[.val (.arr 5 .u64)], []⟩
def zq7_S3 : Spec := ⟨[.fp (.arr 5 .u64)], []⟩
def zq7_K : XE → GS → Option zq7_R := retK 0 [2] [true] zq7_S3
noncomputable def zq7_L : List Code := (bodyOf (some Tryz.f152))
def zq7_L2 : List Code := (loopOf (zq7_L[5]?))
def zq7_K2 (N : Nat) := roundK (some 0) (fit 0 [1, 2, 3, 13] zq7_S0) (fit 0 [1, 2, 3] zq7_S1) zq7_K
theorem zq7_s2_b (N) : Bk 0 (zq7_C N) [1, 2, 3, 13] zq7_S0 (zq7_L2.drop 0) (fun y => zq7_s2 N y.1.1 y.2.1 y.2.2.1 y.2.2.2.1) (zq7_K2 N) :=
 cE 4
theorem zq7_3_b (N) : Bk 0 (zq7_C N) [1, 2, 3] zq7_S1 (zq7_L.drop 6) (fun y => zq7_3 N y.2.1 y.2.2.1 y.2.2.2.1) zq7_K :=
 cE 5
theorem zq7_1_b (N) : Bk 0 (zq7_C N) [1, 2, 3, 13] zq7_S0 (zq7_L.drop 5) (fun y => zq7_1 N y.1.1 y.2.1 y.2.2.1 y.2.2.2.1) zq7_K :=
 lG N zq7_S0 [1, 2, 3] zq7_S1 (zq7_3_b N) (zq7_s2_b N)
theorem zq7_b (N) : Bk 0 (zq7_C N) (List.range zq7_S2.ks.length) zq7_S2 (zq7_L.drop 0) (fun y => zq7 N y.1.1) zq7_K :=
 cG 5 (zq7_1_b N)
def zq7_ctr (N : Nat) : Ctr := ⟨zq7_S2, zq7_S3.un [true], 0, (fun y => zq7 N y.1.1)⟩
theorem zq7_ok (N : Nat) : COk 152 (zq7_ctr N) :=
 cF (zw2 (Γ := zq7_C N) zw1 (csc (zq14_ok N) csn)) Tryz.func152 Tryz.ntmps152 (zq7_b N)
abbrev zq68_R : Type := ((Bool × Unit) × ((List UInt8) × Unit))
def zq68_s2 (N : Nat) (key_0 : (List UInt8)) (b_1 : (List UInt8)) (r_6 : (List UInt64)) (v_7 : (List UInt64)) : Option (Lo (((List UInt8) × (List UInt8) × Unit) × ((List UInt64) × (List UInt64) × Unit)) (((List UInt8) × Unit) × ((List UInt64) × Unit)) zq68_R) :=
 bif (decide ((0 : Int) < (b_1.length : Int))) then
  let x8 := (b_1.length : Int)
  let x9 := bif decide (x8 < (16 : Int)) then x8 else (16 : Int)
  bif decide (0 ≤ (0 : Int)) && decide ((0 : Int) ≤ x9) && decide (x9 ≤ (b_1.length : Int)) && true then
  let x10 := cut b_1 0 x9.toNat
  bif room (0 + x10.length) 1 then
  bif room (x10.length + ([(1 : UInt8)] : List UInt8).length) 1 then
  Option.bind (zq33 N (x10 ++ ([(1 : UInt8)] : List UInt8))) fun y12 =>
  Option.bind (zq24 N v_7 y12.1.1) fun y13 =>
  Option.bind (zq22 N y13.1.1 r_6) fun y14 =>
  bif decide (0 ≤ x9) && decide (x9 ≤ (b_1.length : Int)) && decide ((b_1.length : Int) ≤ (b_1.length : Int)) && true then
  some (.go ((key_0, (cut b_1 x9.toNat b_1.length), ()), (r_6, y14.1.1, ())))
  else none
  else none
  else none
  else none
 else
  some (.br ((key_0, ()), (v_7, ())))
def zq68_s5 (N : Nat) (t_50 : Int) (v_7 : (List UInt64)) (s_10 : (List UInt64)) : Option (Lo ((Int × Unit) × ((List UInt64) × (List UInt64) × Unit)) ((Unit) × ((List UInt64) × Unit)) zq68_R) :=
 bif (decide (t_50 < (5 : Int))) then
  bif inR t_50 5 then
  bif inR t_50 5 then
  bif inR t_50 5 then
  some (.go (((w64 (t_50 + (1 : Int))), ()), ((v_7.set t_50.toNat ((v_7.getD t_50.toNat (0 : UInt64)) + (s_10.getD t_50.toNat (0 : UInt64)))), s_10, ())))
  else none
  else none
  else none
 else
  some (.br ((()), (v_7, ())))
def zq68_s8 (N : Nat) (t_62 : Int) (v_7 : (List UInt64)) : Option (Lo ((Int × Unit) × ((List UInt64) × Unit)) ((Unit) × ((List UInt64) × Unit)) zq68_R) :=
 bif (decide (t_62 < (4 : Int))) then
  let x26 := w64 (t_62 + (1 : Int))
  bif inR x26 5 then
  bif inR t_62 5 then
  bif inR x26 5 then
  let x31 := (v_7.set x26.toNat ((v_7.getD x26.toNat (0 : UInt64)) + (shr64 (v_7.getD t_62.toNat (0 : UInt64)) 26)))
  bif inR t_62 5 then
  bif inR t_62 5 then
  some (.go (((w64 (t_62 + (1 : Int))), ()), ((x31.set t_62.toNat ((x31.getD t_62.toNat (0 : UInt64)) &&& (67108863 : UInt64))), ())))
  else none
  else none
  else none
  else none
  else none
 else
  some (.br ((()), (v_7, ())))
def zq68_s11 (N : Nat) (t_81 : Int) (v_7 : (List UInt64)) (out_13 : (List UInt8)) : Option (Lo ((Int × Unit) × ((List UInt64) × (List UInt8) × Unit)) ((Unit) × ((List UInt8) × Unit)) zq68_R) :=
 bif (decide (t_81 < (16 : Int))) then
  let x37 := w64 ((8 : Int) * t_81)
  let x38 := w64 (x37.tdiv (26 : Int))
  bif inR x38 5 then
  let x40 := x37.tmod (26 : Int)
  bif decide (0 ≤ x40) then
  let x41 := shr64 (v_7.getD x38.toNat (0 : UInt64)) x40.toNat
  bif (decide ((18 : Int) < (x37.tmod (26 : Int)))) then
   let x45 := w64 ((w64 (x37.tdiv (26 : Int))) + (1 : Int))
   bif inR x45 5 then
   let x48 := w64 ((26 : Int) - (x37.tmod (26 : Int)))
   bif decide (0 ≤ x48) then
   let x49 := shl64 (v_7.getD x45.toNat (0 : UInt64)) x48.toNat
   bif room (out_13.length + ([(x41 ||| x49).toUInt8] : List UInt8).length) 1 then
   some (.go (((w64 (t_81 + (1 : Int))), ()), (v_7, (out_13 ++ ([(x41 ||| x49).toUInt8] : List UInt8)), ())))
   else none
   else none
   else none
  else
   bif room (out_13.length + ([x41.toUInt8] : List UInt8).length) 1 then
   some (.go (((w64 (t_81 + (1 : Int))), ()), (v_7, (out_13 ++ ([x41.toUInt8] : List UInt8)), ())))
   else none
  else none
  else none
 else
  some (.br ((()), (out_13, ())))
def zq68_12 (N : Nat) (out_13 : (List UInt8)) : Option zq68_R :=
 some ((true, ()), (out_13, ()))
def zq68_10 (N : Nat) (t_81 : Int) (v_7 : (List UInt64)) (out_13 : (List UInt8)) : Option zq68_R :=
 loopK N (fun y => zq68_s11 N y.1.1 y.2.1 y.2.2.1) (fun (e : ((Unit) × ((List UInt8) × Unit))) => zq68_12 N e.2.1) ((t_81, ()), (v_7, out_13, ()))
def zq68_9 (N : Nat) (v_7 : (List UInt64)) : Option zq68_R :=
 zq68_10 N (0 : Int) v_7 ([] : List UInt8)
def zq68_7 (N : Nat) (t_62 : Int) (v_7 : (List UInt64)) : Option zq68_R :=
 loopK N (fun y => zq68_s8 N y.1.1 y.2.1) (fun (e : ((Unit) × ((List UInt64) × Unit))) => zq68_9 N e.2.1) ((t_62, ()), (v_7, ()))
def zq68_6 (N : Nat) (v_7 : (List UInt64)) : Option zq68_R :=
 zq68_7 N (0 : Int) v_7
def zq68_4 (N : Nat) (t_50 : Int) (v_7 : (List UInt64)) (s_10 : (List UInt64)) : Option zq68_R :=
 loopK N (fun y => zq68_s5 N y.1.1 y.2.1 y.2.2.1) (fun (e : ((Unit) × ((List UInt64) × Unit))) => zq68_6 N e.2.1) ((t_50, ()), (v_7, s_10, ()))
def zq68_3 (N : Nat) (key_0 : (List UInt8)) (v_7 : (List UInt64)) : Option zq68_R :=
 Option.bind (zq7 N v_7) fun y16 =>
 bif decide (0 ≤ (16 : Int)) && decide ((16 : Int) ≤ (key_0.length : Int)) && decide ((key_0.length : Int) ≤ (key_0.length : Int)) && true then
 Option.bind (zq33 N (cut key_0 16 key_0.length)) fun y18 =>
 zq68_4 N (0 : Int) y16.1.1 y18.1.1
 else none
def zq68_1 (N : Nat) (key_0 : (List UInt8)) (b_1 : (List UInt8)) (r_6 : (List UInt64)) (v_7 : (List UInt64)) : Option zq68_R :=
 loopK N (fun y => zq68_s2 N y.1.1 y.1.2.1 y.2.1 y.2.2.1) (fun (e : (((List UInt8) × Unit) × ((List UInt64) × Unit))) => zq68_3 N e.1.1 e.2.1) ((key_0, b_1, ()), (r_6, v_7, ()))
def zq68 (N : Nat) (key_0 : (List UInt8)) (b_1 : (List UInt8)) : Option zq68_R :=
 bif (!(decide ((key_0.length : Int) = (32 : Int)))) then
  some ((false, ()), (([] : List UInt8), ()))
 else
  bif decide (0 ≤ (0 : Int)) && decide ((0 : Int) ≤ (16 : Int)) && decide ((16 : Int) ≤ (key_0.length : Int)) && true then
  Option.bind (zq45 N (cut key_0 0 16)) fun y4 =>
  Option.bind (zq33 N y4.2.1) fun y5 =>
  zq68_1 N key_0 b_1 y5.1.1 (List.replicate 5 (0 : UInt64))
  else none
def zq68_C (N : Nat) := Cx 114 [(149, zq45_ctr N), (148, zq33_ctr N), (150, zq24_ctr N), (151, zq22_ctr N), (152, zq7_ctr N)]
def zq68_S0 : Spec := ⟨[.val (.sl .u8), .val (.sl .u8), .ref 0 (.arr 5 .u64), .ref 1 (.arr 5 .u64)], [(.box 133 (.arr 5 .u64), .pos 2), (.box 133 (.arr 5 .u64), .pos 3)]⟩
def zq68_S1 : Spec := ⟨[.ref 0 (.arr 5 .u64), .ref 1 (.arr 5 .u64), .val .i64], [(.box 133 (.arr 5 .u64), .pos 0), (.box 133 (.arr 5 .u64), .pos 1)]⟩
def zq68_S2 : Spec := ⟨[.ref 0 (.arr 5 .u64), .val .i64], [(.box 133 (.arr 5 .u64), .pos 0)]⟩
def zq68_S3 : Spec := ⟨[.ref 0 (.arr 5 .u64), .row 1, .val .i64], [(.box 133 (.arr 5 .u64), .pos 0), (.row 5 .u8, .pos 1)]⟩
def zq68_S4 : Spec := ⟨[.row 0], [(.row 5 .u8, .pos 0)]⟩
def zq68_S5 : Spec := ⟨[.ref 0 (.arr 5 .u64)], [(.box 133 (.arr 5 .u64), .pos 0)]⟩
def zq68_S6 : Spec := ⟨[.val (.sl .u8), .ref 0 (.arr 5 .u64)], [(.box 133 (.arr 5 .u64), .pos 1)]⟩
def zq68_S7 : Spec := ⟨[.val (.sl .u8), .val (.sl .u8)], []⟩
def zq68_S8 : Spec := ⟨[.row 0, .val .bool], [(.row 5 .u8, .pos 0)]⟩
def zq68_K : XE → GS → Option zq68_R := retK 0 [4, 5] [false, false] zq68_S8
noncomputable def zq68_L : List Code := (bodyOf (some Tryz.f142))
def zq68_L2 : List Code := (loopOf (zq68_L[5]?))
def zq68_L5 : List Code := (loopOf (zq68_L[9]?))
def zq68_L8 : List Code := (loopOf (zq68_L[11]?))
def zq68_L11 : List Code := (loopOf (zq68_L[14]?))
def zq68_K2 (N : Nat) := roundK (some 0) (fit 0 [0, 1, 6, 7] zq68_S0) (fit 0 [0, 7] zq68_S6) zq68_K
def zq68_K5 (N : Nat) := roundK (some 2) (fit 0 [7, 10, 50] zq68_S1) (fit 0 [7] zq68_S5) zq68_K
def zq68_K8 (N : Nat) := roundK (some 4) (fit 0 [7, 62] zq68_S2) (fit 0 [7] zq68_S5) zq68_K
def zq68_K11 (N : Nat) := roundK (some 6) (fit 0 [7, 13, 81] zq68_S3) (fit 0 [13] zq68_S4) zq68_K
theorem zq68_s2_b (N) : Bk 0 (zq68_C N) [0, 1, 6, 7] zq68_S0 (zq68_L2.drop 0) (fun y => zq68_s2 N y.1.1 y.1.2.1 y.2.1 y.2.2.1) (zq68_K2 N) :=
 cE 3
theorem zq68_s5_b (N) : Bk 0 (zq68_C N) [7, 10, 50] zq68_S1 (zq68_L5.drop 0) (fun y => zq68_s5 N y.1.1 y.2.1 y.2.2.1) (zq68_K5 N) :=
 cE 4
theorem zq68_s8_b (N) : Bk 0 (zq68_C N) [7, 62] zq68_S2 (zq68_L8.drop 0) (fun y => zq68_s8 N y.1.1 y.2.1) (zq68_K8 N) :=
 cE 4
theorem zq68_s11_b (N) : Bk 0 (zq68_C N) [7, 13, 81] zq68_S3 (zq68_L11.drop 0) (fun y => zq68_s11 N y.1.1 y.2.1 y.2.2.1) (zq68_K11 N) :=
 cE 4
theorem zq68_12_b (N) : Bk 0 (zq68_C N) [13] zq68_S4 (zq68_L.drop 15) (fun y => zq68_12 N y.2.1) zq68_K :=
 cE 2
theorem zq68_10_b (N) : Bk 0 (zq68_C N) [7, 13, 81] zq68_S3 (zq68_L.drop 14) (fun y => zq68_10 N y.1.1 y.2.1 y.2.2.1) zq68_K :=
 lG N zq68_S3 [13] zq68_S4 (zq68_12_b N) (zq68_s11_b N)
theorem zq68_9_b (N) : Bk 0 (zq68_C N) [7] zq68_S5 (zq68_L.drop 12) (fun y => zq68_9 N y.2.1) zq68_K :=
 cG 2 (zq68_10_b N)
theorem zq68_7_b (N) : Bk 0 (zq68_C N) [7, 62] zq68_S2 (zq68_L.drop 11) (fun y => zq68_7 N y.1.1 y.2.1) zq68_K :=
 lG N zq68_S2 [7] zq68_S5 (zq68_9_b N) (zq68_s8_b N)
theorem zq68_6_b (N) : Bk 0 (zq68_C N) [7] zq68_S5 (zq68_L.drop 10) (fun y => zq68_6 N y.2.1) zq68_K :=
 cG 1 (zq68_7_b N)
theorem zq68_4_b (N) : Bk 0 (zq68_C N) [7, 10, 50] zq68_S1 (zq68_L.drop 9) (fun y => zq68_4 N y.1.1 y.2.1 y.2.2.1) zq68_K :=
 lG N zq68_S1 [7] zq68_S5 (zq68_6_b N) (zq68_s5_b N)
theorem zq68_3_b (N) : Bk 0 (zq68_C N) [0, 7] zq68_S6 (zq68_L.drop 6) (fun y => zq68_3 N y.1.1 y.2.1) zq68_K :=
 cG 3 (zq68_4_b N)
theorem zq68_1_b (N) : Bk 0 (zq68_C N) [0, 1, 6, 7] zq68_S0 (zq68_L.drop 5) (fun y => zq68_1 N y.1.1 y.1.2.1 y.2.1 y.2.2.1) zq68_K :=
 lG N zq68_S0 [0, 7] zq68_S6 (zq68_3_b N) (zq68_s2_b N)
theorem zq68_b (N) : Bk 0 (zq68_C N) (List.range zq68_S7.ks.length) zq68_S7 (zq68_L.drop 0) (fun y => zq68 N y.1.1 y.1.2.1) zq68_K :=
 cG 5 (zq68_1_b N)
def zq68_ctr (N : Nat) : Ctr := ⟨zq68_S7, zq68_S8.un [false, false], 0, (fun y => zq68 N y.1.1 y.1.2.1)⟩
theorem zq68_ok (N : Nat) : COk 142 (zq68_ctr N) :=
 cF (zw2 (Γ := zq68_C N) zw1 (csc (zq45_ok N) (csc (zq33_ok N) (csc (zq24_ok N) (csc (zq22_ok N) (csc (zq7_ok N) csn)))))) Tryz.func142 Tryz.ntmps142 (zq68_b N)
abbrev zq116_R : Type := ((Bool × Unit) × ((List UInt8) × Unit))
def zq116 (N : Nat) (key_0 : (List UInt8)) (nonce_1 : (List UInt8)) (data_2 : (List UInt8)) (cipher_3 : (List UInt8)) : Option zq116_R :=
 Option.bind (zq89 N key_0 nonce_1) fun y1 =>
 bif (!y1.1.1) then
  some ((false, ()), (([] : List UInt8), ()))
 else
  Option.bind (zq56 N key_0 (0 : UInt32) nonce_1) fun y3 =>
  Option.bind (zq83 N data_2 ([] : List UInt8)) fun y4 =>
  Option.bind (zq83 N cipher_3 y4.2.1) fun y5 =>
  bif decide (0 ≤ (0 : Int)) && decide ((0 : Int) ≤ (32 : Int)) && decide ((32 : Int) ≤ (y3.2.1.length : Int)) && true then
  Option.bind (zq87 N (data_2.length : Int) y5.2.1) fun y8 =>
  Option.bind (zq87 N (cipher_3.length : Int) y8.2.1) fun y10 =>
  Option.bind (zq68 N (cut y3.2.1 0 32) y10.2.1) fun y11 =>
  some ((y11.1.1, ()), (y11.2.1, ()))
  else none
def zq116_C (N : Nat) := Cx 39 [(126, zq89_ctr N), (140, zq56_ctr N), (141, zq83_ctr N), (143, zq87_ctr N), (142, zq68_ctr N)]
def zq116_S0 : Spec := ⟨[.val (.sl .u8), .val (.sl .u8), .val (.sl .u8), .val (.sl .u8)], []⟩
def zq116_S1 : Spec := ⟨[.row 0, .val .bool], [(.row 5 .u8, .pos 0)]⟩
def zq116_K : XE → GS → Option zq116_R := retK 0 [8, 9] [false, false] zq116_S1
noncomputable def zq116_L : List Code := (bodyOf (some Tryz.f128))
theorem zq116_b (N) : Bk 0 (zq116_C N) (List.range zq116_S0.ks.length) zq116_S0 (zq116_L.drop 0) (fun y => zq116 N y.1.1 y.1.2.1 y.1.2.2.1 y.1.2.2.2.1) zq116_K :=
 cE 7
def zq116_ctr (N : Nat) : Ctr := ⟨zq116_S0, zq116_S1.un [false, false], 0, (fun y => zq116 N y.1.1 y.1.2.1 y.1.2.2.1 y.1.2.2.2.1)⟩
theorem zq116_ok (N : Nat) : COk 128 (zq116_ctr N) :=
 cF (zw2 (Γ := zq116_C N) zw1 (csc (zq89_ok N) (csc (zq56_ok N) (csc (zq83_ok N) (csc (zq87_ok N) (csc (zq68_ok N) csn)))))) Tryz.func128 Tryz.ntmps128 (zq116_b N)
abbrev zq106_R : Type := ((Int × Unit) × ((List UInt8) × Unit))
def zq106 (N : Nat) (key_0 : (List UInt8)) (nonce_1 : (List UInt8)) (data_2 : (List UInt8)) (plain_3 : (List UInt8)) : Option zq106_R :=
 Option.bind (zq89 N key_0 nonce_1) fun y1 =>
 bif (!y1.1.1) then
  some (((13 : Int), ()), (([] : List UInt8), ()))
 else
  Option.bind (zq102 N key_0 (1 : UInt32) nonce_1 plain_3) fun y3 =>
  Option.bind (zq116 N key_0 nonce_1 data_2 y3.2.1) fun y4 =>
  bif room (y3.2.1.length + y4.2.1.length) 1 then
  some (((0 : Int), ()), ((y3.2.1 ++ y4.2.1), ()))
  else none
def zq106_C (N : Nat) := Cx 36 [(126, zq89_ctr N), (127, zq102_ctr N), (128, zq116_ctr N)]
def zq106_S0 : Spec := ⟨[.val (.sl .u8), .val (.sl .u8), .val (.sl .u8), .val (.sl .u8)], []⟩
def zq106_S1 : Spec := ⟨[.row 0, .val .i64], [(.row 5 .u8, .pos 0)]⟩
def zq106_K : XE → GS → Option zq106_R := retK 0 [8, 9] [false, false] zq106_S1
noncomputable def zq106_L : List Code := (bodyOf (some Tryz.f110))
theorem zq106_b (N) : Bk 0 (zq106_C N) (List.range zq106_S0.ks.length) zq106_S0 (zq106_L.drop 0) (fun y => zq106 N y.1.1 y.1.2.1 y.1.2.2.1 y.1.2.2.2.1) zq106_K :=
 cE 7
def zq106_ctr (N : Nat) : Ctr := ⟨zq106_S0, zq106_S1.un [false, false], 0, (fun y => zq106 N y.1.1 y.1.2.1 y.1.2.2.1 y.1.2.2.2.1)⟩
theorem zq106_ok (N : Nat) : COk 110 (zq106_ctr N) :=
 cF (zw2 (Γ := zq106_C N) zw1 (csc (zq89_ok N) (csc (zq102_ok N) (csc (zq116_ok N) csn)))) Tryz.func110 Tryz.ntmps110 (zq106_b N)
abbrev zq43_R : Type := (((List UInt8) × Unit) × (Unit))
def zq43 (N : Nat) (key_0 : (List UInt8)) : Option zq43_R :=
 Option.bind (zq114 N key_0 ([(1 : UInt8)] : List UInt8)) fun y1 =>
 bif decide (0 ≤ (0 : Int)) && decide ((0 : Int) ≤ (8 : Int)) && decide ((8 : Int) ≤ (y1.2.1.length : Int)) && true then
 some (((cut y1.2.1 0 8), ()), (()))
 else none
def zq43_C (N : Nat) := Cx 7 [(109, zq114_ctr N)]
def zq43_S0 : Spec := ⟨[.val (.sl .u8)], []⟩
def zq43_K : XE → GS → Option zq43_R := retK 0 [2] [false] zq43_S0
noncomputable def zq43_L : List Code := (bodyOf (some Tryz.f111))
theorem zq43_b (N) : Bk 0 (zq43_C N) (List.range zq43_S0.ks.length) zq43_S0 (zq43_L.drop 0) (fun y => zq43 N y.1.1) zq43_K :=
 cE 3
def zq43_ctr (N : Nat) : Ctr := ⟨zq43_S0, zq43_S0.un [false], 0, (fun y => zq43 N y.1.1)⟩
theorem zq43_ok (N : Nat) : COk 111 (zq43_ctr N) :=
 cF (zw2 (Γ := zq43_C N) zw1 (csc (zq114_ok N) csn)) Tryz.func111 Tryz.ntmps111 (zq43_b N)
abbrev zq23_R : Type := ((Unit) × ((List UInt8) × Unit))
def zq23_1 (N : Nat) (rc : D24 → Option ((Unit) × ((List UInt8) × Unit))) (once_7 : (List UInt8)) (b_0 : (List UInt8)) (key_5 : (List UInt8)) (sealed_8 : (List UInt8)) : Option zq23_R :=
 Option.bind (zq43 N key_5) fun y11 =>
 bif room (b_0.length + y11.1.1.length) 1 then
 bif room ((b_0 ++ y11.1.1).length + once_7.length) 1 then
 bif room (((b_0 ++ y11.1.1) ++ once_7).length + sealed_8.length) 1 then
 some ((()), ((((b_0 ++ y11.1.1) ++ once_7) ++ sealed_8), ()))
 else none
 else none
 else none
def zq23 (N : Nat) (rc : D24 → Option ((Unit) × ((List UInt8) × Unit))) (t_1 : D24) (b_0 : (List UInt8)) : Option zq23_R :=
 let x1 := List.map Tree.un t_1.2.2.1
 bif inR (0 : Int) x1.length then
 Option.bind (zq52 N (x1.getD 0 ((0 : Int), (0 : Int), ([] : List Tree), ()))) fun y3 =>
 let x4 := List.map Tree.un t_1.2.2.1
 bif inR (1 : Int) x4.length then
 Option.bind (rc (x4.getD 1 ((0 : Int), (0 : Int), ([] : List Tree), ()))) fun y6 =>
 Option.bind (zq114 N y3.2.1 y6.2.1) fun y7 =>
 bif decide (0 ≤ (0 : Int)) && decide ((0 : Int) ≤ (12 : Int)) && decide ((12 : Int) ≤ (y7.2.1.length : Int)) && true then
 let x8 := cut y7.2.1 0 12
 Option.bind (zq106 N y3.2.1 x8 ([] : List UInt8) y6.2.1) fun y9 =>
 bif (!(decide (y9.1.1 = (0 : Int)))) then
  none
 else
  zq23_1 N rc x8 b_0 y3.2.1 y9.2.1
 else none
 else none
 else none
def zq23_S0 : Spec := ⟨[.row 0, .row 1, .val (.sl .u8), .row 2], [(.row 5 .u8, .pos 0), (.row 5 .u8, .pos 1), (.row 5 .u8, .pos 3)]⟩
def zq23_S1 : Spec := ⟨[.row 0, .val T24], [(.row 5 .u8, .pos 0)]⟩
def zq23_S2 : Spec := ⟨[.row 0], [(.row 5 .u8, .pos 0)]⟩
def zq23_S3 : Spec := ⟨[.val T24], []⟩
def zq23_ftr (N : Nat) (rc : D24 → Option ((Unit) × ((List UInt8) × Unit))) : Ctr := ⟨zq23_S3, zq23_S2.un [false], 0, (fun y => rc y.1.1)⟩
def zq23_C (N : Nat) (rc : D24 → Option ((Unit) × ((List UInt8) × Unit))) := Cx 43 [(84, zq52_ctr N), (109, zq114_ctr N), (110, zq106_ctr N), (111, zq43_ctr N), (37, zq23_ftr N rc)]
def zq23_K : XE → GS → Option zq23_R := retK 0 [4] [false] zq23_S2
noncomputable def zq23_L : List Code := (bodyOf (some Tryz.f88))
theorem zq23_1_b (N) (rc) : Bk 0 (zq23_C N rc) [0, 5, 7, 8] zq23_S0 (zq23_L.drop 6) (fun y => zq23_1 N rc y.1.1 y.2.1 y.2.2.1 y.2.2.2.1) zq23_K :=
 cE 2
theorem zq23_b (N) (rc) : Bk 0 (zq23_C N rc) (List.range zq23_S1.ks.length) zq23_S1 (zq23_L.drop 0) (fun y => zq23 N rc y.1.1 y.2.1) zq23_K :=
 cG 6 (zq23_1_b N rc)
def zq23_octr (N : Nat) (rc : D24 → Option ((Unit) × ((List UInt8) × Unit))) : Ctr := ⟨zq23_S1, zq23_S2.un [false], 0, (fun y => zq23 N rc y.1.1 y.2.1)⟩
theorem zq23_ook (N : Nat) (rc : D24 → Option ((Unit) × ((List UInt8) × Unit))) (hf : COk 37 (zq23_ftr N rc))  : COk 88 (zq23_octr N rc) :=
 cF (zw2 (Γ := zq23_C N rc) zw1 (csc (zq52_ok N) (csc (zq114_ok N) (csc (zq106_ok N) (csc (zq43_ok N) (csc hf csn)))))) Tryz.func88 Tryz.ntmps88 (zq23_b N rc)
abbrev zq40_R : Type := ((Int × Unit) × ((List UInt8) × Unit))
def zq40 (N : Nat) (identity_0 : Int) (body_1 : (List UInt8)) : Option zq40_R :=
 Option.bind (zq39 N ((9 : Int), identity_0, ([] : List Tree), ())) fun y1 =>
 bif (!(decide (y1.1.1 = (0 : Int)))) then
  some ((y1.1.1, ()), (([] : List UInt8), ()))
 else
  Option.bind (zq114 N y1.2.1 body_1) fun y3 =>
  some (((0 : Int), ()), (y3.2.1, ()))
def zq40_C (N : Nat) := Cx 20 [(14, zq39_ctr N), (109, zq114_ctr N)]
def zq40_S0 : Spec := ⟨[.val .i64, .val (.sl .u8)], []⟩
def zq40_S1 : Spec := ⟨[.row 0, .val .i64], [(.row 5 .u8, .pos 0)]⟩
def zq40_K : XE → GS → Option zq40_R := retK 0 [4, 5] [false, false] zq40_S1
noncomputable def zq40_L : List Code := (bodyOf (some Tryz.f112))
theorem zq40_b (N) : Bk 0 (zq40_C N) (List.range zq40_S0.ks.length) zq40_S0 (zq40_L.drop 0) (fun y => zq40 N y.1.1 y.1.2.1) zq40_K :=
 cE 6
def zq40_ctr (N : Nat) : Ctr := ⟨zq40_S0, zq40_S1.un [false, false], 0, (fun y => zq40 N y.1.1 y.1.2.1)⟩
theorem zq40_ok (N : Nat) : COk 112 (zq40_ctr N) :=
 cF (zw2 (Γ := zq40_C N) zw1 (csc (zq39_ok N) (csc (zq114_ok N) csn))) Tryz.func112 Tryz.ntmps112 (zq40_b N)
abbrev zq20_R : Type := ((Unit) × ((List UInt8) × Unit))
def zq20_1 (N : Nat) (rc : D24 → Option ((Unit) × ((List UInt8) × Unit))) (b_0 : (List UInt8)) (t_3 : D24) (body_5 : (List UInt8)) (proof_6 : (List UInt8)) : Option zq20_R :=
 Option.bind (zq115 N (iu64 t_3.2.1) (8 : Int) b_0) fun y7 =>
 Option.bind (zq115 N (iu64 (body_5.length : Int)) (2 : Int) y7.2.1) fun y10 =>
 bif room (y10.2.1.length + body_5.length) 1 then
 let x11 := y10.2.1 ++ body_5
 bif room (x11.length + proof_6.length) 1 then
 some ((()), ((x11 ++ proof_6), ()))
 else none
 else none
def zq20 (N : Nat) (rc : D24 → Option ((Unit) × ((List UInt8) × Unit))) (t_1 : D24) (b_0 : (List UInt8)) : Option zq20_R :=
 let x1 := List.map Tree.un t_1.2.2.1
 bif inR (0 : Int) x1.length then
 Option.bind (rc (x1.getD 0 ((0 : Int), (0 : Int), ([] : List Tree), ()))) fun y3 =>
 Option.bind (zq40 N t_1.2.1 y3.2.1) fun y4 =>
 bif (!(decide (y4.1.1 = (0 : Int)))) then
  none
 else
  zq20_1 N rc b_0 t_1 y3.2.1 y4.2.1
 else none
def zq20_S0 : Spec := ⟨[.row 0, .ref 1 T24, .row 2, .row 3], [(.row 5 .u8, .pos 0), (.box 24 T24, .pos 1), (.row 5 .u8, .pos 2), (.row 5 .u8, .pos 3)]⟩
def zq20_S1 : Spec := ⟨[.row 0, .val T24], [(.row 5 .u8, .pos 0)]⟩
def zq20_S2 : Spec := ⟨[.row 0], [(.row 5 .u8, .pos 0)]⟩
def zq20_S3 : Spec := ⟨[.val T24], []⟩
def zq20_ftr (N : Nat) (rc : D24 → Option ((Unit) × ((List UInt8) × Unit))) : Ctr := ⟨zq20_S3, zq20_S2.un [false], 0, (fun y => rc y.1.1)⟩
def zq20_C (N : Nat) (rc : D24 → Option ((Unit) × ((List UInt8) × Unit))) := Cx 38 [(112, zq40_ctr N), (67, zq115_ctr N), (37, zq20_ftr N rc)]
def zq20_K : XE → GS → Option zq20_R := retK 0 [4] [false] zq20_S2
noncomputable def zq20_L : List Code := (bodyOf (some Tryz.f89))
theorem zq20_1_b (N) (rc) : Bk 0 (zq20_C N rc) [0, 3, 5, 6] zq20_S0 (zq20_L.drop 5) (fun y => zq20_1 N rc y.2.1 y.2.2.1 y.2.2.2.1 y.2.2.2.2.1) zq20_K :=
 cE 3
theorem zq20_b (N) (rc) : Bk 0 (zq20_C N rc) (List.range zq20_S1.ks.length) zq20_S1 (zq20_L.drop 0) (fun y => zq20 N rc y.1.1 y.2.1) zq20_K :=
 cG 5 (zq20_1_b N rc)
def zq20_octr (N : Nat) (rc : D24 → Option ((Unit) × ((List UInt8) × Unit))) : Ctr := ⟨zq20_S1, zq20_S2.un [false], 0, (fun y => zq20 N rc y.1.1 y.2.1)⟩
theorem zq20_ook (N : Nat) (rc : D24 → Option ((Unit) × ((List UInt8) × Unit))) (hf : COk 37 (zq20_ftr N rc))  : COk 89 (zq20_octr N rc) :=
 cF (zw2 (Γ := zq20_C N rc) zw1 (csc (zq40_ok N) (csc (zq115_ok N) (csc hf csn)))) Tryz.func89 Tryz.ntmps89 (zq20_b N rc)
end
end Go.Proofs.YtajpblfinenmjaaGreatDoor