/- Functions of the program as plain functions, each with the proof that the text computes it. -/
import Derived.Test.YtehbbcdhahnkgaaGreatGmRule
import Derived.Test.YtehbbcdhahnkgaaGreatProg
set_option linter.unusedVariables false
set_option linter.unusedSimpArgs false
namespace Go.Proofs.YtehbbcdhahnkgaaGreat
open Go
set_option maxRecDepth 100000
set_option linter.unusedVariables false
noncomputable section
abbrev D13 : Type := (List UInt8 × (UInt64 × Unit))
abbrev T13 : Ty := (.pair .str (.pair .u64 .unit))
abbrev D49 : Type := (Int × (UInt64 × (UInt64 × Unit)))
abbrev T49 : Ty := (.pair .i64 (.pair .u64 (.pair .u64 .unit)))
abbrev D28 : Type := (Int × (Int × ((List Tree) × Unit)))
abbrev T28 : Ty := (.pair .i64 (.pair .i64 (.pair .trees .unit)))
abbrev D7 : Type := (Int × (Int × (Bool × (UInt8 × Unit))))
abbrev T7 : Ty := (.pair .i64 (.pair .i64 (.pair .bool (.pair .u8 .unit))))
abbrev D78 : Type := (Int × (UInt64 × ((List UInt64) × Unit)))
abbrev T78 : Ty := (.pair .i64 (.pair .u64 (.pair (.sl .u64) .unit)))
abbrev D46 : Type := (Int × (Int × (D28 × Unit)))
abbrev T46 : Ty := (.pair .i64 (.pair .i64 (.pair T28 .unit)))
abbrev D27 : Type := (Int × (Int × ((List D28) × Unit)))
abbrev T27 : Ty := (.pair .i64 (.pair .i64 (.pair (.sl T28) .unit)))
abbrev D239 : Type := (D28 × (D28 × Unit))
abbrev T239 : Ty := (.pair T28 (.pair T28 .unit))
abbrev D51 : Type := (D49 × (D49 × (Int × (Int × (Int × Unit)))))
abbrev T51 : Ty := (.pair T49 (.pair T49 (.pair .i64 (.pair .i64 (.pair .i64 .unit)))))
abbrev D53 : Type := (D51 × (Int × Unit))
abbrev T53 : Ty := (.pair T51 (.pair .i64 .unit))
abbrev D85 : Type := (Int × (D53 × (Int × (Int × Unit))))
abbrev T85 : Ty := (.pair .i64 (.pair T53 (.pair .i64 (.pair .i64 .unit))))
abbrev D67 : Type := (D49 × (D49 × (D49 × (D49 × (Int × (Int × ((List Int) × ((List Int) × Unit))))))))
abbrev T67 : Ty := (.pair T49 (.pair T49 (.pair T49 (.pair T49 (.pair .i64 (.pair .i64 (.pair (.arr 2 .i64) (.pair (.arr 2 .i64) .unit))))))))
abbrev D55 : Type := (Int × (D46 × (D53 × (Int × Unit))))
abbrev T55 : Ty := (.pair .i64 (.pair T46 (.pair T53 (.pair .i64 .unit))))
abbrev D97 : Type := (Int × (List UInt8 × ((List D67) × Unit)))
abbrev T97 : Ty := (.pair .i64 (.pair .str (.pair (.sl T67) .unit)))
abbrev D57 : Type := (Int × (Int × (Int × (D46 × (D55 × Unit)))))
abbrev T57 : Ty := (.pair .i64 (.pair .i64 (.pair .i64 (.pair T46 (.pair T55 .unit)))))
abbrev D284 : Type := (Int × (Int × (Int × (D28 × (D28 × (D28 × (D28 × (D28 × (D28 × (D28 × (Int × (Bool × Unit))))))))))))
abbrev T284 : Ty := (.pair .i64 (.pair .i64 (.pair .i64 (.pair T28 (.pair T28 (.pair T28 (.pair T28 (.pair T28 (.pair T28 (.pair T28 (.pair .i64 (.pair .bool .unit))))))))))))
abbrev D69 : Type := (Int × (Int × (D28 × (Int × (Int × (Int × (D28 × (D28 × (Int × (Int × (Int × (D67 × (D28 × ((List Int) × Unit))))))))))))))
abbrev T69 : Ty := (.pair .i64 (.pair .i64 (.pair T28 (.pair .i64 (.pair .i64 (.pair .i64 (.pair T28 (.pair T28 (.pair .i64 (.pair .i64 (.pair .i64 (.pair T67 (.pair T28 (.pair (.sl .i64) .unit))))))))))))))
abbrev D80 : Type := (Int × (Int × (Int × (Int × (D67 × (D28 × (D28 × (Bool × (D28 × (D28 × (Int × (Int × (D78 × (Int × (Int × Unit)))))))))))))))
abbrev T80 : Ty := (.pair .i64 (.pair .i64 (.pair .i64 (.pair .i64 (.pair T67 (.pair T28 (.pair T28 (.pair .bool (.pair T28 (.pair T28 (.pair .i64 (.pair .i64 (.pair T78 (.pair .i64 (.pair .i64 .unit)))))))))))))))
abbrev D71 : Type := (Int × (Int × (Bool × (Int × (Int × (Int × (D28 × (D28 × (D28 × (D28 × (D28 × (D28 × (D28 × (Int × (Int × (D69 × (Int × (D28 × (Int × (Int × (Int × (Int × (Int × (Bool × (Int × (Bool × (Int × Unit)))))))))))))))))))))))))))
abbrev T71 : Ty := (.pair .i64 (.pair .i64 (.pair .bool (.pair .i64 (.pair .i64 (.pair .i64 (.pair T28 (.pair T28 (.pair T28 (.pair T28 (.pair T28 (.pair T28 (.pair T28 (.pair .i64 (.pair .i64 (.pair T69 (.pair .i64 (.pair T28 (.pair .i64 (.pair .i64 (.pair .i64 (.pair .i64 (.pair .i64 (.pair .bool (.pair .i64 (.pair .bool (.pair .i64 .unit)))))))))))))))))))))))))))
abbrev D33 : Type := (Int × (Int × (Int × (Int × ((List D97) × ((List Int) × (Int × (Int × (D28 × (D28 × (Int × ((List D284) × ((List D71) × ((List D80) × ((List D239) × Unit)))))))))))))))
abbrev T33 : Ty := (.pair .i64 (.pair .i64 (.pair .i64 (.pair .i64 (.pair (.sl T97) (.pair (.sl .i64) (.pair .i64 (.pair .i64 (.pair T28 (.pair T28 (.pair .i64 (.pair (.sl T284) (.pair (.sl T71) (.pair (.sl T80) (.pair (.sl T239) .unit)))))))))))))))
abbrev D38 : Type := ((List D33) × ((List D46) × ((List D28) × (Int × ((List D85) × ((List D85) × ((List D85) × Unit)))))))
abbrev T38 : Ty := (.pair (.arr 2 T33) (.pair (.sl T46) (.pair (.sl T28) (.pair .i64 (.pair (.sl T85) (.pair (.sl T85) (.pair (.sl T85) .unit)))))))
def G_tys : List (Nat × TI) := [(2, ⟨.i64, 8, 0, false⟩), (3, ⟨.i64, 8, 0, false⟩), (4, ⟨.bool, 1, 0, false⟩), (5, ⟨.u8, 1, 0, false⟩), (6, ⟨.u8, 1, 0, false⟩), (7, ⟨T7, 24, 0, false⟩), (8, ⟨T7, 24, 0, false⟩), (9, ⟨.str, 16, 0, false⟩), (10, ⟨.str, 16, 0, false⟩), (11, ⟨.str, 16, 0, false⟩), (12, ⟨.u64, 8, 0, false⟩), (13, ⟨T13, 24, 0, false⟩), (14, ⟨T13, 24, 0, false⟩), (22, ⟨(.sl .u8), 24, 5, false⟩), (24, ⟨(.sl T97), 24, 97, false⟩), (25, ⟨(.sl .i64), 24, 3, false⟩), (26, ⟨(.sl T28), 24, 28, false⟩), (27, ⟨T27, 40, 0, false⟩), (28, ⟨T28, 40, 0, false⟩), (29, ⟨(.sl T284), 24, 284, false⟩), (30, ⟨(.sl T71), 24, 72, false⟩), (31, ⟨(.sl T80), 24, 81, false⟩), (32, ⟨(.sl T239), 24, 239, false⟩), (33, ⟨T33, 280, 0, false⟩), (34, ⟨T33, 280, 0, false⟩), (35, ⟨(.arr 2 T33), 560, 34, false⟩), (36, ⟨(.sl T46), 24, 47, false⟩), (37, ⟨(.sl T85), 24, 85, false⟩), (38, ⟨T38, 688, 0, false⟩), (39, ⟨T38, 688, 0, false⟩), (40, ⟨(.arr 2 (.sl T97)), 48, 24, false⟩), (43, ⟨.i64, 8, 0, false⟩), (46, ⟨T46, 56, 0, false⟩), (47, ⟨T46, 56, 0, false⟩), (48, ⟨.u64, 8, 0, false⟩), (49, ⟨T49, 24, 0, false⟩), (50, ⟨T49, 24, 0, false⟩), (51, ⟨T51, 72, 0, false⟩), (52, ⟨T51, 72, 0, false⟩), (53, ⟨T53, 80, 0, false⟩), (54, ⟨T53, 80, 0, false⟩), (55, ⟨T55, 152, 0, false⟩), (56, ⟨T55, 152, 0, false⟩), (57, ⟨T57, 232, 0, false⟩), (58, ⟨T57, 232, 0, false⟩), (66, ⟨(.arr 2 .i64), 16, 3, false⟩), (67, ⟨T67, 144, 0, false⟩), (68, ⟨T67, 144, 0, false⟩), (69, ⟨T69, 392, 0, false⟩), (70, ⟨T69, 392, 0, false⟩), (71, ⟨T71, 856, 0, false⟩), (72, ⟨T71, 856, 0, false⟩), (74, ⟨.u64, 8, 0, false⟩), (77, ⟨(.sl .u64), 24, 48, false⟩), (78, ⟨T78, 40, 0, false⟩), (79, ⟨T78, 40, 0, false⟩), (80, ⟨T80, 416, 0, false⟩), (81, ⟨T80, 416, 0, false⟩), (85, ⟨T85, 104, 0, false⟩), (95, ⟨(.sl T67), 24, 68, false⟩), (97, ⟨T97, 48, 0, false⟩), (123, ⟨(.arr 2 .str), 32, 9, false⟩), (124, ⟨(.arr 4 (.arr 2 .str)), 128, 123, false⟩), (239, ⟨T239, 80, 0, false⟩), (284, ⟨T284, 320, 0, false⟩), (337, ⟨(.arr 3 (.arr 2 .i64)), 48, 66, false⟩)]
def G_globs : List (Nat × Dt) := []
def G_ifs : IfT := ⟨[], [], [], [], [], [], none⟩
theorem G_ifs_ok : ifChk Tryz.prog G_ifs = true := by kernel_rfl
theorem G_tys_ok : tyChk Tryz.prog G_tys = true := by kernel_rfl
abbrev term_compare_R : Type := ((Int × Unit) × Unit)
def term_compare_s2 (N : Nat) (rc : D28 → D28 → Option term_compare_R) (t_27 : (List (List Int))) (t_28 : Int) (a_2 : D28) (b_3 : D28) : Option (Lo (((List (List Int)) × Int × Unit) × (D28 × D28 × Unit)) (Unit × (D28 × D28 × Unit)) term_compare_R) :=
 bif (decide (t_28 < (3 : Int))) then
  bif inR t_28 3 then
  let x10 := t_27.getD t_28.toNat (List.replicate 2 (0 : Int))
  bif (decide ((x10.getD 0 (0 : Int)) < (x10.getD 1 (0 : Int)))) then
   some (.rt (((-1 : Int), ()), ()))
  else
   bif (decide ((x10.getD 1 (0 : Int)) < (x10.getD 0 (0 : Int)))) then
    some (.rt (((1 : Int), ()), ()))
   else
    some (.go ((t_27, (w64 (t_28 + (1 : Int))), ()), (a_2, b_3, ())))
  else none
 else
  some (.br ((), (a_2, b_3, ())))
def term_compare_s5 (N : Nat) (rc : D28 → D28 → Option term_compare_R) (t_43 : (List D28)) (t_44 : Int) (t_45 : Int) (b_3 : D28) : Option (Lo (((List D28) × Int × Int × Unit) × (D28 × Unit)) (Unit × Unit) term_compare_R) :=
 bif (decide (t_45 < t_44)) then
  bif inR t_45 t_43.length then
  let x22 := List.map Tree.un b_3.2.2.1
  bif inR t_45 x22.length then
  Option.bind (rc (t_43.getD t_45.toNat ((0 : Int), (0 : Int), ([] : List Tree), ())) (x22.getD t_45.toNat ((0 : Int), (0 : Int), ([] : List Tree), ()))) fun y24 =>
  bif (!(decide (y24.1.1 = (0 : Int)))) then
   some (.rt ((y24.1.1, ()), ()))
  else
   some (.go ((t_43, t_44, (w64 (t_45 + (1 : Int))), ()), (b_3, ())))
  else none
  else none
 else
  some (.br ((), ()))
def term_compare_6 (N : Nat) (rc : D28 → D28 → Option term_compare_R) : Option term_compare_R :=
 some (((0 : Int), ()), ())
def term_compare_4 (N : Nat) (rc : D28 → D28 → Option term_compare_R) (t_43 : (List D28)) (t_44 : Int) (t_45 : Int) (b_3 : D28) : Option term_compare_R :=
 loopK N (fun y => term_compare_s5 N rc y.1.1 y.1.2.1 y.1.2.2.1 y.2.1) (fun (e : (Unit × Unit)) => term_compare_6 N rc) ((t_43, t_44, t_45, ()), (b_3, ()))
def term_compare_3 (N : Nat) (rc : D28 → D28 → Option term_compare_R) (a_2 : D28) (b_3 : D28) : Option term_compare_R :=
 let x18 := List.map Tree.un a_2.2.2.1
 term_compare_4 N rc x18 (x18.length : Int) (0 : Int) b_3
def term_compare_1 (N : Nat) (rc : D28 → D28 → Option term_compare_R) (t_27 : (List (List Int))) (t_28 : Int) (a_2 : D28) (b_3 : D28) : Option term_compare_R :=
 loopK N (fun y => term_compare_s2 N rc y.1.1 y.1.2.1 y.2.1 y.2.2.1) (fun (e : (Unit × (D28 × D28 × Unit))) => term_compare_3 N rc e.2.1 e.2.2.1) ((t_27, t_28, ()), (a_2, b_3, ()))
def term_compare (N : Nat) (rc : D28 → D28 → Option term_compare_R) (a_0 : D28) (b_1 : D28) : Option term_compare_R :=
 term_compare_1 N rc ([([a_0.1, b_1.1] : List Int), ([a_0.2.1, b_1.2.1] : List Int), ([((List.map Tree.un a_0.2.2.1).length : Int), ((List.map Tree.un b_1.2.2.1).length : Int)] : List Int)] : List (List Int)) (0 : Int) a_0 b_1
def term_compare_S0 : Spec := ⟨[.ref 0 T28, .ref 1 T28, .val (.arr 3 (.arr 2 .i64)), .val .i64], [(.box 28 T28, .pos 0), (.box 28 T28, .pos 1)]⟩
def term_compare_S1 : Spec := ⟨[.ref 0 T28, .val (.sl T28), .val .i64, .val .i64], [(.box 28 T28, .pos 0)]⟩
def term_compare_S2 : Spec := ⟨[], []⟩
def term_compare_S3 : Spec := ⟨[.ref 0 T28, .ref 1 T28], [(.box 28 T28, .pos 0), (.box 28 T28, .pos 1)]⟩
def term_compare_S4 : Spec := ⟨[.val T28, .val T28], []⟩
def term_compare_S5 : Spec := ⟨[.val .i64], []⟩
def term_compare_ftr (N : Nat) (rc : D28 → D28 → Option term_compare_R) : Ctr := ⟨term_compare_S4, term_compare_S5.un [false], 0, (fun y => rc y.1.1 y.1.2.1)⟩
def term_compare_C (N : Nat) (rc : D28 → D28 → Option term_compare_R) : Ctx := ⟨61, G_tys, [(179, term_compare_ftr N rc)], G_globs, G_ifs⟩
def term_compare_K (_N : Nat) (_rc : D28 → D28 → Option term_compare_R) : XE → GS → Option term_compare_R := retK 0 [4] [false] term_compare_S5
noncomputable def term_compare_L : List Code := (bodyOf (some Tryz.f179))
def term_compare_L2 : List Code := (loopOf (term_compare_L[2]?))
def term_compare_L5 : List Code := (loopOf (term_compare_L[4]?))
def term_compare_K2 (N : Nat) (rc : D28 → D28 → Option term_compare_R) : XE → GS → Option (Lo (((List (List Int)) × Int × Unit) × (D28 × D28 × Unit)) (Unit × (D28 × D28 × Unit)) term_compare_R) := roundK (some 0) (fit 0 [2, 3, 27, 28] term_compare_S0) (fit 0 [2, 3] term_compare_S3) (term_compare_K N rc)
def term_compare_K5 (N : Nat) (rc : D28 → D28 → Option term_compare_R) : XE → GS → Option (Lo (((List D28) × Int × Int × Unit) × (D28 × Unit)) (Unit × Unit) term_compare_R) := roundK (some 2) (fit 0 [3, 43, 44, 45] term_compare_S1) (fit 0 [] term_compare_S2) (term_compare_K N rc)
theorem term_compare_s2_b {E : Env} (N : Nat) (rc : D28 → D28 → Option term_compare_R) (hb : Base Tryz.prog (term_compare_C N rc) E 0) : Blk Tryz.prog (term_compare_C N rc) E [2, 3, 27, 28] term_compare_S0 (term_compare_L2.drop 0) (fun y => term_compare_s2 N rc y.1.1 y.1.2.1 y.2.1 y.2.2.1) (term_compare_K2 N rc) :=
 Blk.chunkAt hb 4 (X := (term_compare_K2 N rc .normal)) (NxOk.end (by kernel_rfl)) rfl (fun x => by kernel_rfl)
theorem term_compare_s5_b {E : Env} (N : Nat) (rc : D28 → D28 → Option term_compare_R) (hb : Base Tryz.prog (term_compare_C N rc) E 0) : Blk Tryz.prog (term_compare_C N rc) E [3, 43, 44, 45] term_compare_S1 (term_compare_L5.drop 0) (fun y => term_compare_s5 N rc y.1.1 y.1.2.1 y.1.2.2.1 y.2.1) (term_compare_K5 N rc) :=
 Blk.chunkAt hb 4 (X := (term_compare_K5 N rc .normal)) (NxOk.end (by kernel_rfl)) rfl (fun x => by kernel_rfl)
theorem term_compare_6_b {E : Env} (N : Nat) (rc : D28 → D28 → Option term_compare_R) (hb : Base Tryz.prog (term_compare_C N rc) E 0) : Blk Tryz.prog (term_compare_C N rc) E [] term_compare_S2 (term_compare_L.drop 5) (fun y => term_compare_6 N rc) (term_compare_K N rc) :=
 Blk.chunkAt hb 2 (X := (term_compare_K N rc .normal)) (NxOk.end (by kernel_rfl)) rfl (fun x => by kernel_rfl)
theorem term_compare_4_b {E : Env} (N : Nat) (rc : D28 → D28 → Option term_compare_R) (hb : Base Tryz.prog (term_compare_C N rc) E 0) : Blk Tryz.prog (term_compare_C N rc) E [3, 43, 44, 45] term_compare_S1 (term_compare_L.drop 4) (fun y => term_compare_4 N rc y.1.1 y.1.2.1 y.1.2.2.1 y.2.1) (term_compare_K N rc) :=
 Blk.loopAt (Nf := N) (hns := [3, 43, 44, 45]) (ans := []) (hc := term_compare_S1) (ac := term_compare_S2) (bid := 2) (step := (fun y => term_compare_s5 N rc y.1.1 y.1.2.1 y.1.2.2.1 y.2.1)) (J := (fun e => (goK 0 [] term_compare_S2 (fun y => term_compare_6 N rc)) (term_compare_S2.st [] e))) hb (by kernel_rfl) (Blk.into (X := (goK 0 [] term_compare_S2 (fun y => term_compare_6 N rc))) (NxOk.go hb (term_compare_6_b N rc hb)) (fun x => by kernel_rfl)) (term_compare_s5_b N rc hb) (fun x => by kernel_rfl)
theorem term_compare_3_b {E : Env} (N : Nat) (rc : D28 → D28 → Option term_compare_R) (hb : Base Tryz.prog (term_compare_C N rc) E 0) : Blk Tryz.prog (term_compare_C N rc) E [2, 3] term_compare_S3 (term_compare_L.drop 3) (fun y => term_compare_3 N rc y.2.1 y.2.2.1) (term_compare_K N rc) :=
 Blk.chunkAt hb 1 (X := (goK 0 [3, 43, 44, 45] term_compare_S1 (fun y => term_compare_4 N rc y.1.1 y.1.2.1 y.1.2.2.1 y.2.1))) (NxOk.go hb (term_compare_4_b N rc hb)) rfl (fun x => by kernel_rfl)
theorem term_compare_1_b {E : Env} (N : Nat) (rc : D28 → D28 → Option term_compare_R) (hb : Base Tryz.prog (term_compare_C N rc) E 0) : Blk Tryz.prog (term_compare_C N rc) E [2, 3, 27, 28] term_compare_S0 (term_compare_L.drop 2) (fun y => term_compare_1 N rc y.1.1 y.1.2.1 y.2.1 y.2.2.1) (term_compare_K N rc) :=
 Blk.loopAt (Nf := N) (hns := [2, 3, 27, 28]) (ans := [2, 3]) (hc := term_compare_S0) (ac := term_compare_S3) (bid := 0) (step := (fun y => term_compare_s2 N rc y.1.1 y.1.2.1 y.2.1 y.2.2.1)) (J := (fun e => (goK 0 [2, 3] term_compare_S3 (fun y => term_compare_3 N rc y.2.1 y.2.2.1)) (term_compare_S3.st [2, 3] e))) hb (by kernel_rfl) (Blk.into (X := (goK 0 [2, 3] term_compare_S3 (fun y => term_compare_3 N rc y.2.1 y.2.2.1))) (NxOk.go hb (term_compare_3_b N rc hb)) (fun x => by kernel_rfl)) (term_compare_s2_b N rc hb) (fun x => by kernel_rfl)
theorem term_compare_b {E : Env} (N : Nat) (rc : D28 → D28 → Option term_compare_R) (hb : Base Tryz.prog (term_compare_C N rc) E 0) : Blk Tryz.prog (term_compare_C N rc) E (List.range term_compare_S4.ks.length) term_compare_S4 (term_compare_L.drop 0) (fun y => term_compare N rc y.1.1 y.1.2.1) (term_compare_K N rc) :=
 Blk.chunkAt hb 2 (X := (goK 0 [2, 3, 27, 28] term_compare_S0 (fun y => term_compare_1 N rc y.1.1 y.1.2.1 y.2.1 y.2.2.1))) (NxOk.go hb (term_compare_1_b N rc hb)) rfl (fun x => by kernel_rfl)
def term_compare_octr (N : Nat) (rc : D28 → D28 → Option term_compare_R) : Ctr := ⟨term_compare_S4, term_compare_S5.un [false], 0, (fun y => term_compare N rc y.1.1 y.1.2.1)⟩
theorem term_compare_ctrs (N : Nat) (rc : D28 → D28 → Option term_compare_R) (hf : Ctr.ok Tryz.prog G_globs 179 (term_compare_ftr N rc)) : CtrsOk Tryz.prog (term_compare_C N rc) := ctrs_of (Γ := term_compare_C N rc) G_ifs_ok (by
 intro p hp
 simp only [term_compare_C, List.mem_cons, List.not_mem_nil, or_false] at hp
 rcases hp with rfl
 · exact hf)
theorem term_compare_ook (N : Nat) (rc : D28 → D28 → Option term_compare_R) (hf : Ctr.ok Tryz.prog G_globs 179 (term_compare_ftr N rc))  : Ctr.ok Tryz.prog G_globs 179 (term_compare_octr N rc) :=
 ctr_fn (Γ := term_compare_C N rc) (rfit := term_compare_S5) (bs := [false]) (res := [4]) (by kernel_rfl) (tys_ok G_tys_ok) (term_compare_ctrs N rc hf) Tryz.func179 (by kernel_rfl) (by kernel_rfl) Tryz.ntmps179 (by kernel_rfl) (by kernel_rfl) (by kernel_rfl) (by kernel_rfl) (fun E hb => term_compare_b N rc hb)
def term_compareR (N : Nat) : Nat → D28 → D28 → Option term_compare_R
 | 0 => fun _ _ => none
 | n + 1 => fun a_0 b_1 => term_compare N (term_compareR N n) a_0 b_1
theorem term_compareR_ok (N : Nat) : ∀ n : Nat, Ctr.ok Tryz.prog G_globs 179 (term_compare_ftr N (term_compareR N n))
 | 0 => ctr_never Tryz.func179 (by kernel_rfl) (by kernel_rfl) (fun x => rfl)
 | n + 1 => term_compare_ook N (term_compareR N n) (term_compareR_ok N n)
def term_compare_ctr (N : Nat) : Ctr := term_compare_ftr N (term_compareR N N)
theorem term_compare_ok (N : Nat) : Ctr.ok Tryz.prog G_globs 179 (term_compare_ctr N) := term_compareR_ok N N
abbrev term_Less_R : Type := ((Bool × Unit) × Unit)
def term_Less (N : Nat) (a_0 : D28) (b_1 : D28) : Option term_Less_R :=
 Option.bind (term_compareR N N a_0 b_1) fun y1 =>
 some (((decide (y1.1.1 < (0 : Int))), ()), ())
def term_Less_C (N : Nat) : Ctx := ⟨9, G_tys, [(179, term_compare_ctr N)], G_globs, G_ifs⟩
def term_Less_S0 : Spec := ⟨[.val T28, .val T28], []⟩
def term_Less_S1 : Spec := ⟨[.val .bool], []⟩
def term_Less_K (_N : Nat) : XE → GS → Option term_Less_R := retK 0 [4] [false] term_Less_S1
noncomputable def term_Less_L : List Code := (bodyOf (some Tryz.f124))
theorem term_Less_b {E : Env} (N : Nat) (hb : Base Tryz.prog (term_Less_C N) E 0) : Blk Tryz.prog (term_Less_C N) E (List.range term_Less_S0.ks.length) term_Less_S0 (term_Less_L.drop 0) (fun y => term_Less N y.1.1 y.1.2.1) (term_Less_K N) :=
 Blk.chunkAt hb 3 (X := (term_Less_K N .normal)) (NxOk.end (by kernel_rfl)) rfl (fun x => by kernel_rfl)
def term_Less_ctr (N : Nat) : Ctr := ⟨term_Less_S0, term_Less_S1.un [false], 0, (fun y => term_Less N y.1.1 y.1.2.1)⟩
theorem term_Less_ctrs (N : Nat) : CtrsOk Tryz.prog (term_Less_C N) := ctrs_of (Γ := term_Less_C N) G_ifs_ok (by
 intro p hp
 simp only [term_Less_C, List.mem_cons, List.not_mem_nil, or_false] at hp
 rcases hp with rfl
 · exact term_compare_ok N)
theorem term_Less_ok (N : Nat) : Ctr.ok Tryz.prog G_globs 124 (term_Less_ctr N) :=
 ctr_fn (Γ := term_Less_C N) (rfit := term_Less_S1) (bs := [false]) (res := [4]) (by kernel_rfl) (tys_ok G_tys_ok) (term_Less_ctrs N) Tryz.func124 (by kernel_rfl) (by kernel_rfl) Tryz.ntmps124 (by kernel_rfl) (by kernel_rfl) (by kernel_rfl) (by kernel_rfl) (fun E hb => term_Less_b N hb)
abbrev term_sound_R : Type := ((Bool × Unit) × Unit)
def term_sound (N : Nat) (t_0 : D28) : Option term_sound_R :=
 let x2 := ((List.map Tree.un t_0.2.2.1).length : Int)
 bif (decide (t_0.1 = (1 : Int))) then
  some (((decide (x2 = (0 : Int))), ()), ())
 else
  bif (decide (t_0.1 = (2 : Int))) then
   bif (decide (x2 = (0 : Int))) then
    some (((decide ((0 : Int) ≤ t_0.2.1)), ()), ())
   else
    some ((false, ()), ())
  else
   bif (decide (t_0.1 = (9 : Int))) then
    bif (decide (x2 = (0 : Int))) then
     some (((decide ((0 : Int) ≤ t_0.2.1)), ()), ())
    else
     some ((false, ()), ())
   else
    bif (decide (t_0.1 = (10 : Int))) then
     bif (decide (x2 = (0 : Int))) then
      some (((decide ((0 : Int) ≤ t_0.2.1)), ()), ())
     else
      some ((false, ()), ())
    else
     bif (decide (t_0.1 = (3 : Int))) then
      some (((decide (t_0.2.1 = (0 : Int))), ()), ())
     else
      bif (decide (t_0.1 = (6 : Int))) then
       some (((decide ((0 : Int) ≤ t_0.2.1)), ()), ())
      else
       bif (decide (t_0.1 = (4 : Int))) then
        bif (decide (x2 = (1 : Int))) then
         some (((decide (t_0.2.1 = (0 : Int))), ()), ())
        else
         some ((false, ()), ())
       else
        bif (decide (t_0.1 = (8 : Int))) then
         bif (decide (x2 = (1 : Int))) then
          some (((decide ((0 : Int) ≤ t_0.2.1)), ()), ())
         else
          some ((false, ()), ())
        else
         bif (decide (t_0.1 = (5 : Int))) then
          bif (decide (x2 = (2 : Int))) then
           bif (decide (t_0.2.1 = (0 : Int))) then
            let x27 := List.map Tree.un t_0.2.2.1
            bif inR (1 : Int) x27.length then
            let x29 := List.map Tree.un t_0.2.2.1
            bif inR (0 : Int) x29.length then
            Option.bind (term_Less N (x27.getD 1 ((0 : Int), (0 : Int), ([] : List Tree), ())) (x29.getD 0 ((0 : Int), (0 : Int), ([] : List Tree), ()))) fun y31 =>
            some (((!y31.1.1), ()), ())
            else none
            else none
           else
            some ((false, ()), ())
          else
           some ((false, ()), ())
         else
          bif (decide (t_0.1 = (7 : Int))) then
           bif (decide (x2 = (2 : Int))) then
            some (((decide (t_0.2.1 = (0 : Int))), ()), ())
           else
            some ((false, ()), ())
          else
           some ((false, ()), ())
def term_sound_C (N : Nat) : Ctx := ⟨82, G_tys, [(124, term_Less_ctr N)], G_globs, G_ifs⟩
def term_sound_S0 : Spec := ⟨[.val T28], []⟩
def term_sound_S1 : Spec := ⟨[.val .bool], []⟩
def term_sound_K (_N : Nat) : XE → GS → Option term_sound_R := retK 0 [2] [false] term_sound_S1
noncomputable def term_sound_L : List Code := (bodyOf (some Tryz.f81))
theorem term_sound_b {E : Env} (N : Nat) (hb : Base Tryz.prog (term_sound_C N) E 0) : Blk Tryz.prog (term_sound_C N) E (List.range term_sound_S0.ks.length) term_sound_S0 (term_sound_L.drop 0) (fun y => term_sound N y.1.1) (term_sound_K N) :=
 Blk.chunkAt hb 6 (X := (term_sound_K N .normal)) (NxOk.end (by kernel_rfl)) rfl (fun x => by kernel_rfl)
def term_sound_ctr (N : Nat) : Ctr := ⟨term_sound_S0, term_sound_S1.un [false], 0, (fun y => term_sound N y.1.1)⟩
theorem term_sound_ctrs (N : Nat) : CtrsOk Tryz.prog (term_sound_C N) := ctrs_of (Γ := term_sound_C N) G_ifs_ok (by
 intro p hp
 simp only [term_sound_C, List.mem_cons, List.not_mem_nil, or_false] at hp
 rcases hp with rfl
 · exact term_Less_ok N)
theorem term_sound_ok (N : Nat) : Ctr.ok Tryz.prog G_globs 81 (term_sound_ctr N) :=
 ctr_fn (Γ := term_sound_C N) (rfit := term_sound_S1) (bs := [false]) (res := [2]) (by kernel_rfl) (tys_ok G_tys_ok) (term_sound_ctrs N) Tryz.func81 (by kernel_rfl) (by kernel_rfl) Tryz.ntmps81 (by kernel_rfl) (by kernel_rfl) (by kernel_rfl) (by kernel_rfl) (fun E hb => term_sound_b N hb)
end
end Go.Proofs.YtehbbcdhahnkgaaGreat