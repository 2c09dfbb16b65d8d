/- Functions of the program as plain functions, each with the proof that the text computes it. -/
import Derived.Test.YtofajgidjkjnpaaDoorFnsSealedReturnsA
import Derived.Test.YtofajgidjkjnpaaDoorFntSealedReturnsA
import Derived.Test.YtofajgidjkjnpaaDoorRngSealedReturns
set_option linter.unusedVariables false
set_option linter.unusedSimpArgs false
namespace Go.Proofs.YtofajgidjkjnpaaDoor
open Go
set_option maxRecDepth 100000
set_option linter.unusedVariables false
noncomputable section
/-! ipsecgate/sealed.Add -/
abbrev sealed_Add_R : Type := (((List D91) × Int × Unit) × (Unit))
def sealed_Add_2 (N : Nat) (l_0 : (List D91)) (f_3 : D91) : Option sealed_Add_R :=
 Option.bind (slices_BinarySearchFunc___api_Fragment_api_Fragment_int__sealed_Add_f1 N l_0 f_3.1) fun y10 =>
 bif y10.1.2.1 then
 some ((l_0, (9 : Int), ()), (()))
 else
 Option.bind (slices_Clone___api_Fragment_api_Fragment_ N l_0) fun y11 =>
 Option.bind (slices_Insert___api_Fragment_api_Fragment_ N y10.1.1 y11.2.1 ([f_3] : List D91)) fun y12 =>
 some ((y12.2.1, (0 : Int), ()), (()))
def sealed_Add_1 (N : Nat) (l_0 : (List D91)) (t_27 : Bool) (f_3 : D91) : Option sealed_Add_R :=
 bif t_27 then
 some ((([] : List D91), (5 : Int), ()), (()))
 else
 bif (decide ((0 : Int) < (l_0.length : Int))) then
 bif inR (0 : Int) l_0.length then
 bif (decide (f_3.2.1 < (l_0.getD 0 ((0 : Int), (0 : Int), (0 : Int), ([] : List UInt8), ())).2.1)) then
 some ((l_0, (7 : Int), ()), (()))
 else
 bif (decide ((0 : Int) < (l_0.length : Int))) then
 bif inR (0 : Int) l_0.length then
 bif (decide ((l_0.getD 0 ((0 : Int), (0 : Int), (0 : Int), ([] : List UInt8), ())).2.1 < f_3.2.1)) then
 some ((([f_3] : List D91), (0 : Int), ()), (()))
 else
 sealed_Add_2 N l_0 f_3
 else none
 else
 sealed_Add_2 N l_0 f_3
 else none
 else
 bif (decide ((0 : Int) < (l_0.length : Int))) then
 bif inR (0 : Int) l_0.length then
 bif (decide ((l_0.getD 0 ((0 : Int), (0 : Int), (0 : Int), ([] : List UInt8), ())).2.1 < f_3.2.1)) then
 some ((([f_3] : List D91), (0 : Int), ()), (()))
 else
 sealed_Add_2 N l_0 f_3
 else none
 else
 sealed_Add_2 N l_0 f_3
def sealed_Add (N : Nat) (l_0 : (List D91)) (f_1 : D91) : Option sealed_Add_R :=
 bif (decide (f_1.1 < (1 : Int))) then
 sealed_Add_1 N l_0 true f_1
 else
 bif (decide (f_1.2.1 < (1 : Int))) then
 sealed_Add_1 N l_0 true f_1
 else
 bif (decide ((16 : Int) < f_1.2.1)) then
 sealed_Add_1 N l_0 true f_1
 else
 sealed_Add_1 N l_0 (decide (f_1.2.1 < f_1.1)) f_1
def sealed_Add_C (N : Nat) : Ctx := ⟨72, G_tys, [(147, slices_BinarySearchFunc___api_Fragment_api_Fragment_int__sealed_Add_f1_ctr N), (150, slices_Clone___api_Fragment_api_Fragment__ctr N), (149, slices_Insert___api_Fragment_api_Fragment__ctr N)], G_globs, G_ifs⟩
def sealed_Add_S0 : Spec := ⟨[.val (.sl T91), .ref 0 T91], [(.box 92 T91, .pos 1)]⟩
def sealed_Add_S1 : Spec := ⟨[.val (.sl T91), .ref 0 T91, .val .bool], [(.box 92 T91, .pos 1)]⟩
def sealed_Add_S2 : Spec := ⟨[.val (.sl T91), .val T91], []⟩
def sealed_Add_S3 : Spec := ⟨[.val (.sl T91), .val .i64], []⟩
def sealed_Add_K (_N : Nat) : XE → GS → Option sealed_Add_R := retK 0 [4, 5] [false, false] sealed_Add_S3
def sealed_Add_L : List Code := (bodyOf (some Tryd.f79))
theorem sealed_Add_2_b {E : Env} (N : Nat) (hb : Base Tryd.prog (sealed_Add_C N) E 0) : Blk Tryd.prog (sealed_Add_C N) E [0, 3] sealed_Add_S0 (sealed_Add_L.drop 4) (fun y => sealed_Add_2 N y.1.1 y.2.1) (sealed_Add_K N) :=
 Blk.chunkAt hb 5 (X := (sealed_Add_K N .normal)) (NxOk.end (by kernel_rfl)) rfl (fun x => by kernel_rfl)
theorem sealed_Add_1_b {E : Env} (N : Nat) (hb : Base Tryd.prog (sealed_Add_C N) E 0) : Blk Tryd.prog (sealed_Add_C N) E [0, 3, 27] sealed_Add_S1 (sealed_Add_L.drop 2) (fun y => sealed_Add_1 N y.1.1 y.1.2.1 y.2.1) (sealed_Add_K N) :=
 Blk.chunkAt hb 2 (X := (goK 0 [0, 3] sealed_Add_S0 (fun y => sealed_Add_2 N y.1.1 y.2.1))) (NxOk.go hb (sealed_Add_2_b N hb)) rfl (fun x => by kernel_rfl)
theorem sealed_Add_b {E : Env} (N : Nat) (hb : Base Tryd.prog (sealed_Add_C N) E 0) : Blk Tryd.prog (sealed_Add_C N) E (List.range sealed_Add_S2.ks.length) sealed_Add_S2 (sealed_Add_L.drop 0) (fun y => sealed_Add N y.1.1 y.1.2.1) (sealed_Add_K N) :=
 Blk.chunkAt hb 2 (X := (goK 0 [0, 3, 27] sealed_Add_S1 (fun y => sealed_Add_1 N y.1.1 y.1.2.1 y.2.1))) (NxOk.go hb (sealed_Add_1_b N hb)) rfl (fun x => by kernel_rfl)
def sealed_Add_ctr (N : Nat) : Ctr := ⟨sealed_Add_S2, sealed_Add_S3.un [false, false], 0, (fun y => sealed_Add N y.1.1 y.1.2.1)⟩
theorem sealed_Add_ctrs (N : Nat) : CtrsOk Tryd.prog (sealed_Add_C N) := ctrs_of (Γ := sealed_Add_C N) G_ifs_ok (by
 intro p hp
 simp only [sealed_Add_C, List.mem_cons, List.not_mem_nil, or_false] at hp
 rcases hp with rfl | rfl | rfl
 · exact slices_BinarySearchFunc___api_Fragment_api_Fragment_int__sealed_Add_f1_ok N
 · exact slices_Clone___api_Fragment_api_Fragment__ok N
 · exact slices_Insert___api_Fragment_api_Fragment__ok N)
theorem sealed_Add_ok (N : Nat) : Ctr.ok Tryd.prog G_globs 79 (sealed_Add_ctr N) :=
 ctr_fn (Γ := sealed_Add_C N) (rfit := sealed_Add_S3) (bs := [false, false]) (res := [4, 5]) (by kernel_rfl) (tys_ok G_tys_ok) (sealed_Add_ctrs N) Tryd.func79 (by kernel_rfl) (by kernel_rfl) Tryd.ntmps79 (by kernel_rfl) (by kernel_rfl) (by kernel_rfl) (by kernel_rfl) (fun E hb => sealed_Add_b N hb)
/-! ipsecgate/sealed.Join -/
abbrev sealed_Join_R : Type := ((Int × Bool × Unit) × ((List UInt8) × Unit))
def sealed_Join_s3 (N : Nat) (l_0 : (List D91)) (t_20 : (List D91)) (t_21 : Int) (t_22 : Int) (b_5 : (List UInt8)) : Option (Lo (((List D91) × (List D91) × Int × Int × Unit) × ((List UInt8) × Unit)) (((List D91) × Unit) × ((List UInt8) × Unit)) sealed_Join_R) :=
 bif (decide (t_22 < t_21)) then
 bif inR t_22 t_20.length then
 let x5 := t_20.getD t_22.toNat ((0 : Int), (0 : Int), (0 : Int), ([] : List UInt8), ())
 bif room (b_5.length + x5.2.2.2.1.length) 1 then
 some (.go ((l_0, t_20, t_21, (w64 (t_22 + (1 : Int))), ()), ((b_5 ++ x5.2.2.2.1), ())))
 else none
 else none
 else
 some (.br ((l_0, ()), (b_5, ())))
def sealed_Join_4 (N : Nat) (l_0 : (List D91)) (b_5 : (List UInt8)) : Option sealed_Join_R :=
 bif inR (0 : Int) l_0.length then
 some (((l_0.getD 0 ((0 : Int), (0 : Int), (0 : Int), ([] : List UInt8), ())).2.2.1, true, ()), (b_5, ()))
 else none
def sealed_Join_2 (N : Nat) (l_0 : (List D91)) (t_20 : (List D91)) (t_21 : Int) (t_22 : Int) (b_5 : (List UInt8)) : Option sealed_Join_R :=
 loopK N (fun y => sealed_Join_s3 N y.1.1 y.1.2.1 y.1.2.2.1 y.1.2.2.2.1 y.2.1) (fun (e : (((List D91) × Unit) × ((List UInt8) × Unit))) => sealed_Join_4 N e.1.1 e.2.1) ((l_0, t_20, t_21, t_22, ()), (b_5, ()))
def sealed_Join_1 (N : Nat) (l_0 : (List D91)) (t_19 : Bool) : Option sealed_Join_R :=
 bif t_19 then
 some (((0 : Int), false, ()), (([] : List UInt8), ()))
 else
 sealed_Join_2 N l_0 l_0 (l_0.length : Int) (0 : Int) ([] : List UInt8)
def sealed_Join (N : Nat) (l_0 : (List D91)) : Option sealed_Join_R :=
 bif (decide ((l_0.length : Int) = (0 : Int))) then
 sealed_Join_1 N l_0 true
 else
 bif inR (0 : Int) l_0.length then
 sealed_Join_1 N l_0 (!(decide ((l_0.length : Int) = (l_0.getD 0 ((0 : Int), (0 : Int), (0 : Int), ([] : List UInt8), ())).2.1)))
 else none
def sealed_Join_C (N : Nat) : Ctx := ⟨36, G_tys, [], G_globs, G_ifs⟩
def sealed_Join_S0 : Spec := ⟨[.val (.sl T91), .row 0, .val (.sl T91), .val .i64, .val .i64], [(.row 5 .u8, .pos 1)]⟩
def sealed_Join_S1 : Spec := ⟨[.val (.sl T91), .row 0], [(.row 5 .u8, .pos 1)]⟩
def sealed_Join_S2 : Spec := ⟨[.val (.sl T91), .val .bool], []⟩
def sealed_Join_S3 : Spec := ⟨[.val (.sl T91)], []⟩
def sealed_Join_S4 : Spec := ⟨[.val .i64, .row 0, .val .bool], [(.row 5 .u8, .pos 1)]⟩
def sealed_Join_K (_N : Nat) : XE → GS → Option sealed_Join_R := retK 0 [2, 3, 4] [false, false, false] sealed_Join_S4
def sealed_Join_L : List Code := (bodyOf (some Tryd.f80))
def sealed_Join_L3 : List Code := (loopOf (sealed_Join_L[5]?))
def sealed_Join_K3 (N : Nat) : XE → GS → Option (Lo (((List D91) × (List D91) × Int × Int × Unit) × ((List UInt8) × Unit)) (((List D91) × Unit) × ((List UInt8) × Unit)) sealed_Join_R) := roundK (some 0) (fit 0 [0, 5, 20, 21, 22] sealed_Join_S0) (fit 0 [0, 5] sealed_Join_S1) (sealed_Join_K N)
theorem sealed_Join_s3_b {E : Env} (N : Nat) (hb : Base Tryd.prog (sealed_Join_C N) E 0) : Blk Tryd.prog (sealed_Join_C N) E [0, 5, 20, 21, 22] sealed_Join_S0 (sealed_Join_L3.drop 0) (fun y => sealed_Join_s3 N y.1.1 y.1.2.1 y.1.2.2.1 y.1.2.2.2.1 y.2.1) (sealed_Join_K3 N) :=
 Blk.chunkAt hb 4 (X := (sealed_Join_K3 N .normal)) (NxOk.end (by kernel_rfl)) rfl (fun x => by kernel_rfl)
theorem sealed_Join_4_b {E : Env} (N : Nat) (hb : Base Tryd.prog (sealed_Join_C N) E 0) : Blk Tryd.prog (sealed_Join_C N) E [0, 5] sealed_Join_S1 (sealed_Join_L.drop 6) (fun y => sealed_Join_4 N y.1.1 y.2.1) (sealed_Join_K N) :=
 Blk.chunkAt hb 2 (X := (sealed_Join_K N .normal)) (NxOk.end (by kernel_rfl)) rfl (fun x => by kernel_rfl)
theorem sealed_Join_2_b {E : Env} (N : Nat) (hb : Base Tryd.prog (sealed_Join_C N) E 0) : Blk Tryd.prog (sealed_Join_C N) E [0, 5, 20, 21, 22] sealed_Join_S0 (sealed_Join_L.drop 5) (fun y => sealed_Join_2 N y.1.1 y.1.2.1 y.1.2.2.1 y.1.2.2.2.1 y.2.1) (sealed_Join_K N) :=
 Blk.loopAt (Nf := N) (hns := [0, 5, 20, 21, 22]) (ans := [0, 5]) (hc := sealed_Join_S0) (ac := sealed_Join_S1) (bid := 0) (step := (fun y => sealed_Join_s3 N y.1.1 y.1.2.1 y.1.2.2.1 y.1.2.2.2.1 y.2.1)) (J := (fun e => (goK 0 [0, 5] sealed_Join_S1 (fun y => sealed_Join_4 N y.1.1 y.2.1)) (sealed_Join_S1.st [0, 5] e))) hb (by kernel_rfl) (Blk.into (X := (goK 0 [0, 5] sealed_Join_S1 (fun y => sealed_Join_4 N y.1.1 y.2.1))) (NxOk.go hb (sealed_Join_4_b N hb)) (fun x => by kernel_rfl)) (sealed_Join_s3_b N hb) (fun x => by kernel_rfl)
theorem sealed_Join_1_b {E : Env} (N : Nat) (hb : Base Tryd.prog (sealed_Join_C N) E 0) : Blk Tryd.prog (sealed_Join_C N) E [0, 19] sealed_Join_S2 (sealed_Join_L.drop 2) (fun y => sealed_Join_1 N y.1.1 y.1.2.1) (sealed_Join_K N) :=
 Blk.chunkAt hb 3 (X := (goK 0 [0, 5, 20, 21, 22] sealed_Join_S0 (fun y => sealed_Join_2 N y.1.1 y.1.2.1 y.1.2.2.1 y.1.2.2.2.1 y.2.1))) (NxOk.go hb (sealed_Join_2_b N hb)) rfl (fun x => by kernel_rfl)
theorem sealed_Join_b {E : Env} (N : Nat) (hb : Base Tryd.prog (sealed_Join_C N) E 0) : Blk Tryd.prog (sealed_Join_C N) E (List.range sealed_Join_S3.ks.length) sealed_Join_S3 (sealed_Join_L.drop 0) (fun y => sealed_Join N y.1.1) (sealed_Join_K N) :=
 Blk.chunkAt hb 2 (X := (goK 0 [0, 19] sealed_Join_S2 (fun y => sealed_Join_1 N y.1.1 y.1.2.1))) (NxOk.go hb (sealed_Join_1_b N hb)) rfl (fun x => by kernel_rfl)
def sealed_Join_ctr (N : Nat) : Ctr := ⟨sealed_Join_S3, sealed_Join_S4.un [false, false, false], 0, (fun y => sealed_Join N y.1.1)⟩
theorem sealed_Join_ctrs (N : Nat) : CtrsOk Tryd.prog (sealed_Join_C N) := ctrs_nil G_ifs_ok rfl
theorem sealed_Join_ok (N : Nat) : Ctr.ok Tryd.prog G_globs 80 (sealed_Join_ctr N) :=
 ctr_fn (Γ := sealed_Join_C N) (rfit := sealed_Join_S4) (bs := [false, false, false]) (res := [2, 3, 4]) (by kernel_rfl) (tys_ok G_tys_ok) (sealed_Join_ctrs N) Tryd.func80 (by kernel_rfl) (by kernel_rfl) Tryd.ntmps80 (by kernel_rfl) (by kernel_rfl) (by kernel_rfl) (by kernel_rfl) (fun E hb => sealed_Join_b N hb)
/-! ipsecgate/ipsecgateref01.Compare -/
abbrev ref01_Compare_R : Type := ((Int × Unit) × (Unit))
def ref01_Compare_3 (N : Nat) (a_0 : (List UInt8)) (b_1 : (List UInt8)) (i_5 : Int) (t_15 : Bool) : Option (Lo (((List UInt8) × (List UInt8) × Int × Unit) × (Unit)) (((List UInt8) × (List UInt8) × Unit) × (Unit)) ref01_Compare_R) :=
 bif t_15 then
 bif inR i_5 a_0.length then
 bif inR i_5 b_1.length then
 bif (decide ((a_0.getD i_5.toNat (0 : UInt8)) < (b_1.getD i_5.toNat (0 : UInt8)))) then
 some (.rt (((-1 : Int), ()), (())))
 else
 bif inR i_5 a_0.length then
 bif inR i_5 b_1.length then
 bif (decide ((b_1.getD i_5.toNat (0 : UInt8)) < (a_0.getD i_5.toNat (0 : UInt8)))) then
 some (.rt (((1 : Int), ()), (())))
 else
 some (.go ((a_0, b_1, (w64 (i_5 + (1 : Int))), ()), (())))
 else none
 else none
 else none
 else none
 else
 some (.br ((a_0, b_1, ()), (())))
def ref01_Compare_s2 (N : Nat) (a_0 : (List UInt8)) (b_1 : (List UInt8)) (i_5 : Int) : Option (Lo (((List UInt8) × (List UInt8) × Int × Unit) × (Unit)) (((List UInt8) × (List UInt8) × Unit) × (Unit)) ref01_Compare_R) :=
 bif (decide (i_5 < (a_0.length : Int))) then
 ref01_Compare_3 N a_0 b_1 i_5 (decide (i_5 < (b_1.length : Int)))
 else
 ref01_Compare_3 N a_0 b_1 i_5 false
def ref01_Compare_4 (N : Nat) (a_0 : (List UInt8)) (b_1 : (List UInt8)) : Option ref01_Compare_R :=
 bif (decide ((a_0.length : Int) < (b_1.length : Int))) then
 some (((-1 : Int), ()), (()))
 else
 bif (decide ((b_1.length : Int) < (a_0.length : Int))) then
 some (((1 : Int), ()), (()))
 else
 some (((0 : Int), ()), (()))
def ref01_Compare_1 (N : Nat) (a_0 : (List UInt8)) (b_1 : (List UInt8)) (i_5 : Int) : Option ref01_Compare_R :=
 loopK N (fun y => ref01_Compare_s2 N y.1.1 y.1.2.1 y.1.2.2.1) (fun (e : (((List UInt8) × (List UInt8) × Unit) × (Unit))) => ref01_Compare_4 N e.1.1 e.1.2.1) ((a_0, b_1, i_5, ()), (()))
def ref01_Compare (N : Nat) (a_0 : (List UInt8)) (b_1 : (List UInt8)) : Option ref01_Compare_R :=
 ref01_Compare_1 N a_0 b_1 (0 : Int)
def ref01_Compare_C (N : Nat) : Ctx := ⟨48, G_tys, [], G_globs, G_ifs⟩
def ref01_Compare_S0 : Spec := ⟨[.val (.sl .u8), .val (.sl .u8), .val .i64, .val .bool], []⟩
def ref01_Compare_S1 : Spec := ⟨[.val (.sl .u8), .val (.sl .u8), .val .i64], []⟩
def ref01_Compare_S2 : Spec := ⟨[.val (.sl .u8), .val (.sl .u8)], []⟩
def ref01_Compare_S3 : Spec := ⟨[.val .i64], []⟩
def ref01_Compare_K (_N : Nat) : XE → GS → Option ref01_Compare_R := retK 0 [4] [false] ref01_Compare_S3
def ref01_Compare_L : List Code := (bodyOf (some Tryd.f95))
def ref01_Compare_L2 : List Code := (loopOf (ref01_Compare_L[2]?))
def ref01_Compare_K2 (N : Nat) : XE → GS → Option (Lo (((List UInt8) × (List UInt8) × Int × Unit) × (Unit)) (((List UInt8) × (List UInt8) × Unit) × (Unit)) ref01_Compare_R) := roundK (some 0) (fit 0 [0, 1, 5] ref01_Compare_S1) (fit 0 [0, 1] ref01_Compare_S2) (ref01_Compare_K N)
theorem ref01_Compare_3_b {E : Env} (N : Nat) (hb : Base Tryd.prog (ref01_Compare_C N) E 0) : Blk Tryd.prog (ref01_Compare_C N) E [0, 1, 5, 15] ref01_Compare_S0 (ref01_Compare_L2.drop 1) (fun y => ref01_Compare_3 N y.1.1 y.1.2.1 y.1.2.2.1 y.1.2.2.2.1) (ref01_Compare_K2 N) :=
 Blk.chunkAt hb 3 (X := (ref01_Compare_K2 N .normal)) (NxOk.end (by kernel_rfl)) rfl (fun x => by kernel_rfl)
theorem ref01_Compare_s2_b {E : Env} (N : Nat) (hb : Base Tryd.prog (ref01_Compare_C N) E 0) : Blk Tryd.prog (ref01_Compare_C N) E [0, 1, 5] ref01_Compare_S1 (ref01_Compare_L2.drop 0) (fun y => ref01_Compare_s2 N y.1.1 y.1.2.1 y.1.2.2.1) (ref01_Compare_K2 N) :=
 Blk.chunkAt hb 1 (X := (goK 0 [0, 1, 5, 15] ref01_Compare_S0 (fun y => ref01_Compare_3 N y.1.1 y.1.2.1 y.1.2.2.1 y.1.2.2.2.1))) (NxOk.go hb (ref01_Compare_3_b N hb)) rfl (fun x => by kernel_rfl)
theorem ref01_Compare_4_b {E : Env} (N : Nat) (hb : Base Tryd.prog (ref01_Compare_C N) E 0) : Blk Tryd.prog (ref01_Compare_C N) E [0, 1] ref01_Compare_S2 (ref01_Compare_L.drop 3) (fun y => ref01_Compare_4 N y.1.1 y.1.2.1) (ref01_Compare_K N) :=
 Blk.chunkAt hb 3 (X := (ref01_Compare_K N .normal)) (NxOk.end (by kernel_rfl)) rfl (fun x => by kernel_rfl)
theorem ref01_Compare_1_b {E : Env} (N : Nat) (hb : Base Tryd.prog (ref01_Compare_C N) E 0) : Blk Tryd.prog (ref01_Compare_C N) E [0, 1, 5] ref01_Compare_S1 (ref01_Compare_L.drop 2) (fun y => ref01_Compare_1 N y.1.1 y.1.2.1 y.1.2.2.1) (ref01_Compare_K N) :=
 Blk.loopAt (Nf := N) (hns := [0, 1, 5]) (ans := [0, 1]) (hc := ref01_Compare_S1) (ac := ref01_Compare_S2) (bid := 0) (step := (fun y => ref01_Compare_s2 N y.1.1 y.1.2.1 y.1.2.2.1)) (J := (fun e => (goK 0 [0, 1] ref01_Compare_S2 (fun y => ref01_Compare_4 N y.1.1 y.1.2.1)) (ref01_Compare_S2.st [0, 1] e))) hb (by kernel_rfl) (Blk.into (X := (goK 0 [0, 1] ref01_Compare_S2 (fun y => ref01_Compare_4 N y.1.1 y.1.2.1))) (NxOk.go hb (ref01_Compare_4_b N hb)) (fun x => by kernel_rfl)) (ref01_Compare_s2_b N hb) (fun x => by kernel_rfl)
theorem ref01_Compare_b {E : Env} (N : Nat) (hb : Base Tryd.prog (ref01_Compare_C N) E 0) : Blk Tryd.prog (ref01_Compare_C N) E (List.range ref01_Compare_S2.ks.length) ref01_Compare_S2 (ref01_Compare_L.drop 0) (fun y => ref01_Compare N y.1.1 y.1.2.1) (ref01_Compare_K N) :=
 Blk.chunkAt hb 2 (X := (goK 0 [0, 1, 5] ref01_Compare_S1 (fun y => ref01_Compare_1 N y.1.1 y.1.2.1 y.1.2.2.1))) (NxOk.go hb (ref01_Compare_1_b N hb)) rfl (fun x => by kernel_rfl)
def ref01_Compare_ctr (N : Nat) : Ctr := ⟨ref01_Compare_S2, ref01_Compare_S3.un [false], 0, (fun y => ref01_Compare N y.1.1 y.1.2.1)⟩
theorem ref01_Compare_ctrs (N : Nat) : CtrsOk Tryd.prog (ref01_Compare_C N) := ctrs_nil G_ifs_ok rfl
theorem ref01_Compare_ok (N : Nat) : Ctr.ok Tryd.prog G_globs 95 (ref01_Compare_ctr N) :=
 ctr_fn (Γ := ref01_Compare_C N) (rfit := ref01_Compare_S3) (bs := [false]) (res := [4]) (by kernel_rfl) (tys_ok G_tys_ok) (ref01_Compare_ctrs N) Tryd.func95 (by kernel_rfl) (by kernel_rfl) Tryd.ntmps95 (by kernel_rfl) (by kernel_rfl) (by kernel_rfl) (by kernel_rfl) (fun E hb => ref01_Compare_b N hb)
/-! ipsecgate/ipsecgateref01.Equal -/
abbrev ref01_Equal_R : Type := ((Bool × Unit) × (Unit))
def ref01_Equal (N : Nat) (a_0 : (List UInt8)) (b_1 : (List UInt8)) : Option ref01_Equal_R :=
 Option.bind (ref01_Compare N a_0 b_1) fun y1 =>
 some (((decide (y1.1.1 = (0 : Int))), ()), (()))
def ref01_Equal_C (N : Nat) : Ctx := ⟨9, G_tys, [(95, ref01_Compare_ctr N)], G_globs, G_ifs⟩
def ref01_Equal_S0 : Spec := ⟨[.val (.sl .u8), .val (.sl .u8)], []⟩
def ref01_Equal_S1 : Spec := ⟨[.val .bool], []⟩
def ref01_Equal_K (_N : Nat) : XE → GS → Option ref01_Equal_R := retK 0 [4] [false] ref01_Equal_S1
def ref01_Equal_L : List Code := (bodyOf (some Tryd.f21))
theorem ref01_Equal_b {E : Env} (N : Nat) (hb : Base Tryd.prog (ref01_Equal_C N) E 0) : Blk Tryd.prog (ref01_Equal_C N) E (List.range ref01_Equal_S0.ks.length) ref01_Equal_S0 (ref01_Equal_L.drop 0) (fun y => ref01_Equal N y.1.1 y.1.2.1) (ref01_Equal_K N) :=
 Blk.chunkAt hb 3 (X := (ref01_Equal_K N .normal)) (NxOk.end (by kernel_rfl)) rfl (fun x => by kernel_rfl)
def ref01_Equal_ctr (N : Nat) : Ctr := ⟨ref01_Equal_S0, ref01_Equal_S1.un [false], 0, (fun y => ref01_Equal N y.1.1 y.1.2.1)⟩
theorem ref01_Equal_ctrs (N : Nat) : CtrsOk Tryd.prog (ref01_Equal_C N) := ctrs_of (Γ := ref01_Equal_C N) G_ifs_ok (by
 intro p hp
 simp only [ref01_Equal_C, List.mem_cons, List.not_mem_nil, or_false] at hp
 rcases hp with rfl
 · exact ref01_Compare_ok N)
theorem ref01_Equal_ok (N : Nat) : Ctr.ok Tryd.prog G_globs 21 (ref01_Equal_ctr N) :=
 ctr_fn (Γ := ref01_Equal_C N) (rfit := ref01_Equal_S1) (bs := [false]) (res := [4]) (by kernel_rfl) (tys_ok G_tys_ok) (ref01_Equal_ctrs N) Tryd.func21 (by kernel_rfl) (by kernel_rfl) Tryd.ntmps21 (by kernel_rfl) (by kernel_rfl) (by kernel_rfl) (by kernel_rfl) (fun E hb => ref01_Equal_b N hb)
/-! ipsecgate/ipsecgatelaw17.SealedReturns -/
abbrev law17_SealedReturns_R : Type := ((Bool × Unit) × (Unit))
def law17_SealedReturns_s5 (N : Nat) (first_1 : UInt8) (order_3 : (List UInt8)) (k_13 : (List UInt8)) (b_14 : (List UInt8)) (parts_26 : (List D91)) (i_27 : Int) (l_25 : (List (List UInt8))) : Option (Lo ((UInt8 × (List UInt8) × (List UInt8) × (List UInt8) × (List D91) × Int × Unit) × ((List (List UInt8)) × Unit)) ((UInt8 × (List UInt8) × (List D91) × Unit) × (Unit)) law17_SealedReturns_R) :=
 bif (decide (i_27 < (w64 ((order_3.length : Int) + (l_25.length : Int))))) then
 let x33 := w64 (i_27 - (order_3.length : Int))
 bif (decide (x33 < (0 : Int))) then
 bif inR i_27 order_3.length then
 let x36 := ((order_3.getD i_27.toNat (0 : UInt8)).toNat : Int)
 let x37 := (l_25.length : Int)
 bif !(decide (x37 = 0)) then
 bif inR (x36.tmod x37) l_25.length then
 Option.bind (sealed_OpenPart N (l_25.getD (x36.tmod x37).toNat ([] : List UInt8)) k_13) fun y40 =>
 bif (!(decide (y40.1.2.2.1 = (0 : Int)))) then
 some (.rt ((false, ()), (())))
 else
 Option.bind (sealed_Add N parts_26 y40.1.2.1) fun y42 =>
 bif (!(decide (y42.1.2.1 = (0 : Int)))) then
 bif (!(decide (y42.1.2.1 = (9 : Int)))) then
 some (.rt ((false, ()), (())))
 else
 some (.go ((first_1, order_3, k_13, b_14, y42.1.1, (w64 (i_27 + (1 : Int))), ()), (l_25, ())))
 else
 some (.go ((first_1, order_3, k_13, b_14, y42.1.1, (w64 (i_27 + (1 : Int))), ()), (l_25, ())))
 else none
 else none
 else none
 else
 bif inR x33 l_25.length then
 Option.bind (sealed_OpenPart N (l_25.getD x33.toNat ([] : List UInt8)) k_13) fun y48 =>
 bif (!(decide (y48.1.2.2.1 = (0 : Int)))) then
 some (.rt ((false, ()), (())))
 else
 Option.bind (sealed_Add N parts_26 y48.1.2.1) fun y50 =>
 bif (!(decide (y50.1.2.1 = (0 : Int)))) then
 bif (!(decide (y50.1.2.1 = (9 : Int)))) then
 some (.rt ((false, ()), (())))
 else
 some (.go ((first_1, order_3, k_13, b_14, y50.1.1, (w64 (i_27 + (1 : Int))), ()), (l_25, ())))
 else
 some (.go ((first_1, order_3, k_13, b_14, y50.1.1, (w64 (i_27 + (1 : Int))), ()), (l_25, ())))
 else none
 else
 some (.br ((first_1, b_14, parts_26, ()), (())))
def law17_SealedReturns_6 (N : Nat) (first_1 : UInt8) (b_14 : (List UInt8)) (parts_26 : (List D91)) : Option law17_SealedReturns_R :=
 Option.bind (sealed_Join N parts_26) fun y55 =>
 bif y55.1.2.1 then
 bif (decide (y55.1.1 = (first_1.toNat : Int))) then
 Option.bind (ref01_Equal N y55.2.1 b_14) fun y58 =>
 some ((y58.1.1, ()), (()))
 else
 some ((false, ()), (()))
 else
 some ((false, ()), (()))
def law17_SealedReturns_4 (N : Nat) (first_1 : UInt8) (order_3 : (List UInt8)) (k_13 : (List UInt8)) (b_14 : (List UInt8)) (i_27 : Int) (l_25 : (List (List UInt8))) (parts_26 : (List D91)) : Option law17_SealedReturns_R :=
 loopK N (fun y => law17_SealedReturns_s5 N y.1.1 y.1.2.1 y.1.2.2.1 y.1.2.2.2.1 y.1.2.2.2.2.1 y.1.2.2.2.2.2.1 y.2.1) (fun (e : ((UInt8 × (List UInt8) × (List D91) × Unit) × (Unit))) => law17_SealedReturns_6 N e.1.1 e.1.2.1 e.1.2.2.1) ((first_1, order_3, k_13, b_14, parts_26, i_27, ()), (l_25, ()))
def law17_SealedReturns_3 (N : Nat) (first_1 : UInt8) (order_3 : (List UInt8)) (k_13 : (List UInt8)) (b_14 : (List UInt8)) (t_145 : Bool) (l_25 : (List (List UInt8))) : Option law17_SealedReturns_R :=
 bif t_145 then
 some ((false, ()), (()))
 else
 law17_SealedReturns_4 N first_1 order_3 k_13 b_14 (0 : Int) l_25 ([] : List D91)
def law17_SealedReturns_2 (N : Nat) (first_1 : UInt8) (iv_2 : UInt64) (order_3 : (List UInt8)) (by_4 : UInt8) (k_13 : (List UInt8)) (x_15 : (List UInt8)) (h_12 : D75) (b_14 : (List UInt8)) : Option law17_SealedReturns_R :=
 bif room (0 + x_15.length) 1 then
 let x16 := w64 ((w64 ((x_15.length : Int) - (1 : Int))) - ((by_4.toNat : Int).tmod (16 : Int)))
 bif inR x16 x_15.length then
 bif inR x16 x_15.length then
 Option.bind (sealed_Open N (x_15.set x16.toNat ((x_15.getD x16.toNat (0 : UInt8)) ^^^ by_4)) k_13) fun y20 =>
 bif (!(decide (y20.1.2.2.2.1 = (12 : Int)))) then
 some ((false, ()), (()))
 else
 Option.bind (sealed_Split N h_12 (first_1.toNat : Int) b_14 k_13 iv_2 (w64 ((5 : Int) + (w64 ((b_14.length : Int).tdiv (10 : Int)))))) fun y26 =>
 bif (!(decide (y26.1.1 = (0 : Int)))) then
 law17_SealedReturns_3 N first_1 order_3 k_13 b_14 true y26.2.1
 else
 law17_SealedReturns_3 N first_1 order_3 k_13 b_14 (decide ((y26.2.1.length : Int) = (0 : Int))) y26.2.1
 else none
 else none
 else none
def law17_SealedReturns_1 (N : Nat) (first_1 : UInt8) (iv_2 : UInt64) (order_3 : (List UInt8)) (by_4 : UInt8) (k_13 : (List UInt8)) (x_15 : (List UInt8)) (t_97 : Bool) (h_12 : D75) (b_14 : (List UInt8)) : Option law17_SealedReturns_R :=
 bif t_97 then
 some ((false, ()), (()))
 else
 bif (decide (by_4 = (0 : UInt8))) then
 law17_SealedReturns_2 N first_1 iv_2 order_3 (1 : UInt8) k_13 x_15 h_12 b_14
 else
 law17_SealedReturns_2 N first_1 iv_2 order_3 by_4 k_13 x_15 h_12 b_14
def law17_SealedReturns (N : Nat) (codes_0 : (List UInt8)) (first_1 : UInt8) (iv_2 : UInt64) (order_3 : (List UInt8)) (by_4 : UInt8) : Option law17_SealedReturns_R :=
 Option.bind (law17_awake N) fun y1 =>
 bif (!y1.1.1) then
 some ((false, ()), (()))
 else
 bif (decide ((100 : Int) < (order_3.length : Int))) then
 some ((true, ()), (()))
 else
 Option.bind (make_New N codes_0 (240 : Int)) fun y5 =>
 Option.bind (law17_draw N y5.2.1) fun y6 =>
 Option.bind (sealed_Seal N y6.1.1 (first_1.toNat : Int) y6.2.2.2.1 y6.2.2.1 iv_2) fun y8 =>
 Option.bind (sealed_Open N y8.2.1 y6.2.2.1) fun y9 =>
 bif (!(decide (y8.1.1 = (0 : Int)))) then
 law17_SealedReturns_1 N first_1 iv_2 order_3 by_4 y6.2.2.1 y8.2.1 true y6.1.1 y6.2.2.2.1
 else
 bif (!(decide (y9.1.2.2.2.1 = (0 : Int)))) then
 law17_SealedReturns_1 N first_1 iv_2 order_3 by_4 y6.2.2.1 y8.2.1 true y6.1.1 y6.2.2.2.1
 else
 bif (!(dq T75 (y9.1.1.1, y9.1.1.2.1, y6.1.1.2.2.1, y9.1.1.2.2.2.1, y9.1.1.2.2.2.2.1, y9.1.1.2.2.2.2.2.1, ()) y6.1.1)) then
 law17_SealedReturns_1 N first_1 iv_2 order_3 by_4 y6.2.2.1 y8.2.1 true y6.1.1 y6.2.2.2.1
 else
 bif (!(decide (y9.1.2.1 = (first_1.toNat : Int)))) then
 law17_SealedReturns_1 N first_1 iv_2 order_3 by_4 y6.2.2.1 y8.2.1 true y6.1.1 y6.2.2.2.1
 else
 bif (decide ((y8.2.1.length : Int) < (57 : Int))) then
 law17_SealedReturns_1 N first_1 iv_2 order_3 by_4 y6.2.2.1 y8.2.1 true y6.1.1 y6.2.2.2.1
 else
 Option.bind (ref01_Equal N y9.1.2.2.1 y6.2.2.2.1) fun y67 =>
 law17_SealedReturns_1 N first_1 iv_2 order_3 by_4 y6.2.2.1 y8.2.1 (!y67.1.1) y6.1.1 y6.2.2.2.1
def law17_SealedReturns_C (N : Nat) : Ctx := ⟨212, G_tys, [(53, law17_awake_ctr N), (16, make_New_ctr N), (54, law17_draw_ctr N), (55, sealed_Seal_ctr N), (64, sealed_Open_ctr N), (70, sealed_Split_ctr N), (66, sealed_OpenPart_ctr N), (79, sealed_Add_ctr N), (80, sealed_Join_ctr N), (21, ref01_Equal_ctr N)], G_globs, G_ifs⟩
def law17_SealedReturns_S0 : Spec := ⟨[.val .u8, .val (.sl .u8), .val (.sl .u8), .val (.sl .u8), .row 0, .val (.sl T91), .val .i64], [(.row 22 (.sl .u8), .pos 4)]⟩
def law17_SealedReturns_S1 : Spec := ⟨[.val .u8, .val (.sl .u8), .val (.sl T91)], []⟩
def law17_SealedReturns_S2 : Spec := ⟨[.val .u8, .val (.sl .u8), .val (.sl .u8), .val (.sl .u8), .row 0, .row 1, .val .i64], [(.row 22 (.sl .u8), .pos 4), (.row 92 T91, .pos 5)]⟩
def law17_SealedReturns_S3 : Spec := ⟨[.val .u8, .val (.sl .u8), .val (.sl .u8), .val (.sl .u8), .row 0, .val .bool], [(.row 22 (.sl .u8), .pos 4)]⟩
def law17_SealedReturns_S4 : Spec := ⟨[.val .u8, .val .u64, .val (.sl .u8), .val .u8, .ref 0 T75, .val (.sl .u8), .row 1, .val (.sl .u8)], [(.box 76 T75, .pos 4), (.row 5 .u8, .pos 6)]⟩
def law17_SealedReturns_S5 : Spec := ⟨[.val .u8, .val .u64, .val (.sl .u8), .val .u8, .ref 0 T75, .val (.sl .u8), .row 1, .val (.sl .u8), .val .bool], [(.box 76 T75, .pos 4), (.row 5 .u8, .pos 6)]⟩
def law17_SealedReturns_S6 : Spec := ⟨[.val (.sl .u8), .val .u8, .val .u64, .val (.sl .u8), .val .u8], []⟩
def law17_SealedReturns_S7 : Spec := ⟨[.val .bool], []⟩
def law17_SealedReturns_K (_N : Nat) : XE → GS → Option law17_SealedReturns_R := retK 0 [10] [false] law17_SealedReturns_S7
def law17_SealedReturns_L : List Code := (bodyOf (some Tryd.f14))
def law17_SealedReturns_L5 : List Code := (loopOf (law17_SealedReturns_L[24]?))
def law17_SealedReturns_K5 (N : Nat) : XE → GS → Option (Lo ((UInt8 × (List UInt8) × (List UInt8) × (List UInt8) × (List D91) × Int × Unit) × ((List (List UInt8)) × Unit)) ((UInt8 × (List UInt8) × (List D91) × Unit) × (Unit)) law17_SealedReturns_R) := roundK (some 0) (fit 0 [1, 3, 13, 14, 25, 26, 27] law17_SealedReturns_S0) (fit 0 [1, 14, 26] law17_SealedReturns_S1) (law17_SealedReturns_K N)
theorem law17_SealedReturns_s5_b {E : Env} (N : Nat) (hb : Base Tryd.prog (law17_SealedReturns_C N) E 0) : Blk Tryd.prog (law17_SealedReturns_C N) E [1, 3, 13, 14, 25, 26, 27] law17_SealedReturns_S0 (law17_SealedReturns_L5.drop 0) (fun y => law17_SealedReturns_s5 N y.1.1 y.1.2.1 y.1.2.2.1 y.1.2.2.2.1 y.1.2.2.2.2.1 y.1.2.2.2.2.2.1 y.2.1) (law17_SealedReturns_K5 N) :=
 Blk.chunkAt hb 4 (X := (law17_SealedReturns_K5 N .normal)) (NxOk.end (by kernel_rfl)) rfl (fun x => by kernel_rfl)
theorem law17_SealedReturns_6_b {E : Env} (N : Nat) (hb : Base Tryd.prog (law17_SealedReturns_C N) E 0) : Blk Tryd.prog (law17_SealedReturns_C N) E [1, 14, 26] law17_SealedReturns_S1 (law17_SealedReturns_L.drop 25) (fun y => law17_SealedReturns_6 N y.1.1 y.1.2.1 y.1.2.2.1) (law17_SealedReturns_K N) :=
 Blk.chunkAt hb 3 (X := (law17_SealedReturns_K N .normal)) (NxOk.end (by kernel_rfl)) rfl (fun x => by kernel_rfl)
theorem law17_SealedReturns_4_b {E : Env} (N : Nat) (hb : Base Tryd.prog (law17_SealedReturns_C N) E 0) : Blk Tryd.prog (law17_SealedReturns_C N) E [1, 3, 13, 14, 25, 26, 27] law17_SealedReturns_S2 (law17_SealedReturns_L.drop 24) (fun y => law17_SealedReturns_4 N y.1.1 y.1.2.1 y.1.2.2.1 y.1.2.2.2.1 y.1.2.2.2.2.1 y.2.1 y.2.2.1) (law17_SealedReturns_K N) :=
 Blk.loopAt (Nf := N) (hns := [1, 3, 13, 14, 25, 26, 27]) (ans := [1, 14, 26]) (hc := law17_SealedReturns_S0) (ac := law17_SealedReturns_S1) (bid := 0) (step := (fun y => law17_SealedReturns_s5 N y.1.1 y.1.2.1 y.1.2.2.1 y.1.2.2.2.1 y.1.2.2.2.2.1 y.1.2.2.2.2.2.1 y.2.1)) (J := (fun e => (goK 0 [1, 14, 26] law17_SealedReturns_S1 (fun y => law17_SealedReturns_6 N y.1.1 y.1.2.1 y.1.2.2.1)) (law17_SealedReturns_S1.st [1, 14, 26] e))) hb (by kernel_rfl) (Blk.into (X := (goK 0 [1, 14, 26] law17_SealedReturns_S1 (fun y => law17_SealedReturns_6 N y.1.1 y.1.2.1 y.1.2.2.1))) (NxOk.go hb (law17_SealedReturns_6_b N hb)) (fun x => by kernel_rfl)) (law17_SealedReturns_s5_b N hb) (fun x => by kernel_rfl)
theorem law17_SealedReturns_3_b {E : Env} (N : Nat) (hb : Base Tryd.prog (law17_SealedReturns_C N) E 0) : Blk Tryd.prog (law17_SealedReturns_C N) E [1, 3, 13, 14, 25, 145] law17_SealedReturns_S3 (law17_SealedReturns_L.drop 21) (fun y => law17_SealedReturns_3 N y.1.1 y.1.2.1 y.1.2.2.1 y.1.2.2.2.1 y.1.2.2.2.2.1 y.2.1) (law17_SealedReturns_K N) :=
 Blk.chunkAt hb 3 (X := (goK 0 [1, 3, 13, 14, 25, 26, 27] law17_SealedReturns_S2 (fun y => law17_SealedReturns_4 N y.1.1 y.1.2.1 y.1.2.2.1 y.1.2.2.2.1 y.1.2.2.2.2.1 y.2.1 y.2.2.1))) (NxOk.go hb (law17_SealedReturns_4_b N hb)) rfl (fun x => by kernel_rfl)
theorem law17_SealedReturns_2_b {E : Env} (N : Nat) (hb : Base Tryd.prog (law17_SealedReturns_C N) E 0) : Blk Tryd.prog (law17_SealedReturns_C N) E [1, 2, 3, 4, 12, 13, 14, 15] law17_SealedReturns_S4 (law17_SealedReturns_L.drop 14) (fun y => law17_SealedReturns_2 N y.1.1 y.1.2.1 y.1.2.2.1 y.1.2.2.2.1 y.1.2.2.2.2.1 y.1.2.2.2.2.2.1 y.2.1 y.2.2.1) (law17_SealedReturns_K N) :=
 Blk.chunkAt hb 7 (X := (goK 0 [1, 3, 13, 14, 25, 145] law17_SealedReturns_S3 (fun y => law17_SealedReturns_3 N y.1.1 y.1.2.1 y.1.2.2.1 y.1.2.2.2.1 y.1.2.2.2.2.1 y.2.1))) (NxOk.go hb (law17_SealedReturns_3_b N hb)) rfl (fun x => by kernel_rfl)
theorem law17_SealedReturns_1_b {E : Env} (N : Nat) (hb : Base Tryd.prog (law17_SealedReturns_C N) E 0) : Blk Tryd.prog (law17_SealedReturns_C N) E [1, 2, 3, 4, 12, 13, 14, 15, 97] law17_SealedReturns_S5 (law17_SealedReturns_L.drop 11) (fun y => law17_SealedReturns_1 N y.1.1 y.1.2.1 y.1.2.2.1 y.1.2.2.2.1 y.1.2.2.2.2.1 y.1.2.2.2.2.2.1 y.1.2.2.2.2.2.2.1 y.2.1 y.2.2.1) (law17_SealedReturns_K N) :=
 Blk.chunkAt hb 3 (X := (goK 0 [1, 2, 3, 4, 12, 13, 14, 15] law17_SealedReturns_S4 (fun y => law17_SealedReturns_2 N y.1.1 y.1.2.1 y.1.2.2.1 y.1.2.2.2.1 y.1.2.2.2.2.1 y.1.2.2.2.2.2.1 y.2.1 y.2.2.1))) (NxOk.go hb (law17_SealedReturns_2_b N hb)) rfl (fun x => by kernel_rfl)
theorem law17_SealedReturns_b {E : Env} (N : Nat) (hb : Base Tryd.prog (law17_SealedReturns_C N) E 0) : Blk Tryd.prog (law17_SealedReturns_C N) E (List.range law17_SealedReturns_S6.ks.length) law17_SealedReturns_S6 (law17_SealedReturns_L.drop 0) (fun y => law17_SealedReturns N y.1.1 y.1.2.1 y.1.2.2.1 y.1.2.2.2.1 y.1.2.2.2.2.1) (law17_SealedReturns_K N) :=
 Blk.chunkAt hb 11 (X := (goK 0 [1, 2, 3, 4, 12, 13, 14, 15, 97] law17_SealedReturns_S5 (fun y => law17_SealedReturns_1 N y.1.1 y.1.2.1 y.1.2.2.1 y.1.2.2.2.1 y.1.2.2.2.2.1 y.1.2.2.2.2.2.1 y.1.2.2.2.2.2.2.1 y.2.1 y.2.2.1))) (NxOk.go hb (law17_SealedReturns_1_b N hb)) rfl (fun x => by kernel_rfl)
def law17_SealedReturns_ctr (N : Nat) : Ctr := ⟨law17_SealedReturns_S6, law17_SealedReturns_S7.un [false], 0, (fun y => law17_SealedReturns N y.1.1 y.1.2.1 y.1.2.2.1 y.1.2.2.2.1 y.1.2.2.2.2.1)⟩
theorem law17_SealedReturns_ctrs (N : Nat) : CtrsOk Tryd.prog (law17_SealedReturns_C N) := ctrs_of (Γ := law17_SealedReturns_C N) G_ifs_ok (by
 intro p hp
 simp only [law17_SealedReturns_C, List.mem_cons, List.not_mem_nil, or_false] at hp
 rcases hp with rfl | rfl | rfl | rfl | rfl | rfl | rfl | rfl | rfl | rfl
 · exact law17_awake_ok N
 · exact make_New_ok N
 · exact law17_draw_ok N
 · exact sealed_Seal_ok N
 · exact sealed_Open_ok N
 · exact sealed_Split_ok N
 · exact sealed_OpenPart_ok N
 · exact sealed_Add_ok N
 · exact sealed_Join_ok N
 · exact ref01_Equal_ok N)
theorem law17_SealedReturns_ok (N : Nat) : Ctr.ok Tryd.prog G_globs 14 (law17_SealedReturns_ctr N) :=
 ctr_fn (Γ := law17_SealedReturns_C N) (rfit := law17_SealedReturns_S7) (bs := [false]) (res := [10]) (by kernel_rfl) (tys_ok G_tys_ok) (law17_SealedReturns_ctrs N) Tryd.func14 (by kernel_rfl) (by kernel_rfl) Tryd.ntmps14 (by kernel_rfl) (by kernel_rfl) (by kernel_rfl) (by kernel_rfl) (fun E hb => law17_SealedReturns_b N hb)
/-! ipsecgate/ipsecgateref10.word -/
abbrev ref10_word_R : Type := ((UInt32 × Unit) × (Unit))
def ref10_word (N : Nat) (b_0 : (List UInt8)) (i_1 : Int) : Option ref10_word_R :=
 let x1 := w64 ((4 : Int) * i_1)
 bif inR x1 b_0.length then
 let x4 := w64 ((w64 ((4 : Int) * i_1)) + (1 : Int))
 bif inR x4 b_0.length then
 let x9 := w64 ((w64 ((4 : Int) * i_1)) + (2 : Int))
 bif inR x9 b_0.length then
 let x14 := w64 ((w64 ((4 : Int) * i_1)) + (3 : Int))
 bif inR x14 b_0.length then
 some ((((((b_0.getD x1.toNat (0 : UInt8)).toUInt32 ||| (shl32 (b_0.getD x4.toNat (0 : UInt8)).toUInt32 8)) ||| (shl32 (b_0.getD x9.toNat (0 : UInt8)).toUInt32 16)) ||| (shl32 (b_0.getD x14.toNat (0 : UInt8)).toUInt32 24)), ()), (()))
 else none
 else none
 else none
 else none
def ref10_word_C (N : Nat) : Ctx := ⟨38, G_tys, [], G_globs, G_ifs⟩
def ref10_word_S0 : Spec := ⟨[.val (.sl .u8), .val .i64], []⟩
def ref10_word_S1 : Spec := ⟨[.val .u32], []⟩
def ref10_word_K (_N : Nat) : XE → GS → Option ref10_word_R := retK 0 [4] [false] ref10_word_S1
def ref10_word_L : List Code := (bodyOf (some Tryd.f217))
theorem ref10_word_b {E : Env} (N : Nat) (hb : Base Tryd.prog (ref10_word_C N) E 0) : Blk Tryd.prog (ref10_word_C N) E (List.range ref10_word_S0.ks.length) ref10_word_S0 (ref10_word_L.drop 0) (fun y => ref10_word N y.1.1 y.1.2.1) (ref10_word_K N) :=
 Blk.chunkAt hb 3 (X := (ref10_word_K N .normal)) (NxOk.end (by kernel_rfl)) rfl (fun x => by kernel_rfl)
def ref10_word_ctr (N : Nat) : Ctr := ⟨ref10_word_S0, ref10_word_S1.un [false], 0, (fun y => ref10_word N y.1.1 y.1.2.1)⟩
theorem ref10_word_ctrs (N : Nat) : CtrsOk Tryd.prog (ref10_word_C N) := ctrs_nil G_ifs_ok rfl
theorem ref10_word_ok (N : Nat) : Ctr.ok Tryd.prog G_globs 217 (ref10_word_ctr N) :=
 ctr_fn (Γ := ref10_word_C N) (rfit := ref10_word_S1) (bs := [false]) (res := [4]) (by kernel_rfl) (tys_ok G_tys_ok) (ref10_word_ctrs N) Tryd.func217 (by kernel_rfl) (by kernel_rfl) Tryd.ntmps217 (by kernel_rfl) (by kernel_rfl) (by kernel_rfl) (by kernel_rfl) (fun E hb => ref10_word_b N hb)
/-! ipsecgate/ipsecgateref10.turn -/
abbrev ref10_turn_R : Type := ((UInt32 × Unit) × (Unit))
def ref10_turn (N : Nat) (x_0 : UInt32) (n_1 : UInt64) : Option ref10_turn_R :=
 some ((((shl32 x_0 n_1.toNat) ||| (shr32 x_0 ((32 : UInt64) - n_1).toNat)), ()), (()))
def ref10_turn_C (N : Nat) : Ctx := ⟨13, G_tys, [], G_globs, G_ifs⟩
def ref10_turn_S0 : Spec := ⟨[.val .u32, .val .u64], []⟩
def ref10_turn_S1 : Spec := ⟨[.val .u32], []⟩
def ref10_turn_K (_N : Nat) : XE → GS → Option ref10_turn_R := retK 0 [4] [false] ref10_turn_S1
def ref10_turn_L : List Code := (bodyOf (some Tryd.f229))
theorem ref10_turn_b {E : Env} (N : Nat) (hb : Base Tryd.prog (ref10_turn_C N) E 0) : Blk Tryd.prog (ref10_turn_C N) E (List.range ref10_turn_S0.ks.length) ref10_turn_S0 (ref10_turn_L.drop 0) (fun y => ref10_turn N y.1.1 y.1.2.1) (ref10_turn_K N) :=
 Blk.chunkAt hb 3 (X := (ref10_turn_K N .normal)) (NxOk.end (by kernel_rfl)) rfl (fun x => by kernel_rfl)
def ref10_turn_ctr (N : Nat) : Ctr := ⟨ref10_turn_S0, ref10_turn_S1.un [false], 0, (fun y => ref10_turn N y.1.1 y.1.2.1)⟩
theorem ref10_turn_ctrs (N : Nat) : CtrsOk Tryd.prog (ref10_turn_C N) := ctrs_nil G_ifs_ok rfl
theorem ref10_turn_ok (N : Nat) : Ctr.ok Tryd.prog G_globs 229 (ref10_turn_ctr N) :=
 ctr_fn (Γ := ref10_turn_C N) (rfit := ref10_turn_S1) (bs := [false]) (res := [4]) (by kernel_rfl) (tys_ok G_tys_ok) (ref10_turn_ctrs N) Tryd.func229 (by kernel_rfl) (by kernel_rfl) Tryd.ntmps229 (by kernel_rfl) (by kernel_rfl) (by kernel_rfl) (by kernel_rfl) (fun E hb => ref10_turn_b N hb)
/-! ipsecgate/ipsecgateref10.Quarter -/
abbrev ref10_Quarter_R : Type := ((UInt32 × UInt32 × UInt32 × UInt32 × Unit) × (Unit))
def ref10_Quarter (N : Nat) (a_0 : UInt32) (b_1 : UInt32) (c_2 : UInt32) (d_3 : UInt32) : Option ref10_Quarter_R :=
 Option.bind (ref10_turn N (d_3 ^^^ (a_0 + b_1)) (16 : UInt64)) fun y3 =>
 Option.bind (ref10_turn N (b_1 ^^^ (c_2 + y3.1.1)) (12 : UInt64)) fun y6 =>
 Option.bind (ref10_turn N (y3.1.1 ^^^ ((a_0 + b_1) + y6.1.1)) (8 : UInt64)) fun y9 =>
 Option.bind (ref10_turn N (y6.1.1 ^^^ ((c_2 + y3.1.1) + y9.1.1)) (7 : UInt64)) fun y12 =>
 some ((((a_0 + b_1) + y6.1.1), y12.1.1, ((c_2 + y3.1.1) + y9.1.1), y9.1.1, ()), (()))
def ref10_Quarter_C (N : Nat) : Ctx := ⟨44, G_tys, [(229, ref10_turn_ctr N)], G_globs, G_ifs⟩
def ref10_Quarter_S0 : Spec := ⟨[.val .u32, .val .u32, .val .u32, .val .u32], []⟩
def ref10_Quarter_K (_N : Nat) : XE → GS → Option ref10_Quarter_R := retK 0 [8, 9, 10, 11] [false, false, false, false] ref10_Quarter_S0
def ref10_Quarter_L : List Code := (bodyOf (some Tryd.f228))
theorem ref10_Quarter_b {E : Env} (N : Nat) (hb : Base Tryd.prog (ref10_Quarter_C N) E 0) : Blk Tryd.prog (ref10_Quarter_C N) E (List.range ref10_Quarter_S0.ks.length) ref10_Quarter_S0 (ref10_Quarter_L.drop 0) (fun y => ref10_Quarter N y.1.1 y.1.2.1 y.1.2.2.1 y.1.2.2.2.1) (ref10_Quarter_K N) :=
 Blk.chunkAt hb 11 (X := (ref10_Quarter_K N .normal)) (NxOk.end (by kernel_rfl)) rfl (fun x => by kernel_rfl)
def ref10_Quarter_ctr (N : Nat) : Ctr := ⟨ref10_Quarter_S0, ref10_Quarter_S0.un [false, false, false, false], 0, (fun y => ref10_Quarter N y.1.1 y.1.2.1 y.1.2.2.1 y.1.2.2.2.1)⟩
theorem ref10_Quarter_ctrs (N : Nat) : CtrsOk Tryd.prog (ref10_Quarter_C N) := ctrs_of (Γ := ref10_Quarter_C N) G_ifs_ok (by
 intro p hp
 simp only [ref10_Quarter_C, List.mem_cons, List.not_mem_nil, or_false] at hp
 rcases hp with rfl
 · exact ref10_turn_ok N)
theorem ref10_Quarter_ok (N : Nat) : Ctr.ok Tryd.prog G_globs 228 (ref10_Quarter_ctr N) :=
 ctr_fn (Γ := ref10_Quarter_C N) (rfit := ref10_Quarter_S0) (bs := [false, false, false, false]) (res := [8, 9, 10, 11]) (by kernel_rfl) (tys_ok G_tys_ok) (ref10_Quarter_ctrs N) Tryd.func228 (by kernel_rfl) (by kernel_rfl) Tryd.ntmps228 (by kernel_rfl) (by kernel_rfl) (by kernel_rfl) (by kernel_rfl) (fun E hb => ref10_Quarter_b N hb)
/-! ipsecgate/ipsecgateref10.mix -/
abbrev ref10_mix_R : Type := (((List UInt32) × Unit) × (Unit))
def ref10_mix (N : Nat) (s_0 : (List UInt32)) (i_1 : Int) (j_2 : Int) (k_3 : Int) (l_4 : Int) : Option ref10_mix_R :=
 bif inR i_1 16 then
 bif inR j_2 16 then
 bif inR k_3 16 then
 bif inR l_4 16 then
 Option.bind (ref10_Quarter N (s_0.getD i_1.toNat (0 : UInt32)) (s_0.getD j_2.toNat (0 : UInt32)) (s_0.getD k_3.toNat (0 : UInt32)) (s_0.getD l_4.toNat (0 : UInt32))) fun y5 =>
 bif inR i_1 16 then
 bif inR j_2 16 then
 bif inR k_3 16 then
 bif inR l_4 16 then
 some ((((((s_0.set i_1.toNat y5.1.1).set j_2.toNat y5.1.2.1).set k_3.toNat y5.1.2.2.1).set l_4.toNat y5.1.2.2.2.1), ()), (()))
 else none
 else none
 else none
 else none
 else none
 else none
 else none
 else none
def ref10_mix_C (N : Nat) : Ctx := ⟨46, G_tys, [(228, ref10_Quarter_ctr N)], G_globs, G_ifs⟩
def ref10_mix_S0 : Spec := ⟨[.val (.arr 16 .u32), .val .i64, .val .i64, .val .i64, .val .i64], []⟩
def ref10_mix_S1 : Spec := ⟨[.fp (.arr 16 .u32)], []⟩
def ref10_mix_K (_N : Nat) : XE → GS → Option ref10_mix_R := retK 0 [10] [true] ref10_mix_S1
def ref10_mix_L : List Code := (bodyOf (some Tryd.f218))
theorem ref10_mix_b {E : Env} (N : Nat) (hb : Base Tryd.prog (ref10_mix_C N) E 0) : Blk Tryd.prog (ref10_mix_C N) E (List.range ref10_mix_S0.ks.length) ref10_mix_S0 (ref10_mix_L.drop 0) (fun y => ref10_mix N y.1.1 y.1.2.1 y.1.2.2.1 y.1.2.2.2.1 y.1.2.2.2.2.1) (ref10_mix_K N) :=
 Blk.chunkAt hb 8 (X := (ref10_mix_K N .normal)) (NxOk.end (by kernel_rfl)) rfl (fun x => by kernel_rfl)
def ref10_mix_ctr (N : Nat) : Ctr := ⟨ref10_mix_S0, ref10_mix_S1.un [true], 0, (fun y => ref10_mix N y.1.1 y.1.2.1 y.1.2.2.1 y.1.2.2.2.1 y.1.2.2.2.2.1)⟩
theorem ref10_mix_ctrs (N : Nat) : CtrsOk Tryd.prog (ref10_mix_C N) := ctrs_of (Γ := ref10_mix_C N) G_ifs_ok (by
 intro p hp
 simp only [ref10_mix_C, List.mem_cons, List.not_mem_nil, or_false] at hp
 rcases hp with rfl
 · exact ref10_Quarter_ok N)
theorem ref10_mix_ok (N : Nat) : Ctr.ok Tryd.prog G_globs 218 (ref10_mix_ctr N) :=
 ctr_fn (Γ := ref10_mix_C N) (rfit := ref10_mix_S1) (bs := [true]) (res := [10]) (by kernel_rfl) (tys_ok G_tys_ok) (ref10_mix_ctrs N) Tryd.func218 (by kernel_rfl) (by kernel_rfl) Tryd.ntmps218 (by kernel_rfl) (by kernel_rfl) (by kernel_rfl) (by kernel_rfl) (fun E hb => ref10_mix_b N hb)
/-! ipsecgate/ipsecgateref10.Block -/
abbrev ref10_Block_R : Type := ((Bool × Unit) × ((List UInt8) × Unit))
def ref10_Block_s3 (N : Nat) (key_0 : (List UInt8)) (counter_1 : UInt32) (nonce_2 : (List UInt8)) (i_9 : Int) (first_8 : (List UInt32)) : Option (Lo (((List UInt8) × UInt32 × (List UInt8) × Int × Unit) × ((List UInt32) × Unit)) ((UInt32 × (List UInt8) × Unit) × ((List UInt32) × Unit)) ref10_Block_R) :=
 bif (decide (i_9 < (8 : Int))) then
 let x5 := w64 ((4 : Int) + i_9)
 Option.bind (ref10_word N key_0 i_9) fun y6 =>
 bif inR x5 16 then
 some (.go ((key_0, counter_1, nonce_2, (w64 (i_9 + (1 : Int))), ()), ((first_8.set x5.toNat y6.1.1), ())))
 else none
 else
 some (.br ((counter_1, nonce_2, ()), (first_8, ())))
def ref10_Block_s6 (N : Nat) (nonce_2 : (List UInt8)) (i_10 : Int) (first_8 : (List UInt32)) : Option (Lo (((List UInt8) × Int × Unit) × ((List UInt32) × Unit)) ((Unit) × ((List UInt32) × Unit)) ref10_Block_R) :=
 bif (decide (i_10 < (3 : Int))) then
 let x11 := w64 ((13 : Int) + i_10)
 Option.bind (ref10_word N nonce_2 i_10) fun y12 =>
 bif inR x11 16 then
 some (.go ((nonce_2, (w64 (i_10 + (1 : Int))), ()), ((first_8.set x11.toNat y12.1.1), ())))
 else none
 else
 some (.br ((()), (first_8, ())))
def ref10_Block_s14 (N : Nat) (round_12 : Int) (i_13 : Int) (first_8 : (List UInt32)) (s_11 : (List UInt32)) : Option (Lo ((Int × Int × Unit) × ((List UInt32) × (List UInt32) × Unit)) ((Int × Unit) × ((List UInt32) × (List UInt32) × Unit)) (Lo ((Int × Unit) × ((List UInt32) × (List UInt32) × Unit)) ((Unit) × ((List UInt32) × (List UInt32) × Unit)) ref10_Block_R)) :=
 bif (decide (i_13 < (4 : Int))) then
 Option.bind (ref10_mix N s_11 i_13 (w64 ((4 : Int) + i_13)) (w64 ((8 : Int) + i_13)) (w64 ((12 : Int) + i_13))) fun y20 =>
 some (.go ((round_12, (w64 (i_13 + (1 : Int))), ()), (first_8, y20.1.1, ())))
 else
 some (.br ((round_12, ()), (first_8, s_11, ())))
def ref10_Block_s17 (N : Nat) (round_12 : Int) (i_14 : Int) (first_8 : (List UInt32)) (s_11 : (List UInt32)) : Option (Lo ((Int × Int × Unit) × ((List UInt32) × (List UInt32) × Unit)) ((Int × Unit) × ((List UInt32) × (List UInt32) × Unit)) (Lo ((Int × Unit) × ((List UInt32) × (List UInt32) × Unit)) ((Unit) × ((List UInt32) × (List UInt32) × Unit)) ref10_Block_R)) :=
 bif (decide (i_14 < (4 : Int))) then
 Option.bind (ref10_mix N s_11 i_14 (w64 ((4 : Int) + ((w64 (i_14 + (1 : Int))).tmod (4 : Int)))) (w64 ((8 : Int) + ((w64 (i_14 + (2 : Int))).tmod (4 : Int)))) (w64 ((12 : Int) + ((w64 (i_14 + (3 : Int))).tmod (4 : Int))))) fun y32 =>
 some (.go ((round_12, (w64 (i_14 + (1 : Int))), ()), (first_8, y32.1.1, ())))
 else
 some (.br ((round_12, ()), (first_8, s_11, ())))
def ref10_Block_18 (N : Nat) (round_12 : Int) (first_8 : (List UInt32)) (s_11 : (List UInt32)) : Option (Lo ((Int × Unit) × ((List UInt32) × (List UInt32) × Unit)) ((Unit) × ((List UInt32) × (List UInt32) × Unit)) ref10_Block_R) :=
 some (.go (((w64 (round_12 + (1 : Int))), ()), (first_8, s_11, ())))
def ref10_Block_16 (N : Nat) (round_12 : Int) (i_14 : Int) (first_8 : (List UInt32)) (s_11 : (List UInt32)) : Option (Lo ((Int × Unit) × ((List UInt32) × (List UInt32) × Unit)) ((Unit) × ((List UInt32) × (List UInt32) × Unit)) ref10_Block_R) :=
 loopK N (fun y => ref10_Block_s17 N y.1.1 y.1.2.1 y.2.1 y.2.2.1) (fun (e : ((Int × Unit) × ((List UInt32) × (List UInt32) × Unit))) => ref10_Block_18 N e.1.1 e.2.1 e.2.2.1) ((round_12, i_14, ()), (first_8, s_11, ()))
def ref10_Block_15 (N : Nat) (round_12 : Int) (first_8 : (List UInt32)) (s_11 : (List UInt32)) : Option (Lo ((Int × Unit) × ((List UInt32) × (List UInt32) × Unit)) ((Unit) × ((List UInt32) × (List UInt32) × Unit)) ref10_Block_R) :=
 ref10_Block_16 N round_12 (0 : Int) first_8 s_11
def ref10_Block_13 (N : Nat) (round_12 : Int) (i_13 : Int) (first_8 : (List UInt32)) (s_11 : (List UInt32)) : Option (Lo ((Int × Unit) × ((List UInt32) × (List UInt32) × Unit)) ((Unit) × ((List UInt32) × (List UInt32) × Unit)) ref10_Block_R) :=
 loopK N (fun y => ref10_Block_s14 N y.1.1 y.1.2.1 y.2.1 y.2.2.1) (fun (e : ((Int × Unit) × ((List UInt32) × (List UInt32) × Unit))) => ref10_Block_15 N e.1.1 e.2.1 e.2.2.1) ((round_12, i_13, ()), (first_8, s_11, ()))
def ref10_Block_12 (N : Nat) (round_12 : Int) (first_8 : (List UInt32)) (s_11 : (List UInt32)) : Option (Lo ((Int × Unit) × ((List UInt32) × (List UInt32) × Unit)) ((Unit) × ((List UInt32) × (List UInt32) × Unit)) ref10_Block_R) :=
 ref10_Block_13 N round_12 (0 : Int) first_8 s_11
def ref10_Block_10 (N : Nat) (round_12 : Int) (first_8 : (List UInt32)) (s_11 : (List UInt32)) : Option (Lo ((Int × Unit) × ((List UInt32) × (List UInt32) × Unit)) ((Unit) × ((List UInt32) × (List UInt32) × Unit)) ref10_Block_R) :=
 ref10_Block_12 N round_12 first_8 s_11
def ref10_Block_s9 (N : Nat) (round_12 : Int) (first_8 : (List UInt32)) (s_11 : (List UInt32)) : Option (Lo ((Int × Unit) × ((List UInt32) × (List UInt32) × Unit)) ((Unit) × ((List UInt32) × (List UInt32) × Unit)) ref10_Block_R) :=
 bif (decide (round_12 < (10 : Int))) then
 ref10_Block_10 N round_12 first_8 s_11
 else
 some (.br ((()), (first_8, s_11, ())))
def ref10_Block_s21 (N : Nat) (i_16 : Int) (first_8 : (List UInt32)) (s_11 : (List UInt32)) (out_15 : (List UInt8)) : Option (Lo ((Int × Unit) × ((List UInt32) × (List UInt32) × (List UInt8) × Unit)) ((Unit) × ((List UInt8) × Unit)) ref10_Block_R) :=
 bif (decide (i_16 < (16 : Int))) then
 bif inR i_16 16 then
 let x36 := (s_11.getD i_16.toNat (0 : UInt32))
 bif inR i_16 16 then
 let x37 := (first_8.getD i_16.toNat (0 : UInt32))
 bif room (out_15.length + ([(x36 + x37).toUInt8, (shr32 (x36 + x37) 8).toUInt8, (shr32 (x36 + x37) 16).toUInt8, (shr32 (x36 + x37) 24).toUInt8] : List UInt8).length) 1 then
 some (.go (((w64 (i_16 + (1 : Int))), ()), (first_8, s_11, (out_15 ++ ([(x36 + x37).toUInt8, (shr32 (x36 + x37) 8).toUInt8, (shr32 (x36 + x37) 16).toUInt8, (shr32 (x36 + x37) 24).toUInt8] : List UInt8)), ())))
 else none
 else none
 else none
 else
 some (.br ((()), (out_15, ())))
def ref10_Block_22 (N : Nat) (out_15 : (List UInt8)) : Option ref10_Block_R :=
 some ((true, ()), (out_15, ()))
def ref10_Block_20 (N : Nat) (i_16 : Int) (first_8 : (List UInt32)) (s_11 : (List UInt32)) (out_15 : (List UInt8)) : Option ref10_Block_R :=
 loopK N (fun y => ref10_Block_s21 N y.1.1 y.2.1 y.2.2.1 y.2.2.2.1) (fun (e : ((Unit) × ((List UInt8) × Unit))) => ref10_Block_22 N e.2.1) ((i_16, ()), (first_8, s_11, out_15, ()))
def ref10_Block_19 (N : Nat) (first_8 : (List UInt32)) (s_11 : (List UInt32)) : Option ref10_Block_R :=
 ref10_Block_20 N (0 : Int) first_8 s_11 ([] : List UInt8)
def ref10_Block_8 (N : Nat) (round_12 : Int) (first_8 : (List UInt32)) (s_11 : (List UInt32)) : Option ref10_Block_R :=
 loopK N (fun y => ref10_Block_s9 N y.1.1 y.2.1 y.2.2.1) (fun (e : ((Unit) × ((List UInt32) × (List UInt32) × Unit))) => ref10_Block_19 N e.2.1 e.2.2.1) ((round_12, ()), (first_8, s_11, ()))
def ref10_Block_7 (N : Nat) (first_8 : (List UInt32)) : Option ref10_Block_R :=
 ref10_Block_8 N (0 : Int) first_8 first_8
def ref10_Block_5 (N : Nat) (nonce_2 : (List UInt8)) (i_10 : Int) (first_8 : (List UInt32)) : Option ref10_Block_R :=
 loopK N (fun y => ref10_Block_s6 N y.1.1 y.1.2.1 y.2.1) (fun (e : ((Unit) × ((List UInt32) × Unit))) => ref10_Block_7 N e.2.1) ((nonce_2, i_10, ()), (first_8, ()))
def ref10_Block_4 (N : Nat) (counter_1 : UInt32) (nonce_2 : (List UInt8)) (first_8 : (List UInt32)) : Option ref10_Block_R :=
 ref10_Block_5 N nonce_2 (0 : Int) (first_8.set 12 counter_1)
def ref10_Block_2 (N : Nat) (key_0 : (List UInt8)) (counter_1 : UInt32) (nonce_2 : (List UInt8)) (i_9 : Int) (first_8 : (List UInt32)) : Option ref10_Block_R :=
 loopK N (fun y => ref10_Block_s3 N y.1.1 y.1.2.1 y.1.2.2.1 y.1.2.2.2.1 y.2.1) (fun (e : ((UInt32 × (List UInt8) × Unit) × ((List UInt32) × Unit))) => ref10_Block_4 N e.1.1 e.1.2.1 e.2.1) ((key_0, counter_1, nonce_2, i_9, ()), (first_8, ()))
def ref10_Block_1 (N : Nat) (key_0 : (List UInt8)) (counter_1 : UInt32) (nonce_2 : (List UInt8)) (t_25 : Bool) : Option ref10_Block_R :=
 bif t_25 then
 some ((false, ()), (([] : List UInt8), ()))
 else
 ref10_Block_2 N key_0 counter_1 nonce_2 (0 : Int) (((((List.replicate 16 (0 : UInt32)).set 0 (1634760805 : UInt32)).set 1 (857760878 : UInt32)).set 2 (2036477234 : UInt32)).set 3 (1797285236 : UInt32))
def ref10_Block (N : Nat) (key_0 : (List UInt8)) (counter_1 : UInt32) (nonce_2 : (List UInt8)) : Option ref10_Block_R :=
 bif (!(decide ((key_0.length : Int) = (32 : Int)))) then
 ref10_Block_1 N key_0 counter_1 nonce_2 true
 else
 ref10_Block_1 N key_0 counter_1 nonce_2 (!(decide ((nonce_2.length : Int) = (12 : Int))))
def ref10_Block_C (N : Nat) : Ctx := ⟨112, G_tys, [(217, ref10_word_ctr N), (218, ref10_mix_ctr N)], G_globs, G_ifs⟩
def ref10_Block_S0 : Spec := ⟨[.val (.sl .u8), .val .u32, .val (.sl .u8), .ref 0 (.arr 16 .u32), .val .i64], [(.box 184 (.arr 16 .u32), .pos 3)]⟩
def ref10_Block_S1 : Spec := ⟨[.val (.sl .u8), .ref 0 (.arr 16 .u32), .val .i64], [(.box 184 (.arr 16 .u32), .pos 1)]⟩
def ref10_Block_S2 : Spec := ⟨[.ref 0 (.arr 16 .u32), .ref 1 (.arr 16 .u32), .val .i64, .val .i64], [(.box 184 (.arr 16 .u32), .pos 0), (.box 184 (.arr 16 .u32), .pos 1)]⟩
def ref10_Block_S3 : Spec := ⟨[.ref 0 (.arr 16 .u32), .ref 1 (.arr 16 .u32), .val .i64], [(.box 184 (.arr 16 .u32), .pos 0), (.box 184 (.arr 16 .u32), .pos 1)]⟩
def ref10_Block_S4 : Spec := ⟨[.ref 0 (.arr 16 .u32), .ref 1 (.arr 16 .u32), .row 2, .val .i64], [(.box 184 (.arr 16 .u32), .pos 0), (.box 184 (.arr 16 .u32), .pos 1), (.row 5 .u8, .pos 2)]⟩
def ref10_Block_S5 : Spec := ⟨[.row 0], [(.row 5 .u8, .pos 0)]⟩
def ref10_Block_S6 : Spec := ⟨[.ref 0 (.arr 16 .u32), .ref 1 (.arr 16 .u32)], [(.box 184 (.arr 16 .u32), .pos 0), (.box 184 (.arr 16 .u32), .pos 1)]⟩
def ref10_Block_S7 : Spec := ⟨[.ref 0 (.arr 16 .u32)], [(.box 184 (.arr 16 .u32), .pos 0)]⟩
def ref10_Block_S8 : Spec := ⟨[.val .u32, .val (.sl .u8), .ref 0 (.arr 16 .u32)], [(.box 184 (.arr 16 .u32), .pos 2)]⟩
def ref10_Block_S9 : Spec := ⟨[.val (.sl .u8), .val .u32, .val (.sl .u8), .val .bool], []⟩
def ref10_Block_S10 : Spec := ⟨[.val (.sl .u8), .val .u32, .val (.sl .u8)], []⟩
def ref10_Block_S11 : Spec := ⟨[.row 0, .val .bool], [(.row 5 .u8, .pos 0)]⟩
def ref10_Block_K (_N : Nat) : XE → GS → Option ref10_Block_R := retK 0 [6, 7] [false, false] ref10_Block_S11
def ref10_Block_L : List Code := (bodyOf (some Tryd.f194))
def ref10_Block_L3 : List Code := (loopOf (ref10_Block_L[5]?))
def ref10_Block_L6 : List Code := (loopOf (ref10_Block_L[8]?))
def ref10_Block_L9 : List Code := (loopOf (ref10_Block_L[11]?))
def ref10_Block_L11b : List Code := (blockOf (ref10_Block_L9[2]?))
def ref10_Block_L14 : List Code := (loopOf (ref10_Block_L11b[1]?))
def ref10_Block_L17 : List Code := (loopOf (ref10_Block_L11b[3]?))
def ref10_Block_L21 : List Code := (loopOf (ref10_Block_L[14]?))
def ref10_Block_K3 (N : Nat) : XE → GS → Option (Lo (((List UInt8) × UInt32 × (List UInt8) × Int × Unit) × ((List UInt32) × Unit)) ((UInt32 × (List UInt8) × Unit) × ((List UInt32) × Unit)) ref10_Block_R) := roundK (some 0) (fit 0 [0, 1, 2, 8, 9] ref10_Block_S0) (fit 0 [1, 2, 8] ref10_Block_S8) (ref10_Block_K N)
def ref10_Block_K6 (N : Nat) : XE → GS → Option (Lo (((List UInt8) × Int × Unit) × ((List UInt32) × Unit)) ((Unit) × ((List UInt32) × Unit)) ref10_Block_R) := roundK (some 2) (fit 0 [2, 8, 10] ref10_Block_S1) (fit 0 [8] ref10_Block_S7) (ref10_Block_K N)
def ref10_Block_K9 (N : Nat) : XE → GS → Option (Lo ((Int × Unit) × ((List UInt32) × (List UInt32) × Unit)) ((Unit) × ((List UInt32) × (List UInt32) × Unit)) ref10_Block_R) := roundK (some 4) (fit 0 [8, 11, 12] ref10_Block_S3) (fit 0 [8, 11] ref10_Block_S6) (ref10_Block_K N)
def ref10_Block_K21 (N : Nat) : XE → GS → Option (Lo ((Int × Unit) × ((List UInt32) × (List UInt32) × (List UInt8) × Unit)) ((Unit) × ((List UInt8) × Unit)) ref10_Block_R) := roundK (some 10) (fit 0 [8, 11, 15, 16] ref10_Block_S4) (fit 0 [15] ref10_Block_S5) (ref10_Block_K N)
def ref10_Block_K11 (N : Nat) : XE → GS → Option (Lo ((Int × Unit) × ((List UInt32) × (List UInt32) × Unit)) ((Unit) × ((List UInt32) × (List UInt32) × Unit)) ref10_Block_R) := blockK 5 (goK 0 [8, 11, 12] ref10_Block_S3 (fun y => ref10_Block_18 N y.1.1 y.2.1 y.2.2.1)) (ref10_Block_K9 N)
def ref10_Block_K14 (N : Nat) : XE → GS → Option (Lo ((Int × Int × Unit) × ((List UInt32) × (List UInt32) × Unit)) ((Int × Unit) × ((List UInt32) × (List UInt32) × Unit)) (Lo ((Int × Unit) × ((List UInt32) × (List UInt32) × Unit)) ((Unit) × ((List UInt32) × (List UInt32) × Unit)) ref10_Block_R)) := roundK (some 6) (fit 0 [8, 11, 12, 13] ref10_Block_S2) (fit 0 [8, 11, 12] ref10_Block_S3) (ref10_Block_K11 N)
def ref10_Block_K17 (N : Nat) : XE → GS → Option (Lo ((Int × Int × Unit) × ((List UInt32) × (List UInt32) × Unit)) ((Int × Unit) × ((List UInt32) × (List UInt32) × Unit)) (Lo ((Int × Unit) × ((List UInt32) × (List UInt32) × Unit)) ((Unit) × ((List UInt32) × (List UInt32) × Unit)) ref10_Block_R)) := roundK (some 8) (fit 0 [8, 11, 12, 14] ref10_Block_S2) (fit 0 [8, 11, 12] ref10_Block_S3) (ref10_Block_K11 N)
theorem ref10_Block_s3_b {E : Env} (N : Nat) (hb : Base Tryd.prog (ref10_Block_C N) E 0) : Blk Tryd.prog (ref10_Block_C N) E [0, 1, 2, 8, 9] ref10_Block_S0 (ref10_Block_L3.drop 0) (fun y => ref10_Block_s3 N y.1.1 y.1.2.1 y.1.2.2.1 y.1.2.2.2.1 y.2.1) (ref10_Block_K3 N) :=
 Blk.chunkAt hb 4 (X := (ref10_Block_K3 N .normal)) (NxOk.end (by kernel_rfl)) rfl (fun x => by kernel_rfl)
theorem ref10_Block_s6_b {E : Env} (N : Nat) (hb : Base Tryd.prog (ref10_Block_C N) E 0) : Blk Tryd.prog (ref10_Block_C N) E [2, 8, 10] ref10_Block_S1 (ref10_Block_L6.drop 0) (fun y => ref10_Block_s6 N y.1.1 y.1.2.1 y.2.1) (ref10_Block_K6 N) :=
 Blk.chunkAt hb 4 (X := (ref10_Block_K6 N .normal)) (NxOk.end (by kernel_rfl)) rfl (fun x => by kernel_rfl)
theorem ref10_Block_s14_b {E : Env} (N : Nat) (hb : Base Tryd.prog (ref10_Block_C N) E 0) : Blk Tryd.prog (ref10_Block_C N) E [8, 11, 12, 13] ref10_Block_S2 (ref10_Block_L14.drop 0) (fun y => ref10_Block_s14 N y.1.1 y.1.2.1 y.2.1 y.2.2.1) (ref10_Block_K14 N) :=
 Blk.chunkAt hb 4 (X := (ref10_Block_K14 N .normal)) (NxOk.end (by kernel_rfl)) rfl (fun x => by kernel_rfl)
theorem ref10_Block_s17_b {E : Env} (N : Nat) (hb : Base Tryd.prog (ref10_Block_C N) E 0) : Blk Tryd.prog (ref10_Block_C N) E [8, 11, 12, 14] ref10_Block_S2 (ref10_Block_L17.drop 0) (fun y => ref10_Block_s17 N y.1.1 y.1.2.1 y.2.1 y.2.2.1) (ref10_Block_K17 N) :=
 Blk.chunkAt hb 4 (X := (ref10_Block_K17 N .normal)) (NxOk.end (by kernel_rfl)) rfl (fun x => by kernel_rfl)
theorem ref10_Block_18_b {E : Env} (N : Nat) (hb : Base Tryd.prog (ref10_Block_C N) E 0) : Blk Tryd.prog (ref10_Block_C N) E [8, 11, 12] ref10_Block_S3 (ref10_Block_L9.drop 3) (fun y => ref10_Block_18 N y.1.1 y.2.1 y.2.2.1) (ref10_Block_K9 N) :=
 Blk.chunkAt hb 1 (X := (ref10_Block_K9 N .normal)) (NxOk.end (by kernel_rfl)) rfl (fun x => by kernel_rfl)
theorem ref10_Block_16_b {E : Env} (N : Nat) (hb : Base Tryd.prog (ref10_Block_C N) E 0) : Blk Tryd.prog (ref10_Block_C N) E [8, 11, 12, 14] ref10_Block_S2 (ref10_Block_L11b.drop 3) (fun y => ref10_Block_16 N y.1.1 y.1.2.1 y.2.1 y.2.2.1) (ref10_Block_K11 N) :=
 Blk.loopAt (Nf := N) (hns := [8, 11, 12, 14]) (ans := [8, 11, 12]) (hc := ref10_Block_S2) (ac := ref10_Block_S3) (bid := 8) (step := (fun y => ref10_Block_s17 N y.1.1 y.1.2.1 y.2.1 y.2.2.1)) (J := (fun e => (ref10_Block_K11 N .normal) (ref10_Block_S3.st [8, 11, 12] e))) hb (by kernel_rfl) (Blk.into (X := (ref10_Block_K11 N .normal)) (NxOk.end (by kernel_rfl)) (fun x => by kernel_rfl)) (ref10_Block_s17_b N hb) (fun x => by kernel_rfl)
theorem ref10_Block_15_b {E : Env} (N : Nat) (hb : Base Tryd.prog (ref10_Block_C N) E 0) : Blk Tryd.prog (ref10_Block_C N) E [8, 11, 12] ref10_Block_S3 (ref10_Block_L11b.drop 2) (fun y => ref10_Block_15 N y.1.1 y.2.1 y.2.2.1) (ref10_Block_K11 N) :=
 Blk.chunkAt hb 1 (X := (goK 0 [8, 11, 12, 14] ref10_Block_S2 (fun y => ref10_Block_16 N y.1.1 y.1.2.1 y.2.1 y.2.2.1))) (NxOk.go hb (ref10_Block_16_b N hb)) rfl (fun x => by kernel_rfl)
theorem ref10_Block_13_b {E : Env} (N : Nat) (hb : Base Tryd.prog (ref10_Block_C N) E 0) : Blk Tryd.prog (ref10_Block_C N) E [8, 11, 12, 13] ref10_Block_S2 (ref10_Block_L11b.drop 1) (fun y => ref10_Block_13 N y.1.1 y.1.2.1 y.2.1 y.2.2.1) (ref10_Block_K11 N) :=
 Blk.loopAt (Nf := N) (hns := [8, 11, 12, 13]) (ans := [8, 11, 12]) (hc := ref10_Block_S2) (ac := ref10_Block_S3) (bid := 6) (step := (fun y => ref10_Block_s14 N y.1.1 y.1.2.1 y.2.1 y.2.2.1)) (J := (fun e => (goK 0 [8, 11, 12] ref10_Block_S3 (fun y => ref10_Block_15 N y.1.1 y.2.1 y.2.2.1)) (ref10_Block_S3.st [8, 11, 12] e))) hb (by kernel_rfl) (Blk.into (X := (goK 0 [8, 11, 12] ref10_Block_S3 (fun y => ref10_Block_15 N y.1.1 y.2.1 y.2.2.1))) (NxOk.go hb (ref10_Block_15_b N hb)) (fun x => by kernel_rfl)) (ref10_Block_s14_b N hb) (fun x => by kernel_rfl)
theorem ref10_Block_12_b {E : Env} (N : Nat) (hb : Base Tryd.prog (ref10_Block_C N) E 0) : Blk Tryd.prog (ref10_Block_C N) E [8, 11, 12] ref10_Block_S3 (ref10_Block_L11b.drop 0) (fun y => ref10_Block_12 N y.1.1 y.2.1 y.2.2.1) (ref10_Block_K11 N) :=
 Blk.chunkAt hb 1 (X := (goK 0 [8, 11, 12, 13] ref10_Block_S2 (fun y => ref10_Block_13 N y.1.1 y.1.2.1 y.2.1 y.2.2.1))) (NxOk.go hb (ref10_Block_13_b N hb)) rfl (fun x => by kernel_rfl)
theorem ref10_Block_10_b {E : Env} (N : Nat) (hb : Base Tryd.prog (ref10_Block_C N) E 0) : Blk Tryd.prog (ref10_Block_C N) E [8, 11, 12] ref10_Block_S3 (ref10_Block_L9.drop 2) (fun y => ref10_Block_10 N y.1.1 y.2.1 y.2.2.1) (ref10_Block_K9 N) :=
 Blk.blockAt (bid := 5) (X := (goK 0 [8, 11, 12] ref10_Block_S3 (fun y => ref10_Block_18 N y.1.1 y.2.1 y.2.2.1))) (Y := (goK 0 [8, 11, 12] ref10_Block_S3 (fun y => ref10_Block_12 N y.1.1 y.2.1 y.2.2.1))) (by kernel_rfl) (NxOk.go hb (ref10_Block_18_b N hb)) (NxOk.go hb (ref10_Block_12_b N hb)) (fun x => by kernel_rfl)
theorem ref10_Block_s9_b {E : Env} (N : Nat) (hb : Base Tryd.prog (ref10_Block_C N) E 0) : Blk Tryd.prog (ref10_Block_C N) E [8, 11, 12] ref10_Block_S3 (ref10_Block_L9.drop 0) (fun y => ref10_Block_s9 N y.1.1 y.2.1 y.2.2.1) (ref10_Block_K9 N) :=
 Blk.chunkAt hb 2 (X := (goK 0 [8, 11, 12] ref10_Block_S3 (fun y => ref10_Block_10 N y.1.1 y.2.1 y.2.2.1))) (NxOk.go hb (ref10_Block_10_b N hb)) rfl (fun x => by kernel_rfl)
theorem ref10_Block_s21_b {E : Env} (N : Nat) (hb : Base Tryd.prog (ref10_Block_C N) E 0) : Blk Tryd.prog (ref10_Block_C N) E [8, 11, 15, 16] ref10_Block_S4 (ref10_Block_L21.drop 0) (fun y => ref10_Block_s21 N y.1.1 y.2.1 y.2.2.1 y.2.2.2.1) (ref10_Block_K21 N) :=
 Blk.chunkAt hb 4 (X := (ref10_Block_K21 N .normal)) (NxOk.end (by kernel_rfl)) rfl (fun x => by kernel_rfl)
theorem ref10_Block_22_b {E : Env} (N : Nat) (hb : Base Tryd.prog (ref10_Block_C N) E 0) : Blk Tryd.prog (ref10_Block_C N) E [15] ref10_Block_S5 (ref10_Block_L.drop 15) (fun y => ref10_Block_22 N y.2.1) (ref10_Block_K N) :=
 Blk.chunkAt hb 2 (X := (ref10_Block_K N .normal)) (NxOk.end (by kernel_rfl)) rfl (fun x => by kernel_rfl)
theorem ref10_Block_20_b {E : Env} (N : Nat) (hb : Base Tryd.prog (ref10_Block_C N) E 0) : Blk Tryd.prog (ref10_Block_C N) E [8, 11, 15, 16] ref10_Block_S4 (ref10_Block_L.drop 14) (fun y => ref10_Block_20 N y.1.1 y.2.1 y.2.2.1 y.2.2.2.1) (ref10_Block_K N) :=
 Blk.loopAt (Nf := N) (hns := [8, 11, 15, 16]) (ans := [15]) (hc := ref10_Block_S4) (ac := ref10_Block_S5) (bid := 10) (step := (fun y => ref10_Block_s21 N y.1.1 y.2.1 y.2.2.1 y.2.2.2.1)) (J := (fun e => (goK 0 [15] ref10_Block_S5 (fun y => ref10_Block_22 N y.2.1)) (ref10_Block_S5.st [15] e))) hb (by kernel_rfl) (Blk.into (X := (goK 0 [15] ref10_Block_S5 (fun y => ref10_Block_22 N y.2.1))) (NxOk.go hb (ref10_Block_22_b N hb)) (fun x => by kernel_rfl)) (ref10_Block_s21_b N hb) (fun x => by kernel_rfl)
theorem ref10_Block_19_b {E : Env} (N : Nat) (hb : Base Tryd.prog (ref10_Block_C N) E 0) : Blk Tryd.prog (ref10_Block_C N) E [8, 11] ref10_Block_S6 (ref10_Block_L.drop 12) (fun y => ref10_Block_19 N y.2.1 y.2.2.1) (ref10_Block_K N) :=
 Blk.chunkAt hb 2 (X := (goK 0 [8, 11, 15, 16] ref10_Block_S4 (fun y => ref10_Block_20 N y.1.1 y.2.1 y.2.2.1 y.2.2.2.1))) (NxOk.go hb (ref10_Block_20_b N hb)) rfl (fun x => by kernel_rfl)
theorem ref10_Block_8_b {E : Env} (N : Nat) (hb : Base Tryd.prog (ref10_Block_C N) E 0) : Blk Tryd.prog (ref10_Block_C N) E [8, 11, 12] ref10_Block_S3 (ref10_Block_L.drop 11) (fun y => ref10_Block_8 N y.1.1 y.2.1 y.2.2.1) (ref10_Block_K N) :=
 Blk.loopAt (Nf := N) (hns := [8, 11, 12]) (ans := [8, 11]) (hc := ref10_Block_S3) (ac := ref10_Block_S6) (bid := 4) (step := (fun y => ref10_Block_s9 N y.1.1 y.2.1 y.2.2.1)) (J := (fun e => (goK 0 [8, 11] ref10_Block_S6 (fun y => ref10_Block_19 N y.2.1 y.2.2.1)) (ref10_Block_S6.st [8, 11] e))) hb (by kernel_rfl) (Blk.into (X := (goK 0 [8, 11] ref10_Block_S6 (fun y => ref10_Block_19 N y.2.1 y.2.2.1))) (NxOk.go hb (ref10_Block_19_b N hb)) (fun x => by kernel_rfl)) (ref10_Block_s9_b N hb) (fun x => by kernel_rfl)
theorem ref10_Block_7_b {E : Env} (N : Nat) (hb : Base Tryd.prog (ref10_Block_C N) E 0) : Blk Tryd.prog (ref10_Block_C N) E [8] ref10_Block_S7 (ref10_Block_L.drop 9) (fun y => ref10_Block_7 N y.2.1) (ref10_Block_K N) :=
 Blk.chunkAt hb 2 (X := (goK 0 [8, 11, 12] ref10_Block_S3 (fun y => ref10_Block_8 N y.1.1 y.2.1 y.2.2.1))) (NxOk.go hb (ref10_Block_8_b N hb)) rfl (fun x => by kernel_rfl)
theorem ref10_Block_5_b {E : Env} (N : Nat) (hb : Base Tryd.prog (ref10_Block_C N) E 0) : Blk Tryd.prog (ref10_Block_C N) E [2, 8, 10] ref10_Block_S1 (ref10_Block_L.drop 8) (fun y => ref10_Block_5 N y.1.1 y.1.2.1 y.2.1) (ref10_Block_K N) :=
 Blk.loopAt (Nf := N) (hns := [2, 8, 10]) (ans := [8]) (hc := ref10_Block_S1) (ac := ref10_Block_S7) (bid := 2) (step := (fun y => ref10_Block_s6 N y.1.1 y.1.2.1 y.2.1)) (J := (fun e => (goK 0 [8] ref10_Block_S7 (fun y => ref10_Block_7 N y.2.1)) (ref10_Block_S7.st [8] e))) hb (by kernel_rfl) (Blk.into (X := (goK 0 [8] ref10_Block_S7 (fun y => ref10_Block_7 N y.2.1))) (NxOk.go hb (ref10_Block_7_b N hb)) (fun x => by kernel_rfl)) (ref10_Block_s6_b N hb) (fun x => by kernel_rfl)
theorem ref10_Block_4_b {E : Env} (N : Nat) (hb : Base Tryd.prog (ref10_Block_C N) E 0) : Blk Tryd.prog (ref10_Block_C N) E [1, 2, 8] ref10_Block_S8 (ref10_Block_L.drop 6) (fun y => ref10_Block_4 N y.1.1 y.1.2.1 y.2.1) (ref10_Block_K N) :=
 Blk.chunkAt hb 2 (X := (goK 0 [2, 8, 10] ref10_Block_S1 (fun y => ref10_Block_5 N y.1.1 y.1.2.1 y.2.1))) (NxOk.go hb (ref10_Block_5_b N hb)) rfl (fun x => by kernel_rfl)
theorem ref10_Block_2_b {E : Env} (N : Nat) (hb : Base Tryd.prog (ref10_Block_C N) E 0) : Blk Tryd.prog (ref10_Block_C N) E [0, 1, 2, 8, 9] ref10_Block_S0 (ref10_Block_L.drop 5) (fun y => ref10_Block_2 N y.1.1 y.1.2.1 y.1.2.2.1 y.1.2.2.2.1 y.2.1) (ref10_Block_K N) :=
 Blk.loopAt (Nf := N) (hns := [0, 1, 2, 8, 9]) (ans := [1, 2, 8]) (hc := ref10_Block_S0) (ac := ref10_Block_S8) (bid := 0) (step := (fun y => ref10_Block_s3 N y.1.1 y.1.2.1 y.1.2.2.1 y.1.2.2.2.1 y.2.1)) (J := (fun e => (goK 0 [1, 2, 8] ref10_Block_S8 (fun y => ref10_Block_4 N y.1.1 y.1.2.1 y.2.1)) (ref10_Block_S8.st [1, 2, 8] e))) hb (by kernel_rfl) (Blk.into (X := (goK 0 [1, 2, 8] ref10_Block_S8 (fun y => ref10_Block_4 N y.1.1 y.1.2.1 y.2.1))) (NxOk.go hb (ref10_Block_4_b N hb)) (fun x => by kernel_rfl)) (ref10_Block_s3_b N hb) (fun x => by kernel_rfl)
theorem ref10_Block_1_b {E : Env} (N : Nat) (hb : Base Tryd.prog (ref10_Block_C N) E 0) : Blk Tryd.prog (ref10_Block_C N) E [0, 1, 2, 25] ref10_Block_S9 (ref10_Block_L.drop 2) (fun y => ref10_Block_1 N y.1.1 y.1.2.1 y.1.2.2.1 y.1.2.2.2.1) (ref10_Block_K N) :=
 Blk.chunkAt hb 3 (X := (goK 0 [0, 1, 2, 8, 9] ref10_Block_S0 (fun y => ref10_Block_2 N y.1.1 y.1.2.1 y.1.2.2.1 y.1.2.2.2.1 y.2.1))) (NxOk.go hb (ref10_Block_2_b N hb)) rfl (fun x => by kernel_rfl)
theorem ref10_Block_b {E : Env} (N : Nat) (hb : Base Tryd.prog (ref10_Block_C N) E 0) : Blk Tryd.prog (ref10_Block_C N) E (List.range ref10_Block_S10.ks.length) ref10_Block_S10 (ref10_Block_L.drop 0) (fun y => ref10_Block N y.1.1 y.1.2.1 y.1.2.2.1) (ref10_Block_K N) :=
 Blk.chunkAt hb 2 (X := (goK 0 [0, 1, 2, 25] ref10_Block_S9 (fun y => ref10_Block_1 N y.1.1 y.1.2.1 y.1.2.2.1 y.1.2.2.2.1))) (NxOk.go hb (ref10_Block_1_b N hb)) rfl (fun x => by kernel_rfl)
def ref10_Block_ctr (N : Nat) : Ctr := ⟨ref10_Block_S10, ref10_Block_S11.un [false, false], 0, (fun y => ref10_Block N y.1.1 y.1.2.1 y.1.2.2.1)⟩
theorem ref10_Block_ctrs (N : Nat) : CtrsOk Tryd.prog (ref10_Block_C N) := ctrs_of (Γ := ref10_Block_C N) G_ifs_ok (by
 intro p hp
 simp only [ref10_Block_C, List.mem_cons, List.not_mem_nil, or_false] at hp
 rcases hp with rfl | rfl
 · exact ref10_word_ok N
 · exact ref10_mix_ok N)
theorem ref10_Block_ok (N : Nat) : Ctr.ok Tryd.prog G_globs 194 (ref10_Block_ctr N) :=
 ctr_fn (Γ := ref10_Block_C N) (rfit := ref10_Block_S11) (bs := [false, false]) (res := [6, 7]) (by kernel_rfl) (tys_ok G_tys_ok) (ref10_Block_ctrs N) Tryd.func194 (by kernel_rfl) (by kernel_rfl) Tryd.ntmps194 (by kernel_rfl) (by kernel_rfl) (by kernel_rfl) (by kernel_rfl) (fun E hb => ref10_Block_b N hb)
end
end Go.Proofs.YtofajgidjkjnpaaDoor