/- Functions of the program as plain functions, each with the proof that the text computes it. -/
import Derived.Test.YtajpblfinenmjaaDoorFnsConcreteAgreesA
import Derived.Test.YtajpblfinenmjaaDoorRngConcreteAgreesB
import Derived.Test.YtajpblfinenmjaaDoorRngConcreteAgreesA
set_option linter.unusedVariables false
set_option linter.unusedSimpArgs false
namespace Go.Proofs.YtajpblfinenmjaaDoor
open Go
set_option maxRecDepth 100000
set_option linter.unusedVariables false
noncomputable section
/-! ipsecgate/ipsecgatelaw44.awake -/
abbrev law44_awake_R : Type := ((Bool × Unit) × (Unit))
def law44_awake (N : Nat) : Option law44_awake_R :=
 Option.bind (ref26_Number N (5 : Int)) fun y1 =>
 Option.bind (concrete_Write N y1.1.1) fun y2 =>
 bif (decide (y2.1.1 = (0 : Int))) then
 bif (decide ((y2.2.1.length : Int) = (9 : Int))) then
 bif inR (0 : Int) y2.2.1.length then
 bif (decide ((y2.2.1.getD 0 (0 : UInt8)) = (1 : UInt8))) then
 bif inR (8 : Int) y2.2.1.length then
 some (((decide ((y2.2.1.getD 8 (0 : UInt8)) = (5 : UInt8))), ()), (()))
 else none
 else
 some ((false, ()), (()))
 else none
 else
 some ((false, ()), (()))
 else
 some ((false, ()), (()))
def law44_awake_C (N : Nat) : Ctx := ⟨27, G_tys, [(20, ref26_Number_ctr N), (16, concrete_Write_ctr N)], G_globs, G_ifs⟩
def law44_awake_S0 : Spec := ⟨[], []⟩
def law44_awake_S1 : Spec := ⟨[.val .bool], []⟩
def law44_awake_K (_N : Nat) : XE → GS → Option law44_awake_R := retK 0 [0] [false] law44_awake_S1
def law44_awake_L : List Code := (bodyOf (some Tryd.f5))
theorem law44_awake_b {E : Env} (N : Nat) (hb : Base Tryd.prog (law44_awake_C N) E 0) : Blk Tryd.prog (law44_awake_C N) E (List.range law44_awake_S0.ks.length) law44_awake_S0 (law44_awake_L.drop 0) (fun y => law44_awake N) (law44_awake_K N) :=
 Blk.chunkAt hb 4 (X := (law44_awake_K N .normal)) (NxOk.end (by kernel_rfl)) rfl (fun x => by kernel_rfl)
def law44_awake_ctr (N : Nat) : Ctr := ⟨law44_awake_S0, law44_awake_S1.un [false], 0, (fun y => law44_awake N)⟩
theorem law44_awake_ctrs (N : Nat) : CtrsOk Tryd.prog (law44_awake_C N) := ctrs_of (Γ := law44_awake_C N) G_ifs_ok (by
 intro p hp
 simp only [law44_awake_C, List.mem_cons, List.not_mem_nil, or_false] at hp
 rcases hp with rfl | rfl
 · exact ref26_Number_ok N
 · exact concrete_Write_ok N)
theorem law44_awake_ok (N : Nat) : Ctr.ok Tryd.prog G_globs 5 (law44_awake_ctr N) :=
 ctr_fn (Γ := law44_awake_C N) (rfit := law44_awake_S1) (bs := [false]) (res := [0]) (by kernel_rfl) (tys_ok G_tys_ok) (law44_awake_ctrs N) Tryd.func5 (by kernel_rfl) (by kernel_rfl) Tryd.ntmps5 (by kernel_rfl) (by kernel_rfl) (by kernel_rfl) (by kernel_rfl) (fun E hb => law44_awake_b N hb)
/-! ipsecgate/ipsecgatedraw.New -/
abbrev draw_New_R : Type := ((Unit) × (((List UInt8) × (Int × Unit)) × Unit))
def draw_New (N : Nat) (list_0 : (List UInt8)) (most_1 : Int) : Option draw_New_R :=
 let x1 := (list_0.length : Int)
 let x2 := bif decide (most_1 < x1) then most_1 else x1
 bif decide (0 ≤ (0 : Int)) && decide ((0 : Int) ≤ x2) && decide (x2 ≤ (list_0.length : Int)) && true then
 let x3 := cut list_0 0 x2.toNat
 bif room (0 + x3.length) 1 then
 some ((()), ((x3, (0 : Int), ()), ()))
 else none
 else none
def draw_New_C (N : Nat) : Ctx := ⟨14, G_tys, [], G_globs, G_ifs⟩
def draw_New_S0 : Spec := ⟨[.val (.sl .u8), .val .i64], []⟩
def draw_New_S1 : Spec := ⟨[.ref 0 (.pair (.sl .u8) (.pair .i64 .unit))], [(.box 46 (.pair (.sl .u8) (.pair .i64 .unit)), .pos 0)]⟩
def draw_New_K (_N : Nat) : XE → GS → Option draw_New_R := retK 0 [4] [false] draw_New_S1
def draw_New_L : List Code := (bodyOf (some Tryd.f6))
theorem draw_New_b {E : Env} (N : Nat) (hb : Base Tryd.prog (draw_New_C N) E 0) : Blk Tryd.prog (draw_New_C N) E (List.range draw_New_S0.ks.length) draw_New_S0 (draw_New_L.drop 0) (fun y => draw_New N y.1.1 y.1.2.1) (draw_New_K N) :=
 Blk.chunkAt hb 3 (X := (draw_New_K N .normal)) (NxOk.end (by kernel_rfl)) rfl (fun x => by kernel_rfl)
def draw_New_ctr (N : Nat) : Ctr := ⟨draw_New_S0, draw_New_S1.un [false], 0, (fun y => draw_New N y.1.1 y.1.2.1)⟩
theorem draw_New_ctrs (N : Nat) : CtrsOk Tryd.prog (draw_New_C N) := ctrs_nil G_ifs_ok rfl
theorem draw_New_ok (N : Nat) : Ctr.ok Tryd.prog G_globs 6 (draw_New_ctr N) :=
 ctr_fn (Γ := draw_New_C N) (rfit := draw_New_S1) (bs := [false]) (res := [4]) (by kernel_rfl) (tys_ok G_tys_ok) (draw_New_ctrs N) Tryd.func6 (by kernel_rfl) (by kernel_rfl) Tryd.ntmps6 (by kernel_rfl) (by kernel_rfl) (by kernel_rfl) (by kernel_rfl) (fun E hb => draw_New_b N hb)
/-! (*ipsecgate/ipsecgatedraw.Codes).Next -/
abbrev draw_Codes_Next_R : Type := ((Int × Unit) × (((List UInt8) × (Int × Unit)) × Unit))
def draw_Codes_Next (N : Nat) (n_1 : Int) (c_0 : ((List UInt8) × (Int × Unit))) : Option draw_Codes_Next_R :=
 bif (decide ((c_0.1.length : Int) ≤ c_0.2.1)) then
 some (((0 : Int), ()), (c_0, ()))
 else
 let x3 := w64 (c_0.2.1 + (1 : Int))
 let x4 := w64 (x3 - (1 : Int))
 bif inR x4 c_0.1.length then
 some (((w64 ((w64 (((c_0.1.getD x4.toNat (0 : UInt8)).toNat : Int) * n_1)).tdiv (256 : Int))), ()), ((c_0.1, x3, ()), ()))
 else none
def draw_Codes_Next_C (N : Nat) : Ctx := ⟨37, G_tys, [], G_globs, G_ifs⟩
def draw_Codes_Next_S0 : Spec := ⟨[.ref 0 (.pair (.sl .u8) (.pair .i64 .unit)), .val .i64], [(.box 46 (.pair (.sl .u8) (.pair .i64 .unit)), .pos 0)]⟩
def draw_Codes_Next_S1 : Spec := ⟨[.val .i64], [(.box 46 (.pair (.sl .u8) (.pair .i64 .unit)), .fix 0)]⟩
def draw_Codes_Next_K (_N : Nat) : XE → GS → Option draw_Codes_Next_R := retK 1 [4] [false] draw_Codes_Next_S1
def draw_Codes_Next_L : List Code := (bodyOf (some Tryd.f22))
theorem draw_Codes_Next_b {E : Env} (N : Nat) (hb : Base Tryd.prog (draw_Codes_Next_C N) E 1) : Blk Tryd.prog (draw_Codes_Next_C N) E (List.range draw_Codes_Next_S0.ks.length) draw_Codes_Next_S0 (draw_Codes_Next_L.drop 0) (fun y => draw_Codes_Next N y.1.1 y.2.1) (draw_Codes_Next_K N) :=
 Blk.chunkAt hb 6 (X := (draw_Codes_Next_K N .normal)) (NxOk.end (by kernel_rfl)) rfl (fun x => by kernel_rfl)
def draw_Codes_Next_ctr (N : Nat) : Ctr := ⟨draw_Codes_Next_S0, draw_Codes_Next_S1.un [false], 1, (fun y => draw_Codes_Next N y.1.1 y.2.1)⟩
theorem draw_Codes_Next_ctrs (N : Nat) : CtrsOk Tryd.prog (draw_Codes_Next_C N) := ctrs_nil G_ifs_ok rfl
theorem draw_Codes_Next_ok (N : Nat) : Ctr.ok Tryd.prog G_globs 22 (draw_Codes_Next_ctr N) :=
 ctr_fn (Γ := draw_Codes_Next_C N) (rfit := draw_Codes_Next_S1) (bs := [false]) (res := [4]) (by kernel_rfl) (tys_ok G_tys_ok) (draw_Codes_Next_ctrs N) Tryd.func22 (by kernel_rfl) (by kernel_rfl) Tryd.ntmps22 (by kernel_rfl) (by kernel_rfl) (by kernel_rfl) (by kernel_rfl) (fun E hb => draw_Codes_Next_b N hb)
/-! ipsecgate/ipsecgateref26.Name -/
abbrev ref26_Name_R : Type := ((D28 × Unit) × (Unit))
def ref26_Name (N : Nat) (owner_0 : Int) (count_1 : Int) : Option ref26_Name_R :=
 some ((((2 : Int), (w64 ((w64 (owner_0 * (1048576 : Int))) + count_1)), ([] : List Tree), ()), ()), (()))
def ref26_Name_C (N : Nat) : Ctx := ⟨10, G_tys, [], G_globs, G_ifs⟩
def ref26_Name_S0 : Spec := ⟨[.val .i64, .val .i64], []⟩
def ref26_Name_S1 : Spec := ⟨[.fp T28], []⟩
def ref26_Name_K (_N : Nat) : XE → GS → Option ref26_Name_R := retK 0 [4] [true] ref26_Name_S1
def ref26_Name_L : List Code := (bodyOf (some Tryd.f21))
theorem ref26_Name_b {E : Env} (N : Nat) (hb : Base Tryd.prog (ref26_Name_C N) E 0) : Blk Tryd.prog (ref26_Name_C N) E (List.range ref26_Name_S0.ks.length) ref26_Name_S0 (ref26_Name_L.drop 0) (fun y => ref26_Name N y.1.1 y.1.2.1) (ref26_Name_K N) :=
 Blk.chunkAt hb 3 (X := (ref26_Name_K N .normal)) (NxOk.end (by kernel_rfl)) rfl (fun x => by kernel_rfl)
def ref26_Name_ctr (N : Nat) : Ctr := ⟨ref26_Name_S0, ref26_Name_S1.un [true], 0, (fun y => ref26_Name N y.1.1 y.1.2.1)⟩
theorem ref26_Name_ctrs (N : Nat) : CtrsOk Tryd.prog (ref26_Name_C N) := ctrs_nil G_ifs_ok rfl
theorem ref26_Name_ok (N : Nat) : Ctr.ok Tryd.prog G_globs 21 (ref26_Name_ctr N) :=
 ctr_fn (Γ := ref26_Name_C N) (rfit := ref26_Name_S1) (bs := [true]) (res := [4]) (by kernel_rfl) (tys_ok G_tys_ok) (ref26_Name_ctrs N) Tryd.func21 (by kernel_rfl) (by kernel_rfl) Tryd.ntmps21 (by kernel_rfl) (by kernel_rfl) (by kernel_rfl) (by kernel_rfl) (fun E hb => ref26_Name_b N hb)
/-! (*ipsecgate/ipsecgatedraw.Codes).Name -/
abbrev draw_Codes_Name_R : Type := ((D28 × Unit) × (((List UInt8) × (Int × Unit)) × Unit))
def draw_Codes_Name (N : Nat) (c_0 : ((List UInt8) × (Int × Unit))) : Option draw_Codes_Name_R :=
 Option.bind (draw_Codes_Next N (3 : Int) c_0) fun y1 =>
 Option.bind (draw_Codes_Next N (5 : Int) y1.2.1) fun y2 =>
 Option.bind (ref26_Name N y1.1.1 (w64 ((1 : Int) + y2.1.1))) fun y4 =>
 some ((y4.1.1, ()), (y2.2.1, ()))
def draw_Codes_Name_C (N : Nat) : Ctx := ⟨9, G_tys, [(22, draw_Codes_Next_ctr N), (21, ref26_Name_ctr N)], G_globs, G_ifs⟩
def draw_Codes_Name_S0 : Spec := ⟨[.ref 0 (.pair (.sl .u8) (.pair .i64 .unit))], [(.box 46 (.pair (.sl .u8) (.pair .i64 .unit)), .pos 0)]⟩
def draw_Codes_Name_S1 : Spec := ⟨[.fp T28], [(.box 46 (.pair (.sl .u8) (.pair .i64 .unit)), .fix 0)]⟩
def draw_Codes_Name_K (_N : Nat) : XE → GS → Option draw_Codes_Name_R := retK 1 [2] [true] draw_Codes_Name_S1
def draw_Codes_Name_L : List Code := (bodyOf (some Tryd.f7))
theorem draw_Codes_Name_b {E : Env} (N : Nat) (hb : Base Tryd.prog (draw_Codes_Name_C N) E 1) : Blk Tryd.prog (draw_Codes_Name_C N) E (List.range draw_Codes_Name_S0.ks.length) draw_Codes_Name_S0 (draw_Codes_Name_L.drop 0) (fun y => draw_Codes_Name N y.2.1) (draw_Codes_Name_K N) :=
 Blk.chunkAt hb 3 (X := (draw_Codes_Name_K N .normal)) (NxOk.end (by kernel_rfl)) rfl (fun x => by kernel_rfl)
def draw_Codes_Name_ctr (N : Nat) : Ctr := ⟨draw_Codes_Name_S0, draw_Codes_Name_S1.un [true], 1, (fun y => draw_Codes_Name N y.2.1)⟩
theorem draw_Codes_Name_ctrs (N : Nat) : CtrsOk Tryd.prog (draw_Codes_Name_C N) := ctrs_of (Γ := draw_Codes_Name_C N) G_ifs_ok (by
 intro p hp
 simp only [draw_Codes_Name_C, List.mem_cons, List.not_mem_nil, or_false] at hp
 rcases hp with rfl | rfl
 · exact draw_Codes_Next_ok N
 · exact ref26_Name_ok N)
theorem draw_Codes_Name_ok (N : Nat) : Ctr.ok Tryd.prog G_globs 7 (draw_Codes_Name_ctr N) :=
 ctr_fn (Γ := draw_Codes_Name_C N) (rfit := draw_Codes_Name_S1) (bs := [true]) (res := [2]) (by kernel_rfl) (tys_ok G_tys_ok) (draw_Codes_Name_ctrs N) Tryd.func7 (by kernel_rfl) (by kernel_rfl) Tryd.ntmps7 (by kernel_rfl) (by kernel_rfl) (by kernel_rfl) (by kernel_rfl) (fun E hb => draw_Codes_Name_b N hb)
/-! ipsecgate/ipsecgateref26.Public -/
abbrev ref26_Public_R : Type := ((D28 × Unit) × (Unit))
def ref26_Public (N : Nat) (exponent_0 : D28) : Option ref26_Public_R :=
 some ((((4 : Int), (0 : Int), List.map mkT ([exponent_0] : List D28), ()), ()), (()))
def ref26_Public_C (N : Nat) : Ctx := ⟨6, G_tys, [], G_globs, G_ifs⟩
def ref26_Public_S0 : Spec := ⟨[.val T28], []⟩
def ref26_Public_S1 : Spec := ⟨[.fp T28], []⟩
def ref26_Public_K (_N : Nat) : XE → GS → Option ref26_Public_R := retK 0 [2] [true] ref26_Public_S1
def ref26_Public_L : List Code := (bodyOf (some Tryd.f9))
theorem ref26_Public_b {E : Env} (N : Nat) (hb : Base Tryd.prog (ref26_Public_C N) E 0) : Blk Tryd.prog (ref26_Public_C N) E (List.range ref26_Public_S0.ks.length) ref26_Public_S0 (ref26_Public_L.drop 0) (fun y => ref26_Public N y.1.1) (ref26_Public_K N) :=
 Blk.chunkAt hb 3 (X := (ref26_Public_K N .normal)) (NxOk.end (by kernel_rfl)) rfl (fun x => by kernel_rfl)
def ref26_Public_ctr (N : Nat) : Ctr := ⟨ref26_Public_S0, ref26_Public_S1.un [true], 0, (fun y => ref26_Public N y.1.1)⟩
theorem ref26_Public_ctrs (N : Nat) : CtrsOk Tryd.prog (ref26_Public_C N) := ctrs_nil G_ifs_ok rfl
theorem ref26_Public_ok (N : Nat) : Ctr.ok Tryd.prog G_globs 9 (ref26_Public_ctr N) :=
 ctr_fn (Γ := ref26_Public_C N) (rfit := ref26_Public_S1) (bs := [true]) (res := [2]) (by kernel_rfl) (tys_ok G_tys_ok) (ref26_Public_ctrs N) Tryd.func9 (by kernel_rfl) (by kernel_rfl) Tryd.ntmps9 (by kernel_rfl) (by kernel_rfl) (by kernel_rfl) (by kernel_rfl) (fun E hb => ref26_Public_b N hb)
/-! ipsecgate/ipsecgateref26.order -/
abbrev ref26_order_R : Type := ((Int × Unit) × (Unit))
def ref26_order_s2 (N : Nat) (rc : D28 → D28 → Option ref26_order_R) (i_5 : Int) (a_2 : D28) (b_3 : D28) : Option (Lo ((Int × Unit) × (D28 × D28 × Unit)) ((Unit) × (Unit)) ref26_order_R) :=
 bif (decide (i_5 < ((List.map Tree.un a_2.2.2.1).length : Int))) then
 let x18 := List.map Tree.un a_2.2.2.1
 bif inR i_5 x18.length then
 let x20 := List.map Tree.un b_3.2.2.1
 bif inR i_5 x20.length then
 Option.bind (rc (x18.getD i_5.toNat ((0 : Int), (0 : Int), ([] : List Tree), ())) (x20.getD i_5.toNat ((0 : Int), (0 : Int), ([] : List Tree), ()))) fun y22 =>
 bif (!(decide (y22.1.1 = (0 : Int)))) then
 some (.rt ((y22.1.1, ()), (())))
 else
 some (.go (((w64 (i_5 + (1 : Int))), ()), (a_2, b_3, ())))
 else none
 else none
 else
 some (.br ((()), (())))
def ref26_order_3 (N : Nat) (rc : D28 → D28 → Option ref26_order_R) : Option ref26_order_R :=
 some (((0 : Int), ()), (()))
def ref26_order_1 (N : Nat) (rc : D28 → D28 → Option ref26_order_R) (i_5 : Int) (a_2 : D28) (b_3 : D28) : Option ref26_order_R :=
 loopK N (fun y => ref26_order_s2 N rc y.1.1 y.2.1 y.2.2.1) (fun (e : ((Unit) × (Unit))) => ref26_order_3 N rc) ((i_5, ()), (a_2, b_3, ()))
def ref26_order (N : Nat) (rc : D28 → D28 → Option ref26_order_R) (a_0 : D28) (b_1 : D28) : Option ref26_order_R :=
 bif (decide (a_0.1 < b_1.1)) then
 some (((-1 : Int), ()), (()))
 else
 bif (decide (b_1.1 < a_0.1)) then
 some (((1 : Int), ()), (()))
 else
 bif (decide (a_0.2.1 < b_1.2.1)) then
 some (((-1 : Int), ()), (()))
 else
 bif (decide (b_1.2.1 < a_0.2.1)) then
 some (((1 : Int), ()), (()))
 else
 bif (!(decide (((List.map Tree.un a_0.2.2.1).length : Int) = ((List.map Tree.un b_1.2.2.1).length : Int)))) then
 some (((w64 (((List.map Tree.un a_0.2.2.1).length : Int) - ((List.map Tree.un b_1.2.2.1).length : Int))), ()), (()))
 else
 ref26_order_1 N rc (0 : Int) a_0 b_1
def ref26_order_S0 : Spec := ⟨[.ref 0 T28, .ref 1 T28, .val .i64], [(.box 28 T28, .pos 0), (.box 28 T28, .pos 1)]⟩
def ref26_order_S1 : Spec := ⟨[], []⟩
def ref26_order_S2 : Spec := ⟨[.val T28, .val T28], []⟩
def ref26_order_S3 : Spec := ⟨[.val .i64], []⟩
def ref26_order_ftr (N : Nat) (rc : D28 → D28 → Option ref26_order_R) : Ctr := ⟨ref26_order_S2, ref26_order_S3.un [false], 0, (fun y => rc y.1.1 y.1.2.1)⟩
def ref26_order_C (N : Nat) (rc : D28 → D28 → Option ref26_order_R) : Ctx := ⟨67, G_tys, [(30, ref26_order_ftr N rc)], G_globs, G_ifs⟩
def ref26_order_K (_N : Nat) (_rc : D28 → D28 → Option ref26_order_R) : XE → GS → Option ref26_order_R := retK 0 [4] [false] ref26_order_S3
def ref26_order_L : List Code := (bodyOf (some Tryd.f30))
def ref26_order_L2 : List Code := (loopOf (ref26_order_L[3]?))
def ref26_order_K2 (N : Nat) (rc : D28 → D28 → Option ref26_order_R) : XE → GS → Option (Lo ((Int × Unit) × (D28 × D28 × Unit)) ((Unit) × (Unit)) ref26_order_R) := roundK (some 1) (fit 0 [2, 3, 5] ref26_order_S0) (fit 0 [] ref26_order_S1) (ref26_order_K N rc)
theorem ref26_order_s2_b {E : Env} (N : Nat) (rc : D28 → D28 → Option ref26_order_R) (hb : Base Tryd.prog (ref26_order_C N rc) E 0) : Blk Tryd.prog (ref26_order_C N rc) E [2, 3, 5] ref26_order_S0 (ref26_order_L2.drop 0) (fun y => ref26_order_s2 N rc y.1.1 y.2.1 y.2.2.1) (ref26_order_K2 N rc) :=
 Blk.chunkAt hb 4 (X := (ref26_order_K2 N rc .normal)) (NxOk.end (by kernel_rfl)) rfl (fun x => by kernel_rfl)
theorem ref26_order_3_b {E : Env} (N : Nat) (rc : D28 → D28 → Option ref26_order_R) (hb : Base Tryd.prog (ref26_order_C N rc) E 0) : Blk Tryd.prog (ref26_order_C N rc) E [] ref26_order_S1 (ref26_order_L.drop 4) (fun y => ref26_order_3 N rc) (ref26_order_K N rc) :=
 Blk.chunkAt hb 2 (X := (ref26_order_K N rc .normal)) (NxOk.end (by kernel_rfl)) rfl (fun x => by kernel_rfl)
theorem ref26_order_1_b {E : Env} (N : Nat) (rc : D28 → D28 → Option ref26_order_R) (hb : Base Tryd.prog (ref26_order_C N rc) E 0) : Blk Tryd.prog (ref26_order_C N rc) E [2, 3, 5] ref26_order_S0 (ref26_order_L.drop 3) (fun y => ref26_order_1 N rc y.1.1 y.2.1 y.2.2.1) (ref26_order_K N rc) :=
 Blk.loopAt (Nf := N) (hns := [2, 3, 5]) (ans := []) (hc := ref26_order_S0) (ac := ref26_order_S1) (bid := 1) (step := (fun y => ref26_order_s2 N rc y.1.1 y.2.1 y.2.2.1)) (J := (fun e => (goK 0 [] ref26_order_S1 (fun y => ref26_order_3 N rc)) (ref26_order_S1.st [] e))) hb (by kernel_rfl) (Blk.into (X := (goK 0 [] ref26_order_S1 (fun y => ref26_order_3 N rc))) (NxOk.go hb (ref26_order_3_b N rc hb)) (fun x => by kernel_rfl)) (ref26_order_s2_b N rc hb) (fun x => by kernel_rfl)
theorem ref26_order_b {E : Env} (N : Nat) (rc : D28 → D28 → Option ref26_order_R) (hb : Base Tryd.prog (ref26_order_C N rc) E 0) : Blk Tryd.prog (ref26_order_C N rc) E (List.range ref26_order_S2.ks.length) ref26_order_S2 (ref26_order_L.drop 0) (fun y => ref26_order N rc y.1.1 y.1.2.1) (ref26_order_K N rc) :=
 Blk.chunkAt hb 3 (X := (goK 0 [2, 3, 5] ref26_order_S0 (fun y => ref26_order_1 N rc y.1.1 y.2.1 y.2.2.1))) (NxOk.go hb (ref26_order_1_b N rc hb)) rfl (fun x => by kernel_rfl)
def ref26_order_octr (N : Nat) (rc : D28 → D28 → Option ref26_order_R) : Ctr := ⟨ref26_order_S2, ref26_order_S3.un [false], 0, (fun y => ref26_order N rc y.1.1 y.1.2.1)⟩
theorem ref26_order_ctrs (N : Nat) (rc : D28 → D28 → Option ref26_order_R) (hf : Ctr.ok Tryd.prog G_globs 30 (ref26_order_ftr N rc)) : CtrsOk Tryd.prog (ref26_order_C N rc) := ctrs_of (Γ := ref26_order_C N rc) G_ifs_ok (by
 intro p hp
 simp only [ref26_order_C, List.mem_cons, List.not_mem_nil, or_false] at hp
 rcases hp with rfl
 · exact hf)
theorem ref26_order_ook (N : Nat) (rc : D28 → D28 → Option ref26_order_R) (hf : Ctr.ok Tryd.prog G_globs 30 (ref26_order_ftr N rc))  : Ctr.ok Tryd.prog G_globs 30 (ref26_order_octr N rc) :=
 ctr_fn (Γ := ref26_order_C N rc) (rfit := ref26_order_S3) (bs := [false]) (res := [4]) (by kernel_rfl) (tys_ok G_tys_ok) (ref26_order_ctrs N rc hf) Tryd.func30 (by kernel_rfl) (by kernel_rfl) Tryd.ntmps30 (by kernel_rfl) (by kernel_rfl) (by kernel_rfl) (by kernel_rfl) (fun E hb => ref26_order_b N rc hb)
def ref26_orderR (N : Nat) : Nat → D28 → D28 → Option ref26_order_R
 | 0 => fun _ _ => none
 | n + 1 => fun a_0 b_1 => ref26_order N (ref26_orderR N n) a_0 b_1
theorem ref26_orderR_ok (N : Nat) : ∀ n : Nat, Ctr.ok Tryd.prog G_globs 30 (ref26_order_ftr N (ref26_orderR N n))
 | 0 => ctr_never Tryd.func30 (by kernel_rfl) (by kernel_rfl) (fun x => rfl)
 | n + 1 => ref26_order_ook N (ref26_orderR N n) (ref26_orderR_ok N n)
def ref26_order_ctr (N : Nat) : Ctr := ref26_order_ftr N (ref26_orderR N N)
theorem ref26_order_ok (N : Nat) : Ctr.ok Tryd.prog G_globs 30 (ref26_order_ctr N) := ref26_orderR_ok N N
/-! ipsecgate/ipsecgateref26.Less -/
abbrev ref26_Less_R : Type := ((Bool × Unit) × (Unit))
def ref26_Less (N : Nat) (a_0 : D28) (b_1 : D28) : Option ref26_Less_R :=
 Option.bind (ref26_orderR N N a_0 b_1) fun y1 =>
 some (((decide (y1.1.1 < (0 : Int))), ()), (()))
def ref26_Less_C (N : Nat) : Ctx := ⟨9, G_tys, [(30, ref26_order_ctr N)], G_globs, G_ifs⟩
def ref26_Less_S0 : Spec := ⟨[.val T28, .val T28], []⟩
def ref26_Less_S1 : Spec := ⟨[.val .bool], []⟩
def ref26_Less_K (_N : Nat) : XE → GS → Option ref26_Less_R := retK 0 [4] [false] ref26_Less_S1
def ref26_Less_L : List Code := (bodyOf (some Tryd.f23))
theorem ref26_Less_b {E : Env} (N : Nat) (hb : Base Tryd.prog (ref26_Less_C N) E 0) : Blk Tryd.prog (ref26_Less_C N) E (List.range ref26_Less_S0.ks.length) ref26_Less_S0 (ref26_Less_L.drop 0) (fun y => ref26_Less N y.1.1 y.1.2.1) (ref26_Less_K N) :=
 Blk.chunkAt hb 3 (X := (ref26_Less_K N .normal)) (NxOk.end (by kernel_rfl)) rfl (fun x => by kernel_rfl)
def ref26_Less_ctr (N : Nat) : Ctr := ⟨ref26_Less_S0, ref26_Less_S1.un [false], 0, (fun y => ref26_Less N y.1.1 y.1.2.1)⟩
theorem ref26_Less_ctrs (N : Nat) : CtrsOk Tryd.prog (ref26_Less_C N) := ctrs_of (Γ := ref26_Less_C N) G_ifs_ok (by
 intro p hp
 simp only [ref26_Less_C, List.mem_cons, List.not_mem_nil, or_false] at hp
 rcases hp with rfl
 · exact ref26_order_ok N)
theorem ref26_Less_ok (N : Nat) : Ctr.ok Tryd.prog G_globs 23 (ref26_Less_ctr N) :=
 ctr_fn (Γ := ref26_Less_C N) (rfit := ref26_Less_S1) (bs := [false]) (res := [4]) (by kernel_rfl) (tys_ok G_tys_ok) (ref26_Less_ctrs N) Tryd.func23 (by kernel_rfl) (by kernel_rfl) Tryd.ntmps23 (by kernel_rfl) (by kernel_rfl) (by kernel_rfl) (by kernel_rfl) (fun E hb => ref26_Less_b N hb)
/-! ipsecgate/ipsecgateref26.Agree -/
abbrev ref26_Agree_R : Type := ((D28 × Bool × Unit) × (Unit))
def ref26_Agree_2 (N : Nat) (t_4 : D28) (a_6 : D28) (b_7 : D28) : Option ref26_Agree_R :=
 some ((((5 : Int), (0 : Int), List.map mkT ([a_6, b_7] : List D28), ()), true, ()), (()))
def ref26_Agree_1 (N : Nat) (t_16 : Bool) (public_2 : D28) (secret_3 : D28) (t_4 : D28) : Option ref26_Agree_R :=
 bif t_16 then
 some ((((0 : Int), (0 : Int), ([] : List Tree), ()), false, ()), (()))
 else
 let x2 := List.map Tree.un public_2.2.2.1
 bif inR (0 : Int) x2.length then
 let x3 := x2.getD 0 ((0 : Int), (0 : Int), ([] : List Tree), ())
 Option.bind (ref26_Less N secret_3 x3) fun y4 =>
 bif y4.1.1 then
 ref26_Agree_2 N t_4 secret_3 x3
 else
 ref26_Agree_2 N t_4 x3 secret_3
 else none
def ref26_Agree (N : Nat) (public_0 : D28) (secret_1 : D28) : Option ref26_Agree_R :=
 bif (!(decide (public_0.1 = (4 : Int)))) then
 ref26_Agree_1 N true public_0 secret_1 ((0 : Int), (0 : Int), ([] : List Tree), ())
 else
 ref26_Agree_1 N (!(decide (((List.map Tree.un public_0.2.2.1).length : Int) = (1 : Int)))) public_0 secret_1 ((0 : Int), (0 : Int), ([] : List Tree), ())
def ref26_Agree_C (N : Nat) : Ctx := ⟨32, G_tys, [(23, ref26_Less_ctr N)], G_globs, G_ifs⟩
def ref26_Agree_S0 : Spec := ⟨[.ref 0 T28, .ref 1 T28, .ref 2 T28], [(.box 28 T28, .pos 0), (.box 28 T28, .pos 1), (.box 28 T28, .pos 2)]⟩
def ref26_Agree_S1 : Spec := ⟨[.ref 0 T28, .ref 1 T28, .ref 2 T28, .val .bool], [(.box 28 T28, .pos 0), (.box 28 T28, .pos 1), (.box 28 T28, .pos 2)]⟩
def ref26_Agree_S2 : Spec := ⟨[.val T28, .val T28], []⟩
def ref26_Agree_S3 : Spec := ⟨[.fp T28, .val .bool], []⟩
def ref26_Agree_K (_N : Nat) : XE → GS → Option ref26_Agree_R := retK 0 [4, 5] [true, false] ref26_Agree_S3
def ref26_Agree_L : List Code := (bodyOf (some Tryd.f8))
theorem ref26_Agree_2_b {E : Env} (N : Nat) (hb : Base Tryd.prog (ref26_Agree_C N) E 0) : Blk Tryd.prog (ref26_Agree_C N) E [4, 6, 7] ref26_Agree_S0 (ref26_Agree_L.drop 6) (fun y => ref26_Agree_2 N y.2.1 y.2.2.1 y.2.2.2.1) (ref26_Agree_K N) :=
 Blk.chunkAt hb 2 (X := (ref26_Agree_K N .normal)) (NxOk.end (by kernel_rfl)) rfl (fun x => by kernel_rfl)
theorem ref26_Agree_1_b {E : Env} (N : Nat) (hb : Base Tryd.prog (ref26_Agree_C N) E 0) : Blk Tryd.prog (ref26_Agree_C N) E [2, 3, 4, 16] ref26_Agree_S1 (ref26_Agree_L.drop 2) (fun y => ref26_Agree_1 N y.1.1 y.2.1 y.2.2.1 y.2.2.2.1) (ref26_Agree_K N) :=
 Blk.chunkAt hb 4 (X := (goK 0 [4, 6, 7] ref26_Agree_S0 (fun y => ref26_Agree_2 N y.2.1 y.2.2.1 y.2.2.2.1))) (NxOk.go hb (ref26_Agree_2_b N hb)) rfl (fun x => by kernel_rfl)
theorem ref26_Agree_b {E : Env} (N : Nat) (hb : Base Tryd.prog (ref26_Agree_C N) E 0) : Blk Tryd.prog (ref26_Agree_C N) E (List.range ref26_Agree_S2.ks.length) ref26_Agree_S2 (ref26_Agree_L.drop 0) (fun y => ref26_Agree N y.1.1 y.1.2.1) (ref26_Agree_K N) :=
 Blk.chunkAt hb 2 (X := (goK 0 [2, 3, 4, 16] ref26_Agree_S1 (fun y => ref26_Agree_1 N y.1.1 y.2.1 y.2.2.1 y.2.2.2.1))) (NxOk.go hb (ref26_Agree_1_b N hb)) rfl (fun x => by kernel_rfl)
def ref26_Agree_ctr (N : Nat) : Ctr := ⟨ref26_Agree_S2, ref26_Agree_S3.un [true, false], 0, (fun y => ref26_Agree N y.1.1 y.1.2.1)⟩
theorem ref26_Agree_ctrs (N : Nat) : CtrsOk Tryd.prog (ref26_Agree_C N) := ctrs_of (Γ := ref26_Agree_C N) G_ifs_ok (by
 intro p hp
 simp only [ref26_Agree_C, List.mem_cons, List.not_mem_nil, or_false] at hp
 rcases hp with rfl
 · exact ref26_Less_ok N)
theorem ref26_Agree_ok (N : Nat) : Ctr.ok Tryd.prog G_globs 8 (ref26_Agree_ctr N) :=
 ctr_fn (Γ := ref26_Agree_C N) (rfit := ref26_Agree_S3) (bs := [true, false]) (res := [4, 5]) (by kernel_rfl) (tys_ok G_tys_ok) (ref26_Agree_ctrs N) Tryd.func8 (by kernel_rfl) (by kernel_rfl) Tryd.ntmps8 (by kernel_rfl) (by kernel_rfl) (by kernel_rfl) (by kernel_rfl) (fun E hb => ref26_Agree_b N hb)
/-! ipsecgate/ipsecgateref26.Derive -/
abbrev ref26_Derive_R : Type := ((D28 × Unit) × (Unit))
def ref26_Derive (N : Nat) (label_0 : Int) (l_1 : (List D28)) : Option ref26_Derive_R :=
 bif room (0 + l_1.length) 40 then
 some ((((6 : Int), label_0, List.map mkT l_1, ()), ()), (()))
 else none
def ref26_Derive_C (N : Nat) : Ctx := ⟨9, G_tys, [], G_globs, G_ifs⟩
def ref26_Derive_S0 : Spec := ⟨[.val .i64, .val (.sl T28)], []⟩
def ref26_Derive_S1 : Spec := ⟨[.fp T28], []⟩
def ref26_Derive_K (_N : Nat) : XE → GS → Option ref26_Derive_R := retK 0 [4] [true] ref26_Derive_S1
def ref26_Derive_L : List Code := (bodyOf (some Tryd.f11))
theorem ref26_Derive_b {E : Env} (N : Nat) (hb : Base Tryd.prog (ref26_Derive_C N) E 0) : Blk Tryd.prog (ref26_Derive_C N) E (List.range ref26_Derive_S0.ks.length) ref26_Derive_S0 (ref26_Derive_L.drop 0) (fun y => ref26_Derive N y.1.1 y.1.2.1) (ref26_Derive_K N) :=
 Blk.chunkAt hb 3 (X := (ref26_Derive_K N .normal)) (NxOk.end (by kernel_rfl)) rfl (fun x => by kernel_rfl)
def ref26_Derive_ctr (N : Nat) : Ctr := ⟨ref26_Derive_S0, ref26_Derive_S1.un [true], 0, (fun y => ref26_Derive N y.1.1 y.1.2.1)⟩
theorem ref26_Derive_ctrs (N : Nat) : CtrsOk Tryd.prog (ref26_Derive_C N) := ctrs_nil G_ifs_ok rfl
theorem ref26_Derive_ok (N : Nat) : Ctr.ok Tryd.prog G_globs 11 (ref26_Derive_ctr N) :=
 ctr_fn (Γ := ref26_Derive_C N) (rfit := ref26_Derive_S1) (bs := [true]) (res := [4]) (by kernel_rfl) (tys_ok G_tys_ok) (ref26_Derive_ctrs N) Tryd.func11 (by kernel_rfl) (by kernel_rfl) Tryd.ntmps11 (by kernel_rfl) (by kernel_rfl) (by kernel_rfl) (by kernel_rfl) (fun E hb => ref26_Derive_b N hb)
/-! ipsecgate/concrete.encode -/
abbrev concrete_encode_R : Type := ((Unit) × ((List UInt8) × Unit))
def concrete_encode_s2 (N : Nat) (rc : D28 → (List UInt8) → Option concrete_encode_R) (t_25 : (List D28)) (t_26 : Int) (t_27 : Int) (b_0 : (List UInt8)) : Option (Lo (((List D28) × Int × Int × Unit) × ((List UInt8) × Unit)) ((Unit) × ((List UInt8) × Unit)) concrete_encode_R) :=
 bif (decide (t_27 < t_26)) then
 bif inR t_27 t_25.length then
 Option.bind (rc (t_25.getD t_27.toNat ((0 : Int), (0 : Int), ([] : List Tree), ())) b_0) fun y13 =>
 some (.go ((t_25, t_26, (w64 (t_27 + (1 : Int))), ()), (y13.2.1, ())))
 else none
 else
 some (.br ((()), (b_0, ())))
def concrete_encode_3 (N : Nat) (rc : D28 → (List UInt8) → Option concrete_encode_R) (b_0 : (List UInt8)) : Option concrete_encode_R :=
 some ((()), (b_0, ()))
def concrete_encode_1 (N : Nat) (rc : D28 → (List UInt8) → Option concrete_encode_R) (t_25 : (List D28)) (t_26 : Int) (t_27 : Int) (b_0 : (List UInt8)) : Option concrete_encode_R :=
 loopK N (fun y => concrete_encode_s2 N rc y.1.1 y.1.2.1 y.1.2.2.1 y.2.1) (fun (e : ((Unit) × ((List UInt8) × Unit))) => concrete_encode_3 N rc e.2.1) ((t_25, t_26, t_27, ()), (b_0, ()))
def concrete_encode (N : Nat) (rc : D28 → (List UInt8) → Option concrete_encode_R) (t_1 : D28) (b_0 : (List UInt8)) : Option concrete_encode_R :=
 bif room (b_0.length + ([(iu8 t_1.1)] : List UInt8).length) 1 then
 Option.bind (wire_Put N (iu64 t_1.2.1) (8 : Int) (b_0 ++ ([(iu8 t_1.1)] : List UInt8))) fun y4 =>
 Option.bind (wire_Put N (iu64 ((List.map Tree.un t_1.2.2.1).length : Int)) (2 : Int) y4.2.1) fun y8 =>
 let x9 := List.map Tree.un t_1.2.2.1
 concrete_encode_1 N rc x9 (x9.length : Int) (0 : Int) y8.2.1
 else none
def concrete_encode_S0 : Spec := ⟨[.row 0, .val (.sl T28), .val .i64, .val .i64], [(.row 5 .u8, .pos 0)]⟩
def concrete_encode_S1 : Spec := ⟨[.row 0], [(.row 5 .u8, .pos 0)]⟩
def concrete_encode_S2 : Spec := ⟨[.row 0, .val T28], [(.row 5 .u8, .pos 0)]⟩
def concrete_encode_ftr (N : Nat) (rc : D28 → (List UInt8) → Option concrete_encode_R) : Ctr := ⟨concrete_encode_S2, concrete_encode_S1.un [false], 0, (fun y => rc y.1.1 y.2.1)⟩
def concrete_encode_C (N : Nat) (rc : D28 → (List UInt8) → Option concrete_encode_R) : Ctx := ⟨36, G_tys, [(34, wire_Put_ctr N), (31, concrete_encode_ftr N rc)], G_globs, G_ifs⟩
def concrete_encode_K (_N : Nat) (_rc : D28 → (List UInt8) → Option concrete_encode_R) : XE → GS → Option concrete_encode_R := retK 0 [4] [false] concrete_encode_S1
def concrete_encode_L : List Code := (bodyOf (some Tryd.f31))
def concrete_encode_L2 : List Code := (loopOf (concrete_encode_L[5]?))
def concrete_encode_K2 (N : Nat) (rc : D28 → (List UInt8) → Option concrete_encode_R) : XE → GS → Option (Lo (((List D28) × Int × Int × Unit) × ((List UInt8) × Unit)) ((Unit) × ((List UInt8) × Unit)) concrete_encode_R) := roundK (some 0) (fit 0 [0, 25, 26, 27] concrete_encode_S0) (fit 0 [0] concrete_encode_S1) (concrete_encode_K N rc)
theorem concrete_encode_s2_b {E : Env} (N : Nat) (rc : D28 → (List UInt8) → Option concrete_encode_R) (hb : Base Tryd.prog (concrete_encode_C N rc) E 0) : Blk Tryd.prog (concrete_encode_C N rc) E [0, 25, 26, 27] concrete_encode_S0 (concrete_encode_L2.drop 0) (fun y => concrete_encode_s2 N rc y.1.1 y.1.2.1 y.1.2.2.1 y.2.1) (concrete_encode_K2 N rc) :=
 Blk.chunkAt hb 4 (X := (concrete_encode_K2 N rc .normal)) (NxOk.end (by kernel_rfl)) rfl (fun x => by kernel_rfl)
theorem concrete_encode_3_b {E : Env} (N : Nat) (rc : D28 → (List UInt8) → Option concrete_encode_R) (hb : Base Tryd.prog (concrete_encode_C N rc) E 0) : Blk Tryd.prog (concrete_encode_C N rc) E [0] concrete_encode_S1 (concrete_encode_L.drop 6) (fun y => concrete_encode_3 N rc y.2.1) (concrete_encode_K N rc) :=
 Blk.chunkAt hb 2 (X := (concrete_encode_K N rc .normal)) (NxOk.end (by kernel_rfl)) rfl (fun x => by kernel_rfl)
theorem concrete_encode_1_b {E : Env} (N : Nat) (rc : D28 → (List UInt8) → Option concrete_encode_R) (hb : Base Tryd.prog (concrete_encode_C N rc) E 0) : Blk Tryd.prog (concrete_encode_C N rc) E [0, 25, 26, 27] concrete_encode_S0 (concrete_encode_L.drop 5) (fun y => concrete_encode_1 N rc y.1.1 y.1.2.1 y.1.2.2.1 y.2.1) (concrete_encode_K N rc) :=
 Blk.loopAt (Nf := N) (hns := [0, 25, 26, 27]) (ans := [0]) (hc := concrete_encode_S0) (ac := concrete_encode_S1) (bid := 0) (step := (fun y => concrete_encode_s2 N rc y.1.1 y.1.2.1 y.1.2.2.1 y.2.1)) (J := (fun e => (goK 0 [0] concrete_encode_S1 (fun y => concrete_encode_3 N rc y.2.1)) (concrete_encode_S1.st [0] e))) hb (by kernel_rfl) (Blk.into (X := (goK 0 [0] concrete_encode_S1 (fun y => concrete_encode_3 N rc y.2.1))) (NxOk.go hb (concrete_encode_3_b N rc hb)) (fun x => by kernel_rfl)) (concrete_encode_s2_b N rc hb) (fun x => by kernel_rfl)
theorem concrete_encode_b {E : Env} (N : Nat) (rc : D28 → (List UInt8) → Option concrete_encode_R) (hb : Base Tryd.prog (concrete_encode_C N rc) E 0) : Blk Tryd.prog (concrete_encode_C N rc) E (List.range concrete_encode_S2.ks.length) concrete_encode_S2 (concrete_encode_L.drop 0) (fun y => concrete_encode N rc y.1.1 y.2.1) (concrete_encode_K N rc) :=
 Blk.chunkAt hb 5 (X := (goK 0 [0, 25, 26, 27] concrete_encode_S0 (fun y => concrete_encode_1 N rc y.1.1 y.1.2.1 y.1.2.2.1 y.2.1))) (NxOk.go hb (concrete_encode_1_b N rc hb)) rfl (fun x => by kernel_rfl)
def concrete_encode_octr (N : Nat) (rc : D28 → (List UInt8) → Option concrete_encode_R) : Ctr := ⟨concrete_encode_S2, concrete_encode_S1.un [false], 0, (fun y => concrete_encode N rc y.1.1 y.2.1)⟩
theorem concrete_encode_ctrs (N : Nat) (rc : D28 → (List UInt8) → Option concrete_encode_R) (hf : Ctr.ok Tryd.prog G_globs 31 (concrete_encode_ftr N rc)) : CtrsOk Tryd.prog (concrete_encode_C N rc) := ctrs_of (Γ := concrete_encode_C N rc) G_ifs_ok (by
 intro p hp
 simp only [concrete_encode_C, List.mem_cons, List.not_mem_nil, or_false] at hp
 rcases hp with rfl | rfl
 · exact wire_Put_ok N
 · exact hf)
theorem concrete_encode_ook (N : Nat) (rc : D28 → (List UInt8) → Option concrete_encode_R) (hf : Ctr.ok Tryd.prog G_globs 31 (concrete_encode_ftr N rc))  : Ctr.ok Tryd.prog G_globs 31 (concrete_encode_octr N rc) :=
 ctr_fn (Γ := concrete_encode_C N rc) (rfit := concrete_encode_S1) (bs := [false]) (res := [4]) (by kernel_rfl) (tys_ok G_tys_ok) (concrete_encode_ctrs N rc hf) Tryd.func31 (by kernel_rfl) (by kernel_rfl) Tryd.ntmps31 (by kernel_rfl) (by kernel_rfl) (by kernel_rfl) (by kernel_rfl) (fun E hb => concrete_encode_b N rc hb)
def concrete_encodeR (N : Nat) : Nat → D28 → (List UInt8) → Option concrete_encode_R
 | 0 => fun _ _ => none
 | n + 1 => fun t_1 b_0 => concrete_encode N (concrete_encodeR N n) t_1 b_0
theorem concrete_encodeR_ok (N : Nat) : ∀ n : Nat, Ctr.ok Tryd.prog G_globs 31 (concrete_encode_ftr N (concrete_encodeR N n))
 | 0 => ctr_never Tryd.func31 (by kernel_rfl) (by kernel_rfl) (fun x => rfl)
 | n + 1 => concrete_encode_ook N (concrete_encodeR N n) (concrete_encodeR_ok N n)
def concrete_encode_ctr (N : Nat) : Ctr := concrete_encode_ftr N (concrete_encodeR N N)
theorem concrete_encode_ok (N : Nat) : Ctr.ok Tryd.prog G_globs 31 (concrete_encode_ctr N) := concrete_encodeR_ok N N
/-! ipsecgate/concrete.Encode -/
abbrev concrete_Encode_R : Type := ((Int × Unit) × ((List UInt8) × Unit))
def concrete_Encode (N : Nat) (t_0 : D28) : Option concrete_Encode_R :=
 Option.bind (term_Valid N t_0) fun y1 =>
 bif (!y1.1.1) then
 some (((26 : Int), ()), (([] : List UInt8), ()))
 else
 Option.bind (concrete_encodeR N N t_0 ([] : List UInt8)) fun y3 =>
 some (((0 : Int), ()), (y3.2.1, ()))
def concrete_Encode_C (N : Nat) : Ctx := ⟨9, G_tys, [(26, term_Valid_ctr N), (31, concrete_encode_ctr N)], G_globs, G_ifs⟩
def concrete_Encode_S0 : Spec := ⟨[.val T28], []⟩
def concrete_Encode_S1 : Spec := ⟨[.row 0, .val .i64], [(.row 5 .u8, .pos 0)]⟩
def concrete_Encode_K (_N : Nat) : XE → GS → Option concrete_Encode_R := retK 0 [2, 3] [false, false] concrete_Encode_S1
def concrete_Encode_L : List Code := (bodyOf (some Tryd.f24))
theorem concrete_Encode_b {E : Env} (N : Nat) (hb : Base Tryd.prog (concrete_Encode_C N) E 0) : Blk Tryd.prog (concrete_Encode_C N) E (List.range concrete_Encode_S0.ks.length) concrete_Encode_S0 (concrete_Encode_L.drop 0) (fun y => concrete_Encode N y.1.1) (concrete_Encode_K N) :=
 Blk.chunkAt hb 5 (X := (concrete_Encode_K N .normal)) (NxOk.end (by kernel_rfl)) rfl (fun x => by kernel_rfl)
def concrete_Encode_ctr (N : Nat) : Ctr := ⟨concrete_Encode_S0, concrete_Encode_S1.un [false, false], 0, (fun y => concrete_Encode N y.1.1)⟩
theorem concrete_Encode_ctrs (N : Nat) : CtrsOk Tryd.prog (concrete_Encode_C N) := ctrs_of (Γ := concrete_Encode_C N) G_ifs_ok (by
 intro p hp
 simp only [concrete_Encode_C, List.mem_cons, List.not_mem_nil, or_false] at hp
 rcases hp with rfl | rfl
 · exact term_Valid_ok N
 · exact concrete_encode_ok N)
theorem concrete_Encode_ok (N : Nat) : Ctr.ok Tryd.prog G_globs 24 (concrete_Encode_ctr N) :=
 ctr_fn (Γ := concrete_Encode_C N) (rfit := concrete_Encode_S1) (bs := [false, false]) (res := [2, 3]) (by kernel_rfl) (tys_ok G_tys_ok) (concrete_Encode_ctrs N) Tryd.func24 (by kernel_rfl) (by kernel_rfl) Tryd.ntmps24 (by kernel_rfl) (by kernel_rfl) (by kernel_rfl) (by kernel_rfl) (fun E hb => concrete_Encode_b N hb)
/-! ipsecgate/sha256.Pad -/
abbrev sha256_Pad_R : Type := ((Unit) × ((List UInt8) × Unit))
def sha256_Pad_s2 (N : Nat) (length_0 : Int) (b_3 : (List UInt8)) : Option (Lo ((Int × Unit) × ((List UInt8) × Unit)) ((Int × Unit) × ((List UInt8) × Unit)) sha256_Pad_R) :=
 bif (!(decide (((w64 ((length_0.tmod (64 : Int)) + (b_3.length : Int))).tmod (64 : Int)) = (56 : Int)))) then
 bif room (b_3.length + ([(0 : UInt8)] : List UInt8).length) 1 then
 some (.go ((length_0, ()), ((b_3 ++ ([(0 : UInt8)] : List UInt8)), ())))
 else none
 else
 some (.br ((length_0, ()), (b_3, ())))
def sha256_Pad_3 (N : Nat) (length_0 : Int) (b_3 : (List UInt8)) : Option sha256_Pad_R :=
 Option.bind (wire_Put N ((iu64 length_0) * (8 : UInt64)) (8 : Int) b_3) fun y10 =>
 some ((()), (y10.2.1, ()))
def sha256_Pad_1 (N : Nat) (length_0 : Int) (b_3 : (List UInt8)) : Option sha256_Pad_R :=
 loopK N (fun y => sha256_Pad_s2 N y.1.1 y.2.1) (fun (e : ((Int × Unit) × ((List UInt8) × Unit))) => sha256_Pad_3 N e.1.1 e.2.1) ((length_0, ()), (b_3, ()))
def sha256_Pad (N : Nat) (length_0 : Int) : Option sha256_Pad_R :=
 bif (decide (length_0 < (0 : Int))) then
 some ((()), (([] : List UInt8), ()))
 else
 sha256_Pad_1 N length_0 ([(128 : UInt8)] : List UInt8)
def sha256_Pad_C (N : Nat) : Ctx := ⟨22, G_tys, [(34, wire_Put_ctr N)], G_globs, G_ifs⟩
def sha256_Pad_S0 : Spec := ⟨[.val .i64, .row 0], [(.row 5 .u8, .pos 1)]⟩
def sha256_Pad_S1 : Spec := ⟨[.val .i64], []⟩
def sha256_Pad_S2 : Spec := ⟨[.row 0], [(.row 5 .u8, .pos 0)]⟩
def sha256_Pad_K (_N : Nat) : XE → GS → Option sha256_Pad_R := retK 0 [2] [false] sha256_Pad_S2
def sha256_Pad_L : List Code := (bodyOf (some Tryd.f32))
def sha256_Pad_L2 : List Code := (loopOf (sha256_Pad_L[4]?))
def sha256_Pad_K2 (N : Nat) : XE → GS → Option (Lo ((Int × Unit) × ((List UInt8) × Unit)) ((Int × Unit) × ((List UInt8) × Unit)) sha256_Pad_R) := roundK (some 0) (fit 0 [0, 3] sha256_Pad_S0) (fit 0 [0, 3] sha256_Pad_S0) (sha256_Pad_K N)
theorem sha256_Pad_s2_b {E : Env} (N : Nat) (hb : Base Tryd.prog (sha256_Pad_C N) E 0) : Blk Tryd.prog (sha256_Pad_C N) E [0, 3] sha256_Pad_S0 (sha256_Pad_L2.drop 0) (fun y => sha256_Pad_s2 N y.1.1 y.2.1) (sha256_Pad_K2 N) :=
 Blk.chunkAt hb 3 (X := (sha256_Pad_K2 N .normal)) (NxOk.end (by kernel_rfl)) rfl (fun x => by kernel_rfl)
theorem sha256_Pad_3_b {E : Env} (N : Nat) (hb : Base Tryd.prog (sha256_Pad_C N) E 0) : Blk Tryd.prog (sha256_Pad_C N) E [0, 3] sha256_Pad_S0 (sha256_Pad_L.drop 5) (fun y => sha256_Pad_3 N y.1.1 y.2.1) (sha256_Pad_K N) :=
 Blk.chunkAt hb 2 (X := (sha256_Pad_K N .normal)) (NxOk.end (by kernel_rfl)) rfl (fun x => by kernel_rfl)
theorem sha256_Pad_1_b {E : Env} (N : Nat) (hb : Base Tryd.prog (sha256_Pad_C N) E 0) : Blk Tryd.prog (sha256_Pad_C N) E [0, 3] sha256_Pad_S0 (sha256_Pad_L.drop 4) (fun y => sha256_Pad_1 N y.1.1 y.2.1) (sha256_Pad_K N) :=
 Blk.loopAt (Nf := N) (hns := [0, 3]) (ans := [0, 3]) (hc := sha256_Pad_S0) (ac := sha256_Pad_S0) (bid := 0) (step := (fun y => sha256_Pad_s2 N y.1.1 y.2.1)) (J := (fun e => (goK 0 [0, 3] sha256_Pad_S0 (fun y => sha256_Pad_3 N y.1.1 y.2.1)) (sha256_Pad_S0.st [0, 3] e))) hb (by kernel_rfl) (Blk.into (X := (goK 0 [0, 3] sha256_Pad_S0 (fun y => sha256_Pad_3 N y.1.1 y.2.1))) (NxOk.go hb (sha256_Pad_3_b N hb)) (fun x => by kernel_rfl)) (sha256_Pad_s2_b N hb) (fun x => by kernel_rfl)
theorem sha256_Pad_b {E : Env} (N : Nat) (hb : Base Tryd.prog (sha256_Pad_C N) E 0) : Blk Tryd.prog (sha256_Pad_C N) E (List.range sha256_Pad_S1.ks.length) sha256_Pad_S1 (sha256_Pad_L.drop 0) (fun y => sha256_Pad N y.1.1) (sha256_Pad_K N) :=
 Blk.chunkAt hb 4 (X := (goK 0 [0, 3] sha256_Pad_S0 (fun y => sha256_Pad_1 N y.1.1 y.2.1))) (NxOk.go hb (sha256_Pad_1_b N hb)) rfl (fun x => by kernel_rfl)
def sha256_Pad_ctr (N : Nat) : Ctr := ⟨sha256_Pad_S1, sha256_Pad_S2.un [false], 0, (fun y => sha256_Pad N y.1.1)⟩
theorem sha256_Pad_ctrs (N : Nat) : CtrsOk Tryd.prog (sha256_Pad_C N) := ctrs_of (Γ := sha256_Pad_C N) G_ifs_ok (by
 intro p hp
 simp only [sha256_Pad_C, List.mem_cons, List.not_mem_nil, or_false] at hp
 rcases hp with rfl
 · exact wire_Put_ok N)
theorem sha256_Pad_ok (N : Nat) : Ctr.ok Tryd.prog G_globs 32 (sha256_Pad_ctr N) :=
 ctr_fn (Γ := sha256_Pad_C N) (rfit := sha256_Pad_S2) (bs := [false]) (res := [2]) (by kernel_rfl) (tys_ok G_tys_ok) (sha256_Pad_ctrs N) Tryd.func32 (by kernel_rfl) (by kernel_rfl) Tryd.ntmps32 (by kernel_rfl) (by kernel_rfl) (by kernel_rfl) (by kernel_rfl) (fun E hb => sha256_Pad_b N hb)
/-! ipsecgate/wire.Slice -/
abbrev wire_Slice_R : Type := (((List UInt8) × Bool × Unit) × (Unit))
def wire_Slice_1 (N : Nat) (b_0 : (List UInt8)) (at_1 : Int) (n_2 : Int) (t_27 : Bool) : Option wire_Slice_R :=
 bif t_27 then
 some ((([] : List UInt8), false, ()), (()))
 else
 let x2 := w64 (at_1 + n_2)
 let x3 := w64 (at_1 + n_2)
 bif decide (0 ≤ at_1) && decide (at_1 ≤ x2) && decide (x2 ≤ (b_0.length : Int)) && (decide (x2 ≤ x3) && decide (x3 ≤ (b_0.length : Int))) then
 some (((cut b_0 at_1.toNat x2.toNat), true, ()), (()))
 else none
def wire_Slice (N : Nat) (b_0 : (List UInt8)) (at_1 : Int) (n_2 : Int) : Option wire_Slice_R :=
 bif (decide (at_1 < (0 : Int))) then
 wire_Slice_1 N b_0 at_1 n_2 true
 else
 bif (decide (n_2 < (0 : Int))) then
 wire_Slice_1 N b_0 at_1 n_2 true
 else
 bif (decide ((b_0.length : Int) < at_1)) then
 wire_Slice_1 N b_0 at_1 n_2 true
 else
 wire_Slice_1 N b_0 at_1 n_2 (decide ((w64 ((b_0.length : Int) - at_1)) < n_2))
def wire_Slice_C (N : Nat) : Ctx := ⟨37, G_tys, [], G_globs, G_ifs⟩
def wire_Slice_S0 : Spec := ⟨[.val (.sl .u8), .val .i64, .val .i64, .val .bool], []⟩
def wire_Slice_S1 : Spec := ⟨[.val (.sl .u8), .val .i64, .val .i64], []⟩
def wire_Slice_S2 : Spec := ⟨[.val (.sl .u8), .val .bool], []⟩
def wire_Slice_K (_N : Nat) : XE → GS → Option wire_Slice_R := retK 0 [6, 7] [false, false] wire_Slice_S2
def wire_Slice_L : List Code := (bodyOf (some Tryd.f61))
theorem wire_Slice_1_b {E : Env} (N : Nat) (hb : Base Tryd.prog (wire_Slice_C N) E 0) : Blk Tryd.prog (wire_Slice_C N) E [0, 1, 2, 27] wire_Slice_S0 (wire_Slice_L.drop 2) (fun y => wire_Slice_1 N y.1.1 y.1.2.1 y.1.2.2.1 y.1.2.2.2.1) (wire_Slice_K N) :=
 Blk.chunkAt hb 3 (X := (wire_Slice_K N .normal)) (NxOk.end (by kernel_rfl)) rfl (fun x => by kernel_rfl)
theorem wire_Slice_b {E : Env} (N : Nat) (hb : Base Tryd.prog (wire_Slice_C N) E 0) : Blk Tryd.prog (wire_Slice_C N) E (List.range wire_Slice_S1.ks.length) wire_Slice_S1 (wire_Slice_L.drop 0) (fun y => wire_Slice N y.1.1 y.1.2.1 y.1.2.2.1) (wire_Slice_K N) :=
 Blk.chunkAt hb 2 (X := (goK 0 [0, 1, 2, 27] wire_Slice_S0 (fun y => wire_Slice_1 N y.1.1 y.1.2.1 y.1.2.2.1 y.1.2.2.2.1))) (NxOk.go hb (wire_Slice_1_b N hb)) rfl (fun x => by kernel_rfl)
def wire_Slice_ctr (N : Nat) : Ctr := ⟨wire_Slice_S1, wire_Slice_S2.un [false, false], 0, (fun y => wire_Slice N y.1.1 y.1.2.1 y.1.2.2.1)⟩
theorem wire_Slice_ctrs (N : Nat) : CtrsOk Tryd.prog (wire_Slice_C N) := ctrs_nil G_ifs_ok rfl
theorem wire_Slice_ok (N : Nat) : Ctr.ok Tryd.prog G_globs 61 (wire_Slice_ctr N) :=
 ctr_fn (Γ := wire_Slice_C N) (rfit := wire_Slice_S2) (bs := [false, false]) (res := [6, 7]) (by kernel_rfl) (tys_ok G_tys_ok) (wire_Slice_ctrs N) Tryd.func61 (by kernel_rfl) (by kernel_rfl) Tryd.ntmps61 (by kernel_rfl) (by kernel_rfl) (by kernel_rfl) (by kernel_rfl) (fun E hb => wire_Slice_b N hb)
/-! ipsecgate/wire.Number -/
abbrev wire_Number_R : Type := ((UInt64 × Bool × Unit) × (Unit))
def wire_Number_s3 (N : Nat) (v_10 : UInt64) (t_28 : (List UInt8)) (t_29 : Int) (t_30 : Int) : Option (Lo ((UInt64 × (List UInt8) × Int × Int × Unit) × (Unit)) ((UInt64 × Unit) × (Unit)) wire_Number_R) :=
 bif (decide (t_30 < t_29)) then
 bif inR t_30 t_28.length then
 some (.go ((((shl64 v_10 8) ||| (t_28.getD t_30.toNat (0 : UInt8)).toUInt64), t_28, t_29, (w64 (t_30 + (1 : Int))), ()), (())))
 else none
 else
 some (.br ((v_10, ()), (())))
def wire_Number_4 (N : Nat) (v_10 : UInt64) : Option wire_Number_R :=
 some ((v_10, true, ()), (()))
def wire_Number_2 (N : Nat) (v_10 : UInt64) (t_28 : (List UInt8)) (t_29 : Int) (t_30 : Int) : Option wire_Number_R :=
 loopK N (fun y => wire_Number_s3 N y.1.1 y.1.2.1 y.1.2.2.1 y.1.2.2.2.1) (fun (e : ((UInt64 × Unit) × (Unit))) => wire_Number_4 N e.1.1) ((v_10, t_28, t_29, t_30, ()), (()))
def wire_Number_1 (N : Nat) (b_0 : (List UInt8)) (at_1 : Int) (width_2 : Int) (t_18 : Bool) : Option wire_Number_R :=
 bif t_18 then
 some (((0 : UInt64), false, ()), (()))
 else
 Option.bind (wire_Slice N b_0 at_1 width_2) fun y2 =>
 bif (!y2.1.2.1) then
 some (((0 : UInt64), false, ()), (()))
 else
 wire_Number_2 N (0 : UInt64) y2.1.1 (y2.1.1.length : Int) (0 : Int)
def wire_Number (N : Nat) (b_0 : (List UInt8)) (at_1 : Int) (width_2 : Int) : Option wire_Number_R :=
 bif (decide (width_2 < (1 : Int))) then
 wire_Number_1 N b_0 at_1 width_2 true
 else
 wire_Number_1 N b_0 at_1 width_2 (decide ((8 : Int) < width_2))
def wire_Number_C (N : Nat) : Ctx := ⟨41, G_tys, [(61, wire_Slice_ctr N)], G_globs, G_ifs⟩
def wire_Number_S0 : Spec := ⟨[.val .u64, .val (.sl .u8), .val .i64, .val .i64], []⟩
def wire_Number_S1 : Spec := ⟨[.val .u64], []⟩
def wire_Number_S2 : Spec := ⟨[.val (.sl .u8), .val .i64, .val .i64, .val .bool], []⟩
def wire_Number_S3 : Spec := ⟨[.val (.sl .u8), .val .i64, .val .i64], []⟩
def wire_Number_S4 : Spec := ⟨[.val .u64, .val .bool], []⟩
def wire_Number_K (_N : Nat) : XE → GS → Option wire_Number_R := retK 0 [6, 7] [false, false] wire_Number_S4
def wire_Number_L : List Code := (bodyOf (some Tryd.f53))
def wire_Number_L3 : List Code := (loopOf (wire_Number_L[8]?))
def wire_Number_K3 (N : Nat) : XE → GS → Option (Lo ((UInt64 × (List UInt8) × Int × Int × Unit) × (Unit)) ((UInt64 × Unit) × (Unit)) wire_Number_R) := roundK (some 0) (fit 0 [10, 28, 29, 30] wire_Number_S0) (fit 0 [10] wire_Number_S1) (wire_Number_K N)
theorem wire_Number_s3_b {E : Env} (N : Nat) (hb : Base Tryd.prog (wire_Number_C N) E 0) : Blk Tryd.prog (wire_Number_C N) E [10, 28, 29, 30] wire_Number_S0 (wire_Number_L3.drop 0) (fun y => wire_Number_s3 N y.1.1 y.1.2.1 y.1.2.2.1 y.1.2.2.2.1) (wire_Number_K3 N) :=
 Blk.chunkAt hb 4 (X := (wire_Number_K3 N .normal)) (NxOk.end (by kernel_rfl)) rfl (fun x => by kernel_rfl)
theorem wire_Number_4_b {E : Env} (N : Nat) (hb : Base Tryd.prog (wire_Number_C N) E 0) : Blk Tryd.prog (wire_Number_C N) E [10] wire_Number_S1 (wire_Number_L.drop 9) (fun y => wire_Number_4 N y.1.1) (wire_Number_K N) :=
 Blk.chunkAt hb 2 (X := (wire_Number_K N .normal)) (NxOk.end (by kernel_rfl)) rfl (fun x => by kernel_rfl)
theorem wire_Number_2_b {E : Env} (N : Nat) (hb : Base Tryd.prog (wire_Number_C N) E 0) : Blk Tryd.prog (wire_Number_C N) E [10, 28, 29, 30] wire_Number_S0 (wire_Number_L.drop 8) (fun y => wire_Number_2 N y.1.1 y.1.2.1 y.1.2.2.1 y.1.2.2.2.1) (wire_Number_K N) :=
 Blk.loopAt (Nf := N) (hns := [10, 28, 29, 30]) (ans := [10]) (hc := wire_Number_S0) (ac := wire_Number_S1) (bid := 0) (step := (fun y => wire_Number_s3 N y.1.1 y.1.2.1 y.1.2.2.1 y.1.2.2.2.1)) (J := (fun e => (goK 0 [10] wire_Number_S1 (fun y => wire_Number_4 N y.1.1)) (wire_Number_S1.st [10] e))) hb (by kernel_rfl) (Blk.into (X := (goK 0 [10] wire_Number_S1 (fun y => wire_Number_4 N y.1.1))) (NxOk.go hb (wire_Number_4_b N hb)) (fun x => by kernel_rfl)) (wire_Number_s3_b N hb) (fun x => by kernel_rfl)
theorem wire_Number_1_b {E : Env} (N : Nat) (hb : Base Tryd.prog (wire_Number_C N) E 0) : Blk Tryd.prog (wire_Number_C N) E [0, 1, 2, 18] wire_Number_S2 (wire_Number_L.drop 2) (fun y => wire_Number_1 N y.1.1 y.1.2.1 y.1.2.2.1 y.1.2.2.2.1) (wire_Number_K N) :=
 Blk.chunkAt hb 6 (X := (goK 0 [10, 28, 29, 30] wire_Number_S0 (fun y => wire_Number_2 N y.1.1 y.1.2.1 y.1.2.2.1 y.1.2.2.2.1))) (NxOk.go hb (wire_Number_2_b N hb)) rfl (fun x => by kernel_rfl)
theorem wire_Number_b {E : Env} (N : Nat) (hb : Base Tryd.prog (wire_Number_C N) E 0) : Blk Tryd.prog (wire_Number_C N) E (List.range wire_Number_S3.ks.length) wire_Number_S3 (wire_Number_L.drop 0) (fun y => wire_Number N y.1.1 y.1.2.1 y.1.2.2.1) (wire_Number_K N) :=
 Blk.chunkAt hb 2 (X := (goK 0 [0, 1, 2, 18] wire_Number_S2 (fun y => wire_Number_1 N y.1.1 y.1.2.1 y.1.2.2.1 y.1.2.2.2.1))) (NxOk.go hb (wire_Number_1_b N hb)) rfl (fun x => by kernel_rfl)
def wire_Number_ctr (N : Nat) : Ctr := ⟨wire_Number_S3, wire_Number_S4.un [false, false], 0, (fun y => wire_Number N y.1.1 y.1.2.1 y.1.2.2.1)⟩
theorem wire_Number_ctrs (N : Nat) : CtrsOk Tryd.prog (wire_Number_C N) := ctrs_of (Γ := wire_Number_C N) G_ifs_ok (by
 intro p hp
 simp only [wire_Number_C, List.mem_cons, List.not_mem_nil, or_false] at hp
 rcases hp with rfl
 · exact wire_Slice_ok N)
theorem wire_Number_ok (N : Nat) : Ctr.ok Tryd.prog G_globs 53 (wire_Number_ctr N) :=
 ctr_fn (Γ := wire_Number_C N) (rfit := wire_Number_S4) (bs := [false, false]) (res := [6, 7]) (by kernel_rfl) (tys_ok G_tys_ok) (wire_Number_ctrs N) Tryd.func53 (by kernel_rfl) (by kernel_rfl) Tryd.ntmps53 (by kernel_rfl) (by kernel_rfl) (by kernel_rfl) (by kernel_rfl) (fun E hb => wire_Number_b N hb)
/-! math/bits.RotateLeft32 -/
abbrev math_bits_RotateLeft32_R : Type := ((UInt32 × Unit) × (Unit))
def math_bits_RotateLeft32 (N : Nat) (x_0 : UInt32) (k_1 : Int) : Option math_bits_RotateLeft32_R :=
 let x2 := (iu64 k_1) &&& (31 : UInt64)
 some ((((shl32 x_0 x2.toNat) ||| (shr32 x_0 ((32 : UInt64) - x2).toNat)), ()), (()))
def math_bits_RotateLeft32_C (N : Nat) : Ctx := ⟨17, G_tys, [], G_globs, G_ifs⟩
def math_bits_RotateLeft32_S0 : Spec := ⟨[.val .u32, .val .i64], []⟩
def math_bits_RotateLeft32_S1 : Spec := ⟨[.val .u32], []⟩
def math_bits_RotateLeft32_K (_N : Nat) : XE → GS → Option math_bits_RotateLeft32_R := retK 0 [4] [false] math_bits_RotateLeft32_S1
def math_bits_RotateLeft32_L : List Code := (bodyOf (some Tryd.f54))
theorem math_bits_RotateLeft32_b {E : Env} (N : Nat) (hb : Base Tryd.prog (math_bits_RotateLeft32_C N) E 0) : Blk Tryd.prog (math_bits_RotateLeft32_C N) E (List.range math_bits_RotateLeft32_S0.ks.length) math_bits_RotateLeft32_S0 (math_bits_RotateLeft32_L.drop 0) (fun y => math_bits_RotateLeft32 N y.1.1 y.1.2.1) (math_bits_RotateLeft32_K N) :=
 Blk.chunkAt hb 4 (X := (math_bits_RotateLeft32_K N .normal)) (NxOk.end (by kernel_rfl)) rfl (fun x => by kernel_rfl)
def math_bits_RotateLeft32_ctr (N : Nat) : Ctr := ⟨math_bits_RotateLeft32_S0, math_bits_RotateLeft32_S1.un [false], 0, (fun y => math_bits_RotateLeft32 N y.1.1 y.1.2.1)⟩
theorem math_bits_RotateLeft32_ctrs (N : Nat) : CtrsOk Tryd.prog (math_bits_RotateLeft32_C N) := ctrs_nil G_ifs_ok rfl
theorem math_bits_RotateLeft32_ok (N : Nat) : Ctr.ok Tryd.prog G_globs 54 (math_bits_RotateLeft32_ctr N) :=
 ctr_fn (Γ := math_bits_RotateLeft32_C N) (rfit := math_bits_RotateLeft32_S1) (bs := [false]) (res := [4]) (by kernel_rfl) (tys_ok G_tys_ok) (math_bits_RotateLeft32_ctrs N) Tryd.func54 (by kernel_rfl) (by kernel_rfl) Tryd.ntmps54 (by kernel_rfl) (by kernel_rfl) (by kernel_rfl) (by kernel_rfl) (fun E hb => math_bits_RotateLeft32_b N hb)
/-! ipsecgate/sha256.right -/
abbrev sha256_right_R : Type := ((UInt32 × Unit) × (Unit))
def sha256_right (N : Nat) (x_0 : UInt32) (n_1 : Int) : Option sha256_right_R :=
 Option.bind (math_bits_RotateLeft32 N x_0 (w64 (0 - n_1))) fun y2 =>
 some ((y2.1.1, ()), (()))
def sha256_right_C (N : Nat) : Ctx := ⟨9, G_tys, [(54, math_bits_RotateLeft32_ctr N)], G_globs, G_ifs⟩
def sha256_right_S0 : Spec := ⟨[.val .u32, .val .i64], []⟩
def sha256_right_S1 : Spec := ⟨[.val .u32], []⟩
def sha256_right_K (_N : Nat) : XE → GS → Option sha256_right_R := retK 0 [4] [false] sha256_right_S1
def sha256_right_L : List Code := (bodyOf (some Tryd.f41))
theorem sha256_right_b {E : Env} (N : Nat) (hb : Base Tryd.prog (sha256_right_C N) E 0) : Blk Tryd.prog (sha256_right_C N) E (List.range sha256_right_S0.ks.length) sha256_right_S0 (sha256_right_L.drop 0) (fun y => sha256_right N y.1.1 y.1.2.1) (sha256_right_K N) :=
 Blk.chunkAt hb 3 (X := (sha256_right_K N .normal)) (NxOk.end (by kernel_rfl)) rfl (fun x => by kernel_rfl)
def sha256_right_ctr (N : Nat) : Ctr := ⟨sha256_right_S0, sha256_right_S1.un [false], 0, (fun y => sha256_right N y.1.1 y.1.2.1)⟩
theorem sha256_right_ctrs (N : Nat) : CtrsOk Tryd.prog (sha256_right_C N) := ctrs_of (Γ := sha256_right_C N) G_ifs_ok (by
 intro p hp
 simp only [sha256_right_C, List.mem_cons, List.not_mem_nil, or_false] at hp
 rcases hp with rfl
 · exact math_bits_RotateLeft32_ok N)
theorem sha256_right_ok (N : Nat) : Ctr.ok Tryd.prog G_globs 41 (sha256_right_ctr N) :=
 ctr_fn (Γ := sha256_right_C N) (rfit := sha256_right_S1) (bs := [false]) (res := [4]) (by kernel_rfl) (tys_ok G_tys_ok) (sha256_right_ctrs N) Tryd.func41 (by kernel_rfl) (by kernel_rfl) Tryd.ntmps41 (by kernel_rfl) (by kernel_rfl) (by kernel_rfl) (by kernel_rfl) (fun E hb => sha256_right_b N hb)
/-! ipsecgate/sha256.schedule -/
abbrev sha256_schedule_R : Type := (((List UInt32) × Unit) × (Unit))
def sha256_schedule_s2 (N : Nat) (block_0 : (List UInt8)) (t_9 : Int) (t_2 : (List UInt32)) (w_3 : (List UInt32)) : Option (Lo (((List UInt8) × Int × Unit) × ((List UInt32) × (List UInt32) × Unit)) ((Unit) × ((List UInt32) × (List UInt32) × Unit)) sha256_schedule_R) :=
 bif (decide (t_9 < (64 : Int))) then
 bif (decide (t_9 < (16 : Int))) then
 Option.bind (wire_Number N block_0 (w64 ((4 : Int) * t_9)) (4 : Int)) fun y4 =>
 bif inR t_9 64 then
 some (.go ((block_0, (w64 (t_9 + (1 : Int))), ()), (t_2, (w_3.set t_9.toNat y4.1.1.toUInt32), ())))
 else none
 else
 let x7 := w64 (t_9 - (2 : Int))
 bif inR x7 64 then
 let x8 := (w_3.getD x7.toNat (0 : UInt32))
 let x9 := w64 (t_9 - (15 : Int))
 bif inR x9 64 then
 let x10 := (w_3.getD x9.toNat (0 : UInt32))
 Option.bind (sha256_right N x8 (17 : Int)) fun y11 =>
 Option.bind (sha256_right N x8 (19 : Int)) fun y12 =>
 let x16 := w64 (t_9 - (7 : Int))
 bif inR x16 64 then
 Option.bind (sha256_right N x10 (7 : Int)) fun y19 =>
 Option.bind (sha256_right N x10 (18 : Int)) fun y20 =>
 let x25 := w64 (t_9 - (16 : Int))
 bif inR x25 64 then
 bif inR t_9 64 then
 some (.go ((block_0, (w64 (t_9 + (1 : Int))), ()), (t_2, (w_3.set t_9.toNat (((((y11.1.1 ^^^ y12.1.1) ^^^ (shr32 x8 10)) + (w_3.getD x16.toNat (0 : UInt32))) + ((y19.1.1 ^^^ y20.1.1) ^^^ (shr32 x10 3))) + (w_3.getD x25.toNat (0 : UInt32)))), ())))
 else none
 else none
 else none
 else none
 else none
 else
 some (.br ((()), (t_2, w_3, ())))
def sha256_schedule_3 (N : Nat) (t_2 : (List UInt32)) (w_3 : (List UInt32)) : Option sha256_schedule_R :=
 some ((w_3, ()), (()))
def sha256_schedule_1 (N : Nat) (block_0 : (List UInt8)) (t_9 : Int) (t_2 : (List UInt32)) (w_3 : (List UInt32)) : Option sha256_schedule_R :=
 loopK N (fun y => sha256_schedule_s2 N y.1.1 y.1.2.1 y.2.1 y.2.2.1) (fun (e : ((Unit) × ((List UInt32) × (List UInt32) × Unit))) => sha256_schedule_3 N e.2.1 e.2.2.1) ((block_0, t_9, ()), (t_2, w_3, ()))
def sha256_schedule (N : Nat) (block_0 : (List UInt8)) : Option sha256_schedule_R :=
 sha256_schedule_1 N block_0 (0 : Int) (List.replicate 64 (0 : UInt32)) (List.replicate 64 (0 : UInt32))
def sha256_schedule_C (N : Nat) : Ctx := ⟨64, G_tys, [(53, wire_Number_ctr N), (41, sha256_right_ctr N)], G_globs, G_ifs⟩
def sha256_schedule_S0 : Spec := ⟨[.val (.sl .u8), .ref 0 (.arr 64 .u32), .ref 1 (.arr 64 .u32), .val .i64], [(.box 70 (.arr 64 .u32), .pos 1), (.box 70 (.arr 64 .u32), .pos 2)]⟩
def sha256_schedule_S1 : Spec := ⟨[.ref 0 (.arr 64 .u32), .ref 1 (.arr 64 .u32)], [(.box 70 (.arr 64 .u32), .pos 0), (.box 70 (.arr 64 .u32), .pos 1)]⟩
def sha256_schedule_S2 : Spec := ⟨[.val (.sl .u8)], []⟩
def sha256_schedule_S3 : Spec := ⟨[.fp (.arr 64 .u32)], []⟩
def sha256_schedule_K (_N : Nat) : XE → GS → Option sha256_schedule_R := retK 0 [2] [true] sha256_schedule_S3
def sha256_schedule_L : List Code := (bodyOf (some Tryd.f40))
def sha256_schedule_L2 : List Code := (loopOf (sha256_schedule_L[3]?))
def sha256_schedule_K2 (N : Nat) : XE → GS → Option (Lo (((List UInt8) × Int × Unit) × ((List UInt32) × (List UInt32) × Unit)) ((Unit) × ((List UInt32) × (List UInt32) × Unit)) sha256_schedule_R) := roundK (some 0) (fit 0 [0, 2, 3, 9] sha256_schedule_S0) (fit 0 [2, 3] sha256_schedule_S1) (sha256_schedule_K N)
theorem sha256_schedule_s2_b {E : Env} (N : Nat) (hb : Base Tryd.prog (sha256_schedule_C N) E 0) : Blk Tryd.prog (sha256_schedule_C N) E [0, 2, 3, 9] sha256_schedule_S0 (sha256_schedule_L2.drop 0) (fun y => sha256_schedule_s2 N y.1.1 y.1.2.1 y.2.1 y.2.2.1) (sha256_schedule_K2 N) :=
 Blk.chunkAt hb 4 (X := (sha256_schedule_K2 N .normal)) (NxOk.end (by kernel_rfl)) rfl (fun x => by kernel_rfl)
theorem sha256_schedule_3_b {E : Env} (N : Nat) (hb : Base Tryd.prog (sha256_schedule_C N) E 0) : Blk Tryd.prog (sha256_schedule_C N) E [2, 3] sha256_schedule_S1 (sha256_schedule_L.drop 4) (fun y => sha256_schedule_3 N y.2.1 y.2.2.1) (sha256_schedule_K N) :=
 Blk.chunkAt hb 2 (X := (sha256_schedule_K N .normal)) (NxOk.end (by kernel_rfl)) rfl (fun x => by kernel_rfl)
theorem sha256_schedule_1_b {E : Env} (N : Nat) (hb : Base Tryd.prog (sha256_schedule_C N) E 0) : Blk Tryd.prog (sha256_schedule_C N) E [0, 2, 3, 9] sha256_schedule_S0 (sha256_schedule_L.drop 3) (fun y => sha256_schedule_1 N y.1.1 y.1.2.1 y.2.1 y.2.2.1) (sha256_schedule_K N) :=
 Blk.loopAt (Nf := N) (hns := [0, 2, 3, 9]) (ans := [2, 3]) (hc := sha256_schedule_S0) (ac := sha256_schedule_S1) (bid := 0) (step := (fun y => sha256_schedule_s2 N y.1.1 y.1.2.1 y.2.1 y.2.2.1)) (J := (fun e => (goK 0 [2, 3] sha256_schedule_S1 (fun y => sha256_schedule_3 N y.2.1 y.2.2.1)) (sha256_schedule_S1.st [2, 3] e))) hb (by kernel_rfl) (Blk.into (X := (goK 0 [2, 3] sha256_schedule_S1 (fun y => sha256_schedule_3 N y.2.1 y.2.2.1))) (NxOk.go hb (sha256_schedule_3_b N hb)) (fun x => by kernel_rfl)) (sha256_schedule_s2_b N hb) (fun x => by kernel_rfl)
theorem sha256_schedule_b {E : Env} (N : Nat) (hb : Base Tryd.prog (sha256_schedule_C N) E 0) : Blk Tryd.prog (sha256_schedule_C N) E (List.range sha256_schedule_S2.ks.length) sha256_schedule_S2 (sha256_schedule_L.drop 0) (fun y => sha256_schedule N y.1.1) (sha256_schedule_K N) :=
 Blk.chunkAt hb 3 (X := (goK 0 [0, 2, 3, 9] sha256_schedule_S0 (fun y => sha256_schedule_1 N y.1.1 y.1.2.1 y.2.1 y.2.2.1))) (NxOk.go hb (sha256_schedule_1_b N hb)) rfl (fun x => by kernel_rfl)
def sha256_schedule_ctr (N : Nat) : Ctr := ⟨sha256_schedule_S2, sha256_schedule_S3.un [true], 0, (fun y => sha256_schedule N y.1.1)⟩
theorem sha256_schedule_ctrs (N : Nat) : CtrsOk Tryd.prog (sha256_schedule_C N) := ctrs_of (Γ := sha256_schedule_C N) G_ifs_ok (by
 intro p hp
 simp only [sha256_schedule_C, List.mem_cons, List.not_mem_nil, or_false] at hp
 rcases hp with rfl | rfl
 · exact wire_Number_ok N
 · exact sha256_right_ok N)
theorem sha256_schedule_ok (N : Nat) : Ctr.ok Tryd.prog G_globs 40 (sha256_schedule_ctr N) :=
 ctr_fn (Γ := sha256_schedule_C N) (rfit := sha256_schedule_S3) (bs := [true]) (res := [2]) (by kernel_rfl) (tys_ok G_tys_ok) (sha256_schedule_ctrs N) Tryd.func40 (by kernel_rfl) (by kernel_rfl) Tryd.ntmps40 (by kernel_rfl) (by kernel_rfl) (by kernel_rfl) (by kernel_rfl) (fun E hb => sha256_schedule_b N hb)
/-! ipsecgate/sha256.Block -/
abbrev sha256_Block_R : Type := (((List UInt32) × Bool × Unit) × (Unit))
def sha256_Block_s2 (N : Nat) (a_6 : UInt32) (b_7 : UInt32) (c_8 : UInt32) (d_9 : UInt32) (e_10 : UInt32) (f_11 : UInt32) (g_12 : UInt32) (h_13 : UInt32) (t_41 : (List UInt32)) (t_42 : Int) (state_2 : (List UInt32)) (t_4 : (List UInt32)) : Option (Lo ((UInt32 × UInt32 × UInt32 × UInt32 × UInt32 × UInt32 × UInt32 × UInt32 × (List UInt32) × Int × Unit) × ((List UInt32) × (List UInt32) × Unit)) ((UInt32 × UInt32 × UInt32 × UInt32 × UInt32 × UInt32 × UInt32 × UInt32 × Unit) × ((List UInt32) × (List UInt32) × Unit)) sha256_Block_R) :=
 bif (decide (t_42 < (64 : Int))) then
 bif inR t_42 64 then
 let x14 := t_41.getD t_42.toNat (0 : UInt32)
 Option.bind (sha256_right N e_10 (6 : Int)) fun y15 =>
 Option.bind (sha256_right N e_10 (11 : Int)) fun y16 =>
 Option.bind (sha256_right N e_10 (25 : Int)) fun y18 =>
 let x19 := (y15.1.1 ^^^ y16.1.1) ^^^ y18.1.1
 bif inR t_42 64 then
 let x26 := g_sha256_constants.getD t_42.toNat (0 : UInt32)
 Option.bind (sha256_right N a_6 (2 : Int)) fun y29 =>
 Option.bind (sha256_right N a_6 (13 : Int)) fun y30 =>
 Option.bind (sha256_right N a_6 (22 : Int)) fun y32 =>
 some (.go (((((((h_13 + x19) + ((e_10 &&& f_11) ^^^ ((~~~ e_10) &&& g_12))) + x26) + x14) + (((y29.1.1 ^^^ y30.1.1) ^^^ y32.1.1) + (((a_6 &&& b_7) ^^^ (a_6 &&& c_8)) ^^^ (b_7 &&& c_8)))), a_6, b_7, c_8, (d_9 + ((((h_13 + x19) + ((e_10 &&& f_11) ^^^ ((~~~ e_10) &&& g_12))) + x26) + x14)), e_10, f_11, g_12, t_41, (w64 (t_42 + (1 : Int))), ()), (state_2, t_4, ())))
 else none
 else none
 else
 some (.br ((a_6, b_7, c_8, d_9, e_10, f_11, g_12, h_13, ()), (state_2, t_4, ())))
def sha256_Block_s5 (N : Nat) (t_112 : (List UInt32)) (t_113 : Int) (state_2 : (List UInt32)) (t_4 : (List UInt32)) : Option (Lo (((List UInt32) × Int × Unit) × ((List UInt32) × (List UInt32) × Unit)) ((Unit) × ((List UInt32) × (List UInt32) × Unit)) sha256_Block_R) :=
 bif (decide (t_113 < (8 : Int))) then
 bif inR t_113 8 then
 bif inR t_113 8 then
 bif inR t_113 8 then
 some (.go ((t_112, (w64 (t_113 + (1 : Int))), ()), ((state_2.set t_113.toNat ((state_2.getD t_113.toNat (0 : UInt32)) + (t_112.getD t_113.toNat (0 : UInt32)))), t_4, ())))
 else none
 else none
 else none
 else
 some (.br ((()), (state_2, t_4, ())))
def sha256_Block_6 (N : Nat) (state_2 : (List UInt32)) (t_4 : (List UInt32)) : Option sha256_Block_R :=
 some ((state_2, true, ()), (()))
def sha256_Block_4 (N : Nat) (t_112 : (List UInt32)) (t_113 : Int) (state_2 : (List UInt32)) (t_4 : (List UInt32)) : Option sha256_Block_R :=
 loopK N (fun y => sha256_Block_s5 N y.1.1 y.1.2.1 y.2.1 y.2.2.1) (fun (e : ((Unit) × ((List UInt32) × (List UInt32) × Unit))) => sha256_Block_6 N e.2.1 e.2.2.1) ((t_112, t_113, ()), (state_2, t_4, ()))
def sha256_Block_3 (N : Nat) (a_6 : UInt32) (b_7 : UInt32) (c_8 : UInt32) (d_9 : UInt32) (e_10 : UInt32) (f_11 : UInt32) (g_12 : UInt32) (h_13 : UInt32) (state_2 : (List UInt32)) (t_4 : (List UInt32)) : Option sha256_Block_R :=
 sha256_Block_4 N ([a_6, b_7, c_8, d_9, e_10, f_11, g_12, h_13] : List UInt32) (0 : Int) state_2 t_4
def sha256_Block_1 (N : Nat) (a_6 : UInt32) (b_7 : UInt32) (c_8 : UInt32) (d_9 : UInt32) (e_10 : UInt32) (f_11 : UInt32) (g_12 : UInt32) (h_13 : UInt32) (t_41 : (List UInt32)) (t_42 : Int) (state_2 : (List UInt32)) (t_4 : (List UInt32)) : Option sha256_Block_R :=
 loopK N (fun y => sha256_Block_s2 N y.1.1 y.1.2.1 y.1.2.2.1 y.1.2.2.2.1 y.1.2.2.2.2.1 y.1.2.2.2.2.2.1 y.1.2.2.2.2.2.2.1 y.1.2.2.2.2.2.2.2.1 y.1.2.2.2.2.2.2.2.2.1 y.1.2.2.2.2.2.2.2.2.2.1 y.2.1 y.2.2.1) (fun (e : ((UInt32 × UInt32 × UInt32 × UInt32 × UInt32 × UInt32 × UInt32 × UInt32 × Unit) × ((List UInt32) × (List UInt32) × Unit))) => sha256_Block_3 N e.1.1 e.1.2.1 e.1.2.2.1 e.1.2.2.2.1 e.1.2.2.2.2.1 e.1.2.2.2.2.2.1 e.1.2.2.2.2.2.2.1 e.1.2.2.2.2.2.2.2.1 e.2.1 e.2.2.1) ((a_6, b_7, c_8, d_9, e_10, f_11, g_12, h_13, t_41, t_42, ()), (state_2, t_4, ()))
def sha256_Block (N : Nat) (state_0 : (List UInt32)) (block_1 : (List UInt8)) : Option sha256_Block_R :=
 bif (!(decide ((block_1.length : Int) = (64 : Int)))) then
 some (((List.replicate 8 (0 : UInt32)), false, ()), (()))
 else
 Option.bind (sha256_schedule N block_1) fun y12 =>
 sha256_Block_1 N (state_0.getD 0 (0 : UInt32)) (state_0.getD 1 (0 : UInt32)) (state_0.getD 2 (0 : UInt32)) (state_0.getD 3 (0 : UInt32)) (state_0.getD 4 (0 : UInt32)) (state_0.getD 5 (0 : UInt32)) (state_0.getD 6 (0 : UInt32)) (state_0.getD 7 (0 : UInt32)) y12.1.1 (0 : Int) state_0 (List.replicate 8 (0 : UInt32))
def sha256_Block_C (N : Nat) : Ctx := ⟨125, G_tys, [(40, sha256_schedule_ctr N), (41, sha256_right_ctr N)], G_globs, G_ifs⟩
def sha256_Block_S0 : Spec := ⟨[.ref 0 (.arr 8 .u32), .ref 1 (.arr 8 .u32), .val .u32, .val .u32, .val .u32, .val .u32, .val .u32, .val .u32, .val .u32, .val .u32, .val (.arr 64 .u32), .val .i64], [(.box 57 (.arr 8 .u32), .pos 0), (.box 57 (.arr 8 .u32), .pos 1)]⟩
def sha256_Block_S1 : Spec := ⟨[.ref 0 (.arr 8 .u32), .ref 1 (.arr 8 .u32), .val (.arr 8 .u32), .val .i64], [(.box 57 (.arr 8 .u32), .pos 0), (.box 57 (.arr 8 .u32), .pos 1)]⟩
def sha256_Block_S2 : Spec := ⟨[.ref 0 (.arr 8 .u32), .ref 1 (.arr 8 .u32)], [(.box 57 (.arr 8 .u32), .pos 0), (.box 57 (.arr 8 .u32), .pos 1)]⟩
def sha256_Block_S3 : Spec := ⟨[.ref 0 (.arr 8 .u32), .ref 1 (.arr 8 .u32), .val .u32, .val .u32, .val .u32, .val .u32, .val .u32, .val .u32, .val .u32, .val .u32], [(.box 57 (.arr 8 .u32), .pos 0), (.box 57 (.arr 8 .u32), .pos 1)]⟩
def sha256_Block_S4 : Spec := ⟨[.val (.arr 8 .u32), .val (.sl .u8)], []⟩
def sha256_Block_S5 : Spec := ⟨[.fp (.arr 8 .u32), .val .bool], []⟩
def sha256_Block_K (_N : Nat) : XE → GS → Option sha256_Block_R := retK 0 [4, 5] [true, false] sha256_Block_S5
def sha256_Block_L : List Code := (bodyOf (some Tryd.f33))
def sha256_Block_L2 : List Code := (loopOf (sha256_Block_L[5]?))
def sha256_Block_L5 : List Code := (loopOf (sha256_Block_L[7]?))
def sha256_Block_K2 (N : Nat) : XE → GS → Option (Lo ((UInt32 × UInt32 × UInt32 × UInt32 × UInt32 × UInt32 × UInt32 × UInt32 × (List UInt32) × Int × Unit) × ((List UInt32) × (List UInt32) × Unit)) ((UInt32 × UInt32 × UInt32 × UInt32 × UInt32 × UInt32 × UInt32 × UInt32 × Unit) × ((List UInt32) × (List UInt32) × Unit)) sha256_Block_R) := roundK (some 0) (fit 0 [2, 4, 6, 7, 8, 9, 10, 11, 12, 13, 41, 42] sha256_Block_S0) (fit 0 [2, 4, 6, 7, 8, 9, 10, 11, 12, 13] sha256_Block_S3) (sha256_Block_K N)
def sha256_Block_K5 (N : Nat) : XE → GS → Option (Lo (((List UInt32) × Int × Unit) × ((List UInt32) × (List UInt32) × Unit)) ((Unit) × ((List UInt32) × (List UInt32) × Unit)) sha256_Block_R) := roundK (some 2) (fit 0 [2, 4, 112, 113] sha256_Block_S1) (fit 0 [2, 4] sha256_Block_S2) (sha256_Block_K N)
theorem sha256_Block_s2_b {E : Env} (N : Nat) (hb : Base Tryd.prog (sha256_Block_C N) E 0) : Blk Tryd.prog (sha256_Block_C N) E [2, 4, 6, 7, 8, 9, 10, 11, 12, 13, 41, 42] sha256_Block_S0 (sha256_Block_L2.drop 0) (fun y => sha256_Block_s2 N y.1.1 y.1.2.1 y.1.2.2.1 y.1.2.2.2.1 y.1.2.2.2.2.1 y.1.2.2.2.2.2.1 y.1.2.2.2.2.2.2.1 y.1.2.2.2.2.2.2.2.1 y.1.2.2.2.2.2.2.2.2.1 y.1.2.2.2.2.2.2.2.2.2.1 y.2.1 y.2.2.1) (sha256_Block_K2 N) :=
 Blk.chunkAt hb 4 (X := (sha256_Block_K2 N .normal)) (NxOk.end (by kernel_rfl)) rfl (fun x => by kernel_rfl)
theorem sha256_Block_s5_b {E : Env} (N : Nat) (hb : Base Tryd.prog (sha256_Block_C N) E 0) : Blk Tryd.prog (sha256_Block_C N) E [2, 4, 112, 113] sha256_Block_S1 (sha256_Block_L5.drop 0) (fun y => sha256_Block_s5 N y.1.1 y.1.2.1 y.2.1 y.2.2.1) (sha256_Block_K5 N) :=
 Blk.chunkAt hb 4 (X := (sha256_Block_K5 N .normal)) (NxOk.end (by kernel_rfl)) rfl (fun x => by kernel_rfl)
theorem sha256_Block_6_b {E : Env} (N : Nat) (hb : Base Tryd.prog (sha256_Block_C N) E 0) : Blk Tryd.prog (sha256_Block_C N) E [2, 4] sha256_Block_S2 (sha256_Block_L.drop 8) (fun y => sha256_Block_6 N y.2.1 y.2.2.1) (sha256_Block_K N) :=
 Blk.chunkAt hb 2 (X := (sha256_Block_K N .normal)) (NxOk.end (by kernel_rfl)) rfl (fun x => by kernel_rfl)
theorem sha256_Block_4_b {E : Env} (N : Nat) (hb : Base Tryd.prog (sha256_Block_C N) E 0) : Blk Tryd.prog (sha256_Block_C N) E [2, 4, 112, 113] sha256_Block_S1 (sha256_Block_L.drop 7) (fun y => sha256_Block_4 N y.1.1 y.1.2.1 y.2.1 y.2.2.1) (sha256_Block_K N) :=
 Blk.loopAt (Nf := N) (hns := [2, 4, 112, 113]) (ans := [2, 4]) (hc := sha256_Block_S1) (ac := sha256_Block_S2) (bid := 2) (step := (fun y => sha256_Block_s5 N y.1.1 y.1.2.1 y.2.1 y.2.2.1)) (J := (fun e => (goK 0 [2, 4] sha256_Block_S2 (fun y => sha256_Block_6 N y.2.1 y.2.2.1)) (sha256_Block_S2.st [2, 4] e))) hb (by kernel_rfl) (Blk.into (X := (goK 0 [2, 4] sha256_Block_S2 (fun y => sha256_Block_6 N y.2.1 y.2.2.1))) (NxOk.go hb (sha256_Block_6_b N hb)) (fun x => by kernel_rfl)) (sha256_Block_s5_b N hb) (fun x => by kernel_rfl)
theorem sha256_Block_3_b {E : Env} (N : Nat) (hb : Base Tryd.prog (sha256_Block_C N) E 0) : Blk Tryd.prog (sha256_Block_C N) E [2, 4, 6, 7, 8, 9, 10, 11, 12, 13] sha256_Block_S3 (sha256_Block_L.drop 6) (fun y => sha256_Block_3 N y.1.1 y.1.2.1 y.1.2.2.1 y.1.2.2.2.1 y.1.2.2.2.2.1 y.1.2.2.2.2.2.1 y.1.2.2.2.2.2.2.1 y.1.2.2.2.2.2.2.2.1 y.2.1 y.2.2.1) (sha256_Block_K N) :=
 Blk.chunkAt hb 1 (X := (goK 0 [2, 4, 112, 113] sha256_Block_S1 (fun y => sha256_Block_4 N y.1.1 y.1.2.1 y.2.1 y.2.2.1))) (NxOk.go hb (sha256_Block_4_b N hb)) rfl (fun x => by kernel_rfl)
theorem sha256_Block_1_b {E : Env} (N : Nat) (hb : Base Tryd.prog (sha256_Block_C N) E 0) : Blk Tryd.prog (sha256_Block_C N) E [2, 4, 6, 7, 8, 9, 10, 11, 12, 13, 41, 42] sha256_Block_S0 (sha256_Block_L.drop 5) (fun y => sha256_Block_1 N y.1.1 y.1.2.1 y.1.2.2.1 y.1.2.2.2.1 y.1.2.2.2.2.1 y.1.2.2.2.2.2.1 y.1.2.2.2.2.2.2.1 y.1.2.2.2.2.2.2.2.1 y.1.2.2.2.2.2.2.2.2.1 y.1.2.2.2.2.2.2.2.2.2.1 y.2.1 y.2.2.1) (sha256_Block_K N) :=
 Blk.loopAt (Nf := N) (hns := [2, 4, 6, 7, 8, 9, 10, 11, 12, 13, 41, 42]) (ans := [2, 4, 6, 7, 8, 9, 10, 11, 12, 13]) (hc := sha256_Block_S0) (ac := sha256_Block_S3) (bid := 0) (step := (fun y => sha256_Block_s2 N y.1.1 y.1.2.1 y.1.2.2.1 y.1.2.2.2.1 y.1.2.2.2.2.1 y.1.2.2.2.2.2.1 y.1.2.2.2.2.2.2.1 y.1.2.2.2.2.2.2.2.1 y.1.2.2.2.2.2.2.2.2.1 y.1.2.2.2.2.2.2.2.2.2.1 y.2.1 y.2.2.1)) (J := (fun e => (goK 0 [2, 4, 6, 7, 8, 9, 10, 11, 12, 13] sha256_Block_S3 (fun y => sha256_Block_3 N y.1.1 y.1.2.1 y.1.2.2.1 y.1.2.2.2.1 y.1.2.2.2.2.1 y.1.2.2.2.2.2.1 y.1.2.2.2.2.2.2.1 y.1.2.2.2.2.2.2.2.1 y.2.1 y.2.2.1)) (sha256_Block_S3.st [2, 4, 6, 7, 8, 9, 10, 11, 12, 13] e))) hb (by kernel_rfl) (Blk.into (X := (goK 0 [2, 4, 6, 7, 8, 9, 10, 11, 12, 13] sha256_Block_S3 (fun y => sha256_Block_3 N y.1.1 y.1.2.1 y.1.2.2.1 y.1.2.2.2.1 y.1.2.2.2.2.1 y.1.2.2.2.2.2.1 y.1.2.2.2.2.2.2.1 y.1.2.2.2.2.2.2.2.1 y.2.1 y.2.2.1))) (NxOk.go hb (sha256_Block_3_b N hb)) (fun x => by kernel_rfl)) (sha256_Block_s2_b N hb) (fun x => by kernel_rfl)
theorem sha256_Block_b {E : Env} (N : Nat) (hb : Base Tryd.prog (sha256_Block_C N) E 0) : Blk Tryd.prog (sha256_Block_C N) E (List.range sha256_Block_S4.ks.length) sha256_Block_S4 (sha256_Block_L.drop 0) (fun y => sha256_Block N y.1.1 y.1.2.1) (sha256_Block_K N) :=
 Blk.chunkAt hb 5 (X := (goK 0 [2, 4, 6, 7, 8, 9, 10, 11, 12, 13, 41, 42] sha256_Block_S0 (fun y => sha256_Block_1 N y.1.1 y.1.2.1 y.1.2.2.1 y.1.2.2.2.1 y.1.2.2.2.2.1 y.1.2.2.2.2.2.1 y.1.2.2.2.2.2.2.1 y.1.2.2.2.2.2.2.2.1 y.1.2.2.2.2.2.2.2.2.1 y.1.2.2.2.2.2.2.2.2.2.1 y.2.1 y.2.2.1))) (NxOk.go hb (sha256_Block_1_b N hb)) rfl (fun x => by kernel_rfl)
def sha256_Block_ctr (N : Nat) : Ctr := ⟨sha256_Block_S4, sha256_Block_S5.un [true, false], 0, (fun y => sha256_Block N y.1.1 y.1.2.1)⟩
theorem sha256_Block_ctrs (N : Nat) : CtrsOk Tryd.prog (sha256_Block_C N) := ctrs_of (Γ := sha256_Block_C N) G_ifs_ok (by
 intro p hp
 simp only [sha256_Block_C, List.mem_cons, List.not_mem_nil, or_false] at hp
 rcases hp with rfl | rfl
 · exact sha256_schedule_ok N
 · exact sha256_right_ok N)
theorem sha256_Block_ok (N : Nat) : Ctr.ok Tryd.prog G_globs 33 (sha256_Block_ctr N) :=
 ctr_fn (Γ := sha256_Block_C N) (rfit := sha256_Block_S5) (bs := [true, false]) (res := [4, 5]) (by kernel_rfl) (tys_ok G_tys_ok) (sha256_Block_ctrs N) Tryd.func33 (by kernel_rfl) (by kernel_rfl) Tryd.ntmps33 (by kernel_rfl) (by kernel_rfl) (by kernel_rfl) (by kernel_rfl) (fun E hb => sha256_Block_b N hb)
/-! ipsecgate/sha256.Sum -/
abbrev sha256_Sum_R : Type := ((Unit) × ((List UInt8) × Unit))
def sha256_Sum_s2 (N : Nat) (all_3 : (List UInt8)) (at_5 : Int) (state_4 : (List UInt32)) : Option (Lo (((List UInt8) × Int × Unit) × ((List UInt32) × Unit)) ((Unit) × ((List UInt32) × Unit)) sha256_Sum_R) :=
 bif (decide (at_5 < (all_3.length : Int))) then
 let x6 := w64 (at_5 + (64 : Int))
 bif decide (0 ≤ at_5) && decide (at_5 ≤ x6) && decide (x6 ≤ (all_3.length : Int)) && true then
 Option.bind (sha256_Block N state_4 (cut all_3 at_5.toNat x6.toNat)) fun y8 =>
 some (.go ((all_3, (w64 (at_5 + (64 : Int))), ()), (y8.1.1, ())))
 else none
 else
 some (.br ((()), (state_4, ())))
def sha256_Sum_s5 (N : Nat) (t_32 : (List UInt32)) (t_33 : Int) (out_6 : (List UInt8)) : Option (Lo (((List UInt32) × Int × Unit) × ((List UInt8) × Unit)) ((Unit) × ((List UInt8) × Unit)) sha256_Sum_R) :=
 bif (decide (t_33 < (8 : Int))) then
 bif inR t_33 8 then
 Option.bind (wire_Put N (t_32.getD t_33.toNat (0 : UInt32)).toUInt64 (4 : Int) out_6) fun y12 =>
 some (.go ((t_32, (w64 (t_33 + (1 : Int))), ()), (y12.2.1, ())))
 else none
 else
 some (.br ((()), (out_6, ())))
def sha256_Sum_6 (N : Nat) (out_6 : (List UInt8)) : Option sha256_Sum_R :=
 some ((()), (out_6, ()))
def sha256_Sum_4 (N : Nat) (t_32 : (List UInt32)) (t_33 : Int) (out_6 : (List UInt8)) : Option sha256_Sum_R :=
 loopK N (fun y => sha256_Sum_s5 N y.1.1 y.1.2.1 y.2.1) (fun (e : ((Unit) × ((List UInt8) × Unit))) => sha256_Sum_6 N e.2.1) ((t_32, t_33, ()), (out_6, ()))
def sha256_Sum_3 (N : Nat) (state_4 : (List UInt32)) : Option sha256_Sum_R :=
 sha256_Sum_4 N state_4 (0 : Int) ([] : List UInt8)
def sha256_Sum_1 (N : Nat) (at_5 : Int) (all_3 : (List UInt8)) (state_4 : (List UInt32)) : Option sha256_Sum_R :=
 loopK N (fun y => sha256_Sum_s2 N y.1.1 y.1.2.1 y.2.1) (fun (e : ((Unit) × ((List UInt32) × Unit))) => sha256_Sum_3 N e.2.1) ((all_3, at_5, ()), (state_4, ()))
def sha256_Sum (N : Nat) (b_0 : (List UInt8)) : Option sha256_Sum_R :=
 bif room (0 + b_0.length) 1 then
 Option.bind (sha256_Pad N (b_0.length : Int)) fun y2 =>
 bif room (b_0.length + y2.2.1.length) 1 then
 sha256_Sum_1 N (0 : Int) (b_0 ++ y2.2.1) g_sha256_initial
 else none
 else none
def sha256_Sum_C (N : Nat) : Ctx := ⟨42, G_tys, [(32, sha256_Pad_ctr N), (33, sha256_Block_ctr N), (34, wire_Put_ctr N)], G_globs, G_ifs⟩
def sha256_Sum_S0 : Spec := ⟨[.val (.sl .u8), .ref 0 (.arr 8 .u32), .val .i64], [(.box 57 (.arr 8 .u32), .pos 1)]⟩
def sha256_Sum_S1 : Spec := ⟨[.row 0, .val (.arr 8 .u32), .val .i64], [(.row 5 .u8, .pos 0)]⟩
def sha256_Sum_S2 : Spec := ⟨[.row 0], [(.row 5 .u8, .pos 0)]⟩
def sha256_Sum_S3 : Spec := ⟨[.ref 0 (.arr 8 .u32)], [(.box 57 (.arr 8 .u32), .pos 0)]⟩
def sha256_Sum_S4 : Spec := ⟨[.row 0, .ref 1 (.arr 8 .u32), .val .i64], [(.row 5 .u8, .pos 0), (.box 57 (.arr 8 .u32), .pos 1)]⟩
def sha256_Sum_S5 : Spec := ⟨[.val (.sl .u8)], []⟩
def sha256_Sum_K (_N : Nat) : XE → GS → Option sha256_Sum_R := retK 0 [2] [false] sha256_Sum_S2
def sha256_Sum_L : List Code := (bodyOf (some Tryd.f25))
def sha256_Sum_L2 : List Code := (loopOf (sha256_Sum_L[4]?))
def sha256_Sum_L5 : List Code := (loopOf (sha256_Sum_L[7]?))
def sha256_Sum_K2 (N : Nat) : XE → GS → Option (Lo (((List UInt8) × Int × Unit) × ((List UInt32) × Unit)) ((Unit) × ((List UInt32) × Unit)) sha256_Sum_R) := roundK (some 0) (fit 0 [3, 4, 5] sha256_Sum_S0) (fit 0 [4] sha256_Sum_S3) (sha256_Sum_K N)
def sha256_Sum_K5 (N : Nat) : XE → GS → Option (Lo (((List UInt32) × Int × Unit) × ((List UInt8) × Unit)) ((Unit) × ((List UInt8) × Unit)) sha256_Sum_R) := roundK (some 2) (fit 0 [6, 32, 33] sha256_Sum_S1) (fit 0 [6] sha256_Sum_S2) (sha256_Sum_K N)
theorem sha256_Sum_s2_b {E : Env} (N : Nat) (hb : Base Tryd.prog (sha256_Sum_C N) E 0) : Blk Tryd.prog (sha256_Sum_C N) E [3, 4, 5] sha256_Sum_S0 (sha256_Sum_L2.drop 0) (fun y => sha256_Sum_s2 N y.1.1 y.1.2.1 y.2.1) (sha256_Sum_K2 N) :=
 Blk.chunkAt hb 4 (X := (sha256_Sum_K2 N .normal)) (NxOk.end (by kernel_rfl)) rfl (fun x => by kernel_rfl)
theorem sha256_Sum_s5_b {E : Env} (N : Nat) (hb : Base Tryd.prog (sha256_Sum_C N) E 0) : Blk Tryd.prog (sha256_Sum_C N) E [6, 32, 33] sha256_Sum_S1 (sha256_Sum_L5.drop 0) (fun y => sha256_Sum_s5 N y.1.1 y.1.2.1 y.2.1) (sha256_Sum_K5 N) :=
 Blk.chunkAt hb 4 (X := (sha256_Sum_K5 N .normal)) (NxOk.end (by kernel_rfl)) rfl (fun x => by kernel_rfl)
theorem sha256_Sum_6_b {E : Env} (N : Nat) (hb : Base Tryd.prog (sha256_Sum_C N) E 0) : Blk Tryd.prog (sha256_Sum_C N) E [6] sha256_Sum_S2 (sha256_Sum_L.drop 8) (fun y => sha256_Sum_6 N y.2.1) (sha256_Sum_K N) :=
 Blk.chunkAt hb 2 (X := (sha256_Sum_K N .normal)) (NxOk.end (by kernel_rfl)) rfl (fun x => by kernel_rfl)
theorem sha256_Sum_4_b {E : Env} (N : Nat) (hb : Base Tryd.prog (sha256_Sum_C N) E 0) : Blk Tryd.prog (sha256_Sum_C N) E [6, 32, 33] sha256_Sum_S1 (sha256_Sum_L.drop 7) (fun y => sha256_Sum_4 N y.1.1 y.1.2.1 y.2.1) (sha256_Sum_K N) :=
 Blk.loopAt (Nf := N) (hns := [6, 32, 33]) (ans := [6]) (hc := sha256_Sum_S1) (ac := sha256_Sum_S2) (bid := 2) (step := (fun y => sha256_Sum_s5 N y.1.1 y.1.2.1 y.2.1)) (J := (fun e => (goK 0 [6] sha256_Sum_S2 (fun y => sha256_Sum_6 N y.2.1)) (sha256_Sum_S2.st [6] e))) hb (by kernel_rfl) (Blk.into (X := (goK 0 [6] sha256_Sum_S2 (fun y => sha256_Sum_6 N y.2.1))) (NxOk.go hb (sha256_Sum_6_b N hb)) (fun x => by kernel_rfl)) (sha256_Sum_s5_b N hb) (fun x => by kernel_rfl)
theorem sha256_Sum_3_b {E : Env} (N : Nat) (hb : Base Tryd.prog (sha256_Sum_C N) E 0) : Blk Tryd.prog (sha256_Sum_C N) E [4] sha256_Sum_S3 (sha256_Sum_L.drop 5) (fun y => sha256_Sum_3 N y.2.1) (sha256_Sum_K N) :=
 Blk.chunkAt hb 2 (X := (goK 0 [6, 32, 33] sha256_Sum_S1 (fun y => sha256_Sum_4 N y.1.1 y.1.2.1 y.2.1))) (NxOk.go hb (sha256_Sum_4_b N hb)) rfl (fun x => by kernel_rfl)
theorem sha256_Sum_1_b {E : Env} (N : Nat) (hb : Base Tryd.prog (sha256_Sum_C N) E 0) : Blk Tryd.prog (sha256_Sum_C N) E [3, 4, 5] sha256_Sum_S4 (sha256_Sum_L.drop 4) (fun y => sha256_Sum_1 N y.1.1 y.2.1 y.2.2.1) (sha256_Sum_K N) :=
 Blk.loopAt (Nf := N) (hns := [3, 4, 5]) (ans := [4]) (hc := sha256_Sum_S0) (ac := sha256_Sum_S3) (bid := 0) (step := (fun y => sha256_Sum_s2 N y.1.1 y.1.2.1 y.2.1)) (J := (fun e => (goK 0 [4] sha256_Sum_S3 (fun y => sha256_Sum_3 N y.2.1)) (sha256_Sum_S3.st [4] e))) hb (by kernel_rfl) (Blk.into (X := (goK 0 [4] sha256_Sum_S3 (fun y => sha256_Sum_3 N y.2.1))) (NxOk.go hb (sha256_Sum_3_b N hb)) (fun x => by kernel_rfl)) (sha256_Sum_s2_b N hb) (fun x => by kernel_rfl)
theorem sha256_Sum_b {E : Env} (N : Nat) (hb : Base Tryd.prog (sha256_Sum_C N) E 0) : Blk Tryd.prog (sha256_Sum_C N) E (List.range sha256_Sum_S5.ks.length) sha256_Sum_S5 (sha256_Sum_L.drop 0) (fun y => sha256_Sum N y.1.1) (sha256_Sum_K N) :=
 Blk.chunkAt hb 4 (X := (goK 0 [3, 4, 5] sha256_Sum_S4 (fun y => sha256_Sum_1 N y.1.1 y.2.1 y.2.2.1))) (NxOk.go hb (sha256_Sum_1_b N hb)) rfl (fun x => by kernel_rfl)
def sha256_Sum_ctr (N : Nat) : Ctr := ⟨sha256_Sum_S5, sha256_Sum_S2.un [false], 0, (fun y => sha256_Sum N y.1.1)⟩
theorem sha256_Sum_ctrs (N : Nat) : CtrsOk Tryd.prog (sha256_Sum_C N) := ctrs_of (Γ := sha256_Sum_C N) G_ifs_ok (by
 intro p hp
 simp only [sha256_Sum_C, List.mem_cons, List.not_mem_nil, or_false] at hp
 rcases hp with rfl | rfl | rfl
 · exact sha256_Pad_ok N
 · exact sha256_Block_ok N
 · exact wire_Put_ok N)
theorem sha256_Sum_ok (N : Nat) : Ctr.ok Tryd.prog G_globs 25 (sha256_Sum_ctr N) :=
 ctr_fn (Γ := sha256_Sum_C N) (rfit := sha256_Sum_S2) (bs := [false]) (res := [2]) (by kernel_rfl) (tys_ok G_tys_ok) (sha256_Sum_ctrs N) Tryd.func25 (by kernel_rfl) (by kernel_rfl) Tryd.ntmps25 (by kernel_rfl) (by kernel_rfl) (by kernel_rfl) (by kernel_rfl) (fun E hb => sha256_Sum_b N hb)
/-! ipsecgate/concrete.Secret -/
abbrev concrete_Secret_R : Type := ((Int × Unit) × ((List UInt8) × Unit))
def concrete_Secret (N : Nat) (t_0 : D28) : Option concrete_Secret_R :=
 Option.bind (concrete_Encode N t_0) fun y1 =>
 bif (!(decide (y1.1.1 = (0 : Int)))) then
 some ((y1.1.1, ()), (([] : List UInt8), ()))
 else
 Option.bind (sha256_Sum N y1.2.1) fun y3 =>
 some (((0 : Int), ()), (y3.2.1, ()))
def concrete_Secret_C (N : Nat) : Ctx := ⟨16, G_tys, [(24, concrete_Encode_ctr N), (25, sha256_Sum_ctr N)], G_globs, G_ifs⟩
def concrete_Secret_S0 : Spec := ⟨[.val T28], []⟩
def concrete_Secret_S1 : Spec := ⟨[.row 0, .val .i64], [(.row 5 .u8, .pos 0)]⟩
def concrete_Secret_K (_N : Nat) : XE → GS → Option concrete_Secret_R := retK 0 [2, 3] [false, false] concrete_Secret_S1
def concrete_Secret_L : List Code := (bodyOf (some Tryd.f10))
theorem concrete_Secret_b {E : Env} (N : Nat) (hb : Base Tryd.prog (concrete_Secret_C N) E 0) : Blk Tryd.prog (concrete_Secret_C N) E (List.range concrete_Secret_S0.ks.length) concrete_Secret_S0 (concrete_Secret_L.drop 0) (fun y => concrete_Secret N y.1.1) (concrete_Secret_K N) :=
 Blk.chunkAt hb 6 (X := (concrete_Secret_K N .normal)) (NxOk.end (by kernel_rfl)) rfl (fun x => by kernel_rfl)
def concrete_Secret_ctr (N : Nat) : Ctr := ⟨concrete_Secret_S0, concrete_Secret_S1.un [false, false], 0, (fun y => concrete_Secret N y.1.1)⟩
theorem concrete_Secret_ctrs (N : Nat) : CtrsOk Tryd.prog (concrete_Secret_C N) := ctrs_of (Γ := concrete_Secret_C N) G_ifs_ok (by
 intro p hp
 simp only [concrete_Secret_C, List.mem_cons, List.not_mem_nil, or_false] at hp
 rcases hp with rfl | rfl
 · exact concrete_Encode_ok N
 · exact sha256_Sum_ok N)
theorem concrete_Secret_ok (N : Nat) : Ctr.ok Tryd.prog G_globs 10 (concrete_Secret_ctr N) :=
 ctr_fn (Γ := concrete_Secret_C N) (rfit := concrete_Secret_S1) (bs := [false, false]) (res := [2, 3]) (by kernel_rfl) (tys_ok G_tys_ok) (concrete_Secret_ctrs N) Tryd.func10 (by kernel_rfl) (by kernel_rfl) Tryd.ntmps10 (by kernel_rfl) (by kernel_rfl) (by kernel_rfl) (by kernel_rfl) (fun E hb => concrete_Secret_b N hb)
/-! ipsecgate/ipsecgateref24.SameBytes -/
abbrev ref24_SameBytes_R : Type := ((Bool × Unit) × (Unit))
def ref24_SameBytes_s2 (N : Nat) (a_0 : (List UInt8)) (b_1 : (List UInt8)) (i_5 : Int) : Option (Lo (((List UInt8) × (List UInt8) × Int × Unit) × (Unit)) ((Unit) × (Unit)) ref24_SameBytes_R) :=
 bif (decide (i_5 < (a_0.length : Int))) then
 bif inR i_5 a_0.length then
 bif inR i_5 b_1.length then
 bif (!(decide ((a_0.getD i_5.toNat (0 : UInt8)) = (b_1.getD i_5.toNat (0 : UInt8))))) then
 some (.rt ((false, ()), (())))
 else
 some (.go ((a_0, b_1, (w64 (i_5 + (1 : Int))), ()), (())))
 else none
 else none
 else
 some (.br ((()), (())))
def ref24_SameBytes_3 (N : Nat) : Option ref24_SameBytes_R :=
 some ((true, ()), (()))
def ref24_SameBytes_1 (N : Nat) (a_0 : (List UInt8)) (b_1 : (List UInt8)) (i_5 : Int) : Option ref24_SameBytes_R :=
 loopK N (fun y => ref24_SameBytes_s2 N y.1.1 y.1.2.1 y.1.2.2.1) (fun (e : ((Unit) × (Unit))) => ref24_SameBytes_3 N) ((a_0, b_1, i_5, ()), (()))
def ref24_SameBytes (N : Nat) (a_0 : (List UInt8)) (b_1 : (List UInt8)) : Option ref24_SameBytes_R :=
 bif (!(decide ((a_0.length : Int) = (b_1.length : Int)))) then
 some ((false, ()), (()))
 else
 ref24_SameBytes_1 N a_0 b_1 (0 : Int)
def ref24_SameBytes_C (N : Nat) : Ctx := ⟨26, G_tys, [], G_globs, G_ifs⟩
def ref24_SameBytes_S0 : Spec := ⟨[.val (.sl .u8), .val (.sl .u8), .val .i64], []⟩
def ref24_SameBytes_S1 : Spec := ⟨[], []⟩
def ref24_SameBytes_S2 : Spec := ⟨[.val (.sl .u8), .val (.sl .u8)], []⟩
def ref24_SameBytes_S3 : Spec := ⟨[.val .bool], []⟩
def ref24_SameBytes_K (_N : Nat) : XE → GS → Option ref24_SameBytes_R := retK 0 [4] [false] ref24_SameBytes_S3
def ref24_SameBytes_L : List Code := (bodyOf (some Tryd.f12))
def ref24_SameBytes_L2 : List Code := (loopOf (ref24_SameBytes_L[4]?))
def ref24_SameBytes_K2 (N : Nat) : XE → GS → Option (Lo (((List UInt8) × (List UInt8) × Int × Unit) × (Unit)) ((Unit) × (Unit)) ref24_SameBytes_R) := roundK (some 0) (fit 0 [0, 1, 5] ref24_SameBytes_S0) (fit 0 [] ref24_SameBytes_S1) (ref24_SameBytes_K N)
theorem ref24_SameBytes_s2_b {E : Env} (N : Nat) (hb : Base Tryd.prog (ref24_SameBytes_C N) E 0) : Blk Tryd.prog (ref24_SameBytes_C N) E [0, 1, 5] ref24_SameBytes_S0 (ref24_SameBytes_L2.drop 0) (fun y => ref24_SameBytes_s2 N y.1.1 y.1.2.1 y.1.2.2.1) (ref24_SameBytes_K2 N) :=
 Blk.chunkAt hb 4 (X := (ref24_SameBytes_K2 N .normal)) (NxOk.end (by kernel_rfl)) rfl (fun x => by kernel_rfl)
theorem ref24_SameBytes_3_b {E : Env} (N : Nat) (hb : Base Tryd.prog (ref24_SameBytes_C N) E 0) : Blk Tryd.prog (ref24_SameBytes_C N) E [] ref24_SameBytes_S1 (ref24_SameBytes_L.drop 5) (fun y => ref24_SameBytes_3 N) (ref24_SameBytes_K N) :=
 Blk.chunkAt hb 2 (X := (ref24_SameBytes_K N .normal)) (NxOk.end (by kernel_rfl)) rfl (fun x => by kernel_rfl)
theorem ref24_SameBytes_1_b {E : Env} (N : Nat) (hb : Base Tryd.prog (ref24_SameBytes_C N) E 0) : Blk Tryd.prog (ref24_SameBytes_C N) E [0, 1, 5] ref24_SameBytes_S0 (ref24_SameBytes_L.drop 4) (fun y => ref24_SameBytes_1 N y.1.1 y.1.2.1 y.1.2.2.1) (ref24_SameBytes_K N) :=
 Blk.loopAt (Nf := N) (hns := [0, 1, 5]) (ans := []) (hc := ref24_SameBytes_S0) (ac := ref24_SameBytes_S1) (bid := 0) (step := (fun y => ref24_SameBytes_s2 N y.1.1 y.1.2.1 y.1.2.2.1)) (J := (fun e => (goK 0 [] ref24_SameBytes_S1 (fun y => ref24_SameBytes_3 N)) (ref24_SameBytes_S1.st [] e))) hb (by kernel_rfl) (Blk.into (X := (goK 0 [] ref24_SameBytes_S1 (fun y => ref24_SameBytes_3 N))) (NxOk.go hb (ref24_SameBytes_3_b N hb)) (fun x => by kernel_rfl)) (ref24_SameBytes_s2_b N hb) (fun x => by kernel_rfl)
theorem ref24_SameBytes_b {E : Env} (N : Nat) (hb : Base Tryd.prog (ref24_SameBytes_C N) E 0) : Blk Tryd.prog (ref24_SameBytes_C N) E (List.range ref24_SameBytes_S2.ks.length) ref24_SameBytes_S2 (ref24_SameBytes_L.drop 0) (fun y => ref24_SameBytes N y.1.1 y.1.2.1) (ref24_SameBytes_K N) :=
 Blk.chunkAt hb 4 (X := (goK 0 [0, 1, 5] ref24_SameBytes_S0 (fun y => ref24_SameBytes_1 N y.1.1 y.1.2.1 y.1.2.2.1))) (NxOk.go hb (ref24_SameBytes_1_b N hb)) rfl (fun x => by kernel_rfl)
def ref24_SameBytes_ctr (N : Nat) : Ctr := ⟨ref24_SameBytes_S2, ref24_SameBytes_S3.un [false], 0, (fun y => ref24_SameBytes N y.1.1 y.1.2.1)⟩
theorem ref24_SameBytes_ctrs (N : Nat) : CtrsOk Tryd.prog (ref24_SameBytes_C N) := ctrs_nil G_ifs_ok rfl
theorem ref24_SameBytes_ok (N : Nat) : Ctr.ok Tryd.prog G_globs 12 (ref24_SameBytes_ctr N) :=
 ctr_fn (Γ := ref24_SameBytes_C N) (rfit := ref24_SameBytes_S3) (bs := [false]) (res := [4]) (by kernel_rfl) (tys_ok G_tys_ok) (ref24_SameBytes_ctrs N) Tryd.func12 (by kernel_rfl) (by kernel_rfl) Tryd.ntmps12 (by kernel_rfl) (by kernel_rfl) (by kernel_rfl) (by kernel_rfl) (fun E hb => ref24_SameBytes_b N hb)
/-! ipsecgate/ipsecgateref26.Equal -/
abbrev ref26_Equal_R : Type := ((Bool × Unit) × (Unit))
def ref26_Equal_s3 (N : Nat) (rc : D28 → D28 → Option ref26_Equal_R) (i_5 : Int) (a_2 : D28) (b_3 : D28) : Option (Lo ((Int × Unit) × (D28 × D28 × Unit)) ((Unit) × (Unit)) ref26_Equal_R) :=
 bif (decide (i_5 < ((List.map Tree.un a_2.2.2.1).length : Int))) then
 let x5 := List.map Tree.un a_2.2.2.1
 bif inR i_5 x5.length then
 let x7 := List.map Tree.un b_3.2.2.1
 bif inR i_5 x7.length then
 Option.bind (rc (x5.getD i_5.toNat ((0 : Int), (0 : Int), ([] : List Tree), ())) (x7.getD i_5.toNat ((0 : Int), (0 : Int), ([] : List Tree), ()))) fun y9 =>
 bif (!y9.1.1) then
 some (.rt ((false, ()), (())))
 else
 some (.go (((w64 (i_5 + (1 : Int))), ()), (a_2, b_3, ())))
 else none
 else none
 else
 some (.br ((()), (())))
def ref26_Equal_4 (N : Nat) (rc : D28 → D28 → Option ref26_Equal_R) : Option ref26_Equal_R :=
 some ((true, ()), (()))
def ref26_Equal_2 (N : Nat) (rc : D28 → D28 → Option ref26_Equal_R) (i_5 : Int) (a_2 : D28) (b_3 : D28) : Option ref26_Equal_R :=
 loopK N (fun y => ref26_Equal_s3 N rc y.1.1 y.2.1 y.2.2.1) (fun (e : ((Unit) × (Unit))) => ref26_Equal_4 N rc) ((i_5, ()), (a_2, b_3, ()))
def ref26_Equal_1 (N : Nat) (rc : D28 → D28 → Option ref26_Equal_R) (t_26 : Bool) (a_2 : D28) (b_3 : D28) : Option ref26_Equal_R :=
 bif t_26 then
 some ((false, ()), (()))
 else
 ref26_Equal_2 N rc (0 : Int) a_2 b_3
def ref26_Equal (N : Nat) (rc : D28 → D28 → Option ref26_Equal_R) (a_0 : D28) (b_1 : D28) : Option ref26_Equal_R :=
 bif (!(decide (a_0.1 = b_1.1))) then
 ref26_Equal_1 N rc true a_0 b_1
 else
 bif (!(decide (a_0.2.1 = b_1.2.1))) then
 ref26_Equal_1 N rc true a_0 b_1
 else
 ref26_Equal_1 N rc (!(decide (((List.map Tree.un a_0.2.2.1).length : Int) = ((List.map Tree.un b_1.2.2.1).length : Int)))) a_0 b_1
def ref26_Equal_S0 : Spec := ⟨[.ref 0 T28, .ref 1 T28, .val .i64], [(.box 28 T28, .pos 0), (.box 28 T28, .pos 1)]⟩
def ref26_Equal_S1 : Spec := ⟨[], []⟩
def ref26_Equal_S2 : Spec := ⟨[.ref 0 T28, .ref 1 T28, .val .bool], [(.box 28 T28, .pos 0), (.box 28 T28, .pos 1)]⟩
def ref26_Equal_S3 : Spec := ⟨[.val T28, .val T28], []⟩
def ref26_Equal_S4 : Spec := ⟨[.val .bool], []⟩
def ref26_Equal_ftr (N : Nat) (rc : D28 → D28 → Option ref26_Equal_R) : Ctr := ⟨ref26_Equal_S3, ref26_Equal_S4.un [false], 0, (fun y => rc y.1.1 y.1.2.1)⟩
def ref26_Equal_C (N : Nat) (rc : D28 → D28 → Option ref26_Equal_R) : Ctx := ⟨46, G_tys, [(13, ref26_Equal_ftr N rc)], G_globs, G_ifs⟩
def ref26_Equal_K (_N : Nat) (_rc : D28 → D28 → Option ref26_Equal_R) : XE → GS → Option ref26_Equal_R := retK 0 [4] [false] ref26_Equal_S4
def ref26_Equal_L : List Code := (bodyOf (some Tryd.f13))
def ref26_Equal_L3 : List Code := (loopOf (ref26_Equal_L[4]?))
def ref26_Equal_K3 (N : Nat) (rc : D28 → D28 → Option ref26_Equal_R) : XE → GS → Option (Lo ((Int × Unit) × (D28 × D28 × Unit)) ((Unit) × (Unit)) ref26_Equal_R) := roundK (some 0) (fit 0 [2, 3, 5] ref26_Equal_S0) (fit 0 [] ref26_Equal_S1) (ref26_Equal_K N rc)
theorem ref26_Equal_s3_b {E : Env} (N : Nat) (rc : D28 → D28 → Option ref26_Equal_R) (hb : Base Tryd.prog (ref26_Equal_C N rc) E 0) : Blk Tryd.prog (ref26_Equal_C N rc) E [2, 3, 5] ref26_Equal_S0 (ref26_Equal_L3.drop 0) (fun y => ref26_Equal_s3 N rc y.1.1 y.2.1 y.2.2.1) (ref26_Equal_K3 N rc) :=
 Blk.chunkAt hb 4 (X := (ref26_Equal_K3 N rc .normal)) (NxOk.end (by kernel_rfl)) rfl (fun x => by kernel_rfl)
theorem ref26_Equal_4_b {E : Env} (N : Nat) (rc : D28 → D28 → Option ref26_Equal_R) (hb : Base Tryd.prog (ref26_Equal_C N rc) E 0) : Blk Tryd.prog (ref26_Equal_C N rc) E [] ref26_Equal_S1 (ref26_Equal_L.drop 5) (fun y => ref26_Equal_4 N rc) (ref26_Equal_K N rc) :=
 Blk.chunkAt hb 2 (X := (ref26_Equal_K N rc .normal)) (NxOk.end (by kernel_rfl)) rfl (fun x => by kernel_rfl)
theorem ref26_Equal_2_b {E : Env} (N : Nat) (rc : D28 → D28 → Option ref26_Equal_R) (hb : Base Tryd.prog (ref26_Equal_C N rc) E 0) : Blk Tryd.prog (ref26_Equal_C N rc) E [2, 3, 5] ref26_Equal_S0 (ref26_Equal_L.drop 4) (fun y => ref26_Equal_2 N rc y.1.1 y.2.1 y.2.2.1) (ref26_Equal_K N rc) :=
 Blk.loopAt (Nf := N) (hns := [2, 3, 5]) (ans := []) (hc := ref26_Equal_S0) (ac := ref26_Equal_S1) (bid := 0) (step := (fun y => ref26_Equal_s3 N rc y.1.1 y.2.1 y.2.2.1)) (J := (fun e => (goK 0 [] ref26_Equal_S1 (fun y => ref26_Equal_4 N rc)) (ref26_Equal_S1.st [] e))) hb (by kernel_rfl) (Blk.into (X := (goK 0 [] ref26_Equal_S1 (fun y => ref26_Equal_4 N rc))) (NxOk.go hb (ref26_Equal_4_b N rc hb)) (fun x => by kernel_rfl)) (ref26_Equal_s3_b N rc hb) (fun x => by kernel_rfl)
theorem ref26_Equal_1_b {E : Env} (N : Nat) (rc : D28 → D28 → Option ref26_Equal_R) (hb : Base Tryd.prog (ref26_Equal_C N rc) E 0) : Blk Tryd.prog (ref26_Equal_C N rc) E [2, 3, 26] ref26_Equal_S2 (ref26_Equal_L.drop 2) (fun y => ref26_Equal_1 N rc y.1.1 y.2.1 y.2.2.1) (ref26_Equal_K N rc) :=
 Blk.chunkAt hb 2 (X := (goK 0 [2, 3, 5] ref26_Equal_S0 (fun y => ref26_Equal_2 N rc y.1.1 y.2.1 y.2.2.1))) (NxOk.go hb (ref26_Equal_2_b N rc hb)) rfl (fun x => by kernel_rfl)
theorem ref26_Equal_b {E : Env} (N : Nat) (rc : D28 → D28 → Option ref26_Equal_R) (hb : Base Tryd.prog (ref26_Equal_C N rc) E 0) : Blk Tryd.prog (ref26_Equal_C N rc) E (List.range ref26_Equal_S3.ks.length) ref26_Equal_S3 (ref26_Equal_L.drop 0) (fun y => ref26_Equal N rc y.1.1 y.1.2.1) (ref26_Equal_K N rc) :=
 Blk.chunkAt hb 2 (X := (goK 0 [2, 3, 26] ref26_Equal_S2 (fun y => ref26_Equal_1 N rc y.1.1 y.2.1 y.2.2.1))) (NxOk.go hb (ref26_Equal_1_b N rc hb)) rfl (fun x => by kernel_rfl)
def ref26_Equal_octr (N : Nat) (rc : D28 → D28 → Option ref26_Equal_R) : Ctr := ⟨ref26_Equal_S3, ref26_Equal_S4.un [false], 0, (fun y => ref26_Equal N rc y.1.1 y.1.2.1)⟩
theorem ref26_Equal_ctrs (N : Nat) (rc : D28 → D28 → Option ref26_Equal_R) (hf : Ctr.ok Tryd.prog G_globs 13 (ref26_Equal_ftr N rc)) : CtrsOk Tryd.prog (ref26_Equal_C N rc) := ctrs_of (Γ := ref26_Equal_C N rc) G_ifs_ok (by
 intro p hp
 simp only [ref26_Equal_C, List.mem_cons, List.not_mem_nil, or_false] at hp
 rcases hp with rfl
 · exact hf)
theorem ref26_Equal_ook (N : Nat) (rc : D28 → D28 → Option ref26_Equal_R) (hf : Ctr.ok Tryd.prog G_globs 13 (ref26_Equal_ftr N rc))  : Ctr.ok Tryd.prog G_globs 13 (ref26_Equal_octr N rc) :=
 ctr_fn (Γ := ref26_Equal_C N rc) (rfit := ref26_Equal_S4) (bs := [false]) (res := [4]) (by kernel_rfl) (tys_ok G_tys_ok) (ref26_Equal_ctrs N rc hf) Tryd.func13 (by kernel_rfl) (by kernel_rfl) Tryd.ntmps13 (by kernel_rfl) (by kernel_rfl) (by kernel_rfl) (by kernel_rfl) (fun E hb => ref26_Equal_b N rc hb)
def ref26_EqualR (N : Nat) : Nat → D28 → D28 → Option ref26_Equal_R
 | 0 => fun _ _ => none
 | n + 1 => fun a_0 b_1 => ref26_Equal N (ref26_EqualR N n) a_0 b_1
theorem ref26_EqualR_ok (N : Nat) : ∀ n : Nat, Ctr.ok Tryd.prog G_globs 13 (ref26_Equal_ftr N (ref26_EqualR N n))
 | 0 => ctr_never Tryd.func13 (by kernel_rfl) (by kernel_rfl) (fun x => rfl)
 | n + 1 => ref26_Equal_ook N (ref26_EqualR N n) (ref26_EqualR_ok N n)
def ref26_Equal_ctr (N : Nat) : Ctr := ref26_Equal_ftr N (ref26_EqualR N N)
theorem ref26_Equal_ok (N : Nat) : Ctr.ok Tryd.prog G_globs 13 (ref26_Equal_ctr N) := ref26_EqualR_ok N N
/-! ipsecgate/ipsecgatelaw44.ConcreteAgrees -/
abbrev law44_ConcreteAgrees_R : Type := ((Bool × Unit) × (Unit))
def law44_ConcreteAgrees (N : Nat) (codes_0 : (List UInt8)) : Option law44_ConcreteAgrees_R :=
 Option.bind (law44_awake N) fun y1 =>
 bif (!y1.1.1) then
 some ((false, ()), (()))
 else
 Option.bind (draw_New N codes_0 (60 : Int)) fun y3 =>
 Option.bind (draw_Codes_Name N y3.2.1) fun y4 =>
 Option.bind (draw_Codes_Name N y4.2.1) fun y5 =>
 Option.bind (draw_Codes_Name N y5.2.1) fun y6 =>
 Option.bind (ref26_Public N y4.1.1) fun y7 =>
 Option.bind (ref26_Agree N y7.1.1 y5.1.1) fun y8 =>
 Option.bind (ref26_Public N y5.1.1) fun y9 =>
 Option.bind (ref26_Agree N y9.1.1 y4.1.1) fun y10 =>
 Option.bind (ref26_Public N y4.1.1) fun y11 =>
 Option.bind (ref26_Agree N y11.1.1 y6.1.1) fun y12 =>
 Option.bind (ref26_Derive N (1 : Int) ([y8.1.1] : List D28)) fun y13 =>
 Option.bind (concrete_Secret N y13.1.1) fun y14 =>
 Option.bind (ref26_Derive N (1 : Int) ([y10.1.1] : List D28)) fun y15 =>
 Option.bind (concrete_Secret N y15.1.1) fun y16 =>
 Option.bind (ref26_Derive N (1 : Int) ([y12.1.1] : List D28)) fun y17 =>
 Option.bind (concrete_Secret N y17.1.1) fun y18 =>
 bif (decide (y14.1.1 = (0 : Int))) then
 bif (decide (y16.1.1 = (0 : Int))) then
 bif (decide (y18.1.1 = (0 : Int))) then
 Option.bind (ref24_SameBytes N y14.2.1 y16.2.1) fun y22 =>
 bif y22.1.1 then
 Option.bind (ref24_SameBytes N y14.2.1 y18.2.1) fun y23 =>
 Option.bind (ref26_EqualR N N y5.1.1 y6.1.1) fun y24 =>
 bif (decide (y23.1.1 = y24.1.1)) then
 some (((decide ((y14.2.1.length : Int) = (32 : Int))), ()), (()))
 else
 some ((false, ()), (()))
 else
 some ((false, ()), (()))
 else
 some ((false, ()), (()))
 else
 some ((false, ()), (()))
 else
 some ((false, ()), (()))
def law44_ConcreteAgrees_C (N : Nat) : Ctx := ⟨100, G_tys, [(5, law44_awake_ctr N), (6, draw_New_ctr N), (7, draw_Codes_Name_ctr N), (9, ref26_Public_ctr N), (8, ref26_Agree_ctr N), (11, ref26_Derive_ctr N), (10, concrete_Secret_ctr N), (12, ref24_SameBytes_ctr N), (13, ref26_Equal_ctr N)], G_globs, G_ifs⟩
def law44_ConcreteAgrees_S0 : Spec := ⟨[.val (.sl .u8)], []⟩
def law44_ConcreteAgrees_S1 : Spec := ⟨[.val .bool], []⟩
def law44_ConcreteAgrees_K (_N : Nat) : XE → GS → Option law44_ConcreteAgrees_R := retK 0 [2] [false] law44_ConcreteAgrees_S1
def law44_ConcreteAgrees_L : List Code := (bodyOf (some Tryd.f3))
theorem law44_ConcreteAgrees_b {E : Env} (N : Nat) (hb : Base Tryd.prog (law44_ConcreteAgrees_C N) E 0) : Blk Tryd.prog (law44_ConcreteAgrees_C N) E (List.range law44_ConcreteAgrees_S0.ks.length) law44_ConcreteAgrees_S0 (law44_ConcreteAgrees_L.drop 0) (fun y => law44_ConcreteAgrees N y.1.1) (law44_ConcreteAgrees_K N) :=
 Blk.chunkAt hb 13 (X := (law44_ConcreteAgrees_K N .normal)) (NxOk.end (by kernel_rfl)) rfl (fun x => by kernel_rfl)
def law44_ConcreteAgrees_ctr (N : Nat) : Ctr := ⟨law44_ConcreteAgrees_S0, law44_ConcreteAgrees_S1.un [false], 0, (fun y => law44_ConcreteAgrees N y.1.1)⟩
theorem law44_ConcreteAgrees_ctrs (N : Nat) : CtrsOk Tryd.prog (law44_ConcreteAgrees_C N) := ctrs_of (Γ := law44_ConcreteAgrees_C N) G_ifs_ok (by
 intro p hp
 simp only [law44_ConcreteAgrees_C, List.mem_cons, List.not_mem_nil, or_false] at hp
 rcases hp with rfl | rfl | rfl | rfl | rfl | rfl | rfl | rfl | rfl
 · exact law44_awake_ok N
 · exact draw_New_ok N
 · exact draw_Codes_Name_ok N
 · exact ref26_Public_ok N
 · exact ref26_Agree_ok N
 · exact ref26_Derive_ok N
 · exact concrete_Secret_ok N
 · exact ref24_SameBytes_ok N
 · exact ref26_Equal_ok N)
theorem law44_ConcreteAgrees_ok (N : Nat) : Ctr.ok Tryd.prog G_globs 3 (law44_ConcreteAgrees_ctr N) :=
 ctr_fn (Γ := law44_ConcreteAgrees_C N) (rfit := law44_ConcreteAgrees_S1) (bs := [false]) (res := [2]) (by kernel_rfl) (tys_ok G_tys_ok) (law44_ConcreteAgrees_ctrs N) Tryd.func3 (by kernel_rfl) (by kernel_rfl) Tryd.ntmps3 (by kernel_rfl) (by kernel_rfl) (by kernel_rfl) (by kernel_rfl) (fun E hb => law44_ConcreteAgrees_b N hb)
end
end Go.Proofs.YtajpblfinenmjaaDoor