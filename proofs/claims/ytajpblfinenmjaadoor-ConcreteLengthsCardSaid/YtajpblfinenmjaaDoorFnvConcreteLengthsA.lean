/- Functions of the program as plain functions, each with the proof that the text computes it. -/
import Derived.Test.YtajpblfinenmjaaDoorFnsConcreteLengthsA
import Derived.Test.YtajpblfinenmjaaDoorRngConcreteLengthsC
set_option linter.unusedVariables false
set_option linter.unusedSimpArgs false
namespace Go.Proofs.YtajpblfinenmjaaDoor
open Go
set_option maxRecDepth 100000
set_option linter.unusedVariables false
noncomputable section
/-! ipsecgate/ipsecgatelaw44.awake -/
abbrev law44_awake_R : Type := ((Bool × Unit) × (Unit))
def law44_awake (N : Nat) : Option law44_awake_R :=
 Option.bind (ref26_Number N (5 : Int)) fun y1 =>
 Option.bind (concrete_Write N y1.1.1) fun y2 =>
 bif (decide (y2.1.1 = (0 : Int))) then
 bif (decide ((y2.2.1.length : Int) = (9 : Int))) then
 bif inR (0 : Int) y2.2.1.length then
 bif (decide ((y2.2.1.getD 0 (0 : UInt8)) = (1 : UInt8))) then
 bif inR (8 : Int) y2.2.1.length then
 some (((decide ((y2.2.1.getD 8 (0 : UInt8)) = (5 : UInt8))), ()), (()))
 else none
 else
 some ((false, ()), (()))
 else none
 else
 some ((false, ()), (()))
 else
 some ((false, ()), (()))
def law44_awake_C (N : Nat) : Ctx := ⟨27, G_tys, [(20, ref26_Number_ctr N), (16, concrete_Write_ctr N)], G_globs, G_ifs⟩
def law44_awake_S0 : Spec := ⟨[], []⟩
def law44_awake_S1 : Spec := ⟨[.val .bool], []⟩
def law44_awake_K (_N : Nat) : XE → GS → Option law44_awake_R := retK 0 [0] [false] law44_awake_S1
def law44_awake_L : List Code := (bodyOf (some Tryd.f5))
theorem law44_awake_b {E : Env} (N : Nat) (hb : Base Tryd.prog (law44_awake_C N) E 0) : Blk Tryd.prog (law44_awake_C N) E (List.range law44_awake_S0.ks.length) law44_awake_S0 (law44_awake_L.drop 0) (fun y => law44_awake N) (law44_awake_K N) :=
 Blk.chunkAt hb 4 (X := (law44_awake_K N .normal)) (NxOk.end (by kernel_rfl)) rfl (fun x => by kernel_rfl)
def law44_awake_ctr (N : Nat) : Ctr := ⟨law44_awake_S0, law44_awake_S1.un [false], 0, (fun y => law44_awake N)⟩
theorem law44_awake_ctrs (N : Nat) : CtrsOk Tryd.prog (law44_awake_C N) := ctrs_of (Γ := law44_awake_C N) G_ifs_ok (by
 intro p hp
 simp only [law44_awake_C, List.mem_cons, List.not_mem_nil, or_false] at hp
 rcases hp with rfl | rfl
 · exact ref26_Number_ok N
 · exact concrete_Write_ok N)
theorem law44_awake_ok (N : Nat) : Ctr.ok Tryd.prog G_globs 5 (law44_awake_ctr N) :=
 ctr_fn (Γ := law44_awake_C N) (rfit := law44_awake_S1) (bs := [false]) (res := [0]) (by kernel_rfl) (tys_ok G_tys_ok) (law44_awake_ctrs N) Tryd.func5 (by kernel_rfl) (by kernel_rfl) Tryd.ntmps5 (by kernel_rfl) (by kernel_rfl) (by kernel_rfl) (by kernel_rfl) (fun E hb => law44_awake_b N hb)
/-! ipsecgate/ipsecgatedraw.New -/
abbrev draw_New_R : Type := ((Unit) × (((List UInt8) × (Int × Unit)) × Unit))
def draw_New (N : Nat) (list_0 : (List UInt8)) (most_1 : Int) : Option draw_New_R :=
 let x1 := (list_0.length : Int)
 let x2 := bif decide (most_1 < x1) then most_1 else x1
 bif decide (0 ≤ (0 : Int)) && decide ((0 : Int) ≤ x2) && decide (x2 ≤ (list_0.length : Int)) && true then
 let x3 := cut list_0 0 x2.toNat
 bif room (0 + x3.length) 1 then
 some ((()), ((x3, (0 : Int), ()), ()))
 else none
 else none
def draw_New_C (N : Nat) : Ctx := ⟨14, G_tys, [], G_globs, G_ifs⟩
def draw_New_S0 : Spec := ⟨[.val (.sl .u8), .val .i64], []⟩
def draw_New_S1 : Spec := ⟨[.ref 0 (.pair (.sl .u8) (.pair .i64 .unit))], [(.box 46 (.pair (.sl .u8) (.pair .i64 .unit)), .pos 0)]⟩
def draw_New_K (_N : Nat) : XE → GS → Option draw_New_R := retK 0 [4] [false] draw_New_S1
def draw_New_L : List Code := (bodyOf (some Tryd.f6))
theorem draw_New_b {E : Env} (N : Nat) (hb : Base Tryd.prog (draw_New_C N) E 0) : Blk Tryd.prog (draw_New_C N) E (List.range draw_New_S0.ks.length) draw_New_S0 (draw_New_L.drop 0) (fun y => draw_New N y.1.1 y.1.2.1) (draw_New_K N) :=
 Blk.chunkAt hb 3 (X := (draw_New_K N .normal)) (NxOk.end (by kernel_rfl)) rfl (fun x => by kernel_rfl)
def draw_New_ctr (N : Nat) : Ctr := ⟨draw_New_S0, draw_New_S1.un [false], 0, (fun y => draw_New N y.1.1 y.1.2.1)⟩
theorem draw_New_ctrs (N : Nat) : CtrsOk Tryd.prog (draw_New_C N) := ctrs_nil G_ifs_ok rfl
theorem draw_New_ok (N : Nat) : Ctr.ok Tryd.prog G_globs 6 (draw_New_ctr N) :=
 ctr_fn (Γ := draw_New_C N) (rfit := draw_New_S1) (bs := [false]) (res := [4]) (by kernel_rfl) (tys_ok G_tys_ok) (draw_New_ctrs N) Tryd.func6 (by kernel_rfl) (by kernel_rfl) Tryd.ntmps6 (by kernel_rfl) (by kernel_rfl) (by kernel_rfl) (by kernel_rfl) (fun E hb => draw_New_b N hb)
/-! (*ipsecgate/ipsecgatedraw.Codes).Next -/
abbrev draw_Codes_Next_R : Type := ((Int × Unit) × (((List UInt8) × (Int × Unit)) × Unit))
def draw_Codes_Next (N : Nat) (n_1 : Int) (c_0 : ((List UInt8) × (Int × Unit))) : Option draw_Codes_Next_R :=
 bif (decide ((c_0.1.length : Int) ≤ c_0.2.1)) then
 some (((0 : Int), ()), (c_0, ()))
 else
 let x3 := w64 (c_0.2.1 + (1 : Int))
 let x4 := w64 (x3 - (1 : Int))
 bif inR x4 c_0.1.length then
 some (((w64 ((w64 (((c_0.1.getD x4.toNat (0 : UInt8)).toNat : Int) * n_1)).tdiv (256 : Int))), ()), ((c_0.1, x3, ()), ()))
 else none
def draw_Codes_Next_C (N : Nat) : Ctx := ⟨37, G_tys, [], G_globs, G_ifs⟩
def draw_Codes_Next_S0 : Spec := ⟨[.ref 0 (.pair (.sl .u8) (.pair .i64 .unit)), .val .i64], [(.box 46 (.pair (.sl .u8) (.pair .i64 .unit)), .pos 0)]⟩
def draw_Codes_Next_S1 : Spec := ⟨[.val .i64], [(.box 46 (.pair (.sl .u8) (.pair .i64 .unit)), .fix 0)]⟩
def draw_Codes_Next_K (_N : Nat) : XE → GS → Option draw_Codes_Next_R := retK 1 [4] [false] draw_Codes_Next_S1
def draw_Codes_Next_L : List Code := (bodyOf (some Tryd.f22))
theorem draw_Codes_Next_b {E : Env} (N : Nat) (hb : Base Tryd.prog (draw_Codes_Next_C N) E 1) : Blk Tryd.prog (draw_Codes_Next_C N) E (List.range draw_Codes_Next_S0.ks.length) draw_Codes_Next_S0 (draw_Codes_Next_L.drop 0) (fun y => draw_Codes_Next N y.1.1 y.2.1) (draw_Codes_Next_K N) :=
 Blk.chunkAt hb 6 (X := (draw_Codes_Next_K N .normal)) (NxOk.end (by kernel_rfl)) rfl (fun x => by kernel_rfl)
def draw_Codes_Next_ctr (N : Nat) : Ctr := ⟨draw_Codes_Next_S0, draw_Codes_Next_S1.un [false], 1, (fun y => draw_Codes_Next N y.1.1 y.2.1)⟩
theorem draw_Codes_Next_ctrs (N : Nat) : CtrsOk Tryd.prog (draw_Codes_Next_C N) := ctrs_nil G_ifs_ok rfl
theorem draw_Codes_Next_ok (N : Nat) : Ctr.ok Tryd.prog G_globs 22 (draw_Codes_Next_ctr N) :=
 ctr_fn (Γ := draw_Codes_Next_C N) (rfit := draw_Codes_Next_S1) (bs := [false]) (res := [4]) (by kernel_rfl) (tys_ok G_tys_ok) (draw_Codes_Next_ctrs N) Tryd.func22 (by kernel_rfl) (by kernel_rfl) Tryd.ntmps22 (by kernel_rfl) (by kernel_rfl) (by kernel_rfl) (by kernel_rfl) (fun E hb => draw_Codes_Next_b N hb)
/-! ipsecgate/ipsecgateref26.Name -/
abbrev ref26_Name_R : Type := ((D28 × Unit) × (Unit))
def ref26_Name (N : Nat) (owner_0 : Int) (count_1 : Int) : Option ref26_Name_R :=
 some ((((2 : Int), (w64 ((w64 (owner_0 * (1048576 : Int))) + count_1)), ([] : List Tree), ()), ()), (()))
def ref26_Name_C (N : Nat) : Ctx := ⟨10, G_tys, [], G_globs, G_ifs⟩
def ref26_Name_S0 : Spec := ⟨[.val .i64, .val .i64], []⟩
def ref26_Name_S1 : Spec := ⟨[.fp T28], []⟩
def ref26_Name_K (_N : Nat) : XE → GS → Option ref26_Name_R := retK 0 [4] [true] ref26_Name_S1
def ref26_Name_L : List Code := (bodyOf (some Tryd.f21))
theorem ref26_Name_b {E : Env} (N : Nat) (hb : Base Tryd.prog (ref26_Name_C N) E 0) : Blk Tryd.prog (ref26_Name_C N) E (List.range ref26_Name_S0.ks.length) ref26_Name_S0 (ref26_Name_L.drop 0) (fun y => ref26_Name N y.1.1 y.1.2.1) (ref26_Name_K N) :=
 Blk.chunkAt hb 3 (X := (ref26_Name_K N .normal)) (NxOk.end (by kernel_rfl)) rfl (fun x => by kernel_rfl)
def ref26_Name_ctr (N : Nat) : Ctr := ⟨ref26_Name_S0, ref26_Name_S1.un [true], 0, (fun y => ref26_Name N y.1.1 y.1.2.1)⟩
theorem ref26_Name_ctrs (N : Nat) : CtrsOk Tryd.prog (ref26_Name_C N) := ctrs_nil G_ifs_ok rfl
theorem ref26_Name_ok (N : Nat) : Ctr.ok Tryd.prog G_globs 21 (ref26_Name_ctr N) :=
 ctr_fn (Γ := ref26_Name_C N) (rfit := ref26_Name_S1) (bs := [true]) (res := [4]) (by kernel_rfl) (tys_ok G_tys_ok) (ref26_Name_ctrs N) Tryd.func21 (by kernel_rfl) (by kernel_rfl) Tryd.ntmps21 (by kernel_rfl) (by kernel_rfl) (by kernel_rfl) (by kernel_rfl) (fun E hb => ref26_Name_b N hb)
/-! (*ipsecgate/ipsecgatedraw.Codes).Name -/
abbrev draw_Codes_Name_R : Type := ((D28 × Unit) × (((List UInt8) × (Int × Unit)) × Unit))
def draw_Codes_Name (N : Nat) (c_0 : ((List UInt8) × (Int × Unit))) : Option draw_Codes_Name_R :=
 Option.bind (draw_Codes_Next N (3 : Int) c_0) fun y1 =>
 Option.bind (draw_Codes_Next N (5 : Int) y1.2.1) fun y2 =>
 Option.bind (ref26_Name N y1.1.1 (w64 ((1 : Int) + y2.1.1))) fun y4 =>
 some ((y4.1.1, ()), (y2.2.1, ()))
def draw_Codes_Name_C (N : Nat) : Ctx := ⟨9, G_tys, [(22, draw_Codes_Next_ctr N), (21, ref26_Name_ctr N)], G_globs, G_ifs⟩
def draw_Codes_Name_S0 : Spec := ⟨[.ref 0 (.pair (.sl .u8) (.pair .i64 .unit))], [(.box 46 (.pair (.sl .u8) (.pair .i64 .unit)), .pos 0)]⟩
def draw_Codes_Name_S1 : Spec := ⟨[.fp T28], [(.box 46 (.pair (.sl .u8) (.pair .i64 .unit)), .fix 0)]⟩
def draw_Codes_Name_K (_N : Nat) : XE → GS → Option draw_Codes_Name_R := retK 1 [2] [true] draw_Codes_Name_S1
def draw_Codes_Name_L : List Code := (bodyOf (some Tryd.f7))
theorem draw_Codes_Name_b {E : Env} (N : Nat) (hb : Base Tryd.prog (draw_Codes_Name_C N) E 1) : Blk Tryd.prog (draw_Codes_Name_C N) E (List.range draw_Codes_Name_S0.ks.length) draw_Codes_Name_S0 (draw_Codes_Name_L.drop 0) (fun y => draw_Codes_Name N y.2.1) (draw_Codes_Name_K N) :=
 Blk.chunkAt hb 3 (X := (draw_Codes_Name_K N .normal)) (NxOk.end (by kernel_rfl)) rfl (fun x => by kernel_rfl)
def draw_Codes_Name_ctr (N : Nat) : Ctr := ⟨draw_Codes_Name_S0, draw_Codes_Name_S1.un [true], 1, (fun y => draw_Codes_Name N y.2.1)⟩
theorem draw_Codes_Name_ctrs (N : Nat) : CtrsOk Tryd.prog (draw_Codes_Name_C N) := ctrs_of (Γ := draw_Codes_Name_C N) G_ifs_ok (by
 intro p hp
 simp only [draw_Codes_Name_C, List.mem_cons, List.not_mem_nil, or_false] at hp
 rcases hp with rfl | rfl
 · exact draw_Codes_Next_ok N
 · exact ref26_Name_ok N)
theorem draw_Codes_Name_ok (N : Nat) : Ctr.ok Tryd.prog G_globs 7 (draw_Codes_Name_ctr N) :=
 ctr_fn (Γ := draw_Codes_Name_C N) (rfit := draw_Codes_Name_S1) (bs := [true]) (res := [2]) (by kernel_rfl) (tys_ok G_tys_ok) (draw_Codes_Name_ctrs N) Tryd.func7 (by kernel_rfl) (by kernel_rfl) Tryd.ntmps7 (by kernel_rfl) (by kernel_rfl) (by kernel_rfl) (by kernel_rfl) (fun E hb => draw_Codes_Name_b N hb)
/-! ipsecgate/ipsecgateref26.List -/
abbrev ref26_List_R : Type := ((D28 × Unit) × (Unit))
def ref26_List (N : Nat) (l_0 : (List D28)) : Option ref26_List_R :=
 bif room (0 + l_0.length) 40 then
 some ((((3 : Int), (0 : Int), List.map mkT l_0, ()), ()), (()))
 else none
def ref26_List_C (N : Nat) : Ctx := ⟨6, G_tys, [], G_globs, G_ifs⟩
def ref26_List_S0 : Spec := ⟨[.val (.sl T28)], []⟩
def ref26_List_S1 : Spec := ⟨[.fp T28], []⟩
def ref26_List_K (_N : Nat) : XE → GS → Option ref26_List_R := retK 0 [2] [true] ref26_List_S1
def ref26_List_L : List Code := (bodyOf (some Tryd.f17))
theorem ref26_List_b {E : Env} (N : Nat) (hb : Base Tryd.prog (ref26_List_C N) E 0) : Blk Tryd.prog (ref26_List_C N) E (List.range ref26_List_S0.ks.length) ref26_List_S0 (ref26_List_L.drop 0) (fun y => ref26_List N y.1.1) (ref26_List_K N) :=
 Blk.chunkAt hb 3 (X := (ref26_List_K N .normal)) (NxOk.end (by kernel_rfl)) rfl (fun x => by kernel_rfl)
def ref26_List_ctr (N : Nat) : Ctr := ⟨ref26_List_S0, ref26_List_S1.un [true], 0, (fun y => ref26_List N y.1.1)⟩
theorem ref26_List_ctrs (N : Nat) : CtrsOk Tryd.prog (ref26_List_C N) := ctrs_nil G_ifs_ok rfl
theorem ref26_List_ok (N : Nat) : Ctr.ok Tryd.prog G_globs 17 (ref26_List_ctr N) :=
 ctr_fn (Γ := ref26_List_C N) (rfit := ref26_List_S1) (bs := [true]) (res := [2]) (by kernel_rfl) (tys_ok G_tys_ok) (ref26_List_ctrs N) Tryd.func17 (by kernel_rfl) (by kernel_rfl) Tryd.ntmps17 (by kernel_rfl) (by kernel_rfl) (by kernel_rfl) (by kernel_rfl) (fun E hb => ref26_List_b N hb)
/-! ipsecgate/ipsecgateref26.Public -/
abbrev ref26_Public_R : Type := ((D28 × Unit) × (Unit))
def ref26_Public (N : Nat) (exponent_0 : D28) : Option ref26_Public_R :=
 some ((((4 : Int), (0 : Int), List.map mkT ([exponent_0] : List D28), ()), ()), (()))
def ref26_Public_C (N : Nat) : Ctx := ⟨6, G_tys, [], G_globs, G_ifs⟩
def ref26_Public_S0 : Spec := ⟨[.val T28], []⟩
def ref26_Public_S1 : Spec := ⟨[.fp T28], []⟩
def ref26_Public_K (_N : Nat) : XE → GS → Option ref26_Public_R := retK 0 [2] [true] ref26_Public_S1
def ref26_Public_L : List Code := (bodyOf (some Tryd.f9))
theorem ref26_Public_b {E : Env} (N : Nat) (hb : Base Tryd.prog (ref26_Public_C N) E 0) : Blk Tryd.prog (ref26_Public_C N) E (List.range ref26_Public_S0.ks.length) ref26_Public_S0 (ref26_Public_L.drop 0) (fun y => ref26_Public N y.1.1) (ref26_Public_K N) :=
 Blk.chunkAt hb 3 (X := (ref26_Public_K N .normal)) (NxOk.end (by kernel_rfl)) rfl (fun x => by kernel_rfl)
def ref26_Public_ctr (N : Nat) : Ctr := ⟨ref26_Public_S0, ref26_Public_S1.un [true], 0, (fun y => ref26_Public N y.1.1)⟩
theorem ref26_Public_ctrs (N : Nat) : CtrsOk Tryd.prog (ref26_Public_C N) := ctrs_nil G_ifs_ok rfl
theorem ref26_Public_ok (N : Nat) : Ctr.ok Tryd.prog G_globs 9 (ref26_Public_ctr N) :=
 ctr_fn (Γ := ref26_Public_C N) (rfit := ref26_Public_S1) (bs := [true]) (res := [2]) (by kernel_rfl) (tys_ok G_tys_ok) (ref26_Public_ctrs N) Tryd.func9 (by kernel_rfl) (by kernel_rfl) Tryd.ntmps9 (by kernel_rfl) (by kernel_rfl) (by kernel_rfl) (by kernel_rfl) (fun E hb => ref26_Public_b N hb)
/-! ipsecgate/ipsecgateref26.order -/
abbrev ref26_order_R : Type := ((Int × Unit) × (Unit))
def ref26_order_s2 (N : Nat) (rc : D28 → D28 → Option ref26_order_R) (i_5 : Int) (a_2 : D28) (b_3 : D28) : Option (Lo ((Int × Unit) × (D28 × D28 × Unit)) ((Unit) × (Unit)) ref26_order_R) :=
 bif (decide (i_5 < ((List.map Tree.un a_2.2.2.1).length : Int))) then
 let x18 := List.map Tree.un a_2.2.2.1
 bif inR i_5 x18.length then
 let x20 := List.map Tree.un b_3.2.2.1
 bif inR i_5 x20.length then
 Option.bind (rc (x18.getD i_5.toNat ((0 : Int), (0 : Int), ([] : List Tree), ())) (x20.getD i_5.toNat ((0 : Int), (0 : Int), ([] : List Tree), ()))) fun y22 =>
 bif (!(decide (y22.1.1 = (0 : Int)))) then
 some (.rt ((y22.1.1, ()), (())))
 else
 some (.go (((w64 (i_5 + (1 : Int))), ()), (a_2, b_3, ())))
 else none
 else none
 else
 some (.br ((()), (())))
def ref26_order_3 (N : Nat) (rc : D28 → D28 → Option ref26_order_R) : Option ref26_order_R :=
 some (((0 : Int), ()), (()))
def ref26_order_1 (N : Nat) (rc : D28 → D28 → Option ref26_order_R) (i_5 : Int) (a_2 : D28) (b_3 : D28) : Option ref26_order_R :=
 loopK N (fun y => ref26_order_s2 N rc y.1.1 y.2.1 y.2.2.1) (fun (e : ((Unit) × (Unit))) => ref26_order_3 N rc) ((i_5, ()), (a_2, b_3, ()))
def ref26_order (N : Nat) (rc : D28 → D28 → Option ref26_order_R) (a_0 : D28) (b_1 : D28) : Option ref26_order_R :=
 bif (decide (a_0.1 < b_1.1)) then
 some (((-1 : Int), ()), (()))
 else
 bif (decide (b_1.1 < a_0.1)) then
 some (((1 : Int), ()), (()))
 else
 bif (decide (a_0.2.1 < b_1.2.1)) then
 some (((-1 : Int), ()), (()))
 else
 bif (decide (b_1.2.1 < a_0.2.1)) then
 some (((1 : Int), ()), (()))
 else
 bif (!(decide (((List.map Tree.un a_0.2.2.1).length : Int) = ((List.map Tree.un b_1.2.2.1).length : Int)))) then
 some (((w64 (((List.map Tree.un a_0.2.2.1).length : Int) - ((List.map Tree.un b_1.2.2.1).length : Int))), ()), (()))
 else
 ref26_order_1 N rc (0 : Int) a_0 b_1
def ref26_order_S0 : Spec := ⟨[.ref 0 T28, .ref 1 T28, .val .i64], [(.box 28 T28, .pos 0), (.box 28 T28, .pos 1)]⟩
def ref26_order_S1 : Spec := ⟨[], []⟩
def ref26_order_S2 : Spec := ⟨[.val T28, .val T28], []⟩
def ref26_order_S3 : Spec := ⟨[.val .i64], []⟩
def ref26_order_ftr (N : Nat) (rc : D28 → D28 → Option ref26_order_R) : Ctr := ⟨ref26_order_S2, ref26_order_S3.un [false], 0, (fun y => rc y.1.1 y.1.2.1)⟩
def ref26_order_C (N : Nat) (rc : D28 → D28 → Option ref26_order_R) : Ctx := ⟨67, G_tys, [(30, ref26_order_ftr N rc)], G_globs, G_ifs⟩
def ref26_order_K (_N : Nat) (_rc : D28 → D28 → Option ref26_order_R) : XE → GS → Option ref26_order_R := retK 0 [4] [false] ref26_order_S3
def ref26_order_L : List Code := (bodyOf (some Tryd.f30))
def ref26_order_L2 : List Code := (loopOf (ref26_order_L[3]?))
def ref26_order_K2 (N : Nat) (rc : D28 → D28 → Option ref26_order_R) : XE → GS → Option (Lo ((Int × Unit) × (D28 × D28 × Unit)) ((Unit) × (Unit)) ref26_order_R) := roundK (some 1) (fit 0 [2, 3, 5] ref26_order_S0) (fit 0 [] ref26_order_S1) (ref26_order_K N rc)
theorem ref26_order_s2_b {E : Env} (N : Nat) (rc : D28 → D28 → Option ref26_order_R) (hb : Base Tryd.prog (ref26_order_C N rc) E 0) : Blk Tryd.prog (ref26_order_C N rc) E [2, 3, 5] ref26_order_S0 (ref26_order_L2.drop 0) (fun y => ref26_order_s2 N rc y.1.1 y.2.1 y.2.2.1) (ref26_order_K2 N rc) :=
 Blk.chunkAt hb 4 (X := (ref26_order_K2 N rc .normal)) (NxOk.end (by kernel_rfl)) rfl (fun x => by kernel_rfl)
theorem ref26_order_3_b {E : Env} (N : Nat) (rc : D28 → D28 → Option ref26_order_R) (hb : Base Tryd.prog (ref26_order_C N rc) E 0) : Blk Tryd.prog (ref26_order_C N rc) E [] ref26_order_S1 (ref26_order_L.drop 4) (fun y => ref26_order_3 N rc) (ref26_order_K N rc) :=
 Blk.chunkAt hb 2 (X := (ref26_order_K N rc .normal)) (NxOk.end (by kernel_rfl)) rfl (fun x => by kernel_rfl)
theorem ref26_order_1_b {E : Env} (N : Nat) (rc : D28 → D28 → Option ref26_order_R) (hb : Base Tryd.prog (ref26_order_C N rc) E 0) : Blk Tryd.prog (ref26_order_C N rc) E [2, 3, 5] ref26_order_S0 (ref26_order_L.drop 3) (fun y => ref26_order_1 N rc y.1.1 y.2.1 y.2.2.1) (ref26_order_K N rc) :=
 Blk.loopAt (Nf := N) (hns := [2, 3, 5]) (ans := []) (hc := ref26_order_S0) (ac := ref26_order_S1) (bid := 1) (step := (fun y => ref26_order_s2 N rc y.1.1 y.2.1 y.2.2.1)) (J := (fun e => (goK 0 [] ref26_order_S1 (fun y => ref26_order_3 N rc)) (ref26_order_S1.st [] e))) hb (by kernel_rfl) (Blk.into (X := (goK 0 [] ref26_order_S1 (fun y => ref26_order_3 N rc))) (NxOk.go hb (ref26_order_3_b N rc hb)) (fun x => by kernel_rfl)) (ref26_order_s2_b N rc hb) (fun x => by kernel_rfl)
theorem ref26_order_b {E : Env} (N : Nat) (rc : D28 → D28 → Option ref26_order_R) (hb : Base Tryd.prog (ref26_order_C N rc) E 0) : Blk Tryd.prog (ref26_order_C N rc) E (List.range ref26_order_S2.ks.length) ref26_order_S2 (ref26_order_L.drop 0) (fun y => ref26_order N rc y.1.1 y.1.2.1) (ref26_order_K N rc) :=
 Blk.chunkAt hb 3 (X := (goK 0 [2, 3, 5] ref26_order_S0 (fun y => ref26_order_1 N rc y.1.1 y.2.1 y.2.2.1))) (NxOk.go hb (ref26_order_1_b N rc hb)) rfl (fun x => by kernel_rfl)
def ref26_order_octr (N : Nat) (rc : D28 → D28 → Option ref26_order_R) : Ctr := ⟨ref26_order_S2, ref26_order_S3.un [false], 0, (fun y => ref26_order N rc y.1.1 y.1.2.1)⟩
theorem ref26_order_ctrs (N : Nat) (rc : D28 → D28 → Option ref26_order_R) (hf : Ctr.ok Tryd.prog G_globs 30 (ref26_order_ftr N rc)) : CtrsOk Tryd.prog (ref26_order_C N rc) := ctrs_of (Γ := ref26_order_C N rc) G_ifs_ok (by
 intro p hp
 simp only [ref26_order_C, List.mem_cons, List.not_mem_nil, or_false] at hp
 rcases hp with rfl
 · exact hf)
theorem ref26_order_ook (N : Nat) (rc : D28 → D28 → Option ref26_order_R) (hf : Ctr.ok Tryd.prog G_globs 30 (ref26_order_ftr N rc))  : Ctr.ok Tryd.prog G_globs 30 (ref26_order_octr N rc) :=
 ctr_fn (Γ := ref26_order_C N rc) (rfit := ref26_order_S3) (bs := [false]) (res := [4]) (by kernel_rfl) (tys_ok G_tys_ok) (ref26_order_ctrs N rc hf) Tryd.func30 (by kernel_rfl) (by kernel_rfl) Tryd.ntmps30 (by kernel_rfl) (by kernel_rfl) (by kernel_rfl) (by kernel_rfl) (fun E hb => ref26_order_b N rc hb)
def ref26_orderR (N : Nat) : Nat → D28 → D28 → Option ref26_order_R
 | 0 => fun _ _ => none
 | n + 1 => fun a_0 b_1 => ref26_order N (ref26_orderR N n) a_0 b_1
theorem ref26_orderR_ok (N : Nat) : ∀ n : Nat, Ctr.ok Tryd.prog G_globs 30 (ref26_order_ftr N (ref26_orderR N n))
 | 0 => ctr_never Tryd.func30 (by kernel_rfl) (by kernel_rfl) (fun x => rfl)
 | n + 1 => ref26_order_ook N (ref26_orderR N n) (ref26_orderR_ok N n)
def ref26_order_ctr (N : Nat) : Ctr := ref26_order_ftr N (ref26_orderR N N)
theorem ref26_order_ok (N : Nat) : Ctr.ok Tryd.prog G_globs 30 (ref26_order_ctr N) := ref26_orderR_ok N N
/-! ipsecgate/ipsecgateref26.Less -/
abbrev ref26_Less_R : Type := ((Bool × Unit) × (Unit))
def ref26_Less (N : Nat) (a_0 : D28) (b_1 : D28) : Option ref26_Less_R :=
 Option.bind (ref26_orderR N N a_0 b_1) fun y1 =>
 some (((decide (y1.1.1 < (0 : Int))), ()), (()))
def ref26_Less_C (N : Nat) : Ctx := ⟨9, G_tys, [(30, ref26_order_ctr N)], G_globs, G_ifs⟩
def ref26_Less_S0 : Spec := ⟨[.val T28, .val T28], []⟩
def ref26_Less_S1 : Spec := ⟨[.val .bool], []⟩
def ref26_Less_K (_N : Nat) : XE → GS → Option ref26_Less_R := retK 0 [4] [false] ref26_Less_S1
def ref26_Less_L : List Code := (bodyOf (some Tryd.f23))
theorem ref26_Less_b {E : Env} (N : Nat) (hb : Base Tryd.prog (ref26_Less_C N) E 0) : Blk Tryd.prog (ref26_Less_C N) E (List.range ref26_Less_S0.ks.length) ref26_Less_S0 (ref26_Less_L.drop 0) (fun y => ref26_Less N y.1.1 y.1.2.1) (ref26_Less_K N) :=
 Blk.chunkAt hb 3 (X := (ref26_Less_K N .normal)) (NxOk.end (by kernel_rfl)) rfl (fun x => by kernel_rfl)
def ref26_Less_ctr (N : Nat) : Ctr := ⟨ref26_Less_S0, ref26_Less_S1.un [false], 0, (fun y => ref26_Less N y.1.1 y.1.2.1)⟩
theorem ref26_Less_ctrs (N : Nat) : CtrsOk Tryd.prog (ref26_Less_C N) := ctrs_of (Γ := ref26_Less_C N) G_ifs_ok (by
 intro p hp
 simp only [ref26_Less_C, List.mem_cons, List.not_mem_nil, or_false] at hp
 rcases hp with rfl
 · exact ref26_order_ok N)
theorem ref26_Less_ok (N : Nat) : Ctr.ok Tryd.prog G_globs 23 (ref26_Less_ctr N) :=
 ctr_fn (Γ := ref26_Less_C N) (rfit := ref26_Less_S1) (bs := [false]) (res := [4]) (by kernel_rfl) (tys_ok G_tys_ok) (ref26_Less_ctrs N) Tryd.func23 (by kernel_rfl) (by kernel_rfl) Tryd.ntmps23 (by kernel_rfl) (by kernel_rfl) (by kernel_rfl) (by kernel_rfl) (fun E hb => ref26_Less_b N hb)
/-! ipsecgate/ipsecgateref26.Agree -/
abbrev ref26_Agree_R : Type := ((D28 × Bool × Unit) × (Unit))
def ref26_Agree_2 (N : Nat) (t_4 : D28) (a_6 : D28) (b_7 : D28) : Option ref26_Agree_R :=
 some ((((5 : Int), (0 : Int), List.map mkT ([a_6, b_7] : List D28), ()), true, ()), (()))
def ref26_Agree_1 (N : Nat) (t_16 : Bool) (public_2 : D28) (secret_3 : D28) (t_4 : D28) : Option ref26_Agree_R :=
 bif t_16 then
 some ((((0 : Int), (0 : Int), ([] : List Tree), ()), false, ()), (()))
 else
 let x2 := List.map Tree.un public_2.2.2.1
 bif inR (0 : Int) x2.length then
 let x3 := x2.getD 0 ((0 : Int), (0 : Int), ([] : List Tree), ())
 Option.bind (ref26_Less N secret_3 x3) fun y4 =>
 bif y4.1.1 then
 ref26_Agree_2 N t_4 secret_3 x3
 else
 ref26_Agree_2 N t_4 x3 secret_3
 else none
def ref26_Agree (N : Nat) (public_0 : D28) (secret_1 : D28) : Option ref26_Agree_R :=
 bif (!(decide (public_0.1 = (4 : Int)))) then
 ref26_Agree_1 N true public_0 secret_1 ((0 : Int), (0 : Int), ([] : List Tree), ())
 else
 ref26_Agree_1 N (!(decide (((List.map Tree.un public_0.2.2.1).length : Int) = (1 : Int)))) public_0 secret_1 ((0 : Int), (0 : Int), ([] : List Tree), ())
def ref26_Agree_C (N : Nat) : Ctx := ⟨32, G_tys, [(23, ref26_Less_ctr N)], G_globs, G_ifs⟩
def ref26_Agree_S0 : Spec := ⟨[.ref 0 T28, .ref 1 T28, .ref 2 T28], [(.box 28 T28, .pos 0), (.box 28 T28, .pos 1), (.box 28 T28, .pos 2)]⟩
def ref26_Agree_S1 : Spec := ⟨[.ref 0 T28, .ref 1 T28, .ref 2 T28, .val .bool], [(.box 28 T28, .pos 0), (.box 28 T28, .pos 1), (.box 28 T28, .pos 2)]⟩
def ref26_Agree_S2 : Spec := ⟨[.val T28, .val T28], []⟩
def ref26_Agree_S3 : Spec := ⟨[.fp T28, .val .bool], []⟩
def ref26_Agree_K (_N : Nat) : XE → GS → Option ref26_Agree_R := retK 0 [4, 5] [true, false] ref26_Agree_S3
def ref26_Agree_L : List Code := (bodyOf (some Tryd.f8))
theorem ref26_Agree_2_b {E : Env} (N : Nat) (hb : Base Tryd.prog (ref26_Agree_C N) E 0) : Blk Tryd.prog (ref26_Agree_C N) E [4, 6, 7] ref26_Agree_S0 (ref26_Agree_L.drop 6) (fun y => ref26_Agree_2 N y.2.1 y.2.2.1 y.2.2.2.1) (ref26_Agree_K N) :=
 Blk.chunkAt hb 2 (X := (ref26_Agree_K N .normal)) (NxOk.end (by kernel_rfl)) rfl (fun x => by kernel_rfl)
theorem ref26_Agree_1_b {E : Env} (N : Nat) (hb : Base Tryd.prog (ref26_Agree_C N) E 0) : Blk Tryd.prog (ref26_Agree_C N) E [2, 3, 4, 16] ref26_Agree_S1 (ref26_Agree_L.drop 2) (fun y => ref26_Agree_1 N y.1.1 y.2.1 y.2.2.1 y.2.2.2.1) (ref26_Agree_K N) :=
 Blk.chunkAt hb 4 (X := (goK 0 [4, 6, 7] ref26_Agree_S0 (fun y => ref26_Agree_2 N y.2.1 y.2.2.1 y.2.2.2.1))) (NxOk.go hb (ref26_Agree_2_b N hb)) rfl (fun x => by kernel_rfl)
theorem ref26_Agree_b {E : Env} (N : Nat) (hb : Base Tryd.prog (ref26_Agree_C N) E 0) : Blk Tryd.prog (ref26_Agree_C N) E (List.range ref26_Agree_S2.ks.length) ref26_Agree_S2 (ref26_Agree_L.drop 0) (fun y => ref26_Agree N y.1.1 y.1.2.1) (ref26_Agree_K N) :=
 Blk.chunkAt hb 2 (X := (goK 0 [2, 3, 4, 16] ref26_Agree_S1 (fun y => ref26_Agree_1 N y.1.1 y.2.1 y.2.2.1 y.2.2.2.1))) (NxOk.go hb (ref26_Agree_1_b N hb)) rfl (fun x => by kernel_rfl)
def ref26_Agree_ctr (N : Nat) : Ctr := ⟨ref26_Agree_S2, ref26_Agree_S3.un [true, false], 0, (fun y => ref26_Agree N y.1.1 y.1.2.1)⟩
theorem ref26_Agree_ctrs (N : Nat) : CtrsOk Tryd.prog (ref26_Agree_C N) := ctrs_of (Γ := ref26_Agree_C N) G_ifs_ok (by
 intro p hp
 simp only [ref26_Agree_C, List.mem_cons, List.not_mem_nil, or_false] at hp
 rcases hp with rfl
 · exact ref26_Less_ok N)
theorem ref26_Agree_ok (N : Nat) : Ctr.ok Tryd.prog G_globs 8 (ref26_Agree_ctr N) :=
 ctr_fn (Γ := ref26_Agree_C N) (rfit := ref26_Agree_S3) (bs := [true, false]) (res := [4, 5]) (by kernel_rfl) (tys_ok G_tys_ok) (ref26_Agree_ctrs N) Tryd.func8 (by kernel_rfl) (by kernel_rfl) Tryd.ntmps8 (by kernel_rfl) (by kernel_rfl) (by kernel_rfl) (by kernel_rfl) (fun E hb => ref26_Agree_b N hb)
/-! ipsecgate/ipsecgateref26.Derive -/
abbrev ref26_Derive_R : Type := ((D28 × Unit) × (Unit))
def ref26_Derive (N : Nat) (label_0 : Int) (l_1 : (List D28)) : Option ref26_Derive_R :=
 bif room (0 + l_1.length) 40 then
 some ((((6 : Int), label_0, List.map mkT l_1, ()), ()), (()))
 else none
def ref26_Derive_C (N : Nat) : Ctx := ⟨9, G_tys, [], G_globs, G_ifs⟩
def ref26_Derive_S0 : Spec := ⟨[.val .i64, .val (.sl T28)], []⟩
def ref26_Derive_S1 : Spec := ⟨[.fp T28], []⟩
def ref26_Derive_K (_N : Nat) : XE → GS → Option ref26_Derive_R := retK 0 [4] [true] ref26_Derive_S1
def ref26_Derive_L : List Code := (bodyOf (some Tryd.f11))
theorem ref26_Derive_b {E : Env} (N : Nat) (hb : Base Tryd.prog (ref26_Derive_C N) E 0) : Blk Tryd.prog (ref26_Derive_C N) E (List.range ref26_Derive_S0.ks.length) ref26_Derive_S0 (ref26_Derive_L.drop 0) (fun y => ref26_Derive N y.1.1 y.1.2.1) (ref26_Derive_K N) :=
 Blk.chunkAt hb 3 (X := (ref26_Derive_K N .normal)) (NxOk.end (by kernel_rfl)) rfl (fun x => by kernel_rfl)
def ref26_Derive_ctr (N : Nat) : Ctr := ⟨ref26_Derive_S0, ref26_Derive_S1.un [true], 0, (fun y => ref26_Derive N y.1.1 y.1.2.1)⟩
theorem ref26_Derive_ctrs (N : Nat) : CtrsOk Tryd.prog (ref26_Derive_C N) := ctrs_nil G_ifs_ok rfl
theorem ref26_Derive_ok (N : Nat) : Ctr.ok Tryd.prog G_globs 11 (ref26_Derive_ctr N) :=
 ctr_fn (Γ := ref26_Derive_C N) (rfit := ref26_Derive_S1) (bs := [true]) (res := [4]) (by kernel_rfl) (tys_ok G_tys_ok) (ref26_Derive_ctrs N) Tryd.func11 (by kernel_rfl) (by kernel_rfl) Tryd.ntmps11 (by kernel_rfl) (by kernel_rfl) (by kernel_rfl) (by kernel_rfl) (fun E hb => ref26_Derive_b N hb)
/-! ipsecgate/ipsecgateref26.Seal -/
abbrev ref26_Seal_R : Type := ((D28 × Unit) × (Unit))
def ref26_Seal (N : Nat) (key_0 : D28) (body_1 : D28) : Option ref26_Seal_R :=
 some ((((7 : Int), (0 : Int), List.map mkT ([key_0, body_1] : List D28), ()), ()), (()))
def ref26_Seal_C (N : Nat) : Ctx := ⟨9, G_tys, [], G_globs, G_ifs⟩
def ref26_Seal_S0 : Spec := ⟨[.val T28, .val T28], []⟩
def ref26_Seal_S1 : Spec := ⟨[.fp T28], []⟩
def ref26_Seal_K (_N : Nat) : XE → GS → Option ref26_Seal_R := retK 0 [4] [true] ref26_Seal_S1
def ref26_Seal_L : List Code := (bodyOf (some Tryd.f18))
theorem ref26_Seal_b {E : Env} (N : Nat) (hb : Base Tryd.prog (ref26_Seal_C N) E 0) : Blk Tryd.prog (ref26_Seal_C N) E (List.range ref26_Seal_S0.ks.length) ref26_Seal_S0 (ref26_Seal_L.drop 0) (fun y => ref26_Seal N y.1.1 y.1.2.1) (ref26_Seal_K N) :=
 Blk.chunkAt hb 3 (X := (ref26_Seal_K N .normal)) (NxOk.end (by kernel_rfl)) rfl (fun x => by kernel_rfl)
def ref26_Seal_ctr (N : Nat) : Ctr := ⟨ref26_Seal_S0, ref26_Seal_S1.un [true], 0, (fun y => ref26_Seal N y.1.1 y.1.2.1)⟩
theorem ref26_Seal_ctrs (N : Nat) : CtrsOk Tryd.prog (ref26_Seal_C N) := ctrs_nil G_ifs_ok rfl
theorem ref26_Seal_ok (N : Nat) : Ctr.ok Tryd.prog G_globs 18 (ref26_Seal_ctr N) :=
 ctr_fn (Γ := ref26_Seal_C N) (rfit := ref26_Seal_S1) (bs := [true]) (res := [4]) (by kernel_rfl) (tys_ok G_tys_ok) (ref26_Seal_ctrs N) Tryd.func18 (by kernel_rfl) (by kernel_rfl) Tryd.ntmps18 (by kernel_rfl) (by kernel_rfl) (by kernel_rfl) (by kernel_rfl) (fun E hb => ref26_Seal_b N hb)
/-! ipsecgate/ipsecgateref26.Sign -/
abbrev ref26_Sign_R : Type := ((D28 × Unit) × (Unit))
def ref26_Sign (N : Nat) (identity_0 : Int) (body_1 : D28) : Option ref26_Sign_R :=
 some ((((8 : Int), identity_0, List.map mkT ([body_1] : List D28), ()), ()), (()))
def ref26_Sign_C (N : Nat) : Ctx := ⟨9, G_tys, [], G_globs, G_ifs⟩
def ref26_Sign_S0 : Spec := ⟨[.val .i64, .val T28], []⟩
def ref26_Sign_S1 : Spec := ⟨[.fp T28], []⟩
def ref26_Sign_K (_N : Nat) : XE → GS → Option ref26_Sign_R := retK 0 [4] [true] ref26_Sign_S1
def ref26_Sign_L : List Code := (bodyOf (some Tryd.f19))
theorem ref26_Sign_b {E : Env} (N : Nat) (hb : Base Tryd.prog (ref26_Sign_C N) E 0) : Blk Tryd.prog (ref26_Sign_C N) E (List.range ref26_Sign_S0.ks.length) ref26_Sign_S0 (ref26_Sign_L.drop 0) (fun y => ref26_Sign N y.1.1 y.1.2.1) (ref26_Sign_K N) :=
 Blk.chunkAt hb 3 (X := (ref26_Sign_K N .normal)) (NxOk.end (by kernel_rfl)) rfl (fun x => by kernel_rfl)
def ref26_Sign_ctr (N : Nat) : Ctr := ⟨ref26_Sign_S0, ref26_Sign_S1.un [true], 0, (fun y => ref26_Sign N y.1.1 y.1.2.1)⟩
theorem ref26_Sign_ctrs (N : Nat) : CtrsOk Tryd.prog (ref26_Sign_C N) := ctrs_nil G_ifs_ok rfl
theorem ref26_Sign_ok (N : Nat) : Ctr.ok Tryd.prog G_globs 19 (ref26_Sign_ctr N) :=
 ctr_fn (Γ := ref26_Sign_C N) (rfit := ref26_Sign_S1) (bs := [true]) (res := [4]) (by kernel_rfl) (tys_ok G_tys_ok) (ref26_Sign_ctrs N) Tryd.func19 (by kernel_rfl) (by kernel_rfl) Tryd.ntmps19 (by kernel_rfl) (by kernel_rfl) (by kernel_rfl) (by kernel_rfl) (fun E hb => ref26_Sign_b N hb)
/-! (*ipsecgate/ipsecgatedraw.Codes).Term -/
abbrev draw_Codes_Term_R : Type := ((D28 × Unit) × (((List UInt8) × (Int × Unit)) × Unit))
def draw_Codes_Term_8 (N : Nat) (rc : Int → ((List UInt8) × (Int × Unit)) → Option draw_Codes_Term_R) (p0 : ((List UInt8) × (Int × Unit))) (t_4 : D28) : Option draw_Codes_Term_R :=
 Option.bind (draw_Codes_Next N (6 : Int) p0) fun y6 =>
 Option.bind (ref26_Number N y6.1.1) fun y7 =>
 some ((y7.1.1, ()), (y6.2.1, ()))
def draw_Codes_Term_12 (N : Nat) (rc : Int → ((List UInt8) × (Int × Unit)) → Option draw_Codes_Term_R) (p0 : ((List UInt8) × (Int × Unit))) (t_4 : D28) : Option draw_Codes_Term_R :=
 Option.bind (draw_Codes_Name N p0) fun y9 =>
 some ((y9.1.1, ()), (y9.2.1, ()))
def draw_Codes_Term_16 (N : Nat) (rc : Int → ((List UInt8) × (Int × Unit)) → Option draw_Codes_Term_R) (p0 : ((List UInt8) × (Int × Unit))) (t_4 : D28) : Option draw_Codes_Term_R :=
 Option.bind (draw_Codes_Next N (3 : Int) p0) fun y11 =>
 some ((((9 : Int), y11.1.1, ([] : List Tree), ()), ()), (y11.2.1, ()))
def draw_Codes_Term_s22 (N : Nat) (rc : Int → ((List UInt8) × (Int × Unit)) → Option draw_Codes_Term_R) (depth_1 : Int) (n_7 : Int) (p0 : ((List UInt8) × (Int × Unit))) (t_4 : D28) (l_6 : (List D28)) : Option (Lo ((Int × Int × Unit) × (((List UInt8) × (Int × Unit)) × D28 × (List D28) × Unit)) ((Unit) × (((List UInt8) × (Int × Unit)) × D28 × (List D28) × Unit)) draw_Codes_Term_R) :=
 bif (decide ((0 : Int) < n_7)) then
 Option.bind (rc (w64 (depth_1 - (1 : Int))) p0) fun y16 =>
 bif room (l_6.length + ([y16.1.1] : List D28).length) 40 then
 some (.go ((depth_1, (w64 (n_7 - (1 : Int))), ()), (y16.2.1, t_4, (l_6 ++ ([y16.1.1] : List D28)), ())))
 else none
 else
 some (.br ((()), (p0, t_4, l_6, ())))
def draw_Codes_Term_23 (N : Nat) (rc : Int → ((List UInt8) × (Int × Unit)) → Option draw_Codes_Term_R) (p0 : ((List UInt8) × (Int × Unit))) (t_4 : D28) (l_6 : (List D28)) : Option draw_Codes_Term_R :=
 Option.bind (ref26_List N l_6) fun y19 =>
 some ((y19.1.1, ()), (p0, ()))
def draw_Codes_Term_21 (N : Nat) (rc : Int → ((List UInt8) × (Int × Unit)) → Option draw_Codes_Term_R) (depth_1 : Int) (n_7 : Int) (p0 : ((List UInt8) × (Int × Unit))) (t_4 : D28) (l_6 : (List D28)) : Option draw_Codes_Term_R :=
 loopK N (fun y => draw_Codes_Term_s22 N rc y.1.1 y.1.2.1 y.2.1 y.2.2.1 y.2.2.2.1) (fun (e : ((Unit) × (((List UInt8) × (Int × Unit)) × D28 × (List D28) × Unit))) => draw_Codes_Term_23 N rc e.2.1 e.2.2.1 e.2.2.2.1) ((depth_1, n_7, ()), (p0, t_4, l_6, ()))
def draw_Codes_Term_20 (N : Nat) (rc : Int → ((List UInt8) × (Int × Unit)) → Option draw_Codes_Term_R) (depth_1 : Int) (p0 : ((List UInt8) × (Int × Unit))) (t_4 : D28) : Option draw_Codes_Term_R :=
 Option.bind (draw_Codes_Next N (4 : Int) p0) fun y13 =>
 draw_Codes_Term_21 N rc depth_1 y13.1.1 y13.2.1 t_4 ([] : List D28)
def draw_Codes_Term_25 (N : Nat) (rc : Int → ((List UInt8) × (Int × Unit)) → Option draw_Codes_Term_R) (depth_1 : Int) (p0 : ((List UInt8) × (Int × Unit))) (t_4 : D28) : Option draw_Codes_Term_R :=
 Option.bind (draw_Codes_Next N (3 : Int) p0) fun y46 =>
 Option.bind (rc (w64 (depth_1 - (1 : Int))) y46.2.1) fun y48 =>
 Option.bind (ref26_Sign N y46.1.1 y48.1.1) fun y49 =>
 some ((y49.1.1, ()), (y48.2.1, ()))
def draw_Codes_Term_24 (N : Nat) (rc : Int → ((List UInt8) × (Int × Unit)) → Option draw_Codes_Term_R) (depth_1 : Int) (t_20 : Int) (p0 : ((List UInt8) × (Int × Unit))) (t_4 : D28) : Option draw_Codes_Term_R :=
 bif (decide (t_20 = (6 : Int))) then
 Option.bind (draw_Codes_Name N p0) fun y21 =>
 Option.bind (ref26_Public N y21.1.1) fun y22 =>
 some ((y22.1.1, ()), (y21.2.1, ()))
 else
 bif (decide (t_20 = (7 : Int))) then
 Option.bind (draw_Codes_Name N p0) fun y24 =>
 Option.bind (ref26_Public N y24.1.1) fun y25 =>
 Option.bind (draw_Codes_Name N y24.2.1) fun y26 =>
 Option.bind (ref26_Agree N y25.1.1 y26.1.1) fun y27 =>
 some ((y27.1.1, ()), (y26.2.1, ()))
 else
 bif (decide (t_20 = (8 : Int))) then
 Option.bind (draw_Codes_Next N (9 : Int) p0) fun y29 =>
 Option.bind (rc (w64 (depth_1 - (1 : Int))) y29.2.1) fun y32 =>
 Option.bind (ref26_Derive N (w64 ((1 : Int) + y29.1.1)) ([y32.1.1] : List D28)) fun y33 =>
 some ((y33.1.1, ()), (y32.2.1, ()))
 else
 bif (decide (t_20 = (9 : Int))) then
 Option.bind (rc (w64 (depth_1 - (1 : Int))) p0) fun y36 =>
 Option.bind (rc (w64 (depth_1 - (1 : Int))) y36.2.1) fun y38 =>
 Option.bind (ref26_Seal N y36.1.1 y38.1.1) fun y39 =>
 some ((y39.1.1, ()), (y38.2.1, ()))
 else
 bif (decide (t_20 = (10 : Int))) then
 Option.bind (rc (w64 (depth_1 - (1 : Int))) p0) fun y42 =>
 Option.bind (rc (w64 (depth_1 - (1 : Int))) y42.2.1) fun y44 =>
 Option.bind (ref26_Seal N y42.1.1 y44.1.1) fun y45 =>
 some ((y45.1.1, ()), (y44.2.1, ()))
 else
 draw_Codes_Term_25 N rc depth_1 p0 t_4
def draw_Codes_Term_18 (N : Nat) (rc : Int → ((List UInt8) × (Int × Unit)) → Option draw_Codes_Term_R) (depth_1 : Int) (t_20 : Int) (t_36 : Bool) (p0 : ((List UInt8) × (Int × Unit))) (t_4 : D28) : Option draw_Codes_Term_R :=
 bif t_36 then
 draw_Codes_Term_20 N rc depth_1 p0 t_4
 else
 draw_Codes_Term_24 N rc depth_1 t_20 p0 t_4
def draw_Codes_Term_17 (N : Nat) (rc : Int → ((List UInt8) × (Int × Unit)) → Option draw_Codes_Term_R) (depth_1 : Int) (t_20 : Int) (p0 : ((List UInt8) × (Int × Unit))) (t_4 : D28) : Option draw_Codes_Term_R :=
 bif (decide (t_20 = (4 : Int))) then
 draw_Codes_Term_18 N rc depth_1 t_20 true p0 t_4
 else
 draw_Codes_Term_18 N rc depth_1 t_20 (decide (t_20 = (5 : Int))) p0 t_4
def draw_Codes_Term_14 (N : Nat) (rc : Int → ((List UInt8) × (Int × Unit)) → Option draw_Codes_Term_R) (depth_1 : Int) (t_20 : Int) (t_31 : Bool) (p0 : ((List UInt8) × (Int × Unit))) (t_4 : D28) : Option draw_Codes_Term_R :=
 bif t_31 then
 draw_Codes_Term_16 N rc p0 t_4
 else
 draw_Codes_Term_17 N rc depth_1 t_20 p0 t_4
def draw_Codes_Term_13 (N : Nat) (rc : Int → ((List UInt8) × (Int × Unit)) → Option draw_Codes_Term_R) (depth_1 : Int) (t_20 : Int) (p0 : ((List UInt8) × (Int × Unit))) (t_4 : D28) : Option draw_Codes_Term_R :=
 draw_Codes_Term_14 N rc depth_1 t_20 (decide (t_20 = (3 : Int))) p0 t_4
def draw_Codes_Term_10 (N : Nat) (rc : Int → ((List UInt8) × (Int × Unit)) → Option draw_Codes_Term_R) (depth_1 : Int) (t_20 : Int) (t_26 : Bool) (p0 : ((List UInt8) × (Int × Unit))) (t_4 : D28) : Option draw_Codes_Term_R :=
 bif t_26 then
 draw_Codes_Term_12 N rc p0 t_4
 else
 draw_Codes_Term_13 N rc depth_1 t_20 p0 t_4
def draw_Codes_Term_9 (N : Nat) (rc : Int → ((List UInt8) × (Int × Unit)) → Option draw_Codes_Term_R) (depth_1 : Int) (t_20 : Int) (p0 : ((List UInt8) × (Int × Unit))) (t_4 : D28) : Option draw_Codes_Term_R :=
 bif (decide (t_20 = (1 : Int))) then
 draw_Codes_Term_10 N rc depth_1 t_20 true p0 t_4
 else
 draw_Codes_Term_10 N rc depth_1 t_20 (decide (t_20 = (2 : Int))) p0 t_4
def draw_Codes_Term_6 (N : Nat) (rc : Int → ((List UInt8) × (Int × Unit)) → Option draw_Codes_Term_R) (depth_1 : Int) (t_20 : Int) (t_21 : Bool) (p0 : ((List UInt8) × (Int × Unit))) (t_4 : D28) : Option draw_Codes_Term_R :=
 bif t_21 then
 draw_Codes_Term_8 N rc p0 t_4
 else
 draw_Codes_Term_9 N rc depth_1 t_20 p0 t_4
def draw_Codes_Term_5 (N : Nat) (rc : Int → ((List UInt8) × (Int × Unit)) → Option draw_Codes_Term_R) (depth_1 : Int) (t_20 : Int) (p0 : ((List UInt8) × (Int × Unit))) (t_4 : D28) : Option draw_Codes_Term_R :=
 draw_Codes_Term_6 N rc depth_1 t_20 (decide (t_20 = (0 : Int))) p0 t_4
def draw_Codes_Term_3 (N : Nat) (rc : Int → ((List UInt8) × (Int × Unit)) → Option draw_Codes_Term_R) (depth_1 : Int) (t_20 : Int) (p0 : ((List UInt8) × (Int × Unit))) (t_4 : D28) : Option draw_Codes_Term_R :=
 draw_Codes_Term_5 N rc depth_1 t_20 p0 t_4
def draw_Codes_Term_2 (N : Nat) (rc : Int → ((List UInt8) × (Int × Unit)) → Option draw_Codes_Term_R) (depth_1 : Int) (k_5 : Int) (p0 : ((List UInt8) × (Int × Unit))) (t_4 : D28) : Option draw_Codes_Term_R :=
 draw_Codes_Term_3 N rc depth_1 k_5 p0 t_4
def draw_Codes_Term_1 (N : Nat) (rc : Int → ((List UInt8) × (Int × Unit)) → Option draw_Codes_Term_R) (depth_1 : Int) (k_5 : Int) (t_17 : Bool) (p0 : ((List UInt8) × (Int × Unit))) (t_4 : D28) : Option draw_Codes_Term_R :=
 bif t_17 then
 draw_Codes_Term_2 N rc depth_1 (k_5.tmod (4 : Int)) p0 t_4
 else
 draw_Codes_Term_2 N rc depth_1 k_5 p0 t_4
def draw_Codes_Term (N : Nat) (rc : Int → ((List UInt8) × (Int × Unit)) → Option draw_Codes_Term_R) (depth_1 : Int) (c_0 : ((List UInt8) × (Int × Unit))) : Option draw_Codes_Term_R :=
 Option.bind (draw_Codes_Next N (12 : Int) c_0) fun y1 =>
 bif (decide (depth_1 ≤ (1 : Int))) then
 draw_Codes_Term_1 N rc depth_1 y1.1.1 (decide ((3 : Int) < y1.1.1)) y1.2.1 ((0 : Int), (0 : Int), ([] : List Tree), ())
 else
 draw_Codes_Term_1 N rc depth_1 y1.1.1 false y1.2.1 ((0 : Int), (0 : Int), ([] : List Tree), ())
def draw_Codes_Term_S0 : Spec := ⟨[.ref 0 (.pair (.sl .u8) (.pair .i64 .unit)), .ref 1 T28], [(.box 46 (.pair (.sl .u8) (.pair .i64 .unit)), .fix 0), (.box 28 T28, .pos 1)]⟩
def draw_Codes_Term_S1 : Spec := ⟨[.ref 0 (.pair (.sl .u8) (.pair .i64 .unit)), .val .i64, .ref 1 T28, .row 2, .val .i64], [(.box 46 (.pair (.sl .u8) (.pair .i64 .unit)), .fix 0), (.box 28 T28, .pos 2), (.row 28 T28, .pos 3)]⟩
def draw_Codes_Term_S2 : Spec := ⟨[.ref 1 T28, .row 2], [(.box 46 (.pair (.sl .u8) (.pair .i64 .unit)), .fix 0), (.box 28 T28, .pos 0), (.row 28 T28, .pos 1)]⟩
def draw_Codes_Term_S3 : Spec := ⟨[.ref 0 (.pair (.sl .u8) (.pair .i64 .unit)), .val .i64, .ref 1 T28], [(.box 46 (.pair (.sl .u8) (.pair .i64 .unit)), .fix 0), (.box 28 T28, .pos 2)]⟩
def draw_Codes_Term_S4 : Spec := ⟨[.ref 0 (.pair (.sl .u8) (.pair .i64 .unit)), .val .i64, .ref 1 T28, .val .i64], [(.box 46 (.pair (.sl .u8) (.pair .i64 .unit)), .fix 0), (.box 28 T28, .pos 2)]⟩
def draw_Codes_Term_S5 : Spec := ⟨[.ref 0 (.pair (.sl .u8) (.pair .i64 .unit)), .val .i64, .ref 1 T28, .val .i64, .val .bool], [(.box 46 (.pair (.sl .u8) (.pair .i64 .unit)), .fix 0), (.box 28 T28, .pos 2)]⟩
def draw_Codes_Term_S6 : Spec := ⟨[.ref 0 (.pair (.sl .u8) (.pair .i64 .unit)), .val .i64], [(.box 46 (.pair (.sl .u8) (.pair .i64 .unit)), .pos 0)]⟩
def draw_Codes_Term_S7 : Spec := ⟨[.fp T28], [(.box 46 (.pair (.sl .u8) (.pair .i64 .unit)), .fix 0)]⟩
def draw_Codes_Term_ftr (N : Nat) (rc : Int → ((List UInt8) × (Int × Unit)) → Option draw_Codes_Term_R) : Ctr := ⟨draw_Codes_Term_S6, draw_Codes_Term_S7.un [true], 1, (fun y => rc y.1.1 y.2.1)⟩
def draw_Codes_Term_C (N : Nat) (rc : Int → ((List UInt8) × (Int × Unit)) → Option draw_Codes_Term_R) : Ctx := ⟨101, G_tys, [(22, draw_Codes_Next_ctr N), (20, ref26_Number_ctr N), (7, draw_Codes_Name_ctr N), (17, ref26_List_ctr N), (9, ref26_Public_ctr N), (8, ref26_Agree_ctr N), (11, ref26_Derive_ctr N), (18, ref26_Seal_ctr N), (19, ref26_Sign_ctr N), (15, draw_Codes_Term_ftr N rc)], G_globs, G_ifs⟩
def draw_Codes_Term_K (_N : Nat) (_rc : Int → ((List UInt8) × (Int × Unit)) → Option draw_Codes_Term_R) : XE → GS → Option draw_Codes_Term_R := retK 1 [4] [true] draw_Codes_Term_S7
def draw_Codes_Term_L : List Code := (bodyOf (some Tryd.f15))
def draw_Codes_Term_L4b : List Code := (blockOf (draw_Codes_Term_L[5]?))
def draw_Codes_Term_L7t : List Code := (thenOf (draw_Codes_Term_L4b[1]?))
def draw_Codes_Term_L7e : List Code := (elseOf (draw_Codes_Term_L4b[1]?))
def draw_Codes_Term_L11t : List Code := (thenOf (draw_Codes_Term_L7e[2]?))
def draw_Codes_Term_L11e : List Code := (elseOf (draw_Codes_Term_L7e[2]?))
def draw_Codes_Term_L15t : List Code := (thenOf (draw_Codes_Term_L11e[1]?))
def draw_Codes_Term_L15e : List Code := (elseOf (draw_Codes_Term_L11e[1]?))
def draw_Codes_Term_L19t : List Code := (thenOf (draw_Codes_Term_L15e[2]?))
def draw_Codes_Term_L22 : List Code := (loopOf (draw_Codes_Term_L19t[2]?))
def draw_Codes_Term_L19e : List Code := (elseOf (draw_Codes_Term_L15e[2]?))
def draw_Codes_Term_K4 (N : Nat) (rc : Int → ((List UInt8) × (Int × Unit)) → Option draw_Codes_Term_R) : XE → GS → Option draw_Codes_Term_R := blockK 0 (goK 1 [0, 1, 4] draw_Codes_Term_S3 (fun y => draw_Codes_Term_25 N rc y.1.1 y.2.1 y.2.2.1)) (draw_Codes_Term_K N rc)
def draw_Codes_Term_K7 (N : Nat) (rc : Int → ((List UInt8) × (Int × Unit)) → Option draw_Codes_Term_R) : XE → GS → Option draw_Codes_Term_R := nextK (draw_Codes_Term_K4 N rc .normal) (draw_Codes_Term_K4 N rc)
def draw_Codes_Term_K11 (N : Nat) (rc : Int → ((List UInt8) × (Int × Unit)) → Option draw_Codes_Term_R) : XE → GS → Option draw_Codes_Term_R := nextK (draw_Codes_Term_K7 N rc .normal) (draw_Codes_Term_K7 N rc)
def draw_Codes_Term_K15 (N : Nat) (rc : Int → ((List UInt8) × (Int × Unit)) → Option draw_Codes_Term_R) : XE → GS → Option draw_Codes_Term_R := nextK (draw_Codes_Term_K11 N rc .normal) (draw_Codes_Term_K11 N rc)
def draw_Codes_Term_K19 (N : Nat) (rc : Int → ((List UInt8) × (Int × Unit)) → Option draw_Codes_Term_R) : XE → GS → Option draw_Codes_Term_R := nextK (draw_Codes_Term_K15 N rc .normal) (draw_Codes_Term_K15 N rc)
def draw_Codes_Term_K22 (N : Nat) (rc : Int → ((List UInt8) × (Int × Unit)) → Option draw_Codes_Term_R) : XE → GS → Option (Lo ((Int × Int × Unit) × (((List UInt8) × (Int × Unit)) × D28 × (List D28) × Unit)) ((Unit) × (((List UInt8) × (Int × Unit)) × D28 × (List D28) × Unit)) draw_Codes_Term_R) := roundK (some 1) (fit 1 [0, 1, 4, 6, 7] draw_Codes_Term_S1) (fit 1 [4, 6] draw_Codes_Term_S2) (draw_Codes_Term_K19 N rc)
theorem draw_Codes_Term_8_b {E : Env} (N : Nat) (rc : Int → ((List UInt8) × (Int × Unit)) → Option draw_Codes_Term_R) (hb : Base Tryd.prog (draw_Codes_Term_C N rc) E 1) : Blk Tryd.prog (draw_Codes_Term_C N rc) E [0, 4] draw_Codes_Term_S0 (draw_Codes_Term_L7t.drop 0) (fun y => draw_Codes_Term_8 N rc y.2.1 y.2.2.1) (draw_Codes_Term_K7 N rc) :=
 Blk.chunkAt hb 2 (X := (draw_Codes_Term_K7 N rc .normal)) (NxOk.end (by kernel_rfl)) rfl (fun x => by kernel_rfl)
theorem draw_Codes_Term_12_b {E : Env} (N : Nat) (rc : Int → ((List UInt8) × (Int × Unit)) → Option draw_Codes_Term_R) (hb : Base Tryd.prog (draw_Codes_Term_C N rc) E 1) : Blk Tryd.prog (draw_Codes_Term_C N rc) E [0, 4] draw_Codes_Term_S0 (draw_Codes_Term_L11t.drop 0) (fun y => draw_Codes_Term_12 N rc y.2.1 y.2.2.1) (draw_Codes_Term_K11 N rc) :=
 Blk.chunkAt hb 2 (X := (draw_Codes_Term_K11 N rc .normal)) (NxOk.end (by kernel_rfl)) rfl (fun x => by kernel_rfl)
theorem draw_Codes_Term_16_b {E : Env} (N : Nat) (rc : Int → ((List UInt8) × (Int × Unit)) → Option draw_Codes_Term_R) (hb : Base Tryd.prog (draw_Codes_Term_C N rc) E 1) : Blk Tryd.prog (draw_Codes_Term_C N rc) E [0, 4] draw_Codes_Term_S0 (draw_Codes_Term_L15t.drop 0) (fun y => draw_Codes_Term_16 N rc y.2.1 y.2.2.1) (draw_Codes_Term_K15 N rc) :=
 Blk.chunkAt hb 2 (X := (draw_Codes_Term_K15 N rc .normal)) (NxOk.end (by kernel_rfl)) rfl (fun x => by kernel_rfl)
theorem draw_Codes_Term_s22_b {E : Env} (N : Nat) (rc : Int → ((List UInt8) × (Int × Unit)) → Option draw_Codes_Term_R) (hb : Base Tryd.prog (draw_Codes_Term_C N rc) E 1) : Blk Tryd.prog (draw_Codes_Term_C N rc) E [0, 1, 4, 6, 7] draw_Codes_Term_S1 (draw_Codes_Term_L22.drop 0) (fun y => draw_Codes_Term_s22 N rc y.1.1 y.1.2.1 y.2.1 y.2.2.1 y.2.2.2.1) (draw_Codes_Term_K22 N rc) :=
 Blk.chunkAt hb 4 (X := (draw_Codes_Term_K22 N rc .normal)) (NxOk.end (by kernel_rfl)) rfl (fun x => by kernel_rfl)
theorem draw_Codes_Term_23_b {E : Env} (N : Nat) (rc : Int → ((List UInt8) × (Int × Unit)) → Option draw_Codes_Term_R) (hb : Base Tryd.prog (draw_Codes_Term_C N rc) E 1) : Blk Tryd.prog (draw_Codes_Term_C N rc) E [4, 6] draw_Codes_Term_S2 (draw_Codes_Term_L19t.drop 3) (fun y => draw_Codes_Term_23 N rc y.2.1 y.2.2.1 y.2.2.2.1) (draw_Codes_Term_K19 N rc) :=
 Blk.chunkAt hb 2 (X := (draw_Codes_Term_K19 N rc .normal)) (NxOk.end (by kernel_rfl)) rfl (fun x => by kernel_rfl)
theorem draw_Codes_Term_21_b {E : Env} (N : Nat) (rc : Int → ((List UInt8) × (Int × Unit)) → Option draw_Codes_Term_R) (hb : Base Tryd.prog (draw_Codes_Term_C N rc) E 1) : Blk Tryd.prog (draw_Codes_Term_C N rc) E [0, 1, 4, 6, 7] draw_Codes_Term_S1 (draw_Codes_Term_L19t.drop 2) (fun y => draw_Codes_Term_21 N rc y.1.1 y.1.2.1 y.2.1 y.2.2.1 y.2.2.2.1) (draw_Codes_Term_K19 N rc) :=
 Blk.loopAt (Nf := N) (hns := [0, 1, 4, 6, 7]) (ans := [4, 6]) (hc := draw_Codes_Term_S1) (ac := draw_Codes_Term_S2) (bid := 1) (step := (fun y => draw_Codes_Term_s22 N rc y.1.1 y.1.2.1 y.2.1 y.2.2.1 y.2.2.2.1)) (J := (fun e => (goK 1 [4, 6] draw_Codes_Term_S2 (fun y => draw_Codes_Term_23 N rc y.2.1 y.2.2.1 y.2.2.2.1)) (draw_Codes_Term_S2.st [4, 6] e))) hb (by kernel_rfl) (Blk.into (X := (goK 1 [4, 6] draw_Codes_Term_S2 (fun y => draw_Codes_Term_23 N rc y.2.1 y.2.2.1 y.2.2.2.1))) (NxOk.go hb (draw_Codes_Term_23_b N rc hb)) (fun x => by kernel_rfl)) (draw_Codes_Term_s22_b N rc hb) (fun x => by kernel_rfl)
theorem draw_Codes_Term_20_b {E : Env} (N : Nat) (rc : Int → ((List UInt8) × (Int × Unit)) → Option draw_Codes_Term_R) (hb : Base Tryd.prog (draw_Codes_Term_C N rc) E 1) : Blk Tryd.prog (draw_Codes_Term_C N rc) E [0, 1, 4] draw_Codes_Term_S3 (draw_Codes_Term_L19t.drop 0) (fun y => draw_Codes_Term_20 N rc y.1.1 y.2.1 y.2.2.1) (draw_Codes_Term_K19 N rc) :=
 Blk.chunkAt hb 2 (X := (goK 1 [0, 1, 4, 6, 7] draw_Codes_Term_S1 (fun y => draw_Codes_Term_21 N rc y.1.1 y.1.2.1 y.2.1 y.2.2.1 y.2.2.2.1))) (NxOk.go hb (draw_Codes_Term_21_b N rc hb)) rfl (fun x => by kernel_rfl)
theorem draw_Codes_Term_25_b {E : Env} (N : Nat) (rc : Int → ((List UInt8) × (Int × Unit)) → Option draw_Codes_Term_R) (hb : Base Tryd.prog (draw_Codes_Term_C N rc) E 1) : Blk Tryd.prog (draw_Codes_Term_C N rc) E [0, 1, 4] draw_Codes_Term_S3 (draw_Codes_Term_L.drop 6) (fun y => draw_Codes_Term_25 N rc y.1.1 y.2.1 y.2.2.1) (draw_Codes_Term_K N rc) :=
 Blk.chunkAt hb 2 (X := (draw_Codes_Term_K N rc .normal)) (NxOk.end (by kernel_rfl)) rfl (fun x => by kernel_rfl)
theorem draw_Codes_Term_24_b {E : Env} (N : Nat) (rc : Int → ((List UInt8) × (Int × Unit)) → Option draw_Codes_Term_R) (hb : Base Tryd.prog (draw_Codes_Term_C N rc) E 1) : Blk Tryd.prog (draw_Codes_Term_C N rc) E [0, 1, 4, 20] draw_Codes_Term_S4 (draw_Codes_Term_L19e.drop 0) (fun y => draw_Codes_Term_24 N rc y.1.1 y.1.2.1 y.2.1 y.2.2.1) (draw_Codes_Term_K19 N rc) :=
 Blk.chunkAt hb 2 (X := (draw_Codes_Term_K19 N rc .normal)) (NxOk.end (by kernel_rfl)) rfl (fun x => by kernel_rfl)
theorem draw_Codes_Term_18_b {E : Env} (N : Nat) (rc : Int → ((List UInt8) × (Int × Unit)) → Option draw_Codes_Term_R) (hb : Base Tryd.prog (draw_Codes_Term_C N rc) E 1) : Blk Tryd.prog (draw_Codes_Term_C N rc) E [0, 1, 4, 20, 36] draw_Codes_Term_S5 (draw_Codes_Term_L15e.drop 2) (fun y => draw_Codes_Term_18 N rc y.1.1 y.1.2.1 y.1.2.2.1 y.2.1 y.2.2.1) (draw_Codes_Term_K15 N rc) :=
 Blk.condAt (n := 36) (X := (draw_Codes_Term_K15 N rc .normal)) (A := (goK 1 [0, 1, 4] draw_Codes_Term_S3 (fun y => draw_Codes_Term_20 N rc y.1.1 y.2.1 y.2.2.1))) (B := (goK 1 [0, 1, 4, 20] draw_Codes_Term_S4 (fun y => draw_Codes_Term_24 N rc y.1.1 y.1.2.1 y.2.1 y.2.2.1))) (by kernel_rfl) (NxOk.end (by kernel_rfl)) (NxOk.go hb (draw_Codes_Term_20_b N rc hb)) (NxOk.go hb (draw_Codes_Term_24_b N rc hb)) (fun x => by kernel_rfl)
theorem draw_Codes_Term_17_b {E : Env} (N : Nat) (rc : Int → ((List UInt8) × (Int × Unit)) → Option draw_Codes_Term_R) (hb : Base Tryd.prog (draw_Codes_Term_C N rc) E 1) : Blk Tryd.prog (draw_Codes_Term_C N rc) E [0, 1, 4, 20] draw_Codes_Term_S4 (draw_Codes_Term_L15e.drop 0) (fun y => draw_Codes_Term_17 N rc y.1.1 y.1.2.1 y.2.1 y.2.2.1) (draw_Codes_Term_K15 N rc) :=
 Blk.chunkAt hb 2 (X := (goK 1 [0, 1, 4, 20, 36] draw_Codes_Term_S5 (fun y => draw_Codes_Term_18 N rc y.1.1 y.1.2.1 y.1.2.2.1 y.2.1 y.2.2.1))) (NxOk.go hb (draw_Codes_Term_18_b N rc hb)) rfl (fun x => by kernel_rfl)
theorem draw_Codes_Term_14_b {E : Env} (N : Nat) (rc : Int → ((List UInt8) × (Int × Unit)) → Option draw_Codes_Term_R) (hb : Base Tryd.prog (draw_Codes_Term_C N rc) E 1) : Blk Tryd.prog (draw_Codes_Term_C N rc) E [0, 1, 4, 20, 31] draw_Codes_Term_S5 (draw_Codes_Term_L11e.drop 1) (fun y => draw_Codes_Term_14 N rc y.1.1 y.1.2.1 y.1.2.2.1 y.2.1 y.2.2.1) (draw_Codes_Term_K11 N rc) :=
 Blk.condAt (n := 31) (X := (draw_Codes_Term_K11 N rc .normal)) (A := (goK 1 [0, 4] draw_Codes_Term_S0 (fun y => draw_Codes_Term_16 N rc y.2.1 y.2.2.1))) (B := (goK 1 [0, 1, 4, 20] draw_Codes_Term_S4 (fun y => draw_Codes_Term_17 N rc y.1.1 y.1.2.1 y.2.1 y.2.2.1))) (by kernel_rfl) (NxOk.end (by kernel_rfl)) (NxOk.go hb (draw_Codes_Term_16_b N rc hb)) (NxOk.go hb (draw_Codes_Term_17_b N rc hb)) (fun x => by kernel_rfl)
theorem draw_Codes_Term_13_b {E : Env} (N : Nat) (rc : Int → ((List UInt8) × (Int × Unit)) → Option draw_Codes_Term_R) (hb : Base Tryd.prog (draw_Codes_Term_C N rc) E 1) : Blk Tryd.prog (draw_Codes_Term_C N rc) E [0, 1, 4, 20] draw_Codes_Term_S4 (draw_Codes_Term_L11e.drop 0) (fun y => draw_Codes_Term_13 N rc y.1.1 y.1.2.1 y.2.1 y.2.2.1) (draw_Codes_Term_K11 N rc) :=
 Blk.chunkAt hb 1 (X := (goK 1 [0, 1, 4, 20, 31] draw_Codes_Term_S5 (fun y => draw_Codes_Term_14 N rc y.1.1 y.1.2.1 y.1.2.2.1 y.2.1 y.2.2.1))) (NxOk.go hb (draw_Codes_Term_14_b N rc hb)) rfl (fun x => by kernel_rfl)
theorem draw_Codes_Term_10_b {E : Env} (N : Nat) (rc : Int → ((List UInt8) × (Int × Unit)) → Option draw_Codes_Term_R) (hb : Base Tryd.prog (draw_Codes_Term_C N rc) E 1) : Blk Tryd.prog (draw_Codes_Term_C N rc) E [0, 1, 4, 20, 26] draw_Codes_Term_S5 (draw_Codes_Term_L7e.drop 2) (fun y => draw_Codes_Term_10 N rc y.1.1 y.1.2.1 y.1.2.2.1 y.2.1 y.2.2.1) (draw_Codes_Term_K7 N rc) :=
 Blk.condAt (n := 26) (X := (draw_Codes_Term_K7 N rc .normal)) (A := (goK 1 [0, 4] draw_Codes_Term_S0 (fun y => draw_Codes_Term_12 N rc y.2.1 y.2.2.1))) (B := (goK 1 [0, 1, 4, 20] draw_Codes_Term_S4 (fun y => draw_Codes_Term_13 N rc y.1.1 y.1.2.1 y.2.1 y.2.2.1))) (by kernel_rfl) (NxOk.end (by kernel_rfl)) (NxOk.go hb (draw_Codes_Term_12_b N rc hb)) (NxOk.go hb (draw_Codes_Term_13_b N rc hb)) (fun x => by kernel_rfl)
theorem draw_Codes_Term_9_b {E : Env} (N : Nat) (rc : Int → ((List UInt8) × (Int × Unit)) → Option draw_Codes_Term_R) (hb : Base Tryd.prog (draw_Codes_Term_C N rc) E 1) : Blk Tryd.prog (draw_Codes_Term_C N rc) E [0, 1, 4, 20] draw_Codes_Term_S4 (draw_Codes_Term_L7e.drop 0) (fun y => draw_Codes_Term_9 N rc y.1.1 y.1.2.1 y.2.1 y.2.2.1) (draw_Codes_Term_K7 N rc) :=
 Blk.chunkAt hb 2 (X := (goK 1 [0, 1, 4, 20, 26] draw_Codes_Term_S5 (fun y => draw_Codes_Term_10 N rc y.1.1 y.1.2.1 y.1.2.2.1 y.2.1 y.2.2.1))) (NxOk.go hb (draw_Codes_Term_10_b N rc hb)) rfl (fun x => by kernel_rfl)
theorem draw_Codes_Term_6_b {E : Env} (N : Nat) (rc : Int → ((List UInt8) × (Int × Unit)) → Option draw_Codes_Term_R) (hb : Base Tryd.prog (draw_Codes_Term_C N rc) E 1) : Blk Tryd.prog (draw_Codes_Term_C N rc) E [0, 1, 4, 20, 21] draw_Codes_Term_S5 (draw_Codes_Term_L4b.drop 1) (fun y => draw_Codes_Term_6 N rc y.1.1 y.1.2.1 y.1.2.2.1 y.2.1 y.2.2.1) (draw_Codes_Term_K4 N rc) :=
 Blk.condAt (n := 21) (X := (draw_Codes_Term_K4 N rc .normal)) (A := (goK 1 [0, 4] draw_Codes_Term_S0 (fun y => draw_Codes_Term_8 N rc y.2.1 y.2.2.1))) (B := (goK 1 [0, 1, 4, 20] draw_Codes_Term_S4 (fun y => draw_Codes_Term_9 N rc y.1.1 y.1.2.1 y.2.1 y.2.2.1))) (by kernel_rfl) (NxOk.end (by kernel_rfl)) (NxOk.go hb (draw_Codes_Term_8_b N rc hb)) (NxOk.go hb (draw_Codes_Term_9_b N rc hb)) (fun x => by kernel_rfl)
theorem draw_Codes_Term_5_b {E : Env} (N : Nat) (rc : Int → ((List UInt8) × (Int × Unit)) → Option draw_Codes_Term_R) (hb : Base Tryd.prog (draw_Codes_Term_C N rc) E 1) : Blk Tryd.prog (draw_Codes_Term_C N rc) E [0, 1, 4, 20] draw_Codes_Term_S4 (draw_Codes_Term_L4b.drop 0) (fun y => draw_Codes_Term_5 N rc y.1.1 y.1.2.1 y.2.1 y.2.2.1) (draw_Codes_Term_K4 N rc) :=
 Blk.chunkAt hb 1 (X := (goK 1 [0, 1, 4, 20, 21] draw_Codes_Term_S5 (fun y => draw_Codes_Term_6 N rc y.1.1 y.1.2.1 y.1.2.2.1 y.2.1 y.2.2.1))) (NxOk.go hb (draw_Codes_Term_6_b N rc hb)) rfl (fun x => by kernel_rfl)
theorem draw_Codes_Term_3_b {E : Env} (N : Nat) (rc : Int → ((List UInt8) × (Int × Unit)) → Option draw_Codes_Term_R) (hb : Base Tryd.prog (draw_Codes_Term_C N rc) E 1) : Blk Tryd.prog (draw_Codes_Term_C N rc) E [0, 1, 4, 20] draw_Codes_Term_S4 (draw_Codes_Term_L.drop 5) (fun y => draw_Codes_Term_3 N rc y.1.1 y.1.2.1 y.2.1 y.2.2.1) (draw_Codes_Term_K N rc) :=
 Blk.blockAt (bid := 0) (X := (goK 1 [0, 1, 4] draw_Codes_Term_S3 (fun y => draw_Codes_Term_25 N rc y.1.1 y.2.1 y.2.2.1))) (Y := (goK 1 [0, 1, 4, 20] draw_Codes_Term_S4 (fun y => draw_Codes_Term_5 N rc y.1.1 y.1.2.1 y.2.1 y.2.2.1))) (by kernel_rfl) (NxOk.go hb (draw_Codes_Term_25_b N rc hb)) (NxOk.go hb (draw_Codes_Term_5_b N rc hb)) (fun x => by kernel_rfl)
theorem draw_Codes_Term_2_b {E : Env} (N : Nat) (rc : Int → ((List UInt8) × (Int × Unit)) → Option draw_Codes_Term_R) (hb : Base Tryd.prog (draw_Codes_Term_C N rc) E 1) : Blk Tryd.prog (draw_Codes_Term_C N rc) E [0, 1, 4, 5] draw_Codes_Term_S4 (draw_Codes_Term_L.drop 4) (fun y => draw_Codes_Term_2 N rc y.1.1 y.1.2.1 y.2.1 y.2.2.1) (draw_Codes_Term_K N rc) :=
 Blk.chunkAt hb 1 (X := (goK 1 [0, 1, 4, 20] draw_Codes_Term_S4 (fun y => draw_Codes_Term_3 N rc y.1.1 y.1.2.1 y.2.1 y.2.2.1))) (NxOk.go hb (draw_Codes_Term_3_b N rc hb)) rfl (fun x => by kernel_rfl)
theorem draw_Codes_Term_1_b {E : Env} (N : Nat) (rc : Int → ((List UInt8) × (Int × Unit)) → Option draw_Codes_Term_R) (hb : Base Tryd.prog (draw_Codes_Term_C N rc) E 1) : Blk Tryd.prog (draw_Codes_Term_C N rc) E [0, 1, 4, 5, 17] draw_Codes_Term_S5 (draw_Codes_Term_L.drop 3) (fun y => draw_Codes_Term_1 N rc y.1.1 y.1.2.1 y.1.2.2.1 y.2.1 y.2.2.1) (draw_Codes_Term_K N rc) :=
 Blk.chunkAt hb 1 (X := (goK 1 [0, 1, 4, 5] draw_Codes_Term_S4 (fun y => draw_Codes_Term_2 N rc y.1.1 y.1.2.1 y.2.1 y.2.2.1))) (NxOk.go hb (draw_Codes_Term_2_b N rc hb)) rfl (fun x => by kernel_rfl)
theorem draw_Codes_Term_b {E : Env} (N : Nat) (rc : Int → ((List UInt8) × (Int × Unit)) → Option draw_Codes_Term_R) (hb : Base Tryd.prog (draw_Codes_Term_C N rc) E 1) : Blk Tryd.prog (draw_Codes_Term_C N rc) E (List.range draw_Codes_Term_S6.ks.length) draw_Codes_Term_S6 (draw_Codes_Term_L.drop 0) (fun y => draw_Codes_Term N rc y.1.1 y.2.1) (draw_Codes_Term_K N rc) :=
 Blk.chunkAt hb 3 (X := (goK 1 [0, 1, 4, 5, 17] draw_Codes_Term_S5 (fun y => draw_Codes_Term_1 N rc y.1.1 y.1.2.1 y.1.2.2.1 y.2.1 y.2.2.1))) (NxOk.go hb (draw_Codes_Term_1_b N rc hb)) rfl (fun x => by kernel_rfl)
def draw_Codes_Term_octr (N : Nat) (rc : Int → ((List UInt8) × (Int × Unit)) → Option draw_Codes_Term_R) : Ctr := ⟨draw_Codes_Term_S6, draw_Codes_Term_S7.un [true], 1, (fun y => draw_Codes_Term N rc y.1.1 y.2.1)⟩
theorem draw_Codes_Term_ctrs (N : Nat) (rc : Int → ((List UInt8) × (Int × Unit)) → Option draw_Codes_Term_R) (hf : Ctr.ok Tryd.prog G_globs 15 (draw_Codes_Term_ftr N rc)) : CtrsOk Tryd.prog (draw_Codes_Term_C N rc) := ctrs_of (Γ := draw_Codes_Term_C N rc) G_ifs_ok (by
 intro p hp
 simp only [draw_Codes_Term_C, List.mem_cons, List.not_mem_nil, or_false] at hp
 rcases hp with rfl | rfl | rfl | rfl | rfl | rfl | rfl | rfl | rfl | rfl
 · exact draw_Codes_Next_ok N
 · exact ref26_Number_ok N
 · exact draw_Codes_Name_ok N
 · exact ref26_List_ok N
 · exact ref26_Public_ok N
 · exact ref26_Agree_ok N
 · exact ref26_Derive_ok N
 · exact ref26_Seal_ok N
 · exact ref26_Sign_ok N
 · exact hf)
theorem draw_Codes_Term_ook (N : Nat) (rc : Int → ((List UInt8) × (Int × Unit)) → Option draw_Codes_Term_R) (hf : Ctr.ok Tryd.prog G_globs 15 (draw_Codes_Term_ftr N rc))  : Ctr.ok Tryd.prog G_globs 15 (draw_Codes_Term_octr N rc) :=
 ctr_fn (Γ := draw_Codes_Term_C N rc) (rfit := draw_Codes_Term_S7) (bs := [true]) (res := [4]) (by kernel_rfl) (tys_ok G_tys_ok) (draw_Codes_Term_ctrs N rc hf) Tryd.func15 (by kernel_rfl) (by kernel_rfl) Tryd.ntmps15 (by kernel_rfl) (by kernel_rfl) (by kernel_rfl) (by kernel_rfl) (fun E hb => draw_Codes_Term_b N rc hb)
def draw_Codes_TermR (N : Nat) : Nat → Int → ((List UInt8) × (Int × Unit)) → Option draw_Codes_Term_R
 | 0 => fun _ _ => none
 | n + 1 => fun depth_1 c_0 => draw_Codes_Term N (draw_Codes_TermR N n) depth_1 c_0
theorem draw_Codes_TermR_ok (N : Nat) : ∀ n : Nat, Ctr.ok Tryd.prog G_globs 15 (draw_Codes_Term_ftr N (draw_Codes_TermR N n))
 | 0 => ctr_never Tryd.func15 (by kernel_rfl) (by kernel_rfl) (fun x => rfl)
 | n + 1 => draw_Codes_Term_ook N (draw_Codes_TermR N n) (draw_Codes_TermR_ok N n)
def draw_Codes_Term_ctr (N : Nat) : Ctr := draw_Codes_Term_ftr N (draw_Codes_TermR N N)
theorem draw_Codes_Term_ok (N : Nat) : Ctr.ok Tryd.prog G_globs 15 (draw_Codes_Term_ctr N) := draw_Codes_TermR_ok N N
/-! (*ipsecgate/ipsecgatedraw.Codes).Terms -/
abbrev draw_Codes_Terms_R : Type := ((Unit) × (((List UInt8) × (Int × Unit)) × (List D28) × Unit))
def draw_Codes_Terms_s2 (N : Nat) (depth_2 : Int) (n_8 : Int) (p0 : ((List UInt8) × (Int × Unit))) (l_7 : (List D28)) : Option (Lo ((Int × Int × Unit) × (((List UInt8) × (Int × Unit)) × (List D28) × Unit)) ((Unit) × (((List UInt8) × (Int × Unit)) × (List D28) × Unit)) draw_Codes_Terms_R) :=
 bif (decide ((0 : Int) < n_8)) then
 Option.bind (draw_Codes_TermR N N depth_2 p0) fun y4 =>
 bif room (l_7.length + ([y4.1.1] : List D28).length) 40 then
 some (.go ((depth_2, (w64 (n_8 - (1 : Int))), ()), (y4.2.1, (l_7 ++ ([y4.1.1] : List D28)), ())))
 else none
 else
 some (.br ((()), (p0, l_7, ())))
def draw_Codes_Terms_3 (N : Nat) (p0 : ((List UInt8) × (Int × Unit))) (l_7 : (List D28)) : Option draw_Codes_Terms_R :=
 some ((()), (p0, l_7, ()))
def draw_Codes_Terms_1 (N : Nat) (depth_2 : Int) (n_8 : Int) (p0 : ((List UInt8) × (Int × Unit))) (l_7 : (List D28)) : Option draw_Codes_Terms_R :=
 loopK N (fun y => draw_Codes_Terms_s2 N y.1.1 y.1.2.1 y.2.1 y.2.2.1) (fun (e : ((Unit) × (((List UInt8) × (Int × Unit)) × (List D28) × Unit))) => draw_Codes_Terms_3 N e.2.1 e.2.2.1) ((depth_2, n_8, ()), (p0, l_7, ()))
def draw_Codes_Terms (N : Nat) (most_1 : Int) (depth_2 : Int) (c_0 : ((List UInt8) × (Int × Unit))) : Option draw_Codes_Terms_R :=
 Option.bind (draw_Codes_Next N (w64 (most_1 + (1 : Int))) c_0) fun y2 =>
 draw_Codes_Terms_1 N depth_2 y2.1.1 y2.2.1 ([] : List D28)
def draw_Codes_Terms_C (N : Nat) : Ctx := ⟨24, G_tys, [(22, draw_Codes_Next_ctr N), (15, draw_Codes_Term_ctr N)], G_globs, G_ifs⟩
def draw_Codes_Terms_S0 : Spec := ⟨[.ref 0 (.pair (.sl .u8) (.pair .i64 .unit)), .val .i64, .row 1, .val .i64], [(.box 46 (.pair (.sl .u8) (.pair .i64 .unit)), .fix 0), (.row 28 T28, .pos 2)]⟩
def draw_Codes_Terms_S1 : Spec := ⟨[.row 1], [(.box 46 (.pair (.sl .u8) (.pair .i64 .unit)), .fix 0), (.row 28 T28, .pos 0)]⟩
def draw_Codes_Terms_S2 : Spec := ⟨[.ref 0 (.pair (.sl .u8) (.pair .i64 .unit)), .val .i64, .val .i64], [(.box 46 (.pair (.sl .u8) (.pair .i64 .unit)), .pos 0)]⟩
def draw_Codes_Terms_K (_N : Nat) : XE → GS → Option draw_Codes_Terms_R := retK 1 [6] [false] draw_Codes_Terms_S1
def draw_Codes_Terms_L : List Code := (bodyOf (some Tryd.f14))
def draw_Codes_Terms_L2 : List Code := (loopOf (draw_Codes_Terms_L[3]?))
def draw_Codes_Terms_K2 (N : Nat) : XE → GS → Option (Lo ((Int × Int × Unit) × (((List UInt8) × (Int × Unit)) × (List D28) × Unit)) ((Unit) × (((List UInt8) × (Int × Unit)) × (List D28) × Unit)) draw_Codes_Terms_R) := roundK (some 0) (fit 1 [0, 2, 7, 8] draw_Codes_Terms_S0) (fit 1 [7] draw_Codes_Terms_S1) (draw_Codes_Terms_K N)
theorem draw_Codes_Terms_s2_b {E : Env} (N : Nat) (hb : Base Tryd.prog (draw_Codes_Terms_C N) E 1) : Blk Tryd.prog (draw_Codes_Terms_C N) E [0, 2, 7, 8] draw_Codes_Terms_S0 (draw_Codes_Terms_L2.drop 0) (fun y => draw_Codes_Terms_s2 N y.1.1 y.1.2.1 y.2.1 y.2.2.1) (draw_Codes_Terms_K2 N) :=
 Blk.chunkAt hb 4 (X := (draw_Codes_Terms_K2 N .normal)) (NxOk.end (by kernel_rfl)) rfl (fun x => by kernel_rfl)
theorem draw_Codes_Terms_3_b {E : Env} (N : Nat) (hb : Base Tryd.prog (draw_Codes_Terms_C N) E 1) : Blk Tryd.prog (draw_Codes_Terms_C N) E [7] draw_Codes_Terms_S1 (draw_Codes_Terms_L.drop 4) (fun y => draw_Codes_Terms_3 N y.2.1 y.2.2.1) (draw_Codes_Terms_K N) :=
 Blk.chunkAt hb 2 (X := (draw_Codes_Terms_K N .normal)) (NxOk.end (by kernel_rfl)) rfl (fun x => by kernel_rfl)
theorem draw_Codes_Terms_1_b {E : Env} (N : Nat) (hb : Base Tryd.prog (draw_Codes_Terms_C N) E 1) : Blk Tryd.prog (draw_Codes_Terms_C N) E [0, 2, 7, 8] draw_Codes_Terms_S0 (draw_Codes_Terms_L.drop 3) (fun y => draw_Codes_Terms_1 N y.1.1 y.1.2.1 y.2.1 y.2.2.1) (draw_Codes_Terms_K N) :=
 Blk.loopAt (Nf := N) (hns := [0, 2, 7, 8]) (ans := [7]) (hc := draw_Codes_Terms_S0) (ac := draw_Codes_Terms_S1) (bid := 0) (step := (fun y => draw_Codes_Terms_s2 N y.1.1 y.1.2.1 y.2.1 y.2.2.1)) (J := (fun e => (goK 1 [7] draw_Codes_Terms_S1 (fun y => draw_Codes_Terms_3 N y.2.1 y.2.2.1)) (draw_Codes_Terms_S1.st [7] e))) hb (by kernel_rfl) (Blk.into (X := (goK 1 [7] draw_Codes_Terms_S1 (fun y => draw_Codes_Terms_3 N y.2.1 y.2.2.1))) (NxOk.go hb (draw_Codes_Terms_3_b N hb)) (fun x => by kernel_rfl)) (draw_Codes_Terms_s2_b N hb) (fun x => by kernel_rfl)
theorem draw_Codes_Terms_b {E : Env} (N : Nat) (hb : Base Tryd.prog (draw_Codes_Terms_C N) E 1) : Blk Tryd.prog (draw_Codes_Terms_C N) E (List.range draw_Codes_Terms_S2.ks.length) draw_Codes_Terms_S2 (draw_Codes_Terms_L.drop 0) (fun y => draw_Codes_Terms N y.1.1 y.1.2.1 y.2.1) (draw_Codes_Terms_K N) :=
 Blk.chunkAt hb 3 (X := (goK 1 [0, 2, 7, 8] draw_Codes_Terms_S0 (fun y => draw_Codes_Terms_1 N y.1.1 y.1.2.1 y.2.1 y.2.2.1))) (NxOk.go hb (draw_Codes_Terms_1_b N hb)) rfl (fun x => by kernel_rfl)
def draw_Codes_Terms_ctr (N : Nat) : Ctr := ⟨draw_Codes_Terms_S2, draw_Codes_Terms_S1.un [false], 1, (fun y => draw_Codes_Terms N y.1.1 y.1.2.1 y.2.1)⟩
theorem draw_Codes_Terms_ctrs (N : Nat) : CtrsOk Tryd.prog (draw_Codes_Terms_C N) := ctrs_of (Γ := draw_Codes_Terms_C N) G_ifs_ok (by
 intro p hp
 simp only [draw_Codes_Terms_C, List.mem_cons, List.not_mem_nil, or_false] at hp
 rcases hp with rfl | rfl
 · exact draw_Codes_Next_ok N
 · exact draw_Codes_Term_ok N)
theorem draw_Codes_Terms_ok (N : Nat) : Ctr.ok Tryd.prog G_globs 14 (draw_Codes_Terms_ctr N) :=
 ctr_fn (Γ := draw_Codes_Terms_C N) (rfit := draw_Codes_Terms_S1) (bs := [false]) (res := [6]) (by kernel_rfl) (tys_ok G_tys_ok) (draw_Codes_Terms_ctrs N) Tryd.func14 (by kernel_rfl) (by kernel_rfl) Tryd.ntmps14 (by kernel_rfl) (by kernel_rfl) (by kernel_rfl) (by kernel_rfl) (fun E hb => draw_Codes_Terms_b N hb)
/-! ipsecgate/ipsecgatelaw44.ConcreteLengths -/
abbrev law44_ConcreteLengths_R : Type := ((Bool × Unit) × (Unit))
def law44_ConcreteLengths_s2 (N : Nat) (n_6 : Int) (i_7 : Int) (l_4 : (List D28)) (key_5 : D28) : Option (Lo ((Int × Int × Unit) × ((List D28) × D28 × Unit)) ((Int × Unit) × ((List D28) × D28 × Unit)) law44_ConcreteLengths_R) :=
 bif (decide (i_7 < (l_4.length : Int))) then
 bif inR i_7 l_4.length then
 Option.bind (concrete_Write N (l_4.getD i_7.toNat ((0 : Int), (0 : Int), ([] : List Tree), ()))) fun y9 =>
 bif (!(decide (y9.1.1 = (0 : Int)))) then
 some (.rt ((false, ()), (())))
 else
 some (.go (((w64 (n_6 + (w64 ((2 : Int) + (y9.2.1.length : Int))))), (w64 (i_7 + (1 : Int))), ()), (l_4, key_5, ())))
 else none
 else
 some (.br ((n_6, ()), (l_4, key_5, ())))
def law44_ConcreteLengths_3 (N : Nat) (n_6 : Int) (l_4 : (List D28)) (key_5 : D28) : Option law44_ConcreteLengths_R :=
 Option.bind (ref26_List N l_4) fun y15 =>
 Option.bind (concrete_Write N y15.1.1) fun y16 =>
 Option.bind (ref26_Seal N key_5 y15.1.1) fun y17 =>
 Option.bind (concrete_Write N y17.1.1) fun y18 =>
 Option.bind (ref26_Sign N (1 : Int) y15.1.1) fun y19 =>
 Option.bind (concrete_Write N y19.1.1) fun y20 =>
 Option.bind (ref26_Derive N (1 : Int) l_4) fun y21 =>
 Option.bind (concrete_Write N y21.1.1) fun y22 =>
 bif (decide (y16.1.1 = (0 : Int))) then
 bif (decide (y18.1.1 = (0 : Int))) then
 bif (decide (y20.1.1 = (0 : Int))) then
 bif (decide (y22.1.1 = (0 : Int))) then
 bif (decide ((y16.2.1.length : Int) = n_6)) then
 bif (decide ((y18.2.1.length : Int) = (w64 (n_6 + (37 : Int))))) then
 bif (decide ((y20.2.1.length : Int) = (w64 (n_6 + (43 : Int))))) then
 some (((decide ((y22.2.1.length : Int) = (33 : Int))), ()), (()))
 else
 some ((false, ()), (()))
 else
 some ((false, ()), (()))
 else
 some ((false, ()), (()))
 else
 some ((false, ()), (()))
 else
 some ((false, ()), (()))
 else
 some ((false, ()), (()))
 else
 some ((false, ()), (()))
def law44_ConcreteLengths_1 (N : Nat) (n_6 : Int) (i_7 : Int) (l_4 : (List D28)) (key_5 : D28) : Option law44_ConcreteLengths_R :=
 loopK N (fun y => law44_ConcreteLengths_s2 N y.1.1 y.1.2.1 y.2.1 y.2.2.1) (fun (e : ((Int × Unit) × ((List D28) × D28 × Unit))) => law44_ConcreteLengths_3 N e.1.1 e.2.1 e.2.2.1) ((n_6, i_7, ()), (l_4, key_5, ()))
def law44_ConcreteLengths (N : Nat) (codes_0 : (List UInt8)) : Option law44_ConcreteLengths_R :=
 Option.bind (law44_awake N) fun y1 =>
 bif (!y1.1.1) then
 some ((false, ()), (()))
 else
 Option.bind (draw_New N codes_0 (150 : Int)) fun y3 =>
 Option.bind (draw_Codes_Terms N (4 : Int) (3 : Int) y3.2.1) fun y4 =>
 Option.bind (draw_Codes_TermR N N (2 : Int) y4.2.1) fun y5 =>
 law44_ConcreteLengths_1 N (3 : Int) (0 : Int) y4.2.2.1 y5.1.1
def law44_ConcreteLengths_C (N : Nat) : Ctx := ⟨113, G_tys, [(5, law44_awake_ctr N), (6, draw_New_ctr N), (14, draw_Codes_Terms_ctr N), (15, draw_Codes_Term_ctr N), (16, concrete_Write_ctr N), (17, ref26_List_ctr N), (18, ref26_Seal_ctr N), (19, ref26_Sign_ctr N), (11, ref26_Derive_ctr N)], G_globs, G_ifs⟩
def law44_ConcreteLengths_S0 : Spec := ⟨[.row 0, .ref 1 T28, .val .i64, .val .i64], [(.row 28 T28, .pos 0), (.box 28 T28, .pos 1)]⟩
def law44_ConcreteLengths_S1 : Spec := ⟨[.row 0, .ref 1 T28, .val .i64], [(.row 28 T28, .pos 0), (.box 28 T28, .pos 1)]⟩
def law44_ConcreteLengths_S2 : Spec := ⟨[.val (.sl .u8)], []⟩
def law44_ConcreteLengths_S3 : Spec := ⟨[.val .bool], []⟩
def law44_ConcreteLengths_K (_N : Nat) : XE → GS → Option law44_ConcreteLengths_R := retK 0 [2] [false] law44_ConcreteLengths_S3
def law44_ConcreteLengths_L : List Code := (bodyOf (some Tryd.f4))
def law44_ConcreteLengths_L2 : List Code := (loopOf (law44_ConcreteLengths_L[7]?))
def law44_ConcreteLengths_K2 (N : Nat) : XE → GS → Option (Lo ((Int × Int × Unit) × ((List D28) × D28 × Unit)) ((Int × Unit) × ((List D28) × D28 × Unit)) law44_ConcreteLengths_R) := roundK (some 0) (fit 0 [4, 5, 6, 7] law44_ConcreteLengths_S0) (fit 0 [4, 5, 6] law44_ConcreteLengths_S1) (law44_ConcreteLengths_K N)
theorem law44_ConcreteLengths_s2_b {E : Env} (N : Nat) (hb : Base Tryd.prog (law44_ConcreteLengths_C N) E 0) : Blk Tryd.prog (law44_ConcreteLengths_C N) E [4, 5, 6, 7] law44_ConcreteLengths_S0 (law44_ConcreteLengths_L2.drop 0) (fun y => law44_ConcreteLengths_s2 N y.1.1 y.1.2.1 y.2.1 y.2.2.1) (law44_ConcreteLengths_K2 N) :=
 Blk.chunkAt hb 4 (X := (law44_ConcreteLengths_K2 N .normal)) (NxOk.end (by kernel_rfl)) rfl (fun x => by kernel_rfl)
theorem law44_ConcreteLengths_3_b {E : Env} (N : Nat) (hb : Base Tryd.prog (law44_ConcreteLengths_C N) E 0) : Blk Tryd.prog (law44_ConcreteLengths_C N) E [4, 5, 6] law44_ConcreteLengths_S1 (law44_ConcreteLengths_L.drop 8) (fun y => law44_ConcreteLengths_3 N y.1.1 y.2.1 y.2.2.1) (law44_ConcreteLengths_K N) :=
 Blk.chunkAt hb 7 (X := (law44_ConcreteLengths_K N .normal)) (NxOk.end (by kernel_rfl)) rfl (fun x => by kernel_rfl)
theorem law44_ConcreteLengths_1_b {E : Env} (N : Nat) (hb : Base Tryd.prog (law44_ConcreteLengths_C N) E 0) : Blk Tryd.prog (law44_ConcreteLengths_C N) E [4, 5, 6, 7] law44_ConcreteLengths_S0 (law44_ConcreteLengths_L.drop 7) (fun y => law44_ConcreteLengths_1 N y.1.1 y.1.2.1 y.2.1 y.2.2.1) (law44_ConcreteLengths_K N) :=
 Blk.loopAt (Nf := N) (hns := [4, 5, 6, 7]) (ans := [4, 5, 6]) (hc := law44_ConcreteLengths_S0) (ac := law44_ConcreteLengths_S1) (bid := 0) (step := (fun y => law44_ConcreteLengths_s2 N y.1.1 y.1.2.1 y.2.1 y.2.2.1)) (J := (fun e => (goK 0 [4, 5, 6] law44_ConcreteLengths_S1 (fun y => law44_ConcreteLengths_3 N y.1.1 y.2.1 y.2.2.1)) (law44_ConcreteLengths_S1.st [4, 5, 6] e))) hb (by kernel_rfl) (Blk.into (X := (goK 0 [4, 5, 6] law44_ConcreteLengths_S1 (fun y => law44_ConcreteLengths_3 N y.1.1 y.2.1 y.2.2.1))) (NxOk.go hb (law44_ConcreteLengths_3_b N hb)) (fun x => by kernel_rfl)) (law44_ConcreteLengths_s2_b N hb) (fun x => by kernel_rfl)
theorem law44_ConcreteLengths_b {E : Env} (N : Nat) (hb : Base Tryd.prog (law44_ConcreteLengths_C N) E 0) : Blk Tryd.prog (law44_ConcreteLengths_C N) E (List.range law44_ConcreteLengths_S2.ks.length) law44_ConcreteLengths_S2 (law44_ConcreteLengths_L.drop 0) (fun y => law44_ConcreteLengths N y.1.1) (law44_ConcreteLengths_K N) :=
 Blk.chunkAt hb 7 (X := (goK 0 [4, 5, 6, 7] law44_ConcreteLengths_S0 (fun y => law44_ConcreteLengths_1 N y.1.1 y.1.2.1 y.2.1 y.2.2.1))) (NxOk.go hb (law44_ConcreteLengths_1_b N hb)) rfl (fun x => by kernel_rfl)
def law44_ConcreteLengths_ctr (N : Nat) : Ctr := ⟨law44_ConcreteLengths_S2, law44_ConcreteLengths_S3.un [false], 0, (fun y => law44_ConcreteLengths N y.1.1)⟩
theorem law44_ConcreteLengths_ctrs (N : Nat) : CtrsOk Tryd.prog (law44_ConcreteLengths_C N) := ctrs_of (Γ := law44_ConcreteLengths_C N) G_ifs_ok (by
 intro p hp
 simp only [law44_ConcreteLengths_C, List.mem_cons, List.not_mem_nil, or_false] at hp
 rcases hp with rfl | rfl | rfl | rfl | rfl | rfl | rfl | rfl | rfl
 · exact law44_awake_ok N
 · exact draw_New_ok N
 · exact draw_Codes_Terms_ok N
 · exact draw_Codes_Term_ok N
 · exact concrete_Write_ok N
 · exact ref26_List_ok N
 · exact ref26_Seal_ok N
 · exact ref26_Sign_ok N
 · exact ref26_Derive_ok N)
theorem law44_ConcreteLengths_ok (N : Nat) : Ctr.ok Tryd.prog G_globs 4 (law44_ConcreteLengths_ctr N) :=
 ctr_fn (Γ := law44_ConcreteLengths_C N) (rfit := law44_ConcreteLengths_S3) (bs := [false]) (res := [2]) (by kernel_rfl) (tys_ok G_tys_ok) (law44_ConcreteLengths_ctrs N) Tryd.func4 (by kernel_rfl) (by kernel_rfl) Tryd.ntmps4 (by kernel_rfl) (by kernel_rfl) (by kernel_rfl) (by kernel_rfl) (fun E hb => law44_ConcreteLengths_b N hb)
end
end Go.Proofs.YtajpblfinenmjaaDoor