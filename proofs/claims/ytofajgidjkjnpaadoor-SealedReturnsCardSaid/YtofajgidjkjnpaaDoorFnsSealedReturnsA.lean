/- Functions of the program as plain functions, each with the proof that the text computes it. -/
import Derived.Test.YtofajgidjkjnpaaDoorGmRule
import Derived.Test.YtofajgidjkjnpaaDoorProg
set_option linter.unusedVariables false
set_option linter.unusedSimpArgs false
namespace Go.Proofs.YtofajgidjkjnpaaDoor
open Go
set_option maxRecDepth 100000
set_option linter.unusedVariables false
noncomputable section
abbrev D13 : Type := ((List UInt8) × (UInt64 × Unit))
abbrev T13 : Ty := (.pair .str (.pair .u64 .unit))
abbrev D36 : Type := (UInt64 × ((List UInt8) × Unit))
abbrev T36 : Ty := (.pair .u64 (.pair (.sl .u8) .unit))
abbrev D103 : Type := (Int × (UInt64 × (UInt64 × Unit)))
abbrev T103 : Ty := (.pair .i64 (.pair .u64 (.pair .u64 .unit)))
abbrev D195 : Type := (Int × (Bool × ((List UInt8) × Unit)))
abbrev T195 : Ty := (.pair .i64 (.pair .bool (.pair (.sl .u8) .unit)))
abbrev D236 : Type := ((List UInt8) × (Int × (Bool × Unit)))
abbrev T236 : Ty := (.pair (.sl .u8) (.pair .i64 (.pair .bool .unit)))
abbrev D7 : Type := (Int × (Int × (Bool × (UInt8 × Unit))))
abbrev T7 : Ty := (.pair .i64 (.pair .i64 (.pair .bool (.pair .u8 .unit))))
abbrev D91 : Type := (Int × (Int × (Int × ((List UInt8) × Unit))))
abbrev T91 : Ty := (.pair .i64 (.pair .i64 (.pair .i64 (.pair (.sl .u8) .unit))))
abbrev D75 : Type := (UInt64 × (UInt64 × (Int × (Int × (Int × (UInt32 × Unit))))))
abbrev T75 : Ty := (.pair .u64 (.pair .u64 (.pair .i64 (.pair .i64 (.pair .i64 (.pair .u32 .unit))))))
abbrev D65 : Type := ((List UInt8) × (UInt64 × (Int × D195)))
abbrev T65 : Ty := (.pair .str (.pair .u64 (.pair .i64 T195)))
abbrev D242 : Type := (D195 × (Int × ((List UInt8) × (Int × Unit))))
abbrev T242 : Ty := (.pair T195 (.pair .i64 (.pair (.sl .u8) (.pair .i64 .unit))))
abbrev D154 : Type := (D75 × (Int × ((List UInt8) × Unit)))
abbrev T154 : Ty := (.pair T75 (.pair .i64 (.pair (.sl .u8) .unit)))
abbrev D105 : Type := (D103 × (D103 × (Int × (Int × (Int × Unit)))))
abbrev T105 : Ty := (.pair T103 (.pair T103 (.pair .i64 (.pair .i64 (.pair .i64 .unit)))))
abbrev D107 : Type := (D105 × (Int × (Bool × (Bool × (Int × Unit)))))
abbrev T107 : Ty := (.pair T105 (.pair .i64 (.pair .bool (.pair .bool (.pair .i64 .unit)))))
def G_tys : List (Nat × TI) := [(2, ⟨.i64, 8, 0, false⟩), (3, ⟨.i64, 8, 0, false⟩), (4, ⟨.bool, 1, 0, false⟩), (5, ⟨.u8, 1, 0, false⟩), (6, ⟨.u8, 1, 0, false⟩), (7, ⟨T7, 24, 0, false⟩), (8, ⟨T7, 24, 0, false⟩), (9, ⟨.str, 16, 0, false⟩), (10, ⟨.str, 16, 0, false⟩), (11, ⟨.str, 16, 0, false⟩), (12, ⟨.u64, 8, 0, false⟩), (13, ⟨T13, 24, 0, false⟩), (14, ⟨T13, 24, 0, false⟩), (22, ⟨(.sl .u8), 24, 5, false⟩), (23, ⟨.u64, 8, 0, false⟩), (28, ⟨.i64, 8, 0, false⟩), (33, ⟨(.sl .u64), 24, 23, false⟩), (36, ⟨T36, 32, 0, false⟩), (37, ⟨(.sl T36), 24, 36, false⟩), (40, ⟨.u32, 4, 0, false⟩), (44, ⟨(.arr 2 .i64), 16, 3, false⟩), (46, ⟨(.sl (.arr 2 .i64)), 24, 44, false⟩), (50, ⟨(.sl (.sl .u8)), 24, 22, false⟩), (57, ⟨(.sl T65), 24, 66, false⟩), (65, ⟨T65, 72, 0, false⟩), (66, ⟨T65, 72, 0, false⟩), (69, ⟨(.sl (.sl T65)), 24, 57, false⟩), (75, ⟨T75, 48, 0, false⟩), (76, ⟨T75, 48, 0, true⟩), (91, ⟨T91, 48, 0, false⟩), (92, ⟨T91, 48, 0, false⟩), (96, ⟨(.sl T91), 24, 92, false⟩), (99, ⟨(.sl .i64), 24, 3, false⟩), (103, ⟨T103, 24, 0, false⟩), (104, ⟨T103, 24, 0, false⟩), (105, ⟨T105, 72, 0, false⟩), (106, ⟨T105, 72, 0, false⟩), (107, ⟨T107, 96, 0, false⟩), (108, ⟨T107, 96, 0, false⟩), (121, ⟨(.pair (.sl .u8) (.pair .i64 .unit)), 32, 0, false⟩), (122, ⟨(.pair (.sl .u8) (.pair .i64 .unit)), 32, 0, false⟩), (132, ⟨.u64, 8, 0, false⟩), (133, ⟨(.arr 2 .u64), 16, 23, false⟩), (134, ⟨(.arr 2 .u64), 16, 23, false⟩), (135, ⟨(.pair (.sl .u8) (.pair .i64 .unit)), 32, 0, false⟩), (136, ⟨(.pair (.sl .u8) (.pair .i64 .unit)), 32, 0, false⟩), (143, ⟨(.sl .str), 24, 9, false⟩), (154, ⟨T154, 80, 0, false⟩), (155, ⟨T154, 80, 0, false⟩), (177, ⟨(.arr 64 .u8), 64, 5, false⟩), (184, ⟨(.arr 16 .u32), 64, 40, false⟩), (192, ⟨(.sl T195), 24, 196, false⟩), (195, ⟨T195, 40, 0, false⟩), (196, ⟨T195, 40, 0, false⟩), (210, ⟨(.pair (.sl .u8) .unit), 24, 0, false⟩), (211, ⟨(.pair (.sl .u8) .unit), 24, 0, false⟩), (218, ⟨(.arr 8 .u32), 32, 40, false⟩), (225, ⟨(.arr 4 .i64), 32, 3, false⟩), (226, ⟨(.arr 8 (.arr 4 .i64)), 256, 225, false⟩), (229, ⟨(.arr 5 .u64), 40, 23, false⟩), (230, ⟨(.arr 5 .u64), 40, 23, false⟩), (236, ⟨T236, 40, 0, false⟩), (242, ⟨T242, 80, 0, false⟩), (250, ⟨(.arr 17 .u32), 68, 40, false⟩)]
def g_chacha_quarters : (List (List Int)) := [[0, 4, 8, 12], [1, 5, 9, 13], [2, 6, 10, 14], [3, 7, 11, 15], [0, 5, 10, 15], [1, 6, 11, 12], [2, 7, 8, 13], [3, 4, 9, 14]]
def G_globs : List (Nat × Dt) := [(3, ⟨(.arr 8 (.arr 4 .i64)), g_chacha_quarters⟩)]
def G_ifs : IfT := ⟨[], [], [], []⟩
theorem G_ifs_ok : ifChk Tryd.prog G_ifs = true := by kernel_rfl
theorem G_tys_ok : tyChk Tryd.prog G_tys = true := by kernel_rfl
/-! ipsecgate/header.Check -/
abbrev header_Check_R : Type := ((Int × Unit) × (Unit))
def header_Check (N : Nat) (h_0 : D75) : Option header_Check_R :=
 bif (decide (h_0.1 = (0 : UInt64))) then
 some (((20 : Int), ()), (()))
 else
 bif (decide (h_0.2.2.2.1 < (34 : Int))) then
 some (((5 : Int), ()), (()))
 else
 bif (decide ((37 : Int) < h_0.2.2.2.1)) then
 some (((5 : Int), ()), (()))
 else
 bif (decide (h_0.2.2.1 < (0 : Int))) then
 some (((5 : Int), ()), (()))
 else
 bif (decide ((255 : Int) < h_0.2.2.1)) then
 some (((5 : Int), ()), (()))
 else
 bif (!(decide ((andNot64 h_0.2.2.2.2.1 (56 : Int)) = (0 : Int)))) then
 some (((5 : Int), ()), (()))
 else
 bif (!(decide (h_0.2.2.2.1 = (34 : Int)))) then
 bif (decide (h_0.2.1 = (0 : UInt64))) then
 some (((20 : Int), ()), (()))
 else
 bif (decide (h_0.2.2.2.1 = (34 : Int))) then
 bif (!(decide (h_0.2.2.2.2.2.1 = (0 : UInt32)))) then
 some (((7 : Int), ()), (()))
 else
 some (((0 : Int), ()), (()))
 else
 some (((0 : Int), ()), (()))
 else
 bif (decide (h_0.2.2.2.1 = (34 : Int))) then
 bif (!(decide (h_0.2.2.2.2.2.1 = (0 : UInt32)))) then
 some (((7 : Int), ()), (()))
 else
 some (((0 : Int), ()), (()))
 else
 some (((0 : Int), ()), (()))
def header_Check_C (N : Nat) : Ctx := ⟨50, G_tys, [], G_globs, G_ifs⟩
def header_Check_S0 : Spec := ⟨[.val T75], []⟩
def header_Check_S1 : Spec := ⟨[.val .i64], []⟩
def header_Check_K (_N : Nat) : XE → GS → Option header_Check_R := retK 0 [2] [false] header_Check_S1
def header_Check_L : List Code := (bodyOf (some Tryd.f118))
theorem header_Check_b {E : Env} (N : Nat) (hb : Base Tryd.prog (header_Check_C N) E 0) : Blk Tryd.prog (header_Check_C N) E (List.range header_Check_S0.ks.length) header_Check_S0 (header_Check_L.drop 0) (fun y => header_Check N y.1.1) (header_Check_K N) :=
 Blk.chunkAt hb 4 (X := (header_Check_K N .normal)) (NxOk.end (by kernel_rfl)) rfl (fun x => by kernel_rfl)
def header_Check_ctr (N : Nat) : Ctr := ⟨header_Check_S0, header_Check_S1.un [false], 0, (fun y => header_Check N y.1.1)⟩
theorem header_Check_ctrs (N : Nat) : CtrsOk Tryd.prog (header_Check_C N) := ctrs_nil G_ifs_ok rfl
theorem header_Check_ok (N : Nat) : Ctr.ok Tryd.prog G_globs 118 (header_Check_ctr N) :=
 ctr_fn (Γ := header_Check_C N) (rfit := header_Check_S1) (bs := [false]) (res := [2]) (by kernel_rfl) (tys_ok G_tys_ok) (header_Check_ctrs N) Tryd.func118 (by kernel_rfl) (by kernel_rfl) Tryd.ntmps118 (by kernel_rfl) (by kernel_rfl) (by kernel_rfl) (by kernel_rfl) (fun E hb => header_Check_b N hb)
/-! ipsecgate/sealed.check -/
abbrev sealed_check_R : Type := ((Int × Unit) × (Unit))
def sealed_check (N : Nat) (h_0 : D75) (key_1 : (List UInt8)) (first_2 : Int) : Option sealed_check_R :=
 bif (!(decide ((key_1.length : Int) = (36 : Int)))) then
 some (((13 : Int), ()), (()))
 else
 Option.bind (header_Check N (h_0.1, h_0.2.1, (46 : Int), h_0.2.2.2.1, h_0.2.2.2.2.1, h_0.2.2.2.2.2.1, ())) fun y3 =>
 bif (!(decide (y3.1.1 = (0 : Int)))) then
 some ((y3.1.1, ()), (()))
 else
 bif (decide (first_2 < (0 : Int))) then
 some (((5 : Int), ()), (()))
 else
 bif (decide ((255 : Int) < first_2)) then
 some (((5 : Int), ()), (()))
 else
 some (((0 : Int), ()), (()))
def sealed_check_C (N : Nat) : Ctx := ⟨23, G_tys, [(118, header_Check_ctr N)], G_globs, G_ifs⟩
def sealed_check_S0 : Spec := ⟨[.val T75, .val (.sl .u8), .val .i64], []⟩
def sealed_check_S1 : Spec := ⟨[.val .i64], []⟩
def sealed_check_K (_N : Nat) : XE → GS → Option sealed_check_R := retK 0 [6] [false] sealed_check_S1
def sealed_check_L : List Code := (bodyOf (some Tryd.f116))
theorem sealed_check_b {E : Env} (N : Nat) (hb : Base Tryd.prog (sealed_check_C N) E 0) : Blk Tryd.prog (sealed_check_C N) E (List.range sealed_check_S0.ks.length) sealed_check_S0 (sealed_check_L.drop 0) (fun y => sealed_check N y.1.1 y.1.2.1 y.1.2.2.1) (sealed_check_K N) :=
 Blk.chunkAt hb 11 (X := (sealed_check_K N .normal)) (NxOk.end (by kernel_rfl)) rfl (fun x => by kernel_rfl)
def sealed_check_ctr (N : Nat) : Ctr := ⟨sealed_check_S0, sealed_check_S1.un [false], 0, (fun y => sealed_check N y.1.1 y.1.2.1 y.1.2.2.1)⟩
theorem sealed_check_ctrs (N : Nat) : CtrsOk Tryd.prog (sealed_check_C N) := ctrs_of (Γ := sealed_check_C N) G_ifs_ok (by
 intro p hp
 simp only [sealed_check_C, List.mem_cons, List.not_mem_nil, or_false] at hp
 rcases hp with rfl
 · exact header_Check_ok N)
theorem sealed_check_ok (N : Nat) : Ctr.ok Tryd.prog G_globs 116 (sealed_check_ctr N) :=
 ctr_fn (Γ := sealed_check_C N) (rfit := sealed_check_S1) (bs := [false]) (res := [6]) (by kernel_rfl) (tys_ok G_tys_ok) (sealed_check_ctrs N) Tryd.func116 (by kernel_rfl) (by kernel_rfl) Tryd.ntmps116 (by kernel_rfl) (by kernel_rfl) (by kernel_rfl) (by kernel_rfl) (fun E hb => sealed_check_b N hb)
/-! ipsecgate/wire.Put -/
abbrev wire_Put_R : Type := ((Unit) × ((List UInt8) × Unit))
def wire_Put_s3 (N : Nat) (v_1 : UInt64) (i_7 : Int) (b_0 : (List UInt8)) : Option (Lo ((UInt64 × Int × Unit) × ((List UInt8) × Unit)) ((Unit) × ((List UInt8) × Unit)) wire_Put_R) :=
 bif (decide ((0 : Int) ≤ i_7)) then
 let x4 := w64 ((8 : Int) * i_7)
 bif decide (0 ≤ x4) then
 let x5 := shr64 v_1 x4.toNat
 bif room (b_0.length + ([x5.toUInt8] : List UInt8).length) 1 then
 some (.go ((v_1, (w64 (i_7 - (1 : Int))), ()), ((b_0 ++ ([x5.toUInt8] : List UInt8)), ())))
 else none
 else none
 else
 some (.br ((()), (b_0, ())))
def wire_Put_4 (N : Nat) (b_0 : (List UInt8)) : Option wire_Put_R :=
 some ((()), (b_0, ()))
def wire_Put_2 (N : Nat) (v_1 : UInt64) (i_7 : Int) (b_0 : (List UInt8)) : Option wire_Put_R :=
 loopK N (fun y => wire_Put_s3 N y.1.1 y.1.2.1 y.2.1) (fun (e : ((Unit) × ((List UInt8) × Unit))) => wire_Put_4 N e.2.1) ((v_1, i_7, ()), (b_0, ()))
def wire_Put_1 (N : Nat) (v_1 : UInt64) (width_2 : Int) (t_13 : Bool) (b_0 : (List UInt8)) : Option wire_Put_R :=
 bif t_13 then
 some ((()), (b_0, ()))
 else
 wire_Put_2 N v_1 (w64 (width_2 - (1 : Int))) b_0
def wire_Put (N : Nat) (v_1 : UInt64) (width_2 : Int) (b_0 : (List UInt8)) : Option wire_Put_R :=
 bif (decide (width_2 < (1 : Int))) then
 wire_Put_1 N v_1 width_2 true b_0
 else
 wire_Put_1 N v_1 width_2 (decide ((8 : Int) < width_2)) b_0
def wire_Put_C (N : Nat) : Ctx := ⟨30, G_tys, [], G_globs, G_ifs⟩
def wire_Put_S0 : Spec := ⟨[.row 0, .val .u64, .val .i64], [(.row 5 .u8, .pos 0)]⟩
def wire_Put_S1 : Spec := ⟨[.row 0], [(.row 5 .u8, .pos 0)]⟩
def wire_Put_S2 : Spec := ⟨[.row 0, .val .u64, .val .i64, .val .bool], [(.row 5 .u8, .pos 0)]⟩
def wire_Put_K (_N : Nat) : XE → GS → Option wire_Put_R := retK 0 [6] [false] wire_Put_S1
def wire_Put_L : List Code := (bodyOf (some Tryd.f91))
def wire_Put_L3 : List Code := (loopOf (wire_Put_L[4]?))
def wire_Put_K3 (N : Nat) : XE → GS → Option (Lo ((UInt64 × Int × Unit) × ((List UInt8) × Unit)) ((Unit) × ((List UInt8) × Unit)) wire_Put_R) := roundK (some 0) (fit 0 [0, 1, 7] wire_Put_S0) (fit 0 [0] wire_Put_S1) (wire_Put_K N)
theorem wire_Put_s3_b {E : Env} (N : Nat) (hb : Base Tryd.prog (wire_Put_C N) E 0) : Blk Tryd.prog (wire_Put_C N) E [0, 1, 7] wire_Put_S0 (wire_Put_L3.drop 0) (fun y => wire_Put_s3 N y.1.1 y.1.2.1 y.2.1) (wire_Put_K3 N) :=
 Blk.chunkAt hb 4 (X := (wire_Put_K3 N .normal)) (NxOk.end (by kernel_rfl)) rfl (fun x => by kernel_rfl)
theorem wire_Put_4_b {E : Env} (N : Nat) (hb : Base Tryd.prog (wire_Put_C N) E 0) : Blk Tryd.prog (wire_Put_C N) E [0] wire_Put_S1 (wire_Put_L.drop 5) (fun y => wire_Put_4 N y.2.1) (wire_Put_K N) :=
 Blk.chunkAt hb 2 (X := (wire_Put_K N .normal)) (NxOk.end (by kernel_rfl)) rfl (fun x => by kernel_rfl)
theorem wire_Put_2_b {E : Env} (N : Nat) (hb : Base Tryd.prog (wire_Put_C N) E 0) : Blk Tryd.prog (wire_Put_C N) E [0, 1, 7] wire_Put_S0 (wire_Put_L.drop 4) (fun y => wire_Put_2 N y.1.1 y.1.2.1 y.2.1) (wire_Put_K N) :=
 Blk.loopAt (Nf := N) (hns := [0, 1, 7]) (ans := [0]) (hc := wire_Put_S0) (ac := wire_Put_S1) (bid := 0) (step := (fun y => wire_Put_s3 N y.1.1 y.1.2.1 y.2.1)) (J := (fun e => (goK 0 [0] wire_Put_S1 (fun y => wire_Put_4 N y.2.1)) (wire_Put_S1.st [0] e))) hb (by kernel_rfl) (Blk.into (X := (goK 0 [0] wire_Put_S1 (fun y => wire_Put_4 N y.2.1))) (NxOk.go hb (wire_Put_4_b N hb)) (fun x => by kernel_rfl)) (wire_Put_s3_b N hb) (fun x => by kernel_rfl)
theorem wire_Put_1_b {E : Env} (N : Nat) (hb : Base Tryd.prog (wire_Put_C N) E 0) : Blk Tryd.prog (wire_Put_C N) E [0, 1, 2, 13] wire_Put_S2 (wire_Put_L.drop 2) (fun y => wire_Put_1 N y.1.1 y.1.2.1 y.1.2.2.1 y.2.1) (wire_Put_K N) :=
 Blk.chunkAt hb 2 (X := (goK 0 [0, 1, 7] wire_Put_S0 (fun y => wire_Put_2 N y.1.1 y.1.2.1 y.2.1))) (NxOk.go hb (wire_Put_2_b N hb)) rfl (fun x => by kernel_rfl)
theorem wire_Put_b {E : Env} (N : Nat) (hb : Base Tryd.prog (wire_Put_C N) E 0) : Blk Tryd.prog (wire_Put_C N) E (List.range wire_Put_S0.ks.length) wire_Put_S0 (wire_Put_L.drop 0) (fun y => wire_Put N y.1.1 y.1.2.1 y.2.1) (wire_Put_K N) :=
 Blk.chunkAt hb 2 (X := (goK 0 [0, 1, 2, 13] wire_Put_S2 (fun y => wire_Put_1 N y.1.1 y.1.2.1 y.1.2.2.1 y.2.1))) (NxOk.go hb (wire_Put_1_b N hb)) rfl (fun x => by kernel_rfl)
def wire_Put_ctr (N : Nat) : Ctr := ⟨wire_Put_S0, wire_Put_S1.un [false], 0, (fun y => wire_Put N y.1.1 y.1.2.1 y.2.1)⟩
theorem wire_Put_ctrs (N : Nat) : CtrsOk Tryd.prog (wire_Put_C N) := ctrs_nil G_ifs_ok rfl
theorem wire_Put_ok (N : Nat) : Ctr.ok Tryd.prog G_globs 91 (wire_Put_ctr N) :=
 ctr_fn (Γ := wire_Put_C N) (rfit := wire_Put_S1) (bs := [false]) (res := [6]) (by kernel_rfl) (tys_ok G_tys_ok) (wire_Put_ctrs N) Tryd.func91 (by kernel_rfl) (by kernel_rfl) Tryd.ntmps91 (by kernel_rfl) (by kernel_rfl) (by kernel_rfl) (by kernel_rfl) (fun E hb => wire_Put_b N hb)
/-! ipsecgate/header.Build -/
abbrev header_Build_R : Type := ((Int × Unit) × ((List UInt8) × Unit))
def header_Build_1 (N : Nat) (length_1 : Int) (t_18 : Bool) (h_2 : D75) : Option header_Build_R :=
 bif t_18 then
 some (((5 : Int), ()), (([] : List UInt8), ()))
 else
 Option.bind (wire_Put N h_2.1 (8 : Int) ([] : List UInt8)) fun y4 =>
 Option.bind (wire_Put N h_2.2.1 (8 : Int) y4.2.1) fun y5 =>
 let x7 := iu8 h_2.2.2.2.1
 let x8 := iu8 h_2.2.2.2.2.1
 bif room (y5.2.1.length + ([(iu8 h_2.2.2.1), (32 : UInt8), x7, x8] : List UInt8).length) 1 then
 Option.bind (wire_Put N h_2.2.2.2.2.2.1.toUInt64 (4 : Int) (y5.2.1 ++ ([(iu8 h_2.2.2.1), (32 : UInt8), x7, x8] : List UInt8))) fun y10 =>
 Option.bind (wire_Put N (iu64 length_1) (4 : Int) y10.2.1) fun y12 =>
 some (((0 : Int), ()), (y12.2.1, ()))
 else none
def header_Build (N : Nat) (h_0 : D75) (length_1 : Int) : Option header_Build_R :=
 Option.bind (header_Check N h_0) fun y1 =>
 bif (!(decide (y1.1.1 = (0 : Int)))) then
 some ((y1.1.1, ()), (([] : List UInt8), ()))
 else
 bif (decide (length_1 < (28 : Int))) then
 header_Build_1 N length_1 true h_0
 else
 header_Build_1 N length_1 (decide ((8192 : Int) < length_1)) h_0
def header_Build_C (N : Nat) : Ctx := ⟨47, G_tys, [(118, header_Check_ctr N), (91, wire_Put_ctr N)], G_globs, G_ifs⟩
def header_Build_S0 : Spec := ⟨[.val .i64, .ref 0 T75, .val .bool], [(.box 76 T75, .pos 1)]⟩
def header_Build_S1 : Spec := ⟨[.val T75, .val .i64], []⟩
def header_Build_S2 : Spec := ⟨[.row 0, .val .i64], [(.row 5 .u8, .pos 0)]⟩
def header_Build_K (_N : Nat) : XE → GS → Option header_Build_R := retK 0 [4, 5] [false, false] header_Build_S2
def header_Build_L : List Code := (bodyOf (some Tryd.f56))
theorem header_Build_1_b {E : Env} (N : Nat) (hb : Base Tryd.prog (header_Build_C N) E 0) : Blk Tryd.prog (header_Build_C N) E [1, 2, 18] header_Build_S0 (header_Build_L.drop 5) (fun y => header_Build_1 N y.1.1 y.1.2.1 y.2.1) (header_Build_K N) :=
 Blk.chunkAt hb 7 (X := (header_Build_K N .normal)) (NxOk.end (by kernel_rfl)) rfl (fun x => by kernel_rfl)
theorem header_Build_b {E : Env} (N : Nat) (hb : Base Tryd.prog (header_Build_C N) E 0) : Blk Tryd.prog (header_Build_C N) E (List.range header_Build_S1.ks.length) header_Build_S1 (header_Build_L.drop 0) (fun y => header_Build N y.1.1 y.1.2.1) (header_Build_K N) :=
 Blk.chunkAt hb 5 (X := (goK 0 [1, 2, 18] header_Build_S0 (fun y => header_Build_1 N y.1.1 y.1.2.1 y.2.1))) (NxOk.go hb (header_Build_1_b N hb)) rfl (fun x => by kernel_rfl)
def header_Build_ctr (N : Nat) : Ctr := ⟨header_Build_S1, header_Build_S2.un [false, false], 0, (fun y => header_Build N y.1.1 y.1.2.1)⟩
theorem header_Build_ctrs (N : Nat) : CtrsOk Tryd.prog (header_Build_C N) := ctrs_of (Γ := header_Build_C N) G_ifs_ok (by
 intro p hp
 simp only [header_Build_C, List.mem_cons, List.not_mem_nil, or_false] at hp
 rcases hp with rfl | rfl
 · exact header_Check_ok N
 · exact wire_Put_ok N)
theorem header_Build_ok (N : Nat) : Ctr.ok Tryd.prog G_globs 56 (header_Build_ctr N) :=
 ctr_fn (Γ := header_Build_C N) (rfit := header_Build_S2) (bs := [false, false]) (res := [4, 5]) (by kernel_rfl) (tys_ok G_tys_ok) (header_Build_ctrs N) Tryd.func56 (by kernel_rfl) (by kernel_rfl) Tryd.ntmps56 (by kernel_rfl) (by kernel_rfl) (by kernel_rfl) (by kernel_rfl) (fun E hb => header_Build_b N hb)
/-! ipsecgate/sealed.nonce -/
abbrev sealed_nonce_R : Type := ((Unit) × ((List UInt8) × Unit))
def sealed_nonce (N : Nat) (key_0 : (List UInt8)) (iv_1 : (List UInt8)) : Option sealed_nonce_R :=
 bif decide (0 ≤ (32 : Int)) && decide ((32 : Int) ≤ (key_0.length : Int)) && decide ((key_0.length : Int) ≤ (key_0.length : Int)) && true then
 let x1 := cut key_0 32 key_0.length
 bif room (0 + x1.length) 1 then
 bif room (x1.length + iv_1.length) 1 then
 some ((()), ((x1 ++ iv_1), ()))
 else none
 else none
 else none
def sealed_nonce_C (N : Nat) : Ctx := ⟨10, G_tys, [], G_globs, G_ifs⟩
def sealed_nonce_S0 : Spec := ⟨[.val (.sl .u8), .val (.sl .u8)], []⟩
def sealed_nonce_S1 : Spec := ⟨[.row 0], [(.row 5 .u8, .pos 0)]⟩
def sealed_nonce_K (_N : Nat) : XE → GS → Option sealed_nonce_R := retK 0 [4] [false] sealed_nonce_S1
def sealed_nonce_L : List Code := (bodyOf (some Tryd.f163))
theorem sealed_nonce_b {E : Env} (N : Nat) (hb : Base Tryd.prog (sealed_nonce_C N) E 0) : Blk Tryd.prog (sealed_nonce_C N) E (List.range sealed_nonce_S0.ks.length) sealed_nonce_S0 (sealed_nonce_L.drop 0) (fun y => sealed_nonce N y.1.1 y.1.2.1) (sealed_nonce_K N) :=
 Blk.chunkAt hb 3 (X := (sealed_nonce_K N .normal)) (NxOk.end (by kernel_rfl)) rfl (fun x => by kernel_rfl)
def sealed_nonce_ctr (N : Nat) : Ctr := ⟨sealed_nonce_S0, sealed_nonce_S1.un [false], 0, (fun y => sealed_nonce N y.1.1 y.1.2.1)⟩
theorem sealed_nonce_ctrs (N : Nat) : CtrsOk Tryd.prog (sealed_nonce_C N) := ctrs_nil G_ifs_ok rfl
theorem sealed_nonce_ok (N : Nat) : Ctr.ok Tryd.prog G_globs 163 (sealed_nonce_ctr N) :=
 ctr_fn (Γ := sealed_nonce_C N) (rfit := sealed_nonce_S1) (bs := [false]) (res := [4]) (by kernel_rfl) (tys_ok G_tys_ok) (sealed_nonce_ctrs N) Tryd.func163 (by kernel_rfl) (by kernel_rfl) Tryd.ntmps163 (by kernel_rfl) (by kernel_rfl) (by kernel_rfl) (by kernel_rfl) (fun E hb => sealed_nonce_b N hb)
/-! ipsecgate/aead.keyed -/
abbrev aead_keyed_R : Type := ((Bool × Unit) × (Unit))
def aead_keyed (N : Nat) (key_0 : (List UInt8)) (nonce_1 : (List UInt8)) : Option aead_keyed_R :=
 bif (decide ((key_0.length : Int) = (32 : Int))) then
 some (((decide ((nonce_1.length : Int) = (12 : Int))), ()), (()))
 else
 some ((false, ()), (()))
def aead_keyed_C (N : Nat) : Ctx := ⟨13, G_tys, [], G_globs, G_ifs⟩
def aead_keyed_S0 : Spec := ⟨[.val (.sl .u8), .val (.sl .u8)], []⟩
def aead_keyed_S1 : Spec := ⟨[.val .bool], []⟩
def aead_keyed_K (_N : Nat) : XE → GS → Option aead_keyed_R := retK 0 [4] [false] aead_keyed_S1
def aead_keyed_L : List Code := (bodyOf (some Tryd.f119))
theorem aead_keyed_b {E : Env} (N : Nat) (hb : Base Tryd.prog (aead_keyed_C N) E 0) : Blk Tryd.prog (aead_keyed_C N) E (List.range aead_keyed_S0.ks.length) aead_keyed_S0 (aead_keyed_L.drop 0) (fun y => aead_keyed N y.1.1 y.1.2.1) (aead_keyed_K N) :=
 Blk.chunkAt hb 3 (X := (aead_keyed_K N .normal)) (NxOk.end (by kernel_rfl)) rfl (fun x => by kernel_rfl)
def aead_keyed_ctr (N : Nat) : Ctr := ⟨aead_keyed_S0, aead_keyed_S1.un [false], 0, (fun y => aead_keyed N y.1.1 y.1.2.1)⟩
theorem aead_keyed_ctrs (N : Nat) : CtrsOk Tryd.prog (aead_keyed_C N) := ctrs_nil G_ifs_ok rfl
theorem aead_keyed_ok (N : Nat) : Ctr.ok Tryd.prog G_globs 119 (aead_keyed_ctr N) :=
 ctr_fn (Γ := aead_keyed_C N) (rfit := aead_keyed_S1) (bs := [false]) (res := [4]) (by kernel_rfl) (tys_ok G_tys_ok) (aead_keyed_ctrs N) Tryd.func119 (by kernel_rfl) (by kernel_rfl) Tryd.ntmps119 (by kernel_rfl) (by kernel_rfl) (by kernel_rfl) (by kernel_rfl) (fun E hb => aead_keyed_b N hb)
/-! ipsecgate/chacha.word -/
abbrev chacha_word_R : Type := ((UInt32 × Unit) × (Unit))
def chacha_word (N : Nat) (b_0 : (List UInt8)) : Option chacha_word_R :=
 bif inR (0 : Int) b_0.length then
 bif inR (1 : Int) b_0.length then
 bif inR (2 : Int) b_0.length then
 bif inR (3 : Int) b_0.length then
 some ((((((b_0.getD 0 (0 : UInt8)).toUInt32 ||| (shl32 (b_0.getD 1 (0 : UInt8)).toUInt32 8)) ||| (shl32 (b_0.getD 2 (0 : UInt8)).toUInt32 16)) ||| (shl32 (b_0.getD 3 (0 : UInt8)).toUInt32 24)), ()), (()))
 else none
 else none
 else none
 else none
def chacha_word_C (N : Nat) : Ctx := ⟨25, G_tys, [], G_globs, G_ifs⟩
def chacha_word_S0 : Spec := ⟨[.val (.sl .u8)], []⟩
def chacha_word_S1 : Spec := ⟨[.val .u32], []⟩
def chacha_word_K (_N : Nat) : XE → GS → Option chacha_word_R := retK 0 [2] [false] chacha_word_S1
def chacha_word_L : List Code := (bodyOf (some Tryd.f198))
theorem chacha_word_b {E : Env} (N : Nat) (hb : Base Tryd.prog (chacha_word_C N) E 0) : Blk Tryd.prog (chacha_word_C N) E (List.range chacha_word_S0.ks.length) chacha_word_S0 (chacha_word_L.drop 0) (fun y => chacha_word N y.1.1) (chacha_word_K N) :=
 Blk.chunkAt hb 3 (X := (chacha_word_K N .normal)) (NxOk.end (by kernel_rfl)) rfl (fun x => by kernel_rfl)
def chacha_word_ctr (N : Nat) : Ctr := ⟨chacha_word_S0, chacha_word_S1.un [false], 0, (fun y => chacha_word N y.1.1)⟩
theorem chacha_word_ctrs (N : Nat) : CtrsOk Tryd.prog (chacha_word_C N) := ctrs_nil G_ifs_ok rfl
theorem chacha_word_ok (N : Nat) : Ctr.ok Tryd.prog G_globs 198 (chacha_word_ctr N) :=
 ctr_fn (Γ := chacha_word_C N) (rfit := chacha_word_S1) (bs := [false]) (res := [2]) (by kernel_rfl) (tys_ok G_tys_ok) (chacha_word_ctrs N) Tryd.func198 (by kernel_rfl) (by kernel_rfl) Tryd.ntmps198 (by kernel_rfl) (by kernel_rfl) (by kernel_rfl) (by kernel_rfl) (fun E hb => chacha_word_b N hb)
/-! ipsecgate/chacha.state -/
abbrev chacha_state_R : Type := (((List UInt32) × Bool × Unit) × (Unit))
def chacha_state_s3 (N : Nat) (key_0 : (List UInt8)) (nonce_2 : (List UInt8)) (t_22 : Int) (t_6 : (List UInt32)) (s_8 : (List UInt32)) : Option (Lo (((List UInt8) × (List UInt8) × Int × Unit) × ((List UInt32) × (List UInt32) × Unit)) (((List UInt8) × Unit) × ((List UInt32) × (List UInt32) × Unit)) chacha_state_R) :=
 bif (decide (t_22 < (8 : Int))) then
 let x6 := w64 ((4 : Int) + t_22)
 let x7 := w64 ((4 : Int) * t_22)
 bif decide (0 ≤ x7) && decide (x7 ≤ (key_0.length : Int)) && decide ((key_0.length : Int) ≤ (key_0.length : Int)) && true then
 Option.bind (chacha_word N (cut key_0 x7.toNat key_0.length)) fun y9 =>
 bif inR x6 16 then
 some (.go ((key_0, nonce_2, (w64 (t_22 + (1 : Int))), ()), (t_6, (s_8.set x6.toNat y9.1.1), ())))
 else none
 else none
 else
 some (.br ((nonce_2, ()), (t_6, s_8, ())))
def chacha_state_s6 (N : Nat) (nonce_2 : (List UInt8)) (t_34 : Int) (t_6 : (List UInt32)) (s_8 : (List UInt32)) : Option (Lo (((List UInt8) × Int × Unit) × ((List UInt32) × (List UInt32) × Unit)) ((Unit) × ((List UInt32) × (List UInt32) × Unit)) chacha_state_R) :=
 bif (decide (t_34 < (3 : Int))) then
 let x13 := w64 ((13 : Int) + t_34)
 let x14 := w64 ((4 : Int) * t_34)
 bif decide (0 ≤ x14) && decide (x14 ≤ (nonce_2.length : Int)) && decide ((nonce_2.length : Int) ≤ (nonce_2.length : Int)) && true then
 Option.bind (chacha_word N (cut nonce_2 x14.toNat nonce_2.length)) fun y16 =>
 bif inR x13 16 then
 some (.go ((nonce_2, (w64 (t_34 + (1 : Int))), ()), (t_6, (s_8.set x13.toNat y16.1.1), ())))
 else none
 else none
 else
 some (.br ((()), (t_6, s_8, ())))
def chacha_state_7 (N : Nat) (t_6 : (List UInt32)) (s_8 : (List UInt32)) : Option chacha_state_R :=
 some ((s_8, true, ()), (()))
def chacha_state_5 (N : Nat) (nonce_2 : (List UInt8)) (t_34 : Int) (t_6 : (List UInt32)) (s_8 : (List UInt32)) : Option chacha_state_R :=
 loopK N (fun y => chacha_state_s6 N y.1.1 y.1.2.1 y.2.1 y.2.2.1) (fun (e : ((Unit) × ((List UInt32) × (List UInt32) × Unit))) => chacha_state_7 N e.2.1 e.2.2.1) ((nonce_2, t_34, ()), (t_6, s_8, ()))
def chacha_state_4 (N : Nat) (nonce_2 : (List UInt8)) (t_6 : (List UInt32)) (s_8 : (List UInt32)) : Option chacha_state_R :=
 chacha_state_5 N nonce_2 (0 : Int) t_6 s_8
def chacha_state_2 (N : Nat) (key_0 : (List UInt8)) (nonce_2 : (List UInt8)) (t_22 : Int) (t_6 : (List UInt32)) (s_8 : (List UInt32)) : Option chacha_state_R :=
 loopK N (fun y => chacha_state_s3 N y.1.1 y.1.2.1 y.1.2.2.1 y.2.1 y.2.2.1) (fun (e : (((List UInt8) × Unit) × ((List UInt32) × (List UInt32) × Unit))) => chacha_state_4 N e.1.1 e.2.1 e.2.2.1) ((key_0, nonce_2, t_22, ()), (t_6, s_8, ()))
def chacha_state_1 (N : Nat) (key_0 : (List UInt8)) (counter_1 : UInt32) (nonce_2 : (List UInt8)) (t_18 : Bool) (t_6 : (List UInt32)) : Option chacha_state_R :=
 bif t_18 then
 some (((List.replicate 16 (0 : UInt32)), false, ()), (()))
 else
 chacha_state_2 N key_0 nonce_2 (0 : Int) t_6 ((((((List.replicate 16 (0 : UInt32)).set 0 (1634760805 : UInt32)).set 1 (857760878 : UInt32)).set 2 (2036477234 : UInt32)).set 3 (1797285236 : UInt32)).set 12 counter_1)
def chacha_state (N : Nat) (key_0 : (List UInt8)) (counter_1 : UInt32) (nonce_2 : (List UInt8)) : Option chacha_state_R :=
 bif (!(decide ((key_0.length : Int) = (32 : Int)))) then
 chacha_state_1 N key_0 counter_1 nonce_2 true (List.replicate 16 (0 : UInt32))
 else
 chacha_state_1 N key_0 counter_1 nonce_2 (!(decide ((nonce_2.length : Int) = (12 : Int)))) (List.replicate 16 (0 : UInt32))
def chacha_state_C (N : Nat) : Ctx := ⟨47, G_tys, [(198, chacha_word_ctr N)], G_globs, G_ifs⟩
def chacha_state_S0 : Spec := ⟨[.val (.sl .u8), .val (.sl .u8), .ref 0 (.arr 16 .u32), .ref 1 (.arr 16 .u32), .val .i64], [(.box 184 (.arr 16 .u32), .pos 2), (.box 184 (.arr 16 .u32), .pos 3)]⟩
def chacha_state_S1 : Spec := ⟨[.val (.sl .u8), .ref 0 (.arr 16 .u32), .ref 1 (.arr 16 .u32), .val .i64], [(.box 184 (.arr 16 .u32), .pos 1), (.box 184 (.arr 16 .u32), .pos 2)]⟩
def chacha_state_S2 : Spec := ⟨[.ref 0 (.arr 16 .u32), .ref 1 (.arr 16 .u32)], [(.box 184 (.arr 16 .u32), .pos 0), (.box 184 (.arr 16 .u32), .pos 1)]⟩
def chacha_state_S3 : Spec := ⟨[.val (.sl .u8), .ref 0 (.arr 16 .u32), .ref 1 (.arr 16 .u32)], [(.box 184 (.arr 16 .u32), .pos 1), (.box 184 (.arr 16 .u32), .pos 2)]⟩
def chacha_state_S4 : Spec := ⟨[.val (.sl .u8), .val .u32, .val (.sl .u8), .ref 0 (.arr 16 .u32), .val .bool], [(.box 184 (.arr 16 .u32), .pos 3)]⟩
def chacha_state_S5 : Spec := ⟨[.val (.sl .u8), .val .u32, .val (.sl .u8)], []⟩
def chacha_state_S6 : Spec := ⟨[.fp (.arr 16 .u32), .val .bool], []⟩
def chacha_state_K (_N : Nat) : XE → GS → Option chacha_state_R := retK 0 [6, 7] [true, false] chacha_state_S6
def chacha_state_L : List Code := (bodyOf (some Tryd.f164))
def chacha_state_L3 : List Code := (loopOf (chacha_state_L[5]?))
def chacha_state_L6 : List Code := (loopOf (chacha_state_L[7]?))
def chacha_state_K3 (N : Nat) : XE → GS → Option (Lo (((List UInt8) × (List UInt8) × Int × Unit) × ((List UInt32) × (List UInt32) × Unit)) (((List UInt8) × Unit) × ((List UInt32) × (List UInt32) × Unit)) chacha_state_R) := roundK (some 0) (fit 0 [0, 2, 6, 8, 22] chacha_state_S0) (fit 0 [2, 6, 8] chacha_state_S3) (chacha_state_K N)
def chacha_state_K6 (N : Nat) : XE → GS → Option (Lo (((List UInt8) × Int × Unit) × ((List UInt32) × (List UInt32) × Unit)) ((Unit) × ((List UInt32) × (List UInt32) × Unit)) chacha_state_R) := roundK (some 2) (fit 0 [2, 6, 8, 34] chacha_state_S1) (fit 0 [6, 8] chacha_state_S2) (chacha_state_K N)
theorem chacha_state_s3_b {E : Env} (N : Nat) (hb : Base Tryd.prog (chacha_state_C N) E 0) : Blk Tryd.prog (chacha_state_C N) E [0, 2, 6, 8, 22] chacha_state_S0 (chacha_state_L3.drop 0) (fun y => chacha_state_s3 N y.1.1 y.1.2.1 y.1.2.2.1 y.2.1 y.2.2.1) (chacha_state_K3 N) :=
 Blk.chunkAt hb 4 (X := (chacha_state_K3 N .normal)) (NxOk.end (by kernel_rfl)) rfl (fun x => by kernel_rfl)
theorem chacha_state_s6_b {E : Env} (N : Nat) (hb : Base Tryd.prog (chacha_state_C N) E 0) : Blk Tryd.prog (chacha_state_C N) E [2, 6, 8, 34] chacha_state_S1 (chacha_state_L6.drop 0) (fun y => chacha_state_s6 N y.1.1 y.1.2.1 y.2.1 y.2.2.1) (chacha_state_K6 N) :=
 Blk.chunkAt hb 4 (X := (chacha_state_K6 N .normal)) (NxOk.end (by kernel_rfl)) rfl (fun x => by kernel_rfl)
theorem chacha_state_7_b {E : Env} (N : Nat) (hb : Base Tryd.prog (chacha_state_C N) E 0) : Blk Tryd.prog (chacha_state_C N) E [6, 8] chacha_state_S2 (chacha_state_L.drop 8) (fun y => chacha_state_7 N y.2.1 y.2.2.1) (chacha_state_K N) :=
 Blk.chunkAt hb 2 (X := (chacha_state_K N .normal)) (NxOk.end (by kernel_rfl)) rfl (fun x => by kernel_rfl)
theorem chacha_state_5_b {E : Env} (N : Nat) (hb : Base Tryd.prog (chacha_state_C N) E 0) : Blk Tryd.prog (chacha_state_C N) E [2, 6, 8, 34] chacha_state_S1 (chacha_state_L.drop 7) (fun y => chacha_state_5 N y.1.1 y.1.2.1 y.2.1 y.2.2.1) (chacha_state_K N) :=
 Blk.loopAt (Nf := N) (hns := [2, 6, 8, 34]) (ans := [6, 8]) (hc := chacha_state_S1) (ac := chacha_state_S2) (bid := 2) (step := (fun y => chacha_state_s6 N y.1.1 y.1.2.1 y.2.1 y.2.2.1)) (J := (fun e => (goK 0 [6, 8] chacha_state_S2 (fun y => chacha_state_7 N y.2.1 y.2.2.1)) (chacha_state_S2.st [6, 8] e))) hb (by kernel_rfl) (Blk.into (X := (goK 0 [6, 8] chacha_state_S2 (fun y => chacha_state_7 N y.2.1 y.2.2.1))) (NxOk.go hb (chacha_state_7_b N hb)) (fun x => by kernel_rfl)) (chacha_state_s6_b N hb) (fun x => by kernel_rfl)
theorem chacha_state_4_b {E : Env} (N : Nat) (hb : Base Tryd.prog (chacha_state_C N) E 0) : Blk Tryd.prog (chacha_state_C N) E [2, 6, 8] chacha_state_S3 (chacha_state_L.drop 6) (fun y => chacha_state_4 N y.1.1 y.2.1 y.2.2.1) (chacha_state_K N) :=
 Blk.chunkAt hb 1 (X := (goK 0 [2, 6, 8, 34] chacha_state_S1 (fun y => chacha_state_5 N y.1.1 y.1.2.1 y.2.1 y.2.2.1))) (NxOk.go hb (chacha_state_5_b N hb)) rfl (fun x => by kernel_rfl)
theorem chacha_state_2_b {E : Env} (N : Nat) (hb : Base Tryd.prog (chacha_state_C N) E 0) : Blk Tryd.prog (chacha_state_C N) E [0, 2, 6, 8, 22] chacha_state_S0 (chacha_state_L.drop 5) (fun y => chacha_state_2 N y.1.1 y.1.2.1 y.1.2.2.1 y.2.1 y.2.2.1) (chacha_state_K N) :=
 Blk.loopAt (Nf := N) (hns := [0, 2, 6, 8, 22]) (ans := [2, 6, 8]) (hc := chacha_state_S0) (ac := chacha_state_S3) (bid := 0) (step := (fun y => chacha_state_s3 N y.1.1 y.1.2.1 y.1.2.2.1 y.2.1 y.2.2.1)) (J := (fun e => (goK 0 [2, 6, 8] chacha_state_S3 (fun y => chacha_state_4 N y.1.1 y.2.1 y.2.2.1)) (chacha_state_S3.st [2, 6, 8] e))) hb (by kernel_rfl) (Blk.into (X := (goK 0 [2, 6, 8] chacha_state_S3 (fun y => chacha_state_4 N y.1.1 y.2.1 y.2.2.1))) (NxOk.go hb (chacha_state_4_b N hb)) (fun x => by kernel_rfl)) (chacha_state_s3_b N hb) (fun x => by kernel_rfl)
theorem chacha_state_1_b {E : Env} (N : Nat) (hb : Base Tryd.prog (chacha_state_C N) E 0) : Blk Tryd.prog (chacha_state_C N) E [0, 1, 2, 6, 18] chacha_state_S4 (chacha_state_L.drop 2) (fun y => chacha_state_1 N y.1.1 y.1.2.1 y.1.2.2.1 y.1.2.2.2.1 y.2.1) (chacha_state_K N) :=
 Blk.chunkAt hb 3 (X := (goK 0 [0, 2, 6, 8, 22] chacha_state_S0 (fun y => chacha_state_2 N y.1.1 y.1.2.1 y.1.2.2.1 y.2.1 y.2.2.1))) (NxOk.go hb (chacha_state_2_b N hb)) rfl (fun x => by kernel_rfl)
theorem chacha_state_b {E : Env} (N : Nat) (hb : Base Tryd.prog (chacha_state_C N) E 0) : Blk Tryd.prog (chacha_state_C N) E (List.range chacha_state_S5.ks.length) chacha_state_S5 (chacha_state_L.drop 0) (fun y => chacha_state N y.1.1 y.1.2.1 y.1.2.2.1) (chacha_state_K N) :=
 Blk.chunkAt hb 2 (X := (goK 0 [0, 1, 2, 6, 18] chacha_state_S4 (fun y => chacha_state_1 N y.1.1 y.1.2.1 y.1.2.2.1 y.1.2.2.2.1 y.2.1))) (NxOk.go hb (chacha_state_1_b N hb)) rfl (fun x => by kernel_rfl)
def chacha_state_ctr (N : Nat) : Ctr := ⟨chacha_state_S5, chacha_state_S6.un [true, false], 0, (fun y => chacha_state N y.1.1 y.1.2.1 y.1.2.2.1)⟩
theorem chacha_state_ctrs (N : Nat) : CtrsOk Tryd.prog (chacha_state_C N) := ctrs_of (Γ := chacha_state_C N) G_ifs_ok (by
 intro p hp
 simp only [chacha_state_C, List.mem_cons, List.not_mem_nil, or_false] at hp
 rcases hp with rfl
 · exact chacha_word_ok N)
theorem chacha_state_ok (N : Nat) : Ctr.ok Tryd.prog G_globs 164 (chacha_state_ctr N) :=
 ctr_fn (Γ := chacha_state_C N) (rfit := chacha_state_S6) (bs := [true, false]) (res := [6, 7]) (by kernel_rfl) (tys_ok G_tys_ok) (chacha_state_ctrs N) Tryd.func164 (by kernel_rfl) (by kernel_rfl) Tryd.ntmps164 (by kernel_rfl) (by kernel_rfl) (by kernel_rfl) (by kernel_rfl) (fun E hb => chacha_state_b N hb)
/-! math/bits.RotateLeft32 -/
abbrev math_bits_RotateLeft32_R : Type := ((UInt32 × Unit) × (Unit))
def math_bits_RotateLeft32 (N : Nat) (x_0 : UInt32) (k_1 : Int) : Option math_bits_RotateLeft32_R :=
 let x2 := (iu64 k_1) &&& (31 : UInt64)
 some ((((shl32 x_0 x2.toNat) ||| (shr32 x_0 ((32 : UInt64) - x2).toNat)), ()), (()))
def math_bits_RotateLeft32_C (N : Nat) : Ctx := ⟨17, G_tys, [], G_globs, G_ifs⟩
def math_bits_RotateLeft32_S0 : Spec := ⟨[.val .u32, .val .i64], []⟩
def math_bits_RotateLeft32_S1 : Spec := ⟨[.val .u32], []⟩
def math_bits_RotateLeft32_K (_N : Nat) : XE → GS → Option math_bits_RotateLeft32_R := retK 0 [4] [false] math_bits_RotateLeft32_S1
def math_bits_RotateLeft32_L : List Code := (bodyOf (some Tryd.f222))
theorem math_bits_RotateLeft32_b {E : Env} (N : Nat) (hb : Base Tryd.prog (math_bits_RotateLeft32_C N) E 0) : Blk Tryd.prog (math_bits_RotateLeft32_C N) E (List.range math_bits_RotateLeft32_S0.ks.length) math_bits_RotateLeft32_S0 (math_bits_RotateLeft32_L.drop 0) (fun y => math_bits_RotateLeft32 N y.1.1 y.1.2.1) (math_bits_RotateLeft32_K N) :=
 Blk.chunkAt hb 4 (X := (math_bits_RotateLeft32_K N .normal)) (NxOk.end (by kernel_rfl)) rfl (fun x => by kernel_rfl)
def math_bits_RotateLeft32_ctr (N : Nat) : Ctr := ⟨math_bits_RotateLeft32_S0, math_bits_RotateLeft32_S1.un [false], 0, (fun y => math_bits_RotateLeft32 N y.1.1 y.1.2.1)⟩
theorem math_bits_RotateLeft32_ctrs (N : Nat) : CtrsOk Tryd.prog (math_bits_RotateLeft32_C N) := ctrs_nil G_ifs_ok rfl
theorem math_bits_RotateLeft32_ok (N : Nat) : Ctr.ok Tryd.prog G_globs 222 (math_bits_RotateLeft32_ctr N) :=
 ctr_fn (Γ := math_bits_RotateLeft32_C N) (rfit := math_bits_RotateLeft32_S1) (bs := [false]) (res := [4]) (by kernel_rfl) (tys_ok G_tys_ok) (math_bits_RotateLeft32_ctrs N) Tryd.func222 (by kernel_rfl) (by kernel_rfl) Tryd.ntmps222 (by kernel_rfl) (by kernel_rfl) (by kernel_rfl) (by kernel_rfl) (fun E hb => math_bits_RotateLeft32_b N hb)
/-! ipsecgate/chacha.Quarter -/
abbrev chacha_Quarter_R : Type := ((UInt32 × UInt32 × UInt32 × UInt32 × Unit) × (Unit))
def chacha_Quarter (N : Nat) (a_0 : UInt32) (b_1 : UInt32) (c_2 : UInt32) (d_3 : UInt32) : Option chacha_Quarter_R :=
 Option.bind (math_bits_RotateLeft32 N (d_3 ^^^ (a_0 + b_1)) (16 : Int)) fun y3 =>
 Option.bind (math_bits_RotateLeft32 N (b_1 ^^^ (c_2 + y3.1.1)) (12 : Int)) fun y6 =>
 Option.bind (math_bits_RotateLeft32 N (y3.1.1 ^^^ ((a_0 + b_1) + y6.1.1)) (8 : Int)) fun y9 =>
 Option.bind (math_bits_RotateLeft32 N (y6.1.1 ^^^ ((c_2 + y3.1.1) + y9.1.1)) (7 : Int)) fun y12 =>
 some ((((a_0 + b_1) + y6.1.1), y12.1.1, ((c_2 + y3.1.1) + y9.1.1), y9.1.1, ()), (()))
def chacha_Quarter_C (N : Nat) : Ctx := ⟨49, G_tys, [(222, math_bits_RotateLeft32_ctr N)], G_globs, G_ifs⟩
def chacha_Quarter_S0 : Spec := ⟨[.val .u32, .val .u32, .val .u32, .val .u32], []⟩
def chacha_Quarter_K (_N : Nat) : XE → GS → Option chacha_Quarter_R := retK 0 [8, 9, 10, 11] [false, false, false, false] chacha_Quarter_S0
def chacha_Quarter_L : List Code := (bodyOf (some Tryd.f199))
theorem chacha_Quarter_b {E : Env} (N : Nat) (hb : Base Tryd.prog (chacha_Quarter_C N) E 0) : Blk Tryd.prog (chacha_Quarter_C N) E (List.range chacha_Quarter_S0.ks.length) chacha_Quarter_S0 (chacha_Quarter_L.drop 0) (fun y => chacha_Quarter N y.1.1 y.1.2.1 y.1.2.2.1 y.1.2.2.2.1) (chacha_Quarter_K N) :=
 Blk.chunkAt hb 12 (X := (chacha_Quarter_K N .normal)) (NxOk.end (by kernel_rfl)) rfl (fun x => by kernel_rfl)
def chacha_Quarter_ctr (N : Nat) : Ctr := ⟨chacha_Quarter_S0, chacha_Quarter_S0.un [false, false, false, false], 0, (fun y => chacha_Quarter N y.1.1 y.1.2.1 y.1.2.2.1 y.1.2.2.2.1)⟩
theorem chacha_Quarter_ctrs (N : Nat) : CtrsOk Tryd.prog (chacha_Quarter_C N) := ctrs_of (Γ := chacha_Quarter_C N) G_ifs_ok (by
 intro p hp
 simp only [chacha_Quarter_C, List.mem_cons, List.not_mem_nil, or_false] at hp
 rcases hp with rfl
 · exact math_bits_RotateLeft32_ok N)
theorem chacha_Quarter_ok (N : Nat) : Ctr.ok Tryd.prog G_globs 199 (chacha_Quarter_ctr N) :=
 ctr_fn (Γ := chacha_Quarter_C N) (rfit := chacha_Quarter_S0) (bs := [false, false, false, false]) (res := [8, 9, 10, 11]) (by kernel_rfl) (tys_ok G_tys_ok) (chacha_Quarter_ctrs N) Tryd.func199 (by kernel_rfl) (by kernel_rfl) Tryd.ntmps199 (by kernel_rfl) (by kernel_rfl) (by kernel_rfl) (by kernel_rfl) (fun E hb => chacha_Quarter_b N hb)
/-! ipsecgate/chacha.Block -/
abbrev chacha_Block_R : Type := ((Bool × Unit) × ((List UInt8) × Unit))
def chacha_Block_s7 (N : Nat) (t_26 : Int) (t_28 : (List (List Int))) (t_29 : Int) (first_8 : (List UInt32)) (s_10 : (List UInt32)) : Option (Lo ((Int × (List (List Int)) × Int × Unit) × ((List UInt32) × (List UInt32) × Unit)) ((Int × Unit) × ((List UInt32) × (List UInt32) × Unit)) (Lo ((Int × Unit) × ((List UInt32) × (List UInt32) × Unit)) ((Unit) × ((List UInt32) × (List UInt32) × Unit)) chacha_Block_R)) :=
 bif (decide (t_29 < (8 : Int))) then
 bif inR t_29 8 then
 let x5 := t_28.getD t_29.toNat (List.replicate 4 (0 : Int))
 let x6 := (x5.getD 0 (0 : Int))
 let x7 := (x5.getD 1 (0 : Int))
 let x8 := (x5.getD 2 (0 : Int))
 let x9 := (x5.getD 3 (0 : Int))
 let x10 := (x5.getD 0 (0 : Int))
 bif inR x10 16 then
 let x12 := (x5.getD 1 (0 : Int))
 bif inR x12 16 then
 let x14 := (x5.getD 2 (0 : Int))
 bif inR x14 16 then
 let x16 := (x5.getD 3 (0 : Int))
 bif inR x16 16 then
 Option.bind (chacha_Quarter N (s_10.getD x10.toNat (0 : UInt32)) (s_10.getD x12.toNat (0 : UInt32)) (s_10.getD x14.toNat (0 : UInt32)) (s_10.getD x16.toNat (0 : UInt32))) fun y18 =>
 bif inR x6 16 then
 bif inR x7 16 then
 bif inR x8 16 then
 bif inR x9 16 then
 some (.go ((t_26, t_28, (w64 (t_29 + (1 : Int))), ()), (first_8, ((((s_10.set x6.toNat y18.1.1).set x7.toNat y18.1.2.1).set x8.toNat y18.1.2.2.1).set x9.toNat y18.1.2.2.2.1), ())))
 else none
 else none
 else none
 else none
 else none
 else none
 else none
 else none
 else none
 else
 some (.br ((t_26, ()), (first_8, s_10, ())))
def chacha_Block_8 (N : Nat) (t_26 : Int) (first_8 : (List UInt32)) (s_10 : (List UInt32)) : Option (Lo ((Int × Unit) × ((List UInt32) × (List UInt32) × Unit)) ((Unit) × ((List UInt32) × (List UInt32) × Unit)) chacha_Block_R) :=
 some (.go (((w64 (t_26 + (1 : Int))), ()), (first_8, s_10, ())))
def chacha_Block_6 (N : Nat) (t_26 : Int) (t_28 : (List (List Int))) (t_29 : Int) (first_8 : (List UInt32)) (s_10 : (List UInt32)) : Option (Lo ((Int × Unit) × ((List UInt32) × (List UInt32) × Unit)) ((Unit) × ((List UInt32) × (List UInt32) × Unit)) chacha_Block_R) :=
 loopK N (fun y => chacha_Block_s7 N y.1.1 y.1.2.1 y.1.2.2.1 y.2.1 y.2.2.1) (fun (e : ((Int × Unit) × ((List UInt32) × (List UInt32) × Unit))) => chacha_Block_8 N e.1.1 e.2.1 e.2.2.1) ((t_26, t_28, t_29, ()), (first_8, s_10, ()))
def chacha_Block_5 (N : Nat) (t_26 : Int) (first_8 : (List UInt32)) (s_10 : (List UInt32)) : Option (Lo ((Int × Unit) × ((List UInt32) × (List UInt32) × Unit)) ((Unit) × ((List UInt32) × (List UInt32) × Unit)) chacha_Block_R) :=
 chacha_Block_6 N t_26 g_chacha_quarters (0 : Int) first_8 s_10
def chacha_Block_3 (N : Nat) (t_26 : Int) (first_8 : (List UInt32)) (s_10 : (List UInt32)) : Option (Lo ((Int × Unit) × ((List UInt32) × (List UInt32) × Unit)) ((Unit) × ((List UInt32) × (List UInt32) × Unit)) chacha_Block_R) :=
 chacha_Block_5 N t_26 first_8 s_10
def chacha_Block_s2 (N : Nat) (t_26 : Int) (first_8 : (List UInt32)) (s_10 : (List UInt32)) : Option (Lo ((Int × Unit) × ((List UInt32) × (List UInt32) × Unit)) ((Unit) × ((List UInt32) × (List UInt32) × Unit)) chacha_Block_R) :=
 bif (decide (t_26 < (10 : Int))) then
 chacha_Block_3 N t_26 first_8 s_10
 else
 some (.br ((()), (first_8, s_10, ())))
def chacha_Block_s11 (N : Nat) (t_68 : (List UInt32)) (t_69 : Int) (first_8 : (List UInt32)) (out_13 : (List UInt8)) : Option (Lo (((List UInt32) × Int × Unit) × ((List UInt32) × (List UInt8) × Unit)) ((Unit) × ((List UInt8) × Unit)) chacha_Block_R) :=
 bif (decide (t_69 < (16 : Int))) then
 bif inR t_69 16 then
 let x26 := t_68.getD t_69.toNat (0 : UInt32)
 bif inR t_69 16 then
 let x27 := (first_8.getD t_69.toNat (0 : UInt32))
 bif room (out_13.length + ([(x26 + x27).toUInt8, (shr32 (x26 + x27) 8).toUInt8, (shr32 (x26 + x27) 16).toUInt8, (shr32 (x26 + x27) 24).toUInt8] : List UInt8).length) 1 then
 some (.go ((t_68, (w64 (t_69 + (1 : Int))), ()), (first_8, (out_13 ++ ([(x26 + x27).toUInt8, (shr32 (x26 + x27) 8).toUInt8, (shr32 (x26 + x27) 16).toUInt8, (shr32 (x26 + x27) 24).toUInt8] : List UInt8)), ())))
 else none
 else none
 else none
 else
 some (.br ((()), (out_13, ())))
def chacha_Block_12 (N : Nat) (out_13 : (List UInt8)) : Option chacha_Block_R :=
 some ((true, ()), (out_13, ()))
def chacha_Block_10 (N : Nat) (t_68 : (List UInt32)) (t_69 : Int) (first_8 : (List UInt32)) (out_13 : (List UInt8)) : Option chacha_Block_R :=
 loopK N (fun y => chacha_Block_s11 N y.1.1 y.1.2.1 y.2.1 y.2.2.1) (fun (e : ((Unit) × ((List UInt8) × Unit))) => chacha_Block_12 N e.2.1) ((t_68, t_69, ()), (first_8, out_13, ()))
def chacha_Block_9 (N : Nat) (first_8 : (List UInt32)) (s_10 : (List UInt32)) : Option chacha_Block_R :=
 chacha_Block_10 N s_10 (0 : Int) first_8 ([] : List UInt8)
def chacha_Block_1 (N : Nat) (t_26 : Int) (first_8 : (List UInt32)) (s_10 : (List UInt32)) : Option chacha_Block_R :=
 loopK N (fun y => chacha_Block_s2 N y.1.1 y.2.1 y.2.2.1) (fun (e : ((Unit) × ((List UInt32) × (List UInt32) × Unit))) => chacha_Block_9 N e.2.1 e.2.2.1) ((t_26, ()), (first_8, s_10, ()))
def chacha_Block (N : Nat) (key_0 : (List UInt8)) (counter_1 : UInt32) (nonce_2 : (List UInt8)) : Option chacha_Block_R :=
 Option.bind (chacha_state N key_0 counter_1 nonce_2) fun y1 =>
 bif (!y1.1.2.1) then
 some ((false, ()), (([] : List UInt8), ()))
 else
 chacha_Block_1 N (0 : Int) y1.1.1 y1.1.1
def chacha_Block_C (N : Nat) : Ctx := ⟨94, G_tys, [(164, chacha_state_ctr N), (199, chacha_Quarter_ctr N)], G_globs, G_ifs⟩
def chacha_Block_S0 : Spec := ⟨[.ref 0 (.arr 16 .u32), .ref 1 (.arr 16 .u32), .val .i64, .val (.arr 8 (.arr 4 .i64)), .val .i64], [(.box 184 (.arr 16 .u32), .pos 0), (.box 184 (.arr 16 .u32), .pos 1)]⟩
def chacha_Block_S1 : Spec := ⟨[.ref 0 (.arr 16 .u32), .ref 1 (.arr 16 .u32), .val .i64], [(.box 184 (.arr 16 .u32), .pos 0), (.box 184 (.arr 16 .u32), .pos 1)]⟩
def chacha_Block_S2 : Spec := ⟨[.ref 0 (.arr 16 .u32), .row 1, .val (.arr 16 .u32), .val .i64], [(.box 184 (.arr 16 .u32), .pos 0), (.row 5 .u8, .pos 1)]⟩
def chacha_Block_S3 : Spec := ⟨[.row 0], [(.row 5 .u8, .pos 0)]⟩
def chacha_Block_S4 : Spec := ⟨[.ref 0 (.arr 16 .u32), .ref 1 (.arr 16 .u32)], [(.box 184 (.arr 16 .u32), .pos 0), (.box 184 (.arr 16 .u32), .pos 1)]⟩
def chacha_Block_S5 : Spec := ⟨[.val (.sl .u8), .val .u32, .val (.sl .u8)], []⟩
def chacha_Block_S6 : Spec := ⟨[.row 0, .val .bool], [(.row 5 .u8, .pos 0)]⟩
def chacha_Block_K (_N : Nat) : XE → GS → Option chacha_Block_R := retK 0 [6, 7] [false, false] chacha_Block_S6
def chacha_Block_L : List Code := (bodyOf (some Tryd.f165))
def chacha_Block_L2 : List Code := (loopOf (chacha_Block_L[6]?))
def chacha_Block_L4b : List Code := (blockOf (chacha_Block_L2[2]?))
def chacha_Block_L7 : List Code := (loopOf (chacha_Block_L4b[1]?))
def chacha_Block_L11 : List Code := (loopOf (chacha_Block_L[9]?))
def chacha_Block_K2 (N : Nat) : XE → GS → Option (Lo ((Int × Unit) × ((List UInt32) × (List UInt32) × Unit)) ((Unit) × ((List UInt32) × (List UInt32) × Unit)) chacha_Block_R) := roundK (some 0) (fit 0 [8, 10, 26] chacha_Block_S1) (fit 0 [8, 10] chacha_Block_S4) (chacha_Block_K N)
def chacha_Block_K11 (N : Nat) : XE → GS → Option (Lo (((List UInt32) × Int × Unit) × ((List UInt32) × (List UInt8) × Unit)) ((Unit) × ((List UInt8) × Unit)) chacha_Block_R) := roundK (some 4) (fit 0 [8, 13, 68, 69] chacha_Block_S2) (fit 0 [13] chacha_Block_S3) (chacha_Block_K N)
def chacha_Block_K4 (N : Nat) : XE → GS → Option (Lo ((Int × Unit) × ((List UInt32) × (List UInt32) × Unit)) ((Unit) × ((List UInt32) × (List UInt32) × Unit)) chacha_Block_R) := blockK 1 (goK 0 [8, 10, 26] chacha_Block_S1 (fun y => chacha_Block_8 N y.1.1 y.2.1 y.2.2.1)) (chacha_Block_K2 N)
def chacha_Block_K7 (N : Nat) : XE → GS → Option (Lo ((Int × (List (List Int)) × Int × Unit) × ((List UInt32) × (List UInt32) × Unit)) ((Int × Unit) × ((List UInt32) × (List UInt32) × Unit)) (Lo ((Int × Unit) × ((List UInt32) × (List UInt32) × Unit)) ((Unit) × ((List UInt32) × (List UInt32) × Unit)) chacha_Block_R)) := roundK (some 2) (fit 0 [8, 10, 26, 28, 29] chacha_Block_S0) (fit 0 [8, 10, 26] chacha_Block_S1) (chacha_Block_K4 N)
theorem chacha_Block_s7_b {E : Env} (N : Nat) (hb : Base Tryd.prog (chacha_Block_C N) E 0) : Blk Tryd.prog (chacha_Block_C N) E [8, 10, 26, 28, 29] chacha_Block_S0 (chacha_Block_L7.drop 0) (fun y => chacha_Block_s7 N y.1.1 y.1.2.1 y.1.2.2.1 y.2.1 y.2.2.1) (chacha_Block_K7 N) :=
 Blk.chunkAt hb 4 (X := (chacha_Block_K7 N .normal)) (NxOk.end (by kernel_rfl)) rfl (fun x => by kernel_rfl)
theorem chacha_Block_8_b {E : Env} (N : Nat) (hb : Base Tryd.prog (chacha_Block_C N) E 0) : Blk Tryd.prog (chacha_Block_C N) E [8, 10, 26] chacha_Block_S1 (chacha_Block_L2.drop 3) (fun y => chacha_Block_8 N y.1.1 y.2.1 y.2.2.1) (chacha_Block_K2 N) :=
 Blk.chunkAt hb 1 (X := (chacha_Block_K2 N .normal)) (NxOk.end (by kernel_rfl)) rfl (fun x => by kernel_rfl)
theorem chacha_Block_6_b {E : Env} (N : Nat) (hb : Base Tryd.prog (chacha_Block_C N) E 0) : Blk Tryd.prog (chacha_Block_C N) E [8, 10, 26, 28, 29] chacha_Block_S0 (chacha_Block_L4b.drop 1) (fun y => chacha_Block_6 N y.1.1 y.1.2.1 y.1.2.2.1 y.2.1 y.2.2.1) (chacha_Block_K4 N) :=
 Blk.loopAt (Nf := N) (hns := [8, 10, 26, 28, 29]) (ans := [8, 10, 26]) (hc := chacha_Block_S0) (ac := chacha_Block_S1) (bid := 2) (step := (fun y => chacha_Block_s7 N y.1.1 y.1.2.1 y.1.2.2.1 y.2.1 y.2.2.1)) (J := (fun e => (chacha_Block_K4 N .normal) (chacha_Block_S1.st [8, 10, 26] e))) hb (by kernel_rfl) (Blk.into (X := (chacha_Block_K4 N .normal)) (NxOk.end (by kernel_rfl)) (fun x => by kernel_rfl)) (chacha_Block_s7_b N hb) (fun x => by kernel_rfl)
theorem chacha_Block_5_b {E : Env} (N : Nat) (hb : Base Tryd.prog (chacha_Block_C N) E 0) : Blk Tryd.prog (chacha_Block_C N) E [8, 10, 26] chacha_Block_S1 (chacha_Block_L4b.drop 0) (fun y => chacha_Block_5 N y.1.1 y.2.1 y.2.2.1) (chacha_Block_K4 N) :=
 Blk.chunkAt hb 1 (X := (goK 0 [8, 10, 26, 28, 29] chacha_Block_S0 (fun y => chacha_Block_6 N y.1.1 y.1.2.1 y.1.2.2.1 y.2.1 y.2.2.1))) (NxOk.go hb (chacha_Block_6_b N hb)) rfl (fun x => by kernel_rfl)
theorem chacha_Block_3_b {E : Env} (N : Nat) (hb : Base Tryd.prog (chacha_Block_C N) E 0) : Blk Tryd.prog (chacha_Block_C N) E [8, 10, 26] chacha_Block_S1 (chacha_Block_L2.drop 2) (fun y => chacha_Block_3 N y.1.1 y.2.1 y.2.2.1) (chacha_Block_K2 N) :=
 Blk.blockAt (bid := 1) (X := (goK 0 [8, 10, 26] chacha_Block_S1 (fun y => chacha_Block_8 N y.1.1 y.2.1 y.2.2.1))) (Y := (goK 0 [8, 10, 26] chacha_Block_S1 (fun y => chacha_Block_5 N y.1.1 y.2.1 y.2.2.1))) (by kernel_rfl) (NxOk.go hb (chacha_Block_8_b N hb)) (NxOk.go hb (chacha_Block_5_b N hb)) (fun x => by kernel_rfl)
theorem chacha_Block_s2_b {E : Env} (N : Nat) (hb : Base Tryd.prog (chacha_Block_C N) E 0) : Blk Tryd.prog (chacha_Block_C N) E [8, 10, 26] chacha_Block_S1 (chacha_Block_L2.drop 0) (fun y => chacha_Block_s2 N y.1.1 y.2.1 y.2.2.1) (chacha_Block_K2 N) :=
 Blk.chunkAt hb 2 (X := (goK 0 [8, 10, 26] chacha_Block_S1 (fun y => chacha_Block_3 N y.1.1 y.2.1 y.2.2.1))) (NxOk.go hb (chacha_Block_3_b N hb)) rfl (fun x => by kernel_rfl)
theorem chacha_Block_s11_b {E : Env} (N : Nat) (hb : Base Tryd.prog (chacha_Block_C N) E 0) : Blk Tryd.prog (chacha_Block_C N) E [8, 13, 68, 69] chacha_Block_S2 (chacha_Block_L11.drop 0) (fun y => chacha_Block_s11 N y.1.1 y.1.2.1 y.2.1 y.2.2.1) (chacha_Block_K11 N) :=
 Blk.chunkAt hb 4 (X := (chacha_Block_K11 N .normal)) (NxOk.end (by kernel_rfl)) rfl (fun x => by kernel_rfl)
theorem chacha_Block_12_b {E : Env} (N : Nat) (hb : Base Tryd.prog (chacha_Block_C N) E 0) : Blk Tryd.prog (chacha_Block_C N) E [13] chacha_Block_S3 (chacha_Block_L.drop 10) (fun y => chacha_Block_12 N y.2.1) (chacha_Block_K N) :=
 Blk.chunkAt hb 2 (X := (chacha_Block_K N .normal)) (NxOk.end (by kernel_rfl)) rfl (fun x => by kernel_rfl)
theorem chacha_Block_10_b {E : Env} (N : Nat) (hb : Base Tryd.prog (chacha_Block_C N) E 0) : Blk Tryd.prog (chacha_Block_C N) E [8, 13, 68, 69] chacha_Block_S2 (chacha_Block_L.drop 9) (fun y => chacha_Block_10 N y.1.1 y.1.2.1 y.2.1 y.2.2.1) (chacha_Block_K N) :=
 Blk.loopAt (Nf := N) (hns := [8, 13, 68, 69]) (ans := [13]) (hc := chacha_Block_S2) (ac := chacha_Block_S3) (bid := 4) (step := (fun y => chacha_Block_s11 N y.1.1 y.1.2.1 y.2.1 y.2.2.1)) (J := (fun e => (goK 0 [13] chacha_Block_S3 (fun y => chacha_Block_12 N y.2.1)) (chacha_Block_S3.st [13] e))) hb (by kernel_rfl) (Blk.into (X := (goK 0 [13] chacha_Block_S3 (fun y => chacha_Block_12 N y.2.1))) (NxOk.go hb (chacha_Block_12_b N hb)) (fun x => by kernel_rfl)) (chacha_Block_s11_b N hb) (fun x => by kernel_rfl)
theorem chacha_Block_9_b {E : Env} (N : Nat) (hb : Base Tryd.prog (chacha_Block_C N) E 0) : Blk Tryd.prog (chacha_Block_C N) E [8, 10] chacha_Block_S4 (chacha_Block_L.drop 7) (fun y => chacha_Block_9 N y.2.1 y.2.2.1) (chacha_Block_K N) :=
 Blk.chunkAt hb 2 (X := (goK 0 [8, 13, 68, 69] chacha_Block_S2 (fun y => chacha_Block_10 N y.1.1 y.1.2.1 y.2.1 y.2.2.1))) (NxOk.go hb (chacha_Block_10_b N hb)) rfl (fun x => by kernel_rfl)
theorem chacha_Block_1_b {E : Env} (N : Nat) (hb : Base Tryd.prog (chacha_Block_C N) E 0) : Blk Tryd.prog (chacha_Block_C N) E [8, 10, 26] chacha_Block_S1 (chacha_Block_L.drop 6) (fun y => chacha_Block_1 N y.1.1 y.2.1 y.2.2.1) (chacha_Block_K N) :=
 Blk.loopAt (Nf := N) (hns := [8, 10, 26]) (ans := [8, 10]) (hc := chacha_Block_S1) (ac := chacha_Block_S4) (bid := 0) (step := (fun y => chacha_Block_s2 N y.1.1 y.2.1 y.2.2.1)) (J := (fun e => (goK 0 [8, 10] chacha_Block_S4 (fun y => chacha_Block_9 N y.2.1 y.2.2.1)) (chacha_Block_S4.st [8, 10] e))) hb (by kernel_rfl) (Blk.into (X := (goK 0 [8, 10] chacha_Block_S4 (fun y => chacha_Block_9 N y.2.1 y.2.2.1))) (NxOk.go hb (chacha_Block_9_b N hb)) (fun x => by kernel_rfl)) (chacha_Block_s2_b N hb) (fun x => by kernel_rfl)
theorem chacha_Block_b {E : Env} (N : Nat) (hb : Base Tryd.prog (chacha_Block_C N) E 0) : Blk Tryd.prog (chacha_Block_C N) E (List.range chacha_Block_S5.ks.length) chacha_Block_S5 (chacha_Block_L.drop 0) (fun y => chacha_Block N y.1.1 y.1.2.1 y.1.2.2.1) (chacha_Block_K N) :=
 Blk.chunkAt hb 6 (X := (goK 0 [8, 10, 26] chacha_Block_S1 (fun y => chacha_Block_1 N y.1.1 y.2.1 y.2.2.1))) (NxOk.go hb (chacha_Block_1_b N hb)) rfl (fun x => by kernel_rfl)
def chacha_Block_ctr (N : Nat) : Ctr := ⟨chacha_Block_S5, chacha_Block_S6.un [false, false], 0, (fun y => chacha_Block N y.1.1 y.1.2.1 y.1.2.2.1)⟩
theorem chacha_Block_ctrs (N : Nat) : CtrsOk Tryd.prog (chacha_Block_C N) := ctrs_of (Γ := chacha_Block_C N) G_ifs_ok (by
 intro p hp
 simp only [chacha_Block_C, List.mem_cons, List.not_mem_nil, or_false] at hp
 rcases hp with rfl | rfl
 · exact chacha_state_ok N
 · exact chacha_Quarter_ok N)
theorem chacha_Block_ok (N : Nat) : Ctr.ok Tryd.prog G_globs 165 (chacha_Block_ctr N) :=
 ctr_fn (Γ := chacha_Block_C N) (rfit := chacha_Block_S6) (bs := [false, false]) (res := [6, 7]) (by kernel_rfl) (tys_ok G_tys_ok) (chacha_Block_ctrs N) Tryd.func165 (by kernel_rfl) (by kernel_rfl) Tryd.ntmps165 (by kernel_rfl) (by kernel_rfl) (by kernel_rfl) (by kernel_rfl) (fun E hb => chacha_Block_b N hb)
/-! ipsecgate/chacha.Xor -/
abbrev chacha_Xor_R : Type := ((Bool × Unit) × ((List UInt8) × Unit))
def chacha_Xor_s2 (N : Nat) (key_0 : (List UInt8)) (counter_1 : UInt32) (nonce_2 : (List UInt8)) (t_25 : (List UInt8)) (t_26 : Int) (t_27 : Int) (out_12 : (List UInt8)) (mask_13 : (List UInt8)) : Option (Lo (((List UInt8) × UInt32 × (List UInt8) × (List UInt8) × Int × Int × Unit) × ((List UInt8) × (List UInt8) × Unit)) ((Unit) × ((List UInt8) × Unit)) chacha_Xor_R) :=
 bif (decide (t_27 < t_26)) then
 bif inR t_27 t_25.length then
 let x5 := t_25.getD t_27.toNat (0 : UInt8)
 bif (decide ((t_27.tmod (64 : Int)) = (0 : Int))) then
 Option.bind (chacha_Block N key_0 counter_1 nonce_2) fun y8 =>
 let x10 := t_27.tmod (64 : Int)
 bif inR x10 y8.2.1.length then
 let x11 := (y8.2.1.getD x10.toNat (0 : UInt8))
 bif room (out_12.length + ([(x5 ^^^ x11)] : List UInt8).length) 1 then
 some (.go ((key_0, (counter_1 + (1 : UInt32)), nonce_2, t_25, t_26, (w64 (t_27 + (1 : Int))), ()), ((out_12 ++ ([(x5 ^^^ x11)] : List UInt8)), y8.2.1, ())))
 else none
 else none
 else
 let x15 := t_27.tmod (64 : Int)
 bif inR x15 mask_13.length then
 let x16 := (mask_13.getD x15.toNat (0 : UInt8))
 bif room (out_12.length + ([(x5 ^^^ x16)] : List UInt8).length) 1 then
 some (.go ((key_0, counter_1, nonce_2, t_25, t_26, (w64 (t_27 + (1 : Int))), ()), ((out_12 ++ ([(x5 ^^^ x16)] : List UInt8)), mask_13, ())))
 else none
 else none
 else none
 else
 some (.br ((()), (out_12, ())))
def chacha_Xor_3 (N : Nat) (out_12 : (List UInt8)) : Option chacha_Xor_R :=
 some ((true, ()), (out_12, ()))
def chacha_Xor_1 (N : Nat) (key_0 : (List UInt8)) (counter_1 : UInt32) (nonce_2 : (List UInt8)) (t_25 : (List UInt8)) (t_26 : Int) (t_27 : Int) (out_12 : (List UInt8)) (mask_13 : (List UInt8)) : Option chacha_Xor_R :=
 loopK N (fun y => chacha_Xor_s2 N y.1.1 y.1.2.1 y.1.2.2.1 y.1.2.2.2.1 y.1.2.2.2.2.1 y.1.2.2.2.2.2.1 y.2.1 y.2.2.1) (fun (e : ((Unit) × ((List UInt8) × Unit))) => chacha_Xor_3 N e.2.1) ((key_0, counter_1, nonce_2, t_25, t_26, t_27, ()), (out_12, mask_13, ()))
def chacha_Xor (N : Nat) (key_0 : (List UInt8)) (counter_1 : UInt32) (nonce_2 : (List UInt8)) (b_3 : (List UInt8)) : Option chacha_Xor_R :=
 Option.bind (chacha_state N key_0 counter_1 nonce_2) fun y1 =>
 bif (!y1.1.2.1) then
 some ((false, ()), (([] : List UInt8), ()))
 else
 chacha_Xor_1 N key_0 counter_1 nonce_2 b_3 (b_3.length : Int) (0 : Int) ([] : List UInt8) ([] : List UInt8)
def chacha_Xor_C (N : Nat) : Ctx := ⟨56, G_tys, [(164, chacha_state_ctr N), (165, chacha_Block_ctr N)], G_globs, G_ifs⟩
def chacha_Xor_S0 : Spec := ⟨[.val (.sl .u8), .val .u32, .val (.sl .u8), .row 0, .row 1, .val (.sl .u8), .val .i64, .val .i64], [(.row 5 .u8, .pos 3), (.row 5 .u8, .pos 4)]⟩
def chacha_Xor_S1 : Spec := ⟨[.row 0], [(.row 5 .u8, .pos 0)]⟩
def chacha_Xor_S2 : Spec := ⟨[.val (.sl .u8), .val .u32, .val (.sl .u8), .val (.sl .u8)], []⟩
def chacha_Xor_S3 : Spec := ⟨[.row 0, .val .bool], [(.row 5 .u8, .pos 0)]⟩
def chacha_Xor_K (_N : Nat) : XE → GS → Option chacha_Xor_R := retK 0 [8, 9] [false, false] chacha_Xor_S3
def chacha_Xor_L : List Code := (bodyOf (some Tryd.f120))
def chacha_Xor_L2 : List Code := (loopOf (chacha_Xor_L[6]?))
def chacha_Xor_K2 (N : Nat) : XE → GS → Option (Lo (((List UInt8) × UInt32 × (List UInt8) × (List UInt8) × Int × Int × Unit) × ((List UInt8) × (List UInt8) × Unit)) ((Unit) × ((List UInt8) × Unit)) chacha_Xor_R) := roundK (some 0) (fit 0 [0, 1, 2, 12, 13, 25, 26, 27] chacha_Xor_S0) (fit 0 [12] chacha_Xor_S1) (chacha_Xor_K N)
theorem chacha_Xor_s2_b {E : Env} (N : Nat) (hb : Base Tryd.prog (chacha_Xor_C N) E 0) : Blk Tryd.prog (chacha_Xor_C N) E [0, 1, 2, 12, 13, 25, 26, 27] chacha_Xor_S0 (chacha_Xor_L2.drop 0) (fun y => chacha_Xor_s2 N y.1.1 y.1.2.1 y.1.2.2.1 y.1.2.2.2.1 y.1.2.2.2.2.1 y.1.2.2.2.2.2.1 y.2.1 y.2.2.1) (chacha_Xor_K2 N) :=
 Blk.chunkAt hb 4 (X := (chacha_Xor_K2 N .normal)) (NxOk.end (by kernel_rfl)) rfl (fun x => by kernel_rfl)
theorem chacha_Xor_3_b {E : Env} (N : Nat) (hb : Base Tryd.prog (chacha_Xor_C N) E 0) : Blk Tryd.prog (chacha_Xor_C N) E [12] chacha_Xor_S1 (chacha_Xor_L.drop 7) (fun y => chacha_Xor_3 N y.2.1) (chacha_Xor_K N) :=
 Blk.chunkAt hb 2 (X := (chacha_Xor_K N .normal)) (NxOk.end (by kernel_rfl)) rfl (fun x => by kernel_rfl)
theorem chacha_Xor_1_b {E : Env} (N : Nat) (hb : Base Tryd.prog (chacha_Xor_C N) E 0) : Blk Tryd.prog (chacha_Xor_C N) E [0, 1, 2, 12, 13, 25, 26, 27] chacha_Xor_S0 (chacha_Xor_L.drop 6) (fun y => chacha_Xor_1 N y.1.1 y.1.2.1 y.1.2.2.1 y.1.2.2.2.1 y.1.2.2.2.2.1 y.1.2.2.2.2.2.1 y.2.1 y.2.2.1) (chacha_Xor_K N) :=
 Blk.loopAt (Nf := N) (hns := [0, 1, 2, 12, 13, 25, 26, 27]) (ans := [12]) (hc := chacha_Xor_S0) (ac := chacha_Xor_S1) (bid := 0) (step := (fun y => chacha_Xor_s2 N y.1.1 y.1.2.1 y.1.2.2.1 y.1.2.2.2.1 y.1.2.2.2.2.1 y.1.2.2.2.2.2.1 y.2.1 y.2.2.1)) (J := (fun e => (goK 0 [12] chacha_Xor_S1 (fun y => chacha_Xor_3 N y.2.1)) (chacha_Xor_S1.st [12] e))) hb (by kernel_rfl) (Blk.into (X := (goK 0 [12] chacha_Xor_S1 (fun y => chacha_Xor_3 N y.2.1))) (NxOk.go hb (chacha_Xor_3_b N hb)) (fun x => by kernel_rfl)) (chacha_Xor_s2_b N hb) (fun x => by kernel_rfl)
theorem chacha_Xor_b {E : Env} (N : Nat) (hb : Base Tryd.prog (chacha_Xor_C N) E 0) : Blk Tryd.prog (chacha_Xor_C N) E (List.range chacha_Xor_S2.ks.length) chacha_Xor_S2 (chacha_Xor_L.drop 0) (fun y => chacha_Xor N y.1.1 y.1.2.1 y.1.2.2.1 y.1.2.2.2.1) (chacha_Xor_K N) :=
 Blk.chunkAt hb 6 (X := (goK 0 [0, 1, 2, 12, 13, 25, 26, 27] chacha_Xor_S0 (fun y => chacha_Xor_1 N y.1.1 y.1.2.1 y.1.2.2.1 y.1.2.2.2.1 y.1.2.2.2.2.1 y.1.2.2.2.2.2.1 y.2.1 y.2.2.1))) (NxOk.go hb (chacha_Xor_1_b N hb)) rfl (fun x => by kernel_rfl)
def chacha_Xor_ctr (N : Nat) : Ctr := ⟨chacha_Xor_S2, chacha_Xor_S3.un [false, false], 0, (fun y => chacha_Xor N y.1.1 y.1.2.1 y.1.2.2.1 y.1.2.2.2.1)⟩
theorem chacha_Xor_ctrs (N : Nat) : CtrsOk Tryd.prog (chacha_Xor_C N) := ctrs_of (Γ := chacha_Xor_C N) G_ifs_ok (by
 intro p hp
 simp only [chacha_Xor_C, List.mem_cons, List.not_mem_nil, or_false] at hp
 rcases hp with rfl | rfl
 · exact chacha_state_ok N
 · exact chacha_Block_ok N)
theorem chacha_Xor_ok (N : Nat) : Ctr.ok Tryd.prog G_globs 120 (chacha_Xor_ctr N) :=
 ctr_fn (Γ := chacha_Xor_C N) (rfit := chacha_Xor_S3) (bs := [false, false]) (res := [8, 9]) (by kernel_rfl) (tys_ok G_tys_ok) (chacha_Xor_ctrs N) Tryd.func120 (by kernel_rfl) (by kernel_rfl) Tryd.ntmps120 (by kernel_rfl) (by kernel_rfl) (by kernel_rfl) (by kernel_rfl) (fun E hb => chacha_Xor_b N hb)
/-! ipsecgate/aead.padded -/
abbrev aead_padded_R : Type := ((Unit) × ((List UInt8) × Unit))
def aead_padded (N : Nat) (b_1 : (List UInt8)) (l_0 : (List UInt8)) : Option aead_padded_R :=
 bif room (l_0.length + b_1.length) 1 then
 let x5 := (w64 ((16 : Int) - ((b_1.length : Int).tmod (16 : Int)))).tmod (16 : Int)
 bif decide (0 ≤ x5) then
 bif room ((l_0 ++ b_1).length + (List.replicate x5.toNat (0 : UInt8)).length) 1 then
 some ((()), (((l_0 ++ b_1) ++ (List.replicate x5.toNat (0 : UInt8))), ()))
 else none
 else none
 else none
def aead_padded_C (N : Nat) : Ctx := ⟨15, G_tys, [], G_globs, G_ifs⟩
def aead_padded_S0 : Spec := ⟨[.row 0, .val (.sl .u8)], [(.row 5 .u8, .pos 0)]⟩
def aead_padded_S1 : Spec := ⟨[.row 0], [(.row 5 .u8, .pos 0)]⟩
def aead_padded_K (_N : Nat) : XE → GS → Option aead_padded_R := retK 0 [4] [false] aead_padded_S1
def aead_padded_L : List Code := (bodyOf (some Tryd.f166))
theorem aead_padded_b {E : Env} (N : Nat) (hb : Base Tryd.prog (aead_padded_C N) E 0) : Blk Tryd.prog (aead_padded_C N) E (List.range aead_padded_S0.ks.length) aead_padded_S0 (aead_padded_L.drop 0) (fun y => aead_padded N y.1.1 y.2.1) (aead_padded_K N) :=
 Blk.chunkAt hb 4 (X := (aead_padded_K N .normal)) (NxOk.end (by kernel_rfl)) rfl (fun x => by kernel_rfl)
def aead_padded_ctr (N : Nat) : Ctr := ⟨aead_padded_S0, aead_padded_S1.un [false], 0, (fun y => aead_padded N y.1.1 y.2.1)⟩
theorem aead_padded_ctrs (N : Nat) : CtrsOk Tryd.prog (aead_padded_C N) := ctrs_nil G_ifs_ok rfl
theorem aead_padded_ok (N : Nat) : Ctr.ok Tryd.prog G_globs 166 (aead_padded_ctr N) :=
 ctr_fn (Γ := aead_padded_C N) (rfit := aead_padded_S1) (bs := [false]) (res := [4]) (by kernel_rfl) (tys_ok G_tys_ok) (aead_padded_ctrs N) Tryd.func166 (by kernel_rfl) (by kernel_rfl) Tryd.ntmps166 (by kernel_rfl) (by kernel_rfl) (by kernel_rfl) (by kernel_rfl) (fun E hb => aead_padded_b N hb)
/-! ipsecgate/aead.length -/
abbrev aead_length_R : Type := ((Unit) × ((List UInt8) × Unit))
def aead_length_s2 (N : Nat) (n_1 : Int) (t_6 : Int) (l_0 : (List UInt8)) : Option (Lo ((Int × Int × Unit) × ((List UInt8) × Unit)) ((Unit) × ((List UInt8) × Unit)) aead_length_R) :=
 bif (decide (t_6 < (8 : Int))) then
 let x3 := w64 ((8 : Int) * t_6)
 bif decide (0 ≤ x3) then
 let x4 := shr64 (iu64 n_1) x3.toNat
 bif room (l_0.length + ([x4.toUInt8] : List UInt8).length) 1 then
 some (.go ((n_1, (w64 (t_6 + (1 : Int))), ()), ((l_0 ++ ([x4.toUInt8] : List UInt8)), ())))
 else none
 else none
 else
 some (.br ((()), (l_0, ())))
def aead_length_3 (N : Nat) (l_0 : (List UInt8)) : Option aead_length_R :=
 some ((()), (l_0, ()))
def aead_length_1 (N : Nat) (n_1 : Int) (t_6 : Int) (l_0 : (List UInt8)) : Option aead_length_R :=
 loopK N (fun y => aead_length_s2 N y.1.1 y.1.2.1 y.2.1) (fun (e : ((Unit) × ((List UInt8) × Unit))) => aead_length_3 N e.2.1) ((n_1, t_6, ()), (l_0, ()))
def aead_length (N : Nat) (n_1 : Int) (l_0 : (List UInt8)) : Option aead_length_R :=
 aead_length_1 N n_1 (0 : Int) l_0
def aead_length_C (N : Nat) : Ctx := ⟨20, G_tys, [], G_globs, G_ifs⟩
def aead_length_S0 : Spec := ⟨[.row 0, .val .i64, .val .i64], [(.row 5 .u8, .pos 0)]⟩
def aead_length_S1 : Spec := ⟨[.row 0], [(.row 5 .u8, .pos 0)]⟩
def aead_length_S2 : Spec := ⟨[.row 0, .val .i64], [(.row 5 .u8, .pos 0)]⟩
def aead_length_K (_N : Nat) : XE → GS → Option aead_length_R := retK 0 [4] [false] aead_length_S1
def aead_length_L : List Code := (bodyOf (some Tryd.f168))
def aead_length_L2 : List Code := (loopOf (aead_length_L[2]?))
def aead_length_K2 (N : Nat) : XE → GS → Option (Lo ((Int × Int × Unit) × ((List UInt8) × Unit)) ((Unit) × ((List UInt8) × Unit)) aead_length_R) := roundK (some 0) (fit 0 [0, 1, 6] aead_length_S0) (fit 0 [0] aead_length_S1) (aead_length_K N)
theorem aead_length_s2_b {E : Env} (N : Nat) (hb : Base Tryd.prog (aead_length_C N) E 0) : Blk Tryd.prog (aead_length_C N) E [0, 1, 6] aead_length_S0 (aead_length_L2.drop 0) (fun y => aead_length_s2 N y.1.1 y.1.2.1 y.2.1) (aead_length_K2 N) :=
 Blk.chunkAt hb 4 (X := (aead_length_K2 N .normal)) (NxOk.end (by kernel_rfl)) rfl (fun x => by kernel_rfl)
theorem aead_length_3_b {E : Env} (N : Nat) (hb : Base Tryd.prog (aead_length_C N) E 0) : Blk Tryd.prog (aead_length_C N) E [0] aead_length_S1 (aead_length_L.drop 3) (fun y => aead_length_3 N y.2.1) (aead_length_K N) :=
 Blk.chunkAt hb 2 (X := (aead_length_K N .normal)) (NxOk.end (by kernel_rfl)) rfl (fun x => by kernel_rfl)
theorem aead_length_1_b {E : Env} (N : Nat) (hb : Base Tryd.prog (aead_length_C N) E 0) : Blk Tryd.prog (aead_length_C N) E [0, 1, 6] aead_length_S0 (aead_length_L.drop 2) (fun y => aead_length_1 N y.1.1 y.1.2.1 y.2.1) (aead_length_K N) :=
 Blk.loopAt (Nf := N) (hns := [0, 1, 6]) (ans := [0]) (hc := aead_length_S0) (ac := aead_length_S1) (bid := 0) (step := (fun y => aead_length_s2 N y.1.1 y.1.2.1 y.2.1)) (J := (fun e => (goK 0 [0] aead_length_S1 (fun y => aead_length_3 N y.2.1)) (aead_length_S1.st [0] e))) hb (by kernel_rfl) (Blk.into (X := (goK 0 [0] aead_length_S1 (fun y => aead_length_3 N y.2.1))) (NxOk.go hb (aead_length_3_b N hb)) (fun x => by kernel_rfl)) (aead_length_s2_b N hb) (fun x => by kernel_rfl)
theorem aead_length_b {E : Env} (N : Nat) (hb : Base Tryd.prog (aead_length_C N) E 0) : Blk Tryd.prog (aead_length_C N) E (List.range aead_length_S2.ks.length) aead_length_S2 (aead_length_L.drop 0) (fun y => aead_length N y.1.1 y.2.1) (aead_length_K N) :=
 Blk.chunkAt hb 2 (X := (goK 0 [0, 1, 6] aead_length_S0 (fun y => aead_length_1 N y.1.1 y.1.2.1 y.2.1))) (NxOk.go hb (aead_length_1_b N hb)) rfl (fun x => by kernel_rfl)
def aead_length_ctr (N : Nat) : Ctr := ⟨aead_length_S2, aead_length_S1.un [false], 0, (fun y => aead_length N y.1.1 y.2.1)⟩
theorem aead_length_ctrs (N : Nat) : CtrsOk Tryd.prog (aead_length_C N) := ctrs_nil G_ifs_ok rfl
theorem aead_length_ok (N : Nat) : Ctr.ok Tryd.prog G_globs 168 (aead_length_ctr N) :=
 ctr_fn (Γ := aead_length_C N) (rfit := aead_length_S1) (bs := [false]) (res := [4]) (by kernel_rfl) (tys_ok G_tys_ok) (aead_length_ctrs N) Tryd.func168 (by kernel_rfl) (by kernel_rfl) Tryd.ntmps168 (by kernel_rfl) (by kernel_rfl) (by kernel_rfl) (by kernel_rfl) (fun E hb => aead_length_b N hb)
/-! ipsecgate/poly1305.clamp -/
abbrev poly1305_clamp_R : Type := ((Unit) × ((List UInt8) × Unit))
def poly1305_clamp_s2 (N : Nat) (t_8 : Int) (t_9 : Int) (r_3 : (List UInt8)) : Option (Lo ((Int × Int × Unit) × ((List UInt8) × Unit)) ((Unit) × ((List UInt8) × Unit)) poly1305_clamp_R) :=
 bif (decide (t_9 < t_8)) then
 bif (decide ((t_9.tmod (4 : Int)) = (3 : Int))) then
 bif inR t_9 r_3.length then
 bif inR t_9 r_3.length then
 let x7 := (r_3.set t_9.toNat ((r_3.getD t_9.toNat (0 : UInt8)) &&& (15 : UInt8)))
 bif (decide ((t_9.tmod (4 : Int)) = (0 : Int))) then
 bif (decide ((0 : Int) < t_9)) then
 bif inR t_9 x7.length then
 bif inR t_9 x7.length then
 some (.go ((t_8, (w64 (t_9 + (1 : Int))), ()), ((x7.set t_9.toNat ((x7.getD t_9.toNat (0 : UInt8)) &&& (252 : UInt8))), ())))
 else none
 else none
 else
 some (.go ((t_8, (w64 (t_9 + (1 : Int))), ()), (x7, ())))
 else
 some (.go ((t_8, (w64 (t_9 + (1 : Int))), ()), (x7, ())))
 else none
 else none
 else
 bif (decide ((t_9.tmod (4 : Int)) = (0 : Int))) then
 bif (decide ((0 : Int) < t_9)) then
 bif inR t_9 r_3.length then
 bif inR t_9 r_3.length then
 some (.go ((t_8, (w64 (t_9 + (1 : Int))), ()), ((r_3.set t_9.toNat ((r_3.getD t_9.toNat (0 : UInt8)) &&& (252 : UInt8))), ())))
 else none
 else none
 else
 some (.go ((t_8, (w64 (t_9 + (1 : Int))), ()), (r_3, ())))
 else
 some (.go ((t_8, (w64 (t_9 + (1 : Int))), ()), (r_3, ())))
 else
 some (.br ((()), (r_3, ())))
def poly1305_clamp_3 (N : Nat) (r_3 : (List UInt8)) : Option poly1305_clamp_R :=
 some ((()), (r_3, ()))
def poly1305_clamp_1 (N : Nat) (t_8 : Int) (t_9 : Int) (r_3 : (List UInt8)) : Option poly1305_clamp_R :=
 loopK N (fun y => poly1305_clamp_s2 N y.1.1 y.1.2.1 y.2.1) (fun (e : ((Unit) × ((List UInt8) × Unit))) => poly1305_clamp_3 N e.2.1) ((t_8, t_9, ()), (r_3, ()))
def poly1305_clamp (N : Nat) (key_0 : (List UInt8)) : Option poly1305_clamp_R :=
 bif room (0 + key_0.length) 1 then
 poly1305_clamp_1 N (key_0.length : Int) (0 : Int) key_0
 else none
def poly1305_clamp_C (N : Nat) : Ctx := ⟨36, G_tys, [], G_globs, G_ifs⟩
def poly1305_clamp_S0 : Spec := ⟨[.row 0, .val .i64, .val .i64], [(.row 5 .u8, .pos 0)]⟩
def poly1305_clamp_S1 : Spec := ⟨[.row 0], [(.row 5 .u8, .pos 0)]⟩
def poly1305_clamp_S2 : Spec := ⟨[.val (.sl .u8)], []⟩
def poly1305_clamp_K (_N : Nat) : XE → GS → Option poly1305_clamp_R := retK 0 [2] [false] poly1305_clamp_S1
def poly1305_clamp_L : List Code := (bodyOf (some Tryd.f201))
def poly1305_clamp_L2 : List Code := (loopOf (poly1305_clamp_L[3]?))
def poly1305_clamp_K2 (N : Nat) : XE → GS → Option (Lo ((Int × Int × Unit) × ((List UInt8) × Unit)) ((Unit) × ((List UInt8) × Unit)) poly1305_clamp_R) := roundK (some 0) (fit 0 [3, 8, 9] poly1305_clamp_S0) (fit 0 [3] poly1305_clamp_S1) (poly1305_clamp_K N)
theorem poly1305_clamp_s2_b {E : Env} (N : Nat) (hb : Base Tryd.prog (poly1305_clamp_C N) E 0) : Blk Tryd.prog (poly1305_clamp_C N) E [3, 8, 9] poly1305_clamp_S0 (poly1305_clamp_L2.drop 0) (fun y => poly1305_clamp_s2 N y.1.1 y.1.2.1 y.2.1) (poly1305_clamp_K2 N) :=
 Blk.chunkAt hb 4 (X := (poly1305_clamp_K2 N .normal)) (NxOk.end (by kernel_rfl)) rfl (fun x => by kernel_rfl)
theorem poly1305_clamp_3_b {E : Env} (N : Nat) (hb : Base Tryd.prog (poly1305_clamp_C N) E 0) : Blk Tryd.prog (poly1305_clamp_C N) E [3] poly1305_clamp_S1 (poly1305_clamp_L.drop 4) (fun y => poly1305_clamp_3 N y.2.1) (poly1305_clamp_K N) :=
 Blk.chunkAt hb 2 (X := (poly1305_clamp_K N .normal)) (NxOk.end (by kernel_rfl)) rfl (fun x => by kernel_rfl)
theorem poly1305_clamp_1_b {E : Env} (N : Nat) (hb : Base Tryd.prog (poly1305_clamp_C N) E 0) : Blk Tryd.prog (poly1305_clamp_C N) E [3, 8, 9] poly1305_clamp_S0 (poly1305_clamp_L.drop 3) (fun y => poly1305_clamp_1 N y.1.1 y.1.2.1 y.2.1) (poly1305_clamp_K N) :=
 Blk.loopAt (Nf := N) (hns := [3, 8, 9]) (ans := [3]) (hc := poly1305_clamp_S0) (ac := poly1305_clamp_S1) (bid := 0) (step := (fun y => poly1305_clamp_s2 N y.1.1 y.1.2.1 y.2.1)) (J := (fun e => (goK 0 [3] poly1305_clamp_S1 (fun y => poly1305_clamp_3 N y.2.1)) (poly1305_clamp_S1.st [3] e))) hb (by kernel_rfl) (Blk.into (X := (goK 0 [3] poly1305_clamp_S1 (fun y => poly1305_clamp_3 N y.2.1))) (NxOk.go hb (poly1305_clamp_3_b N hb)) (fun x => by kernel_rfl)) (poly1305_clamp_s2_b N hb) (fun x => by kernel_rfl)
theorem poly1305_clamp_b {E : Env} (N : Nat) (hb : Base Tryd.prog (poly1305_clamp_C N) E 0) : Blk Tryd.prog (poly1305_clamp_C N) E (List.range poly1305_clamp_S2.ks.length) poly1305_clamp_S2 (poly1305_clamp_L.drop 0) (fun y => poly1305_clamp N y.1.1) (poly1305_clamp_K N) :=
 Blk.chunkAt hb 3 (X := (goK 0 [3, 8, 9] poly1305_clamp_S0 (fun y => poly1305_clamp_1 N y.1.1 y.1.2.1 y.2.1))) (NxOk.go hb (poly1305_clamp_1_b N hb)) rfl (fun x => by kernel_rfl)
def poly1305_clamp_ctr (N : Nat) : Ctr := ⟨poly1305_clamp_S2, poly1305_clamp_S1.un [false], 0, (fun y => poly1305_clamp N y.1.1)⟩
theorem poly1305_clamp_ctrs (N : Nat) : CtrsOk Tryd.prog (poly1305_clamp_C N) := ctrs_nil G_ifs_ok rfl
theorem poly1305_clamp_ok (N : Nat) : Ctr.ok Tryd.prog G_globs 201 (poly1305_clamp_ctr N) :=
 ctr_fn (Γ := poly1305_clamp_C N) (rfit := poly1305_clamp_S1) (bs := [false]) (res := [2]) (by kernel_rfl) (tys_ok G_tys_ok) (poly1305_clamp_ctrs N) Tryd.func201 (by kernel_rfl) (by kernel_rfl) Tryd.ntmps201 (by kernel_rfl) (by kernel_rfl) (by kernel_rfl) (by kernel_rfl) (fun E hb => poly1305_clamp_b N hb)
/-! ipsecgate/poly1305.number -/
abbrev poly1305_number_R : Type := (((List UInt64) × Unit) × (Unit))
def poly1305_number_s2 (N : Nat) (t_7 : (List UInt8)) (t_8 : Int) (t_9 : Int) (t_2 : (List UInt64)) (l_3 : (List UInt64)) : Option (Lo (((List UInt8) × Int × Int × Unit) × ((List UInt64) × (List UInt64) × Unit)) ((Unit) × ((List UInt64) × (List UInt64) × Unit)) poly1305_number_R) :=
 bif (decide (t_9 < t_8)) then
 bif inR t_9 t_7.length then
 let x3 := t_7.getD t_9.toNat (0 : UInt8)
 let x4 := w64 ((8 : Int) * t_9)
 let x5 := w64 (x4.tdiv (26 : Int))
 bif inR x5 5 then
 let x7 := x4.tmod (26 : Int)
 bif decide (0 ≤ x7) then
 bif inR x5 5 then
 let x11 := (l_3.set x5.toNat ((l_3.getD x5.toNat (0 : UInt64)) + ((shl64 x3.toUInt64 x7.toNat) &&& (67108863 : UInt64))))
 bif (decide ((18 : Int) < (x4.tmod (26 : Int)))) then
 bif (decide ((w64 (x4.tdiv (26 : Int))) < (4 : Int))) then
 let x17 := w64 ((w64 (x4.tdiv (26 : Int))) + (1 : Int))
 bif inR x17 5 then
 let x20 := w64 ((26 : Int) - (x4.tmod (26 : Int)))
 bif decide (0 ≤ x20) then
 bif inR x17 5 then
 some (.go ((t_7, t_8, (w64 (t_9 + (1 : Int))), ()), (t_2, (x11.set x17.toNat ((x11.getD x17.toNat (0 : UInt64)) + (shr64 x3.toUInt64 x20.toNat))), ())))
 else none
 else none
 else none
 else
 some (.go ((t_7, t_8, (w64 (t_9 + (1 : Int))), ()), (t_2, x11, ())))
 else
 some (.go ((t_7, t_8, (w64 (t_9 + (1 : Int))), ()), (t_2, x11, ())))
 else none
 else none
 else none
 else none
 else
 some (.br ((()), (t_2, l_3, ())))
def poly1305_number_3 (N : Nat) (t_2 : (List UInt64)) (l_3 : (List UInt64)) : Option poly1305_number_R :=
 some ((l_3, ()), (()))
def poly1305_number_1 (N : Nat) (t_7 : (List UInt8)) (t_8 : Int) (t_9 : Int) (t_2 : (List UInt64)) (l_3 : (List UInt64)) : Option poly1305_number_R :=
 loopK N (fun y => poly1305_number_s2 N y.1.1 y.1.2.1 y.1.2.2.1 y.2.1 y.2.2.1) (fun (e : ((Unit) × ((List UInt64) × (List UInt64) × Unit))) => poly1305_number_3 N e.2.1 e.2.2.1) ((t_7, t_8, t_9, ()), (t_2, l_3, ()))
def poly1305_number (N : Nat) (b_0 : (List UInt8)) : Option poly1305_number_R :=
 poly1305_number_1 N b_0 (b_0.length : Int) (0 : Int) (List.replicate 5 (0 : UInt64)) (List.replicate 5 (0 : UInt64))
def poly1305_number_C (N : Nat) : Ctx := ⟨51, G_tys, [], G_globs, G_ifs⟩
def poly1305_number_S0 : Spec := ⟨[.ref 0 (.arr 5 .u64), .ref 1 (.arr 5 .u64), .val (.sl .u8), .val .i64, .val .i64], [(.box 230 (.arr 5 .u64), .pos 0), (.box 230 (.arr 5 .u64), .pos 1)]⟩
def poly1305_number_S1 : Spec := ⟨[.ref 0 (.arr 5 .u64), .ref 1 (.arr 5 .u64)], [(.box 230 (.arr 5 .u64), .pos 0), (.box 230 (.arr 5 .u64), .pos 1)]⟩
def poly1305_number_S2 : Spec := ⟨[.val (.sl .u8)], []⟩
def poly1305_number_S3 : Spec := ⟨[.fp (.arr 5 .u64)], []⟩
def poly1305_number_K (_N : Nat) : XE → GS → Option poly1305_number_R := retK 0 [2] [true] poly1305_number_S3
def poly1305_number_L : List Code := (bodyOf (some Tryd.f200))
def poly1305_number_L2 : List Code := (loopOf (poly1305_number_L[3]?))
def poly1305_number_K2 (N : Nat) : XE → GS → Option (Lo (((List UInt8) × Int × Int × Unit) × ((List UInt64) × (List UInt64) × Unit)) ((Unit) × ((List UInt64) × (List UInt64) × Unit)) poly1305_number_R) := roundK (some 0) (fit 0 [2, 3, 7, 8, 9] poly1305_number_S0) (fit 0 [2, 3] poly1305_number_S1) (poly1305_number_K N)
theorem poly1305_number_s2_b {E : Env} (N : Nat) (hb : Base Tryd.prog (poly1305_number_C N) E 0) : Blk Tryd.prog (poly1305_number_C N) E [2, 3, 7, 8, 9] poly1305_number_S0 (poly1305_number_L2.drop 0) (fun y => poly1305_number_s2 N y.1.1 y.1.2.1 y.1.2.2.1 y.2.1 y.2.2.1) (poly1305_number_K2 N) :=
 Blk.chunkAt hb 4 (X := (poly1305_number_K2 N .normal)) (NxOk.end (by kernel_rfl)) rfl (fun x => by kernel_rfl)
theorem poly1305_number_3_b {E : Env} (N : Nat) (hb : Base Tryd.prog (poly1305_number_C N) E 0) : Blk Tryd.prog (poly1305_number_C N) E [2, 3] poly1305_number_S1 (poly1305_number_L.drop 4) (fun y => poly1305_number_3 N y.2.1 y.2.2.1) (poly1305_number_K N) :=
 Blk.chunkAt hb 2 (X := (poly1305_number_K N .normal)) (NxOk.end (by kernel_rfl)) rfl (fun x => by kernel_rfl)
theorem poly1305_number_1_b {E : Env} (N : Nat) (hb : Base Tryd.prog (poly1305_number_C N) E 0) : Blk Tryd.prog (poly1305_number_C N) E [2, 3, 7, 8, 9] poly1305_number_S0 (poly1305_number_L.drop 3) (fun y => poly1305_number_1 N y.1.1 y.1.2.1 y.1.2.2.1 y.2.1 y.2.2.1) (poly1305_number_K N) :=
 Blk.loopAt (Nf := N) (hns := [2, 3, 7, 8, 9]) (ans := [2, 3]) (hc := poly1305_number_S0) (ac := poly1305_number_S1) (bid := 0) (step := (fun y => poly1305_number_s2 N y.1.1 y.1.2.1 y.1.2.2.1 y.2.1 y.2.2.1)) (J := (fun e => (goK 0 [2, 3] poly1305_number_S1 (fun y => poly1305_number_3 N y.2.1 y.2.2.1)) (poly1305_number_S1.st [2, 3] e))) hb (by kernel_rfl) (Blk.into (X := (goK 0 [2, 3] poly1305_number_S1 (fun y => poly1305_number_3 N y.2.1 y.2.2.1))) (NxOk.go hb (poly1305_number_3_b N hb)) (fun x => by kernel_rfl)) (poly1305_number_s2_b N hb) (fun x => by kernel_rfl)
theorem poly1305_number_b {E : Env} (N : Nat) (hb : Base Tryd.prog (poly1305_number_C N) E 0) : Blk Tryd.prog (poly1305_number_C N) E (List.range poly1305_number_S2.ks.length) poly1305_number_S2 (poly1305_number_L.drop 0) (fun y => poly1305_number N y.1.1) (poly1305_number_K N) :=
 Blk.chunkAt hb 3 (X := (goK 0 [2, 3, 7, 8, 9] poly1305_number_S0 (fun y => poly1305_number_1 N y.1.1 y.1.2.1 y.1.2.2.1 y.2.1 y.2.2.1))) (NxOk.go hb (poly1305_number_1_b N hb)) rfl (fun x => by kernel_rfl)
def poly1305_number_ctr (N : Nat) : Ctr := ⟨poly1305_number_S2, poly1305_number_S3.un [true], 0, (fun y => poly1305_number N y.1.1)⟩
theorem poly1305_number_ctrs (N : Nat) : CtrsOk Tryd.prog (poly1305_number_C N) := ctrs_nil G_ifs_ok rfl
theorem poly1305_number_ok (N : Nat) : Ctr.ok Tryd.prog G_globs 200 (poly1305_number_ctr N) :=
 ctr_fn (Γ := poly1305_number_C N) (rfit := poly1305_number_S3) (bs := [true]) (res := [2]) (by kernel_rfl) (tys_ok G_tys_ok) (poly1305_number_ctrs N) Tryd.func200 (by kernel_rfl) (by kernel_rfl) Tryd.ntmps200 (by kernel_rfl) (by kernel_rfl) (by kernel_rfl) (by kernel_rfl) (fun E hb => poly1305_number_b N hb)
/-! (ipsecgate/poly1305.limbs).carry -/
abbrev poly1305_limbs_carry_R : Type := (((List UInt64) × Unit) × (Unit))
def poly1305_limbs_carry_s7 (N : Nat) (c_3 : UInt64) (t_5 : Int) (t_7 : Int) (a_1 : (List UInt64)) (t_2 : (List UInt64)) : Option (Lo ((UInt64 × Int × Int × Unit) × ((List UInt64) × (List UInt64) × Unit)) ((UInt64 × Int × Unit) × ((List UInt64) × (List UInt64) × Unit)) (Lo ((Int × Unit) × ((List UInt64) × (List UInt64) × Unit)) ((Unit) × ((List UInt64) × (List UInt64) × Unit)) poly1305_limbs_carry_R)) :=
 bif (decide (t_7 < (5 : Int))) then
 bif inR t_7 5 then
 bif inR t_7 5 then
 let x5 := (a_1.set t_7.toNat ((a_1.getD t_7.toNat (0 : UInt64)) + c_3))
 bif inR t_7 5 then
 bif inR t_7 5 then
 bif inR t_7 5 then
 some (.go (((shr64 (x5.getD t_7.toNat (0 : UInt64)) 26), t_5, (w64 (t_7 + (1 : Int))), ()), ((x5.set t_7.toNat ((x5.getD t_7.toNat (0 : UInt64)) &&& (67108863 : UInt64))), t_2, ())))
 else none
 else none
 else none
 else none
 else none
 else
 some (.br ((c_3, t_5, ()), (a_1, t_2, ())))
def poly1305_limbs_carry_9 (N : Nat) (t_5 : Int) (a_1 : (List UInt64)) (t_2 : (List UInt64)) : Option (Lo ((Int × Unit) × ((List UInt64) × (List UInt64) × Unit)) ((Unit) × ((List UInt64) × (List UInt64) × Unit)) poly1305_limbs_carry_R) :=
 some (.go (((w64 (t_5 + (1 : Int))), ()), (a_1, t_2, ())))
def poly1305_limbs_carry_8 (N : Nat) (c_3 : UInt64) (t_5 : Int) (a_1 : (List UInt64)) (t_2 : (List UInt64)) : Option (Lo ((Int × Unit) × ((List UInt64) × (List UInt64) × Unit)) ((Unit) × ((List UInt64) × (List UInt64) × Unit)) poly1305_limbs_carry_R) :=
 poly1305_limbs_carry_9 N t_5 (a_1.set 0 ((a_1.getD 0 (0 : UInt64)) + ((5 : UInt64) * c_3))) t_2
def poly1305_limbs_carry_6 (N : Nat) (c_3 : UInt64) (t_5 : Int) (t_7 : Int) (a_1 : (List UInt64)) (t_2 : (List UInt64)) : Option (Lo ((Int × Unit) × ((List UInt64) × (List UInt64) × Unit)) ((Unit) × ((List UInt64) × (List UInt64) × Unit)) poly1305_limbs_carry_R) :=
 loopK N (fun y => poly1305_limbs_carry_s7 N y.1.1 y.1.2.1 y.1.2.2.1 y.2.1 y.2.2.1) (fun (e : ((UInt64 × Int × Unit) × ((List UInt64) × (List UInt64) × Unit))) => poly1305_limbs_carry_8 N e.1.1 e.1.2.1 e.2.1 e.2.2.1) ((c_3, t_5, t_7, ()), (a_1, t_2, ()))
def poly1305_limbs_carry_5 (N : Nat) (t_5 : Int) (a_1 : (List UInt64)) (t_2 : (List UInt64)) : Option (Lo ((Int × Unit) × ((List UInt64) × (List UInt64) × Unit)) ((Unit) × ((List UInt64) × (List UInt64) × Unit)) poly1305_limbs_carry_R) :=
 poly1305_limbs_carry_6 N (0 : UInt64) t_5 (0 : Int) a_1 t_2
def poly1305_limbs_carry_3 (N : Nat) (t_5 : Int) (a_1 : (List UInt64)) (t_2 : (List UInt64)) : Option (Lo ((Int × Unit) × ((List UInt64) × (List UInt64) × Unit)) ((Unit) × ((List UInt64) × (List UInt64) × Unit)) poly1305_limbs_carry_R) :=
 poly1305_limbs_carry_5 N t_5 a_1 t_2
def poly1305_limbs_carry_s2 (N : Nat) (t_5 : Int) (a_1 : (List UInt64)) (t_2 : (List UInt64)) : Option (Lo ((Int × Unit) × ((List UInt64) × (List UInt64) × Unit)) ((Unit) × ((List UInt64) × (List UInt64) × Unit)) poly1305_limbs_carry_R) :=
 bif (decide (t_5 < (2 : Int))) then
 poly1305_limbs_carry_3 N t_5 a_1 t_2
 else
 some (.br ((()), (a_1, t_2, ())))
def poly1305_limbs_carry_10 (N : Nat) (a_1 : (List UInt64)) (t_2 : (List UInt64)) : Option poly1305_limbs_carry_R :=
 some ((a_1, ()), (()))
def poly1305_limbs_carry_1 (N : Nat) (t_5 : Int) (a_1 : (List UInt64)) (t_2 : (List UInt64)) : Option poly1305_limbs_carry_R :=
 loopK N (fun y => poly1305_limbs_carry_s2 N y.1.1 y.2.1 y.2.2.1) (fun (e : ((Unit) × ((List UInt64) × (List UInt64) × Unit))) => poly1305_limbs_carry_10 N e.2.1 e.2.2.1) ((t_5, ()), (a_1, t_2, ()))
def poly1305_limbs_carry (N : Nat) (a_0 : (List UInt64)) : Option poly1305_limbs_carry_R :=
 poly1305_limbs_carry_1 N (0 : Int) a_0 (List.replicate 5 (0 : UInt64))
def poly1305_limbs_carry_C (N : Nat) : Ctx := ⟨34, G_tys, [], G_globs, G_ifs⟩
def poly1305_limbs_carry_S0 : Spec := ⟨[.ref 0 (.arr 5 .u64), .ref 1 (.arr 5 .u64), .val .u64, .val .i64, .val .i64], [(.box 230 (.arr 5 .u64), .pos 0), (.box 230 (.arr 5 .u64), .pos 1)]⟩
def poly1305_limbs_carry_S1 : Spec := ⟨[.ref 0 (.arr 5 .u64), .ref 1 (.arr 5 .u64), .val .i64], [(.box 230 (.arr 5 .u64), .pos 0), (.box 230 (.arr 5 .u64), .pos 1)]⟩
def poly1305_limbs_carry_S2 : Spec := ⟨[.ref 0 (.arr 5 .u64), .ref 1 (.arr 5 .u64), .val .u64, .val .i64], [(.box 230 (.arr 5 .u64), .pos 0), (.box 230 (.arr 5 .u64), .pos 1)]⟩
def poly1305_limbs_carry_S3 : Spec := ⟨[.ref 0 (.arr 5 .u64), .ref 1 (.arr 5 .u64)], [(.box 230 (.arr 5 .u64), .pos 0), (.box 230 (.arr 5 .u64), .pos 1)]⟩
def poly1305_limbs_carry_S4 : Spec := ⟨[.val (.arr 5 .u64)], []⟩
def poly1305_limbs_carry_S5 : Spec := ⟨[.fp (.arr 5 .u64)], []⟩
def poly1305_limbs_carry_K (_N : Nat) : XE → GS → Option poly1305_limbs_carry_R := retK 0 [2] [true] poly1305_limbs_carry_S5
def poly1305_limbs_carry_L : List Code := (bodyOf (some Tryd.f223))
def poly1305_limbs_carry_L2 : List Code := (loopOf (poly1305_limbs_carry_L[2]?))
def poly1305_limbs_carry_L4b : List Code := (blockOf (poly1305_limbs_carry_L2[2]?))
def poly1305_limbs_carry_L7 : List Code := (loopOf (poly1305_limbs_carry_L4b[2]?))
def poly1305_limbs_carry_K2 (N : Nat) : XE → GS → Option (Lo ((Int × Unit) × ((List UInt64) × (List UInt64) × Unit)) ((Unit) × ((List UInt64) × (List UInt64) × Unit)) poly1305_limbs_carry_R) := roundK (some 0) (fit 0 [1, 2, 5] poly1305_limbs_carry_S1) (fit 0 [1, 2] poly1305_limbs_carry_S3) (poly1305_limbs_carry_K N)
def poly1305_limbs_carry_K4 (N : Nat) : XE → GS → Option (Lo ((Int × Unit) × ((List UInt64) × (List UInt64) × Unit)) ((Unit) × ((List UInt64) × (List UInt64) × Unit)) poly1305_limbs_carry_R) := blockK 1 (goK 0 [1, 2, 5] poly1305_limbs_carry_S1 (fun y => poly1305_limbs_carry_9 N y.1.1 y.2.1 y.2.2.1)) (poly1305_limbs_carry_K2 N)
def poly1305_limbs_carry_K7 (N : Nat) : XE → GS → Option (Lo ((UInt64 × Int × Int × Unit) × ((List UInt64) × (List UInt64) × Unit)) ((UInt64 × Int × Unit) × ((List UInt64) × (List UInt64) × Unit)) (Lo ((Int × Unit) × ((List UInt64) × (List UInt64) × Unit)) ((Unit) × ((List UInt64) × (List UInt64) × Unit)) poly1305_limbs_carry_R)) := roundK (some 2) (fit 0 [1, 2, 3, 5, 7] poly1305_limbs_carry_S0) (fit 0 [1, 2, 3, 5] poly1305_limbs_carry_S2) (poly1305_limbs_carry_K4 N)
theorem poly1305_limbs_carry_s7_b {E : Env} (N : Nat) (hb : Base Tryd.prog (poly1305_limbs_carry_C N) E 0) : Blk Tryd.prog (poly1305_limbs_carry_C N) E [1, 2, 3, 5, 7] poly1305_limbs_carry_S0 (poly1305_limbs_carry_L7.drop 0) (fun y => poly1305_limbs_carry_s7 N y.1.1 y.1.2.1 y.1.2.2.1 y.2.1 y.2.2.1) (poly1305_limbs_carry_K7 N) :=
 Blk.chunkAt hb 4 (X := (poly1305_limbs_carry_K7 N .normal)) (NxOk.end (by kernel_rfl)) rfl (fun x => by kernel_rfl)
theorem poly1305_limbs_carry_9_b {E : Env} (N : Nat) (hb : Base Tryd.prog (poly1305_limbs_carry_C N) E 0) : Blk Tryd.prog (poly1305_limbs_carry_C N) E [1, 2, 5] poly1305_limbs_carry_S1 (poly1305_limbs_carry_L2.drop 3) (fun y => poly1305_limbs_carry_9 N y.1.1 y.2.1 y.2.2.1) (poly1305_limbs_carry_K2 N) :=
 Blk.chunkAt hb 1 (X := (poly1305_limbs_carry_K2 N .normal)) (NxOk.end (by kernel_rfl)) rfl (fun x => by kernel_rfl)
theorem poly1305_limbs_carry_8_b {E : Env} (N : Nat) (hb : Base Tryd.prog (poly1305_limbs_carry_C N) E 0) : Blk Tryd.prog (poly1305_limbs_carry_C N) E [1, 2, 3, 5] poly1305_limbs_carry_S2 (poly1305_limbs_carry_L4b.drop 3) (fun y => poly1305_limbs_carry_8 N y.1.1 y.1.2.1 y.2.1 y.2.2.1) (poly1305_limbs_carry_K4 N) :=
 Blk.chunkAt hb 1 (X := (poly1305_limbs_carry_K4 N .normal)) (NxOk.end (by kernel_rfl)) rfl (fun x => by kernel_rfl)
theorem poly1305_limbs_carry_6_b {E : Env} (N : Nat) (hb : Base Tryd.prog (poly1305_limbs_carry_C N) E 0) : Blk Tryd.prog (poly1305_limbs_carry_C N) E [1, 2, 3, 5, 7] poly1305_limbs_carry_S0 (poly1305_limbs_carry_L4b.drop 2) (fun y => poly1305_limbs_carry_6 N y.1.1 y.1.2.1 y.1.2.2.1 y.2.1 y.2.2.1) (poly1305_limbs_carry_K4 N) :=
 Blk.loopAt (Nf := N) (hns := [1, 2, 3, 5, 7]) (ans := [1, 2, 3, 5]) (hc := poly1305_limbs_carry_S0) (ac := poly1305_limbs_carry_S2) (bid := 2) (step := (fun y => poly1305_limbs_carry_s7 N y.1.1 y.1.2.1 y.1.2.2.1 y.2.1 y.2.2.1)) (J := (fun e => (goK 0 [1, 2, 3, 5] poly1305_limbs_carry_S2 (fun y => poly1305_limbs_carry_8 N y.1.1 y.1.2.1 y.2.1 y.2.2.1)) (poly1305_limbs_carry_S2.st [1, 2, 3, 5] e))) hb (by kernel_rfl) (Blk.into (X := (goK 0 [1, 2, 3, 5] poly1305_limbs_carry_S2 (fun y => poly1305_limbs_carry_8 N y.1.1 y.1.2.1 y.2.1 y.2.2.1))) (NxOk.go hb (poly1305_limbs_carry_8_b N hb)) (fun x => by kernel_rfl)) (poly1305_limbs_carry_s7_b N hb) (fun x => by kernel_rfl)
theorem poly1305_limbs_carry_5_b {E : Env} (N : Nat) (hb : Base Tryd.prog (poly1305_limbs_carry_C N) E 0) : Blk Tryd.prog (poly1305_limbs_carry_C N) E [1, 2, 5] poly1305_limbs_carry_S1 (poly1305_limbs_carry_L4b.drop 0) (fun y => poly1305_limbs_carry_5 N y.1.1 y.2.1 y.2.2.1) (poly1305_limbs_carry_K4 N) :=
 Blk.chunkAt hb 2 (X := (goK 0 [1, 2, 3, 5, 7] poly1305_limbs_carry_S0 (fun y => poly1305_limbs_carry_6 N y.1.1 y.1.2.1 y.1.2.2.1 y.2.1 y.2.2.1))) (NxOk.go hb (poly1305_limbs_carry_6_b N hb)) rfl (fun x => by kernel_rfl)
theorem poly1305_limbs_carry_3_b {E : Env} (N : Nat) (hb : Base Tryd.prog (poly1305_limbs_carry_C N) E 0) : Blk Tryd.prog (poly1305_limbs_carry_C N) E [1, 2, 5] poly1305_limbs_carry_S1 (poly1305_limbs_carry_L2.drop 2) (fun y => poly1305_limbs_carry_3 N y.1.1 y.2.1 y.2.2.1) (poly1305_limbs_carry_K2 N) :=
 Blk.blockAt (bid := 1) (X := (goK 0 [1, 2, 5] poly1305_limbs_carry_S1 (fun y => poly1305_limbs_carry_9 N y.1.1 y.2.1 y.2.2.1))) (Y := (goK 0 [1, 2, 5] poly1305_limbs_carry_S1 (fun y => poly1305_limbs_carry_5 N y.1.1 y.2.1 y.2.2.1))) (by kernel_rfl) (NxOk.go hb (poly1305_limbs_carry_9_b N hb)) (NxOk.go hb (poly1305_limbs_carry_5_b N hb)) (fun x => by kernel_rfl)
theorem poly1305_limbs_carry_s2_b {E : Env} (N : Nat) (hb : Base Tryd.prog (poly1305_limbs_carry_C N) E 0) : Blk Tryd.prog (poly1305_limbs_carry_C N) E [1, 2, 5] poly1305_limbs_carry_S1 (poly1305_limbs_carry_L2.drop 0) (fun y => poly1305_limbs_carry_s2 N y.1.1 y.2.1 y.2.2.1) (poly1305_limbs_carry_K2 N) :=
 Blk.chunkAt hb 2 (X := (goK 0 [1, 2, 5] poly1305_limbs_carry_S1 (fun y => poly1305_limbs_carry_3 N y.1.1 y.2.1 y.2.2.1))) (NxOk.go hb (poly1305_limbs_carry_3_b N hb)) rfl (fun x => by kernel_rfl)
theorem poly1305_limbs_carry_10_b {E : Env} (N : Nat) (hb : Base Tryd.prog (poly1305_limbs_carry_C N) E 0) : Blk Tryd.prog (poly1305_limbs_carry_C N) E [1, 2] poly1305_limbs_carry_S3 (poly1305_limbs_carry_L.drop 3) (fun y => poly1305_limbs_carry_10 N y.2.1 y.2.2.1) (poly1305_limbs_carry_K N) :=
 Blk.chunkAt hb 2 (X := (poly1305_limbs_carry_K N .normal)) (NxOk.end (by kernel_rfl)) rfl (fun x => by kernel_rfl)
theorem poly1305_limbs_carry_1_b {E : Env} (N : Nat) (hb : Base Tryd.prog (poly1305_limbs_carry_C N) E 0) : Blk Tryd.prog (poly1305_limbs_carry_C N) E [1, 2, 5] poly1305_limbs_carry_S1 (poly1305_limbs_carry_L.drop 2) (fun y => poly1305_limbs_carry_1 N y.1.1 y.2.1 y.2.2.1) (poly1305_limbs_carry_K N) :=
 Blk.loopAt (Nf := N) (hns := [1, 2, 5]) (ans := [1, 2]) (hc := poly1305_limbs_carry_S1) (ac := poly1305_limbs_carry_S3) (bid := 0) (step := (fun y => poly1305_limbs_carry_s2 N y.1.1 y.2.1 y.2.2.1)) (J := (fun e => (goK 0 [1, 2] poly1305_limbs_carry_S3 (fun y => poly1305_limbs_carry_10 N y.2.1 y.2.2.1)) (poly1305_limbs_carry_S3.st [1, 2] e))) hb (by kernel_rfl) (Blk.into (X := (goK 0 [1, 2] poly1305_limbs_carry_S3 (fun y => poly1305_limbs_carry_10 N y.2.1 y.2.2.1))) (NxOk.go hb (poly1305_limbs_carry_10_b N hb)) (fun x => by kernel_rfl)) (poly1305_limbs_carry_s2_b N hb) (fun x => by kernel_rfl)
theorem poly1305_limbs_carry_b {E : Env} (N : Nat) (hb : Base Tryd.prog (poly1305_limbs_carry_C N) E 0) : Blk Tryd.prog (poly1305_limbs_carry_C N) E (List.range poly1305_limbs_carry_S4.ks.length) poly1305_limbs_carry_S4 (poly1305_limbs_carry_L.drop 0) (fun y => poly1305_limbs_carry N y.1.1) (poly1305_limbs_carry_K N) :=
 Blk.chunkAt hb 2 (X := (goK 0 [1, 2, 5] poly1305_limbs_carry_S1 (fun y => poly1305_limbs_carry_1 N y.1.1 y.2.1 y.2.2.1))) (NxOk.go hb (poly1305_limbs_carry_1_b N hb)) rfl (fun x => by kernel_rfl)
def poly1305_limbs_carry_ctr (N : Nat) : Ctr := ⟨poly1305_limbs_carry_S4, poly1305_limbs_carry_S5.un [true], 0, (fun y => poly1305_limbs_carry N y.1.1)⟩
theorem poly1305_limbs_carry_ctrs (N : Nat) : CtrsOk Tryd.prog (poly1305_limbs_carry_C N) := ctrs_nil G_ifs_ok rfl
theorem poly1305_limbs_carry_ok (N : Nat) : Ctr.ok Tryd.prog G_globs 223 (poly1305_limbs_carry_ctr N) :=
 ctr_fn (Γ := poly1305_limbs_carry_C N) (rfit := poly1305_limbs_carry_S5) (bs := [true]) (res := [2]) (by kernel_rfl) (tys_ok G_tys_ok) (poly1305_limbs_carry_ctrs N) Tryd.func223 (by kernel_rfl) (by kernel_rfl) Tryd.ntmps223 (by kernel_rfl) (by kernel_rfl) (by kernel_rfl) (by kernel_rfl) (fun E hb => poly1305_limbs_carry_b N hb)
/-! (ipsecgate/poly1305.limbs).add -/
abbrev poly1305_limbs_add_R : Type := (((List UInt64) × Unit) × (Unit))
def poly1305_limbs_add_s2 (N : Nat) (t_6 : Int) (a_2 : (List UInt64)) (b_3 : (List UInt64)) (t_4 : (List UInt64)) : Option (Lo ((Int × Unit) × ((List UInt64) × (List UInt64) × (List UInt64) × Unit)) ((Unit) × ((List UInt64) × (List UInt64) × Unit)) poly1305_limbs_add_R) :=
 bif (decide (t_6 < (5 : Int))) then
 bif inR t_6 5 then
 bif inR t_6 5 then
 bif inR t_6 5 then
 some (.go (((w64 (t_6 + (1 : Int))), ()), ((a_2.set t_6.toNat ((a_2.getD t_6.toNat (0 : UInt64)) + (b_3.getD t_6.toNat (0 : UInt64)))), b_3, t_4, ())))
 else none
 else none
 else none
 else
 some (.br ((()), (a_2, t_4, ())))
def poly1305_limbs_add_3 (N : Nat) (a_2 : (List UInt64)) (t_4 : (List UInt64)) : Option poly1305_limbs_add_R :=
 Option.bind (poly1305_limbs_carry N a_2) fun y7 =>
 some ((y7.1.1, ()), (()))
def poly1305_limbs_add_1 (N : Nat) (t_6 : Int) (a_2 : (List UInt64)) (b_3 : (List UInt64)) (t_4 : (List UInt64)) : Option poly1305_limbs_add_R :=
 loopK N (fun y => poly1305_limbs_add_s2 N y.1.1 y.2.1 y.2.2.1 y.2.2.2.1) (fun (e : ((Unit) × ((List UInt64) × (List UInt64) × Unit))) => poly1305_limbs_add_3 N e.2.1 e.2.2.1) ((t_6, ()), (a_2, b_3, t_4, ()))
def poly1305_limbs_add (N : Nat) (a_0 : (List UInt64)) (b_1 : (List UInt64)) : Option poly1305_limbs_add_R :=
 poly1305_limbs_add_1 N (0 : Int) a_0 b_1 (List.replicate 5 (0 : UInt64))
def poly1305_limbs_add_C (N : Nat) : Ctx := ⟨20, G_tys, [(223, poly1305_limbs_carry_ctr N)], G_globs, G_ifs⟩
def poly1305_limbs_add_S0 : Spec := ⟨[.ref 0 (.arr 5 .u64), .ref 1 (.arr 5 .u64), .ref 2 (.arr 5 .u64), .val .i64], [(.box 230 (.arr 5 .u64), .pos 0), (.box 230 (.arr 5 .u64), .pos 1), (.box 230 (.arr 5 .u64), .pos 2)]⟩
def poly1305_limbs_add_S1 : Spec := ⟨[.ref 0 (.arr 5 .u64), .ref 1 (.arr 5 .u64)], [(.box 230 (.arr 5 .u64), .pos 0), (.box 230 (.arr 5 .u64), .pos 1)]⟩
def poly1305_limbs_add_S2 : Spec := ⟨[.val (.arr 5 .u64), .val (.arr 5 .u64)], []⟩
def poly1305_limbs_add_S3 : Spec := ⟨[.fp (.arr 5 .u64)], []⟩
def poly1305_limbs_add_K (_N : Nat) : XE → GS → Option poly1305_limbs_add_R := retK 0 [4] [true] poly1305_limbs_add_S3
def poly1305_limbs_add_L : List Code := (bodyOf (some Tryd.f202))
def poly1305_limbs_add_L2 : List Code := (loopOf (poly1305_limbs_add_L[2]?))
def poly1305_limbs_add_K2 (N : Nat) : XE → GS → Option (Lo ((Int × Unit) × ((List UInt64) × (List UInt64) × (List UInt64) × Unit)) ((Unit) × ((List UInt64) × (List UInt64) × Unit)) poly1305_limbs_add_R) := roundK (some 0) (fit 0 [2, 3, 4, 6] poly1305_limbs_add_S0) (fit 0 [2, 4] poly1305_limbs_add_S1) (poly1305_limbs_add_K N)
theorem poly1305_limbs_add_s2_b {E : Env} (N : Nat) (hb : Base Tryd.prog (poly1305_limbs_add_C N) E 0) : Blk Tryd.prog (poly1305_limbs_add_C N) E [2, 3, 4, 6] poly1305_limbs_add_S0 (poly1305_limbs_add_L2.drop 0) (fun y => poly1305_limbs_add_s2 N y.1.1 y.2.1 y.2.2.1 y.2.2.2.1) (poly1305_limbs_add_K2 N) :=
 Blk.chunkAt hb 4 (X := (poly1305_limbs_add_K2 N .normal)) (NxOk.end (by kernel_rfl)) rfl (fun x => by kernel_rfl)
theorem poly1305_limbs_add_3_b {E : Env} (N : Nat) (hb : Base Tryd.prog (poly1305_limbs_add_C N) E 0) : Blk Tryd.prog (poly1305_limbs_add_C N) E [2, 4] poly1305_limbs_add_S1 (poly1305_limbs_add_L.drop 3) (fun y => poly1305_limbs_add_3 N y.2.1 y.2.2.1) (poly1305_limbs_add_K N) :=
 Blk.chunkAt hb 2 (X := (poly1305_limbs_add_K N .normal)) (NxOk.end (by kernel_rfl)) rfl (fun x => by kernel_rfl)
theorem poly1305_limbs_add_1_b {E : Env} (N : Nat) (hb : Base Tryd.prog (poly1305_limbs_add_C N) E 0) : Blk Tryd.prog (poly1305_limbs_add_C N) E [2, 3, 4, 6] poly1305_limbs_add_S0 (poly1305_limbs_add_L.drop 2) (fun y => poly1305_limbs_add_1 N y.1.1 y.2.1 y.2.2.1 y.2.2.2.1) (poly1305_limbs_add_K N) :=
 Blk.loopAt (Nf := N) (hns := [2, 3, 4, 6]) (ans := [2, 4]) (hc := poly1305_limbs_add_S0) (ac := poly1305_limbs_add_S1) (bid := 0) (step := (fun y => poly1305_limbs_add_s2 N y.1.1 y.2.1 y.2.2.1 y.2.2.2.1)) (J := (fun e => (goK 0 [2, 4] poly1305_limbs_add_S1 (fun y => poly1305_limbs_add_3 N y.2.1 y.2.2.1)) (poly1305_limbs_add_S1.st [2, 4] e))) hb (by kernel_rfl) (Blk.into (X := (goK 0 [2, 4] poly1305_limbs_add_S1 (fun y => poly1305_limbs_add_3 N y.2.1 y.2.2.1))) (NxOk.go hb (poly1305_limbs_add_3_b N hb)) (fun x => by kernel_rfl)) (poly1305_limbs_add_s2_b N hb) (fun x => by kernel_rfl)
theorem poly1305_limbs_add_b {E : Env} (N : Nat) (hb : Base Tryd.prog (poly1305_limbs_add_C N) E 0) : Blk Tryd.prog (poly1305_limbs_add_C N) E (List.range poly1305_limbs_add_S2.ks.length) poly1305_limbs_add_S2 (poly1305_limbs_add_L.drop 0) (fun y => poly1305_limbs_add N y.1.1 y.1.2.1) (poly1305_limbs_add_K N) :=
 Blk.chunkAt hb 2 (X := (goK 0 [2, 3, 4, 6] poly1305_limbs_add_S0 (fun y => poly1305_limbs_add_1 N y.1.1 y.2.1 y.2.2.1 y.2.2.2.1))) (NxOk.go hb (poly1305_limbs_add_1_b N hb)) rfl (fun x => by kernel_rfl)
def poly1305_limbs_add_ctr (N : Nat) : Ctr := ⟨poly1305_limbs_add_S2, poly1305_limbs_add_S3.un [true], 0, (fun y => poly1305_limbs_add N y.1.1 y.1.2.1)⟩
theorem poly1305_limbs_add_ctrs (N : Nat) : CtrsOk Tryd.prog (poly1305_limbs_add_C N) := ctrs_of (Γ := poly1305_limbs_add_C N) G_ifs_ok (by
 intro p hp
 simp only [poly1305_limbs_add_C, List.mem_cons, List.not_mem_nil, or_false] at hp
 rcases hp with rfl
 · exact poly1305_limbs_carry_ok N)
theorem poly1305_limbs_add_ok (N : Nat) : Ctr.ok Tryd.prog G_globs 202 (poly1305_limbs_add_ctr N) :=
 ctr_fn (Γ := poly1305_limbs_add_C N) (rfit := poly1305_limbs_add_S3) (bs := [true]) (res := [4]) (by kernel_rfl) (tys_ok G_tys_ok) (poly1305_limbs_add_ctrs N) Tryd.func202 (by kernel_rfl) (by kernel_rfl) Tryd.ntmps202 (by kernel_rfl) (by kernel_rfl) (by kernel_rfl) (by kernel_rfl) (fun E hb => poly1305_limbs_add_b N hb)
/-! (ipsecgate/poly1305.limbs).mul -/
abbrev poly1305_limbs_mul_R : Type := (((List UInt64) × Unit) × (Unit))
def poly1305_limbs_mul_s7 (N : Nat) (i_6 : Int) (t_9 : Int) (t_12 : Int) (a_2 : (List UInt64)) (b_3 : (List UInt64)) (t_4 : (List UInt64)) (out_5 : (List UInt64)) : Option (Lo ((Int × Int × Int × Unit) × ((List UInt64) × (List UInt64) × (List UInt64) × (List UInt64) × Unit)) ((Int × Unit) × ((List UInt64) × (List UInt64) × (List UInt64) × (List UInt64) × Unit)) (Lo ((Int × Unit) × ((List UInt64) × (List UInt64) × (List UInt64) × (List UInt64) × Unit)) ((Unit) × ((List UInt64) × (List UInt64) × Unit)) poly1305_limbs_mul_R)) :=
 bif (decide (t_12 < (5 : Int))) then
 bif inR i_6 5 then
 let x3 := (a_2.getD i_6.toNat (0 : UInt64))
 bif inR t_12 5 then
 let x4 := (b_3.getD t_12.toNat (0 : UInt64))
 bif (decide ((5 : Int) ≤ (w64 (i_6 + t_12)))) then
 let x10 := (w64 (i_6 + t_12)).tmod (5 : Int)
 bif inR x10 5 then
 bif inR x10 5 then
 some (.go ((i_6, t_9, (w64 (t_12 + (1 : Int))), ()), (a_2, b_3, t_4, (out_5.set x10.toNat ((out_5.getD x10.toNat (0 : UInt64)) + ((x3 * x4) * (5 : UInt64)))), ())))
 else none
 else none
 else
 let x16 := (w64 (i_6 + t_12)).tmod (5 : Int)
 bif inR x16 5 then
 bif inR x16 5 then
 some (.go ((i_6, t_9, (w64 (t_12 + (1 : Int))), ()), (a_2, b_3, t_4, (out_5.set x16.toNat ((out_5.getD x16.toNat (0 : UInt64)) + (x3 * x4))), ())))
 else none
 else none
 else none
 else none
 else
 some (.br ((t_9, ()), (a_2, b_3, t_4, out_5, ())))
def poly1305_limbs_mul_8 (N : Nat) (t_9 : Int) (a_2 : (List UInt64)) (b_3 : (List UInt64)) (t_4 : (List UInt64)) (out_5 : (List UInt64)) : Option (Lo ((Int × Unit) × ((List UInt64) × (List UInt64) × (List UInt64) × (List UInt64) × Unit)) ((Unit) × ((List UInt64) × (List UInt64) × Unit)) poly1305_limbs_mul_R) :=
 some (.go (((w64 (t_9 + (1 : Int))), ()), (a_2, b_3, t_4, out_5, ())))
def poly1305_limbs_mul_6 (N : Nat) (i_6 : Int) (t_9 : Int) (t_12 : Int) (a_2 : (List UInt64)) (b_3 : (List UInt64)) (t_4 : (List UInt64)) (out_5 : (List UInt64)) : Option (Lo ((Int × Unit) × ((List UInt64) × (List UInt64) × (List UInt64) × (List UInt64) × Unit)) ((Unit) × ((List UInt64) × (List UInt64) × Unit)) poly1305_limbs_mul_R) :=
 loopK N (fun y => poly1305_limbs_mul_s7 N y.1.1 y.1.2.1 y.1.2.2.1 y.2.1 y.2.2.1 y.2.2.2.1 y.2.2.2.2.1) (fun (e : ((Int × Unit) × ((List UInt64) × (List UInt64) × (List UInt64) × (List UInt64) × Unit))) => poly1305_limbs_mul_8 N e.1.1 e.2.1 e.2.2.1 e.2.2.2.1 e.2.2.2.2.1) ((i_6, t_9, t_12, ()), (a_2, b_3, t_4, out_5, ()))
def poly1305_limbs_mul_5 (N : Nat) (t_9 : Int) (a_2 : (List UInt64)) (b_3 : (List UInt64)) (t_4 : (List UInt64)) (out_5 : (List UInt64)) : Option (Lo ((Int × Unit) × ((List UInt64) × (List UInt64) × (List UInt64) × (List UInt64) × Unit)) ((Unit) × ((List UInt64) × (List UInt64) × Unit)) poly1305_limbs_mul_R) :=
 poly1305_limbs_mul_6 N t_9 t_9 (0 : Int) a_2 b_3 t_4 out_5
def poly1305_limbs_mul_3 (N : Nat) (t_9 : Int) (a_2 : (List UInt64)) (b_3 : (List UInt64)) (t_4 : (List UInt64)) (out_5 : (List UInt64)) : Option (Lo ((Int × Unit) × ((List UInt64) × (List UInt64) × (List UInt64) × (List UInt64) × Unit)) ((Unit) × ((List UInt64) × (List UInt64) × Unit)) poly1305_limbs_mul_R) :=
 poly1305_limbs_mul_5 N t_9 a_2 b_3 t_4 out_5
def poly1305_limbs_mul_s2 (N : Nat) (t_9 : Int) (a_2 : (List UInt64)) (b_3 : (List UInt64)) (t_4 : (List UInt64)) (out_5 : (List UInt64)) : Option (Lo ((Int × Unit) × ((List UInt64) × (List UInt64) × (List UInt64) × (List UInt64) × Unit)) ((Unit) × ((List UInt64) × (List UInt64) × Unit)) poly1305_limbs_mul_R) :=
 bif (decide (t_9 < (5 : Int))) then
 poly1305_limbs_mul_3 N t_9 a_2 b_3 t_4 out_5
 else
 some (.br ((()), (t_4, out_5, ())))
def poly1305_limbs_mul_9 (N : Nat) (t_4 : (List UInt64)) (out_5 : (List UInt64)) : Option poly1305_limbs_mul_R :=
 Option.bind (poly1305_limbs_carry N out_5) fun y22 =>
 some ((y22.1.1, ()), (()))
def poly1305_limbs_mul_1 (N : Nat) (t_9 : Int) (a_2 : (List UInt64)) (b_3 : (List UInt64)) (t_4 : (List UInt64)) (out_5 : (List UInt64)) : Option poly1305_limbs_mul_R :=
 loopK N (fun y => poly1305_limbs_mul_s2 N y.1.1 y.2.1 y.2.2.1 y.2.2.2.1 y.2.2.2.2.1) (fun (e : ((Unit) × ((List UInt64) × (List UInt64) × Unit))) => poly1305_limbs_mul_9 N e.2.1 e.2.2.1) ((t_9, ()), (a_2, b_3, t_4, out_5, ()))
def poly1305_limbs_mul (N : Nat) (a_0 : (List UInt64)) (b_1 : (List UInt64)) : Option poly1305_limbs_mul_R :=
 poly1305_limbs_mul_1 N (0 : Int) a_0 b_1 (List.replicate 5 (0 : UInt64)) (List.replicate 5 (0 : UInt64))
def poly1305_limbs_mul_C (N : Nat) : Ctx := ⟨41, G_tys, [(223, poly1305_limbs_carry_ctr N)], G_globs, G_ifs⟩
def poly1305_limbs_mul_S0 : Spec := ⟨[.ref 0 (.arr 5 .u64), .ref 1 (.arr 5 .u64), .ref 2 (.arr 5 .u64), .ref 3 (.arr 5 .u64), .val .i64, .val .i64, .val .i64], [(.box 230 (.arr 5 .u64), .pos 0), (.box 230 (.arr 5 .u64), .pos 1), (.box 230 (.arr 5 .u64), .pos 2), (.box 230 (.arr 5 .u64), .pos 3)]⟩
def poly1305_limbs_mul_S1 : Spec := ⟨[.ref 0 (.arr 5 .u64), .ref 1 (.arr 5 .u64), .ref 2 (.arr 5 .u64), .ref 3 (.arr 5 .u64), .val .i64], [(.box 230 (.arr 5 .u64), .pos 0), (.box 230 (.arr 5 .u64), .pos 1), (.box 230 (.arr 5 .u64), .pos 2), (.box 230 (.arr 5 .u64), .pos 3)]⟩
def poly1305_limbs_mul_S2 : Spec := ⟨[.ref 0 (.arr 5 .u64), .ref 1 (.arr 5 .u64)], [(.box 230 (.arr 5 .u64), .pos 0), (.box 230 (.arr 5 .u64), .pos 1)]⟩
def poly1305_limbs_mul_S3 : Spec := ⟨[.val (.arr 5 .u64), .val (.arr 5 .u64)], []⟩
def poly1305_limbs_mul_S4 : Spec := ⟨[.fp (.arr 5 .u64)], []⟩
def poly1305_limbs_mul_K (_N : Nat) : XE → GS → Option poly1305_limbs_mul_R := retK 0 [4] [true] poly1305_limbs_mul_S4
def poly1305_limbs_mul_L : List Code := (bodyOf (some Tryd.f203))
def poly1305_limbs_mul_L2 : List Code := (loopOf (poly1305_limbs_mul_L[3]?))
def poly1305_limbs_mul_L4b : List Code := (blockOf (poly1305_limbs_mul_L2[2]?))
def poly1305_limbs_mul_L7 : List Code := (loopOf (poly1305_limbs_mul_L4b[2]?))
def poly1305_limbs_mul_K2 (N : Nat) : XE → GS → Option (Lo ((Int × Unit) × ((List UInt64) × (List UInt64) × (List UInt64) × (List UInt64) × Unit)) ((Unit) × ((List UInt64) × (List UInt64) × Unit)) poly1305_limbs_mul_R) := roundK (some 0) (fit 0 [2, 3, 4, 5, 9] poly1305_limbs_mul_S1) (fit 0 [4, 5] poly1305_limbs_mul_S2) (poly1305_limbs_mul_K N)
def poly1305_limbs_mul_K4 (N : Nat) : XE → GS → Option (Lo ((Int × Unit) × ((List UInt64) × (List UInt64) × (List UInt64) × (List UInt64) × Unit)) ((Unit) × ((List UInt64) × (List UInt64) × Unit)) poly1305_limbs_mul_R) := blockK 1 (goK 0 [2, 3, 4, 5, 9] poly1305_limbs_mul_S1 (fun y => poly1305_limbs_mul_8 N y.1.1 y.2.1 y.2.2.1 y.2.2.2.1 y.2.2.2.2.1)) (poly1305_limbs_mul_K2 N)
def poly1305_limbs_mul_K7 (N : Nat) : XE → GS → Option (Lo ((Int × Int × Int × Unit) × ((List UInt64) × (List UInt64) × (List UInt64) × (List UInt64) × Unit)) ((Int × Unit) × ((List UInt64) × (List UInt64) × (List UInt64) × (List UInt64) × Unit)) (Lo ((Int × Unit) × ((List UInt64) × (List UInt64) × (List UInt64) × (List UInt64) × Unit)) ((Unit) × ((List UInt64) × (List UInt64) × Unit)) poly1305_limbs_mul_R)) := roundK (some 2) (fit 0 [2, 3, 4, 5, 6, 9, 12] poly1305_limbs_mul_S0) (fit 0 [2, 3, 4, 5, 9] poly1305_limbs_mul_S1) (poly1305_limbs_mul_K4 N)
theorem poly1305_limbs_mul_s7_b {E : Env} (N : Nat) (hb : Base Tryd.prog (poly1305_limbs_mul_C N) E 0) : Blk Tryd.prog (poly1305_limbs_mul_C N) E [2, 3, 4, 5, 6, 9, 12] poly1305_limbs_mul_S0 (poly1305_limbs_mul_L7.drop 0) (fun y => poly1305_limbs_mul_s7 N y.1.1 y.1.2.1 y.1.2.2.1 y.2.1 y.2.2.1 y.2.2.2.1 y.2.2.2.2.1) (poly1305_limbs_mul_K7 N) :=
 Blk.chunkAt hb 4 (X := (poly1305_limbs_mul_K7 N .normal)) (NxOk.end (by kernel_rfl)) rfl (fun x => by kernel_rfl)
theorem poly1305_limbs_mul_8_b {E : Env} (N : Nat) (hb : Base Tryd.prog (poly1305_limbs_mul_C N) E 0) : Blk Tryd.prog (poly1305_limbs_mul_C N) E [2, 3, 4, 5, 9] poly1305_limbs_mul_S1 (poly1305_limbs_mul_L2.drop 3) (fun y => poly1305_limbs_mul_8 N y.1.1 y.2.1 y.2.2.1 y.2.2.2.1 y.2.2.2.2.1) (poly1305_limbs_mul_K2 N) :=
 Blk.chunkAt hb 1 (X := (poly1305_limbs_mul_K2 N .normal)) (NxOk.end (by kernel_rfl)) rfl (fun x => by kernel_rfl)
theorem poly1305_limbs_mul_6_b {E : Env} (N : Nat) (hb : Base Tryd.prog (poly1305_limbs_mul_C N) E 0) : Blk Tryd.prog (poly1305_limbs_mul_C N) E [2, 3, 4, 5, 6, 9, 12] poly1305_limbs_mul_S0 (poly1305_limbs_mul_L4b.drop 2) (fun y => poly1305_limbs_mul_6 N y.1.1 y.1.2.1 y.1.2.2.1 y.2.1 y.2.2.1 y.2.2.2.1 y.2.2.2.2.1) (poly1305_limbs_mul_K4 N) :=
 Blk.loopAt (Nf := N) (hns := [2, 3, 4, 5, 6, 9, 12]) (ans := [2, 3, 4, 5, 9]) (hc := poly1305_limbs_mul_S0) (ac := poly1305_limbs_mul_S1) (bid := 2) (step := (fun y => poly1305_limbs_mul_s7 N y.1.1 y.1.2.1 y.1.2.2.1 y.2.1 y.2.2.1 y.2.2.2.1 y.2.2.2.2.1)) (J := (fun e => (poly1305_limbs_mul_K4 N .normal) (poly1305_limbs_mul_S1.st [2, 3, 4, 5, 9] e))) hb (by kernel_rfl) (Blk.into (X := (poly1305_limbs_mul_K4 N .normal)) (NxOk.end (by kernel_rfl)) (fun x => by kernel_rfl)) (poly1305_limbs_mul_s7_b N hb) (fun x => by kernel_rfl)
theorem poly1305_limbs_mul_5_b {E : Env} (N : Nat) (hb : Base Tryd.prog (poly1305_limbs_mul_C N) E 0) : Blk Tryd.prog (poly1305_limbs_mul_C N) E [2, 3, 4, 5, 9] poly1305_limbs_mul_S1 (poly1305_limbs_mul_L4b.drop 0) (fun y => poly1305_limbs_mul_5 N y.1.1 y.2.1 y.2.2.1 y.2.2.2.1 y.2.2.2.2.1) (poly1305_limbs_mul_K4 N) :=
 Blk.chunkAt hb 2 (X := (goK 0 [2, 3, 4, 5, 6, 9, 12] poly1305_limbs_mul_S0 (fun y => poly1305_limbs_mul_6 N y.1.1 y.1.2.1 y.1.2.2.1 y.2.1 y.2.2.1 y.2.2.2.1 y.2.2.2.2.1))) (NxOk.go hb (poly1305_limbs_mul_6_b N hb)) rfl (fun x => by kernel_rfl)
theorem poly1305_limbs_mul_3_b {E : Env} (N : Nat) (hb : Base Tryd.prog (poly1305_limbs_mul_C N) E 0) : Blk Tryd.prog (poly1305_limbs_mul_C N) E [2, 3, 4, 5, 9] poly1305_limbs_mul_S1 (poly1305_limbs_mul_L2.drop 2) (fun y => poly1305_limbs_mul_3 N y.1.1 y.2.1 y.2.2.1 y.2.2.2.1 y.2.2.2.2.1) (poly1305_limbs_mul_K2 N) :=
 Blk.blockAt (bid := 1) (X := (goK 0 [2, 3, 4, 5, 9] poly1305_limbs_mul_S1 (fun y => poly1305_limbs_mul_8 N y.1.1 y.2.1 y.2.2.1 y.2.2.2.1 y.2.2.2.2.1))) (Y := (goK 0 [2, 3, 4, 5, 9] poly1305_limbs_mul_S1 (fun y => poly1305_limbs_mul_5 N y.1.1 y.2.1 y.2.2.1 y.2.2.2.1 y.2.2.2.2.1))) (by kernel_rfl) (NxOk.go hb (poly1305_limbs_mul_8_b N hb)) (NxOk.go hb (poly1305_limbs_mul_5_b N hb)) (fun x => by kernel_rfl)
theorem poly1305_limbs_mul_s2_b {E : Env} (N : Nat) (hb : Base Tryd.prog (poly1305_limbs_mul_C N) E 0) : Blk Tryd.prog (poly1305_limbs_mul_C N) E [2, 3, 4, 5, 9] poly1305_limbs_mul_S1 (poly1305_limbs_mul_L2.drop 0) (fun y => poly1305_limbs_mul_s2 N y.1.1 y.2.1 y.2.2.1 y.2.2.2.1 y.2.2.2.2.1) (poly1305_limbs_mul_K2 N) :=
 Blk.chunkAt hb 2 (X := (goK 0 [2, 3, 4, 5, 9] poly1305_limbs_mul_S1 (fun y => poly1305_limbs_mul_3 N y.1.1 y.2.1 y.2.2.1 y.2.2.2.1 y.2.2.2.2.1))) (NxOk.go hb (poly1305_limbs_mul_3_b N hb)) rfl (fun x => by kernel_rfl)
theorem poly1305_limbs_mul_9_b {E : Env} (N : Nat) (hb : Base Tryd.prog (poly1305_limbs_mul_C N) E 0) : Blk Tryd.prog (poly1305_limbs_mul_C N) E [4, 5] poly1305_limbs_mul_S2 (poly1305_limbs_mul_L.drop 4) (fun y => poly1305_limbs_mul_9 N y.2.1 y.2.2.1) (poly1305_limbs_mul_K N) :=
 Blk.chunkAt hb 2 (X := (poly1305_limbs_mul_K N .normal)) (NxOk.end (by kernel_rfl)) rfl (fun x => by kernel_rfl)
theorem poly1305_limbs_mul_1_b {E : Env} (N : Nat) (hb : Base Tryd.prog (poly1305_limbs_mul_C N) E 0) : Blk Tryd.prog (poly1305_limbs_mul_C N) E [2, 3, 4, 5, 9] poly1305_limbs_mul_S1 (poly1305_limbs_mul_L.drop 3) (fun y => poly1305_limbs_mul_1 N y.1.1 y.2.1 y.2.2.1 y.2.2.2.1 y.2.2.2.2.1) (poly1305_limbs_mul_K N) :=
 Blk.loopAt (Nf := N) (hns := [2, 3, 4, 5, 9]) (ans := [4, 5]) (hc := poly1305_limbs_mul_S1) (ac := poly1305_limbs_mul_S2) (bid := 0) (step := (fun y => poly1305_limbs_mul_s2 N y.1.1 y.2.1 y.2.2.1 y.2.2.2.1 y.2.2.2.2.1)) (J := (fun e => (goK 0 [4, 5] poly1305_limbs_mul_S2 (fun y => poly1305_limbs_mul_9 N y.2.1 y.2.2.1)) (poly1305_limbs_mul_S2.st [4, 5] e))) hb (by kernel_rfl) (Blk.into (X := (goK 0 [4, 5] poly1305_limbs_mul_S2 (fun y => poly1305_limbs_mul_9 N y.2.1 y.2.2.1))) (NxOk.go hb (poly1305_limbs_mul_9_b N hb)) (fun x => by kernel_rfl)) (poly1305_limbs_mul_s2_b N hb) (fun x => by kernel_rfl)
theorem poly1305_limbs_mul_b {E : Env} (N : Nat) (hb : Base Tryd.prog (poly1305_limbs_mul_C N) E 0) : Blk Tryd.prog (poly1305_limbs_mul_C N) E (List.range poly1305_limbs_mul_S3.ks.length) poly1305_limbs_mul_S3 (poly1305_limbs_mul_L.drop 0) (fun y => poly1305_limbs_mul N y.1.1 y.1.2.1) (poly1305_limbs_mul_K N) :=
 Blk.chunkAt hb 3 (X := (goK 0 [2, 3, 4, 5, 9] poly1305_limbs_mul_S1 (fun y => poly1305_limbs_mul_1 N y.1.1 y.2.1 y.2.2.1 y.2.2.2.1 y.2.2.2.2.1))) (NxOk.go hb (poly1305_limbs_mul_1_b N hb)) rfl (fun x => by kernel_rfl)
def poly1305_limbs_mul_ctr (N : Nat) : Ctr := ⟨poly1305_limbs_mul_S3, poly1305_limbs_mul_S4.un [true], 0, (fun y => poly1305_limbs_mul N y.1.1 y.1.2.1)⟩
theorem poly1305_limbs_mul_ctrs (N : Nat) : CtrsOk Tryd.prog (poly1305_limbs_mul_C N) := ctrs_of (Γ := poly1305_limbs_mul_C N) G_ifs_ok (by
 intro p hp
 simp only [poly1305_limbs_mul_C, List.mem_cons, List.not_mem_nil, or_false] at hp
 rcases hp with rfl
 · exact poly1305_limbs_carry_ok N)
theorem poly1305_limbs_mul_ok (N : Nat) : Ctr.ok Tryd.prog G_globs 203 (poly1305_limbs_mul_ctr N) :=
 ctr_fn (Γ := poly1305_limbs_mul_C N) (rfit := poly1305_limbs_mul_S4) (bs := [true]) (res := [4]) (by kernel_rfl) (tys_ok G_tys_ok) (poly1305_limbs_mul_ctrs N) Tryd.func203 (by kernel_rfl) (by kernel_rfl) Tryd.ntmps203 (by kernel_rfl) (by kernel_rfl) (by kernel_rfl) (by kernel_rfl) (fun E hb => poly1305_limbs_mul_b N hb)
/-! (ipsecgate/poly1305.limbs).reduced -/
abbrev poly1305_limbs_reduced_R : Type := (((List UInt64) × Unit) × (Unit))
def poly1305_limbs_reduced_s2 (N : Nat) (t_13 : Int) (a_1 : (List UInt64)) (t_2 : (List UInt64)) (b_3 : (List UInt64)) : Option (Lo ((Int × Unit) × ((List UInt64) × (List UInt64) × (List UInt64) × Unit)) ((Unit) × ((List UInt64) × (List UInt64) × (List UInt64) × Unit)) poly1305_limbs_reduced_R) :=
 bif (decide (t_13 < (4 : Int))) then
 let x7 := w64 (t_13 + (1 : Int))
 bif inR x7 5 then
 bif inR t_13 5 then
 bif inR x7 5 then
 let x12 := (b_3.set x7.toNat ((b_3.getD x7.toNat (0 : UInt64)) + (shr64 (b_3.getD t_13.toNat (0 : UInt64)) 26)))
 bif inR t_13 5 then
 bif inR t_13 5 then
 some (.go (((w64 (t_13 + (1 : Int))), ()), (a_1, t_2, (x12.set t_13.toNat ((x12.getD t_13.toNat (0 : UInt64)) &&& (67108863 : UInt64))), ())))
 else none
 else none
 else none
 else none
 else none
 else
 some (.br ((()), (a_1, t_2, b_3, ())))
def poly1305_limbs_reduced_3 (N : Nat) (a_1 : (List UInt64)) (t_2 : (List UInt64)) (b_3 : (List UInt64)) : Option poly1305_limbs_reduced_R :=
 bif (decide ((shr64 (b_3.getD 4 (0 : UInt64)) 26) = (0 : UInt64))) then
 some ((a_1, ()), (()))
 else
 some (((b_3.set 4 ((b_3.getD 4 (0 : UInt64)) &&& (67108863 : UInt64))), ()), (()))
def poly1305_limbs_reduced_1 (N : Nat) (t_13 : Int) (a_1 : (List UInt64)) (t_2 : (List UInt64)) (b_3 : (List UInt64)) : Option poly1305_limbs_reduced_R :=
 loopK N (fun y => poly1305_limbs_reduced_s2 N y.1.1 y.2.1 y.2.2.1 y.2.2.2.1) (fun (e : ((Unit) × ((List UInt64) × (List UInt64) × (List UInt64) × Unit))) => poly1305_limbs_reduced_3 N e.2.1 e.2.2.1 e.2.2.2.1) ((t_13, ()), (a_1, t_2, b_3, ()))
def poly1305_limbs_reduced (N : Nat) (a_0 : (List UInt64)) : Option poly1305_limbs_reduced_R :=
 Option.bind (poly1305_limbs_carry N a_0) fun y1 =>
 Option.bind (poly1305_limbs_carry N y1.1.1) fun y2 =>
 poly1305_limbs_reduced_1 N (0 : Int) y2.1.1 (List.replicate 5 (0 : UInt64)) (y2.1.1.set 0 ((y2.1.1.getD 0 (0 : UInt64)) + (5 : UInt64)))
def poly1305_limbs_reduced_C (N : Nat) : Ctx := ⟨42, G_tys, [(223, poly1305_limbs_carry_ctr N)], G_globs, G_ifs⟩
def poly1305_limbs_reduced_S0 : Spec := ⟨[.ref 0 (.arr 5 .u64), .ref 1 (.arr 5 .u64), .ref 2 (.arr 5 .u64), .val .i64], [(.box 230 (.arr 5 .u64), .pos 0), (.box 230 (.arr 5 .u64), .pos 1), (.box 230 (.arr 5 .u64), .pos 2)]⟩
def poly1305_limbs_reduced_S1 : Spec := ⟨[.ref 0 (.arr 5 .u64), .ref 1 (.arr 5 .u64), .ref 2 (.arr 5 .u64)], [(.box 230 (.arr 5 .u64), .pos 0), (.box 230 (.arr 5 .u64), .pos 1), (.box 230 (.arr 5 .u64), .pos 2)]⟩
def poly1305_limbs_reduced_S2 : Spec := ⟨[.val (.arr 5 .u64)], []⟩
def poly1305_limbs_reduced_S3 : Spec := ⟨[.fp (.arr 5 .u64)], []⟩
def poly1305_limbs_reduced_K (_N : Nat) : XE → GS → Option poly1305_limbs_reduced_R := retK 0 [2] [true] poly1305_limbs_reduced_S3
def poly1305_limbs_reduced_L : List Code := (bodyOf (some Tryd.f204))
def poly1305_limbs_reduced_L2 : List Code := (loopOf (poly1305_limbs_reduced_L[5]?))
def poly1305_limbs_reduced_K2 (N : Nat) : XE → GS → Option (Lo ((Int × Unit) × ((List UInt64) × (List UInt64) × (List UInt64) × Unit)) ((Unit) × ((List UInt64) × (List UInt64) × (List UInt64) × Unit)) poly1305_limbs_reduced_R) := roundK (some 0) (fit 0 [1, 2, 3, 13] poly1305_limbs_reduced_S0) (fit 0 [1, 2, 3] poly1305_limbs_reduced_S1) (poly1305_limbs_reduced_K N)
theorem poly1305_limbs_reduced_s2_b {E : Env} (N : Nat) (hb : Base Tryd.prog (poly1305_limbs_reduced_C N) E 0) : Blk Tryd.prog (poly1305_limbs_reduced_C N) E [1, 2, 3, 13] poly1305_limbs_reduced_S0 (poly1305_limbs_reduced_L2.drop 0) (fun y => poly1305_limbs_reduced_s2 N y.1.1 y.2.1 y.2.2.1 y.2.2.2.1) (poly1305_limbs_reduced_K2 N) :=
 Blk.chunkAt hb 4 (X := (poly1305_limbs_reduced_K2 N .normal)) (NxOk.end (by kernel_rfl)) rfl (fun x => by kernel_rfl)
theorem poly1305_limbs_reduced_3_b {E : Env} (N : Nat) (hb : Base Tryd.prog (poly1305_limbs_reduced_C N) E 0) : Blk Tryd.prog (poly1305_limbs_reduced_C N) E [1, 2, 3] poly1305_limbs_reduced_S1 (poly1305_limbs_reduced_L.drop 6) (fun y => poly1305_limbs_reduced_3 N y.2.1 y.2.2.1 y.2.2.2.1) (poly1305_limbs_reduced_K N) :=
 Blk.chunkAt hb 5 (X := (poly1305_limbs_reduced_K N .normal)) (NxOk.end (by kernel_rfl)) rfl (fun x => by kernel_rfl)
theorem poly1305_limbs_reduced_1_b {E : Env} (N : Nat) (hb : Base Tryd.prog (poly1305_limbs_reduced_C N) E 0) : Blk Tryd.prog (poly1305_limbs_reduced_C N) E [1, 2, 3, 13] poly1305_limbs_reduced_S0 (poly1305_limbs_reduced_L.drop 5) (fun y => poly1305_limbs_reduced_1 N y.1.1 y.2.1 y.2.2.1 y.2.2.2.1) (poly1305_limbs_reduced_K N) :=
 Blk.loopAt (Nf := N) (hns := [1, 2, 3, 13]) (ans := [1, 2, 3]) (hc := poly1305_limbs_reduced_S0) (ac := poly1305_limbs_reduced_S1) (bid := 0) (step := (fun y => poly1305_limbs_reduced_s2 N y.1.1 y.2.1 y.2.2.1 y.2.2.2.1)) (J := (fun e => (goK 0 [1, 2, 3] poly1305_limbs_reduced_S1 (fun y => poly1305_limbs_reduced_3 N y.2.1 y.2.2.1 y.2.2.2.1)) (poly1305_limbs_reduced_S1.st [1, 2, 3] e))) hb (by kernel_rfl) (Blk.into (X := (goK 0 [1, 2, 3] poly1305_limbs_reduced_S1 (fun y => poly1305_limbs_reduced_3 N y.2.1 y.2.2.1 y.2.2.2.1))) (NxOk.go hb (poly1305_limbs_reduced_3_b N hb)) (fun x => by kernel_rfl)) (poly1305_limbs_reduced_s2_b N hb) (fun x => by kernel_rfl)
theorem poly1305_limbs_reduced_b {E : Env} (N : Nat) (hb : Base Tryd.prog (poly1305_limbs_reduced_C N) E 0) : Blk Tryd.prog (poly1305_limbs_reduced_C N) E (List.range poly1305_limbs_reduced_S2.ks.length) poly1305_limbs_reduced_S2 (poly1305_limbs_reduced_L.drop 0) (fun y => poly1305_limbs_reduced N y.1.1) (poly1305_limbs_reduced_K N) :=
 Blk.chunkAt hb 5 (X := (goK 0 [1, 2, 3, 13] poly1305_limbs_reduced_S0 (fun y => poly1305_limbs_reduced_1 N y.1.1 y.2.1 y.2.2.1 y.2.2.2.1))) (NxOk.go hb (poly1305_limbs_reduced_1_b N hb)) rfl (fun x => by kernel_rfl)
def poly1305_limbs_reduced_ctr (N : Nat) : Ctr := ⟨poly1305_limbs_reduced_S2, poly1305_limbs_reduced_S3.un [true], 0, (fun y => poly1305_limbs_reduced N y.1.1)⟩
theorem poly1305_limbs_reduced_ctrs (N : Nat) : CtrsOk Tryd.prog (poly1305_limbs_reduced_C N) := ctrs_of (Γ := poly1305_limbs_reduced_C N) G_ifs_ok (by
 intro p hp
 simp only [poly1305_limbs_reduced_C, List.mem_cons, List.not_mem_nil, or_false] at hp
 rcases hp with rfl
 · exact poly1305_limbs_carry_ok N)
theorem poly1305_limbs_reduced_ok (N : Nat) : Ctr.ok Tryd.prog G_globs 204 (poly1305_limbs_reduced_ctr N) :=
 ctr_fn (Γ := poly1305_limbs_reduced_C N) (rfit := poly1305_limbs_reduced_S3) (bs := [true]) (res := [2]) (by kernel_rfl) (tys_ok G_tys_ok) (poly1305_limbs_reduced_ctrs N) Tryd.func204 (by kernel_rfl) (by kernel_rfl) Tryd.ntmps204 (by kernel_rfl) (by kernel_rfl) (by kernel_rfl) (by kernel_rfl) (fun E hb => poly1305_limbs_reduced_b N hb)
/-! ipsecgate/poly1305.Sum -/
abbrev poly1305_Sum_R : Type := ((Bool × Unit) × ((List UInt8) × Unit))
def poly1305_Sum_s2 (N : Nat) (key_0 : (List UInt8)) (b_1 : (List UInt8)) (r_6 : (List UInt64)) (v_7 : (List UInt64)) : Option (Lo (((List UInt8) × (List UInt8) × Unit) × ((List UInt64) × (List UInt64) × Unit)) (((List UInt8) × Unit) × ((List UInt64) × Unit)) poly1305_Sum_R) :=
 bif (decide ((0 : Int) < (b_1.length : Int))) then
 let x8 := (b_1.length : Int)
 let x9 := bif decide (x8 < (16 : Int)) then x8 else (16 : Int)
 bif decide (0 ≤ (0 : Int)) && decide ((0 : Int) ≤ x9) && decide (x9 ≤ (b_1.length : Int)) && true then
 let x10 := cut b_1 0 x9.toNat
 bif room (0 + x10.length) 1 then
 bif room (x10.length + ([(1 : UInt8)] : List UInt8).length) 1 then
 Option.bind (poly1305_number N (x10 ++ ([(1 : UInt8)] : List UInt8))) fun y12 =>
 Option.bind (poly1305_limbs_add N v_7 y12.1.1) fun y13 =>
 Option.bind (poly1305_limbs_mul N y13.1.1 r_6) fun y14 =>
 bif decide (0 ≤ x9) && decide (x9 ≤ (b_1.length : Int)) && decide ((b_1.length : Int) ≤ (b_1.length : Int)) && true then
 some (.go ((key_0, (cut b_1 x9.toNat b_1.length), ()), (r_6, y14.1.1, ())))
 else none
 else none
 else none
 else none
 else
 some (.br ((key_0, ()), (v_7, ())))
def poly1305_Sum_s5 (N : Nat) (t_50 : Int) (v_7 : (List UInt64)) (s_10 : (List UInt64)) : Option (Lo ((Int × Unit) × ((List UInt64) × (List UInt64) × Unit)) ((Unit) × ((List UInt64) × Unit)) poly1305_Sum_R) :=
 bif (decide (t_50 < (5 : Int))) then
 bif inR t_50 5 then
 bif inR t_50 5 then
 bif inR t_50 5 then
 some (.go (((w64 (t_50 + (1 : Int))), ()), ((v_7.set t_50.toNat ((v_7.getD t_50.toNat (0 : UInt64)) + (s_10.getD t_50.toNat (0 : UInt64)))), s_10, ())))
 else none
 else none
 else none
 else
 some (.br ((()), (v_7, ())))
def poly1305_Sum_s8 (N : Nat) (t_62 : Int) (v_7 : (List UInt64)) : Option (Lo ((Int × Unit) × ((List UInt64) × Unit)) ((Unit) × ((List UInt64) × Unit)) poly1305_Sum_R) :=
 bif (decide (t_62 < (4 : Int))) then
 let x26 := w64 (t_62 + (1 : Int))
 bif inR x26 5 then
 bif inR t_62 5 then
 bif inR x26 5 then
 let x31 := (v_7.set x26.toNat ((v_7.getD x26.toNat (0 : UInt64)) + (shr64 (v_7.getD t_62.toNat (0 : UInt64)) 26)))
 bif inR t_62 5 then
 bif inR t_62 5 then
 some (.go (((w64 (t_62 + (1 : Int))), ()), ((x31.set t_62.toNat ((x31.getD t_62.toNat (0 : UInt64)) &&& (67108863 : UInt64))), ())))
 else none
 else none
 else none
 else none
 else none
 else
 some (.br ((()), (v_7, ())))
def poly1305_Sum_s11 (N : Nat) (t_81 : Int) (v_7 : (List UInt64)) (out_13 : (List UInt8)) : Option (Lo ((Int × Unit) × ((List UInt64) × (List UInt8) × Unit)) ((Unit) × ((List UInt8) × Unit)) poly1305_Sum_R) :=
 bif (decide (t_81 < (16 : Int))) then
 let x37 := w64 ((8 : Int) * t_81)
 let x38 := w64 (x37.tdiv (26 : Int))
 bif inR x38 5 then
 let x40 := x37.tmod (26 : Int)
 bif decide (0 ≤ x40) then
 let x41 := shr64 (v_7.getD x38.toNat (0 : UInt64)) x40.toNat
 bif (decide ((18 : Int) < (x37.tmod (26 : Int)))) then
 let x45 := w64 ((w64 (x37.tdiv (26 : Int))) + (1 : Int))
 bif inR x45 5 then
 let x48 := w64 ((26 : Int) - (x37.tmod (26 : Int)))
 bif decide (0 ≤ x48) then
 let x49 := shl64 (v_7.getD x45.toNat (0 : UInt64)) x48.toNat
 bif room (out_13.length + ([(x41 ||| x49).toUInt8] : List UInt8).length) 1 then
 some (.go (((w64 (t_81 + (1 : Int))), ()), (v_7, (out_13 ++ ([(x41 ||| x49).toUInt8] : List UInt8)), ())))
 else none
 else none
 else none
 else
 bif room (out_13.length + ([x41.toUInt8] : List UInt8).length) 1 then
 some (.go (((w64 (t_81 + (1 : Int))), ()), (v_7, (out_13 ++ ([x41.toUInt8] : List UInt8)), ())))
 else none
 else none
 else none
 else
 some (.br ((()), (out_13, ())))
def poly1305_Sum_12 (N : Nat) (out_13 : (List UInt8)) : Option poly1305_Sum_R :=
 some ((true, ()), (out_13, ()))
def poly1305_Sum_10 (N : Nat) (t_81 : Int) (v_7 : (List UInt64)) (out_13 : (List UInt8)) : Option poly1305_Sum_R :=
 loopK N (fun y => poly1305_Sum_s11 N y.1.1 y.2.1 y.2.2.1) (fun (e : ((Unit) × ((List UInt8) × Unit))) => poly1305_Sum_12 N e.2.1) ((t_81, ()), (v_7, out_13, ()))
def poly1305_Sum_9 (N : Nat) (v_7 : (List UInt64)) : Option poly1305_Sum_R :=
 poly1305_Sum_10 N (0 : Int) v_7 ([] : List UInt8)
def poly1305_Sum_7 (N : Nat) (t_62 : Int) (v_7 : (List UInt64)) : Option poly1305_Sum_R :=
 loopK N (fun y => poly1305_Sum_s8 N y.1.1 y.2.1) (fun (e : ((Unit) × ((List UInt64) × Unit))) => poly1305_Sum_9 N e.2.1) ((t_62, ()), (v_7, ()))
def poly1305_Sum_6 (N : Nat) (v_7 : (List UInt64)) : Option poly1305_Sum_R :=
 poly1305_Sum_7 N (0 : Int) v_7
def poly1305_Sum_4 (N : Nat) (t_50 : Int) (v_7 : (List UInt64)) (s_10 : (List UInt64)) : Option poly1305_Sum_R :=
 loopK N (fun y => poly1305_Sum_s5 N y.1.1 y.2.1 y.2.2.1) (fun (e : ((Unit) × ((List UInt64) × Unit))) => poly1305_Sum_6 N e.2.1) ((t_50, ()), (v_7, s_10, ()))
def poly1305_Sum_3 (N : Nat) (key_0 : (List UInt8)) (v_7 : (List UInt64)) : Option poly1305_Sum_R :=
 Option.bind (poly1305_limbs_reduced N v_7) fun y16 =>
 bif decide (0 ≤ (16 : Int)) && decide ((16 : Int) ≤ (key_0.length : Int)) && decide ((key_0.length : Int) ≤ (key_0.length : Int)) && true then
 Option.bind (poly1305_number N (cut key_0 16 key_0.length)) fun y18 =>
 poly1305_Sum_4 N (0 : Int) y16.1.1 y18.1.1
 else none
def poly1305_Sum_1 (N : Nat) (key_0 : (List UInt8)) (b_1 : (List UInt8)) (r_6 : (List UInt64)) (v_7 : (List UInt64)) : Option poly1305_Sum_R :=
 loopK N (fun y => poly1305_Sum_s2 N y.1.1 y.1.2.1 y.2.1 y.2.2.1) (fun (e : (((List UInt8) × Unit) × ((List UInt64) × Unit))) => poly1305_Sum_3 N e.1.1 e.2.1) ((key_0, b_1, ()), (r_6, v_7, ()))
def poly1305_Sum (N : Nat) (key_0 : (List UInt8)) (b_1 : (List UInt8)) : Option poly1305_Sum_R :=
 bif (!(decide ((key_0.length : Int) = (32 : Int)))) then
 some ((false, ()), (([] : List UInt8), ()))
 else
 bif decide (0 ≤ (0 : Int)) && decide ((0 : Int) ≤ (16 : Int)) && decide ((16 : Int) ≤ (key_0.length : Int)) && true then
 Option.bind (poly1305_clamp N (cut key_0 0 16)) fun y4 =>
 Option.bind (poly1305_number N y4.2.1) fun y5 =>
 poly1305_Sum_1 N key_0 b_1 y5.1.1 (List.replicate 5 (0 : UInt64))
 else none
def poly1305_Sum_C (N : Nat) : Ctx := ⟨114, G_tys, [(201, poly1305_clamp_ctr N), (200, poly1305_number_ctr N), (202, poly1305_limbs_add_ctr N), (203, poly1305_limbs_mul_ctr N), (204, poly1305_limbs_reduced_ctr N)], G_globs, G_ifs⟩
def poly1305_Sum_S0 : Spec := ⟨[.val (.sl .u8), .val (.sl .u8), .ref 0 (.arr 5 .u64), .ref 1 (.arr 5 .u64)], [(.box 230 (.arr 5 .u64), .pos 2), (.box 230 (.arr 5 .u64), .pos 3)]⟩
def poly1305_Sum_S1 : Spec := ⟨[.ref 0 (.arr 5 .u64), .ref 1 (.arr 5 .u64), .val .i64], [(.box 230 (.arr 5 .u64), .pos 0), (.box 230 (.arr 5 .u64), .pos 1)]⟩
def poly1305_Sum_S2 : Spec := ⟨[.ref 0 (.arr 5 .u64), .val .i64], [(.box 230 (.arr 5 .u64), .pos 0)]⟩
def poly1305_Sum_S3 : Spec := ⟨[.ref 0 (.arr 5 .u64), .row 1, .val .i64], [(.box 230 (.arr 5 .u64), .pos 0), (.row 5 .u8, .pos 1)]⟩
def poly1305_Sum_S4 : Spec := ⟨[.row 0], [(.row 5 .u8, .pos 0)]⟩
def poly1305_Sum_S5 : Spec := ⟨[.ref 0 (.arr 5 .u64)], [(.box 230 (.arr 5 .u64), .pos 0)]⟩
def poly1305_Sum_S6 : Spec := ⟨[.val (.sl .u8), .ref 0 (.arr 5 .u64)], [(.box 230 (.arr 5 .u64), .pos 1)]⟩
def poly1305_Sum_S7 : Spec := ⟨[.val (.sl .u8), .val (.sl .u8)], []⟩
def poly1305_Sum_S8 : Spec := ⟨[.row 0, .val .bool], [(.row 5 .u8, .pos 0)]⟩
def poly1305_Sum_K (_N : Nat) : XE → GS → Option poly1305_Sum_R := retK 0 [4, 5] [false, false] poly1305_Sum_S8
def poly1305_Sum_L : List Code := (bodyOf (some Tryd.f167))
def poly1305_Sum_L2 : List Code := (loopOf (poly1305_Sum_L[5]?))
def poly1305_Sum_L5 : List Code := (loopOf (poly1305_Sum_L[9]?))
def poly1305_Sum_L8 : List Code := (loopOf (poly1305_Sum_L[11]?))
def poly1305_Sum_L11 : List Code := (loopOf (poly1305_Sum_L[14]?))
def poly1305_Sum_K2 (N : Nat) : XE → GS → Option (Lo (((List UInt8) × (List UInt8) × Unit) × ((List UInt64) × (List UInt64) × Unit)) (((List UInt8) × Unit) × ((List UInt64) × Unit)) poly1305_Sum_R) := roundK (some 0) (fit 0 [0, 1, 6, 7] poly1305_Sum_S0) (fit 0 [0, 7] poly1305_Sum_S6) (poly1305_Sum_K N)
def poly1305_Sum_K5 (N : Nat) : XE → GS → Option (Lo ((Int × Unit) × ((List UInt64) × (List UInt64) × Unit)) ((Unit) × ((List UInt64) × Unit)) poly1305_Sum_R) := roundK (some 2) (fit 0 [7, 10, 50] poly1305_Sum_S1) (fit 0 [7] poly1305_Sum_S5) (poly1305_Sum_K N)
def poly1305_Sum_K8 (N : Nat) : XE → GS → Option (Lo ((Int × Unit) × ((List UInt64) × Unit)) ((Unit) × ((List UInt64) × Unit)) poly1305_Sum_R) := roundK (some 4) (fit 0 [7, 62] poly1305_Sum_S2) (fit 0 [7] poly1305_Sum_S5) (poly1305_Sum_K N)
def poly1305_Sum_K11 (N : Nat) : XE → GS → Option (Lo ((Int × Unit) × ((List UInt64) × (List UInt8) × Unit)) ((Unit) × ((List UInt8) × Unit)) poly1305_Sum_R) := roundK (some 6) (fit 0 [7, 13, 81] poly1305_Sum_S3) (fit 0 [13] poly1305_Sum_S4) (poly1305_Sum_K N)
theorem poly1305_Sum_s2_b {E : Env} (N : Nat) (hb : Base Tryd.prog (poly1305_Sum_C N) E 0) : Blk Tryd.prog (poly1305_Sum_C N) E [0, 1, 6, 7] poly1305_Sum_S0 (poly1305_Sum_L2.drop 0) (fun y => poly1305_Sum_s2 N y.1.1 y.1.2.1 y.2.1 y.2.2.1) (poly1305_Sum_K2 N) :=
 Blk.chunkAt hb 3 (X := (poly1305_Sum_K2 N .normal)) (NxOk.end (by kernel_rfl)) rfl (fun x => by kernel_rfl)
theorem poly1305_Sum_s5_b {E : Env} (N : Nat) (hb : Base Tryd.prog (poly1305_Sum_C N) E 0) : Blk Tryd.prog (poly1305_Sum_C N) E [7, 10, 50] poly1305_Sum_S1 (poly1305_Sum_L5.drop 0) (fun y => poly1305_Sum_s5 N y.1.1 y.2.1 y.2.2.1) (poly1305_Sum_K5 N) :=
 Blk.chunkAt hb 4 (X := (poly1305_Sum_K5 N .normal)) (NxOk.end (by kernel_rfl)) rfl (fun x => by kernel_rfl)
theorem poly1305_Sum_s8_b {E : Env} (N : Nat) (hb : Base Tryd.prog (poly1305_Sum_C N) E 0) : Blk Tryd.prog (poly1305_Sum_C N) E [7, 62] poly1305_Sum_S2 (poly1305_Sum_L8.drop 0) (fun y => poly1305_Sum_s8 N y.1.1 y.2.1) (poly1305_Sum_K8 N) :=
 Blk.chunkAt hb 4 (X := (poly1305_Sum_K8 N .normal)) (NxOk.end (by kernel_rfl)) rfl (fun x => by kernel_rfl)
theorem poly1305_Sum_s11_b {E : Env} (N : Nat) (hb : Base Tryd.prog (poly1305_Sum_C N) E 0) : Blk Tryd.prog (poly1305_Sum_C N) E [7, 13, 81] poly1305_Sum_S3 (poly1305_Sum_L11.drop 0) (fun y => poly1305_Sum_s11 N y.1.1 y.2.1 y.2.2.1) (poly1305_Sum_K11 N) :=
 Blk.chunkAt hb 4 (X := (poly1305_Sum_K11 N .normal)) (NxOk.end (by kernel_rfl)) rfl (fun x => by kernel_rfl)
theorem poly1305_Sum_12_b {E : Env} (N : Nat) (hb : Base Tryd.prog (poly1305_Sum_C N) E 0) : Blk Tryd.prog (poly1305_Sum_C N) E [13] poly1305_Sum_S4 (poly1305_Sum_L.drop 15) (fun y => poly1305_Sum_12 N y.2.1) (poly1305_Sum_K N) :=
 Blk.chunkAt hb 2 (X := (poly1305_Sum_K N .normal)) (NxOk.end (by kernel_rfl)) rfl (fun x => by kernel_rfl)
theorem poly1305_Sum_10_b {E : Env} (N : Nat) (hb : Base Tryd.prog (poly1305_Sum_C N) E 0) : Blk Tryd.prog (poly1305_Sum_C N) E [7, 13, 81] poly1305_Sum_S3 (poly1305_Sum_L.drop 14) (fun y => poly1305_Sum_10 N y.1.1 y.2.1 y.2.2.1) (poly1305_Sum_K N) :=
 Blk.loopAt (Nf := N) (hns := [7, 13, 81]) (ans := [13]) (hc := poly1305_Sum_S3) (ac := poly1305_Sum_S4) (bid := 6) (step := (fun y => poly1305_Sum_s11 N y.1.1 y.2.1 y.2.2.1)) (J := (fun e => (goK 0 [13] poly1305_Sum_S4 (fun y => poly1305_Sum_12 N y.2.1)) (poly1305_Sum_S4.st [13] e))) hb (by kernel_rfl) (Blk.into (X := (goK 0 [13] poly1305_Sum_S4 (fun y => poly1305_Sum_12 N y.2.1))) (NxOk.go hb (poly1305_Sum_12_b N hb)) (fun x => by kernel_rfl)) (poly1305_Sum_s11_b N hb) (fun x => by kernel_rfl)
theorem poly1305_Sum_9_b {E : Env} (N : Nat) (hb : Base Tryd.prog (poly1305_Sum_C N) E 0) : Blk Tryd.prog (poly1305_Sum_C N) E [7] poly1305_Sum_S5 (poly1305_Sum_L.drop 12) (fun y => poly1305_Sum_9 N y.2.1) (poly1305_Sum_K N) :=
 Blk.chunkAt hb 2 (X := (goK 0 [7, 13, 81] poly1305_Sum_S3 (fun y => poly1305_Sum_10 N y.1.1 y.2.1 y.2.2.1))) (NxOk.go hb (poly1305_Sum_10_b N hb)) rfl (fun x => by kernel_rfl)
theorem poly1305_Sum_7_b {E : Env} (N : Nat) (hb : Base Tryd.prog (poly1305_Sum_C N) E 0) : Blk Tryd.prog (poly1305_Sum_C N) E [7, 62] poly1305_Sum_S2 (poly1305_Sum_L.drop 11) (fun y => poly1305_Sum_7 N y.1.1 y.2.1) (poly1305_Sum_K N) :=
 Blk.loopAt (Nf := N) (hns := [7, 62]) (ans := [7]) (hc := poly1305_Sum_S2) (ac := poly1305_Sum_S5) (bid := 4) (step := (fun y => poly1305_Sum_s8 N y.1.1 y.2.1)) (J := (fun e => (goK 0 [7] poly1305_Sum_S5 (fun y => poly1305_Sum_9 N y.2.1)) (poly1305_Sum_S5.st [7] e))) hb (by kernel_rfl) (Blk.into (X := (goK 0 [7] poly1305_Sum_S5 (fun y => poly1305_Sum_9 N y.2.1))) (NxOk.go hb (poly1305_Sum_9_b N hb)) (fun x => by kernel_rfl)) (poly1305_Sum_s8_b N hb) (fun x => by kernel_rfl)
theorem poly1305_Sum_6_b {E : Env} (N : Nat) (hb : Base Tryd.prog (poly1305_Sum_C N) E 0) : Blk Tryd.prog (poly1305_Sum_C N) E [7] poly1305_Sum_S5 (poly1305_Sum_L.drop 10) (fun y => poly1305_Sum_6 N y.2.1) (poly1305_Sum_K N) :=
 Blk.chunkAt hb 1 (X := (goK 0 [7, 62] poly1305_Sum_S2 (fun y => poly1305_Sum_7 N y.1.1 y.2.1))) (NxOk.go hb (poly1305_Sum_7_b N hb)) rfl (fun x => by kernel_rfl)
theorem poly1305_Sum_4_b {E : Env} (N : Nat) (hb : Base Tryd.prog (poly1305_Sum_C N) E 0) : Blk Tryd.prog (poly1305_Sum_C N) E [7, 10, 50] poly1305_Sum_S1 (poly1305_Sum_L.drop 9) (fun y => poly1305_Sum_4 N y.1.1 y.2.1 y.2.2.1) (poly1305_Sum_K N) :=
 Blk.loopAt (Nf := N) (hns := [7, 10, 50]) (ans := [7]) (hc := poly1305_Sum_S1) (ac := poly1305_Sum_S5) (bid := 2) (step := (fun y => poly1305_Sum_s5 N y.1.1 y.2.1 y.2.2.1)) (J := (fun e => (goK 0 [7] poly1305_Sum_S5 (fun y => poly1305_Sum_6 N y.2.1)) (poly1305_Sum_S5.st [7] e))) hb (by kernel_rfl) (Blk.into (X := (goK 0 [7] poly1305_Sum_S5 (fun y => poly1305_Sum_6 N y.2.1))) (NxOk.go hb (poly1305_Sum_6_b N hb)) (fun x => by kernel_rfl)) (poly1305_Sum_s5_b N hb) (fun x => by kernel_rfl)
theorem poly1305_Sum_3_b {E : Env} (N : Nat) (hb : Base Tryd.prog (poly1305_Sum_C N) E 0) : Blk Tryd.prog (poly1305_Sum_C N) E [0, 7] poly1305_Sum_S6 (poly1305_Sum_L.drop 6) (fun y => poly1305_Sum_3 N y.1.1 y.2.1) (poly1305_Sum_K N) :=
 Blk.chunkAt hb 3 (X := (goK 0 [7, 10, 50] poly1305_Sum_S1 (fun y => poly1305_Sum_4 N y.1.1 y.2.1 y.2.2.1))) (NxOk.go hb (poly1305_Sum_4_b N hb)) rfl (fun x => by kernel_rfl)
theorem poly1305_Sum_1_b {E : Env} (N : Nat) (hb : Base Tryd.prog (poly1305_Sum_C N) E 0) : Blk Tryd.prog (poly1305_Sum_C N) E [0, 1, 6, 7] poly1305_Sum_S0 (poly1305_Sum_L.drop 5) (fun y => poly1305_Sum_1 N y.1.1 y.1.2.1 y.2.1 y.2.2.1) (poly1305_Sum_K N) :=
 Blk.loopAt (Nf := N) (hns := [0, 1, 6, 7]) (ans := [0, 7]) (hc := poly1305_Sum_S0) (ac := poly1305_Sum_S6) (bid := 0) (step := (fun y => poly1305_Sum_s2 N y.1.1 y.1.2.1 y.2.1 y.2.2.1)) (J := (fun e => (goK 0 [0, 7] poly1305_Sum_S6 (fun y => poly1305_Sum_3 N y.1.1 y.2.1)) (poly1305_Sum_S6.st [0, 7] e))) hb (by kernel_rfl) (Blk.into (X := (goK 0 [0, 7] poly1305_Sum_S6 (fun y => poly1305_Sum_3 N y.1.1 y.2.1))) (NxOk.go hb (poly1305_Sum_3_b N hb)) (fun x => by kernel_rfl)) (poly1305_Sum_s2_b N hb) (fun x => by kernel_rfl)
theorem poly1305_Sum_b {E : Env} (N : Nat) (hb : Base Tryd.prog (poly1305_Sum_C N) E 0) : Blk Tryd.prog (poly1305_Sum_C N) E (List.range poly1305_Sum_S7.ks.length) poly1305_Sum_S7 (poly1305_Sum_L.drop 0) (fun y => poly1305_Sum N y.1.1 y.1.2.1) (poly1305_Sum_K N) :=
 Blk.chunkAt hb 5 (X := (goK 0 [0, 1, 6, 7] poly1305_Sum_S0 (fun y => poly1305_Sum_1 N y.1.1 y.1.2.1 y.2.1 y.2.2.1))) (NxOk.go hb (poly1305_Sum_1_b N hb)) rfl (fun x => by kernel_rfl)
def poly1305_Sum_ctr (N : Nat) : Ctr := ⟨poly1305_Sum_S7, poly1305_Sum_S8.un [false, false], 0, (fun y => poly1305_Sum N y.1.1 y.1.2.1)⟩
theorem poly1305_Sum_ctrs (N : Nat) : CtrsOk Tryd.prog (poly1305_Sum_C N) := ctrs_of (Γ := poly1305_Sum_C N) G_ifs_ok (by
 intro p hp
 simp only [poly1305_Sum_C, List.mem_cons, List.not_mem_nil, or_false] at hp
 rcases hp with rfl | rfl | rfl | rfl | rfl
 · exact poly1305_clamp_ok N
 · exact poly1305_number_ok N
 · exact poly1305_limbs_add_ok N
 · exact poly1305_limbs_mul_ok N
 · exact poly1305_limbs_reduced_ok N)
theorem poly1305_Sum_ok (N : Nat) : Ctr.ok Tryd.prog G_globs 167 (poly1305_Sum_ctr N) :=
 ctr_fn (Γ := poly1305_Sum_C N) (rfit := poly1305_Sum_S8) (bs := [false, false]) (res := [4, 5]) (by kernel_rfl) (tys_ok G_tys_ok) (poly1305_Sum_ctrs N) Tryd.func167 (by kernel_rfl) (by kernel_rfl) Tryd.ntmps167 (by kernel_rfl) (by kernel_rfl) (by kernel_rfl) (by kernel_rfl) (fun E hb => poly1305_Sum_b N hb)
/-! ipsecgate/aead.Tag -/
abbrev aead_Tag_R : Type := ((Bool × Unit) × ((List UInt8) × Unit))
def aead_Tag (N : Nat) (key_0 : (List UInt8)) (nonce_1 : (List UInt8)) (data_2 : (List UInt8)) (cipher_3 : (List UInt8)) : Option aead_Tag_R :=
 Option.bind (aead_keyed N key_0 nonce_1) fun y1 =>
 bif (!y1.1.1) then
 some ((false, ()), (([] : List UInt8), ()))
 else
 Option.bind (chacha_Block N key_0 (0 : UInt32) nonce_1) fun y3 =>
 Option.bind (aead_padded N data_2 ([] : List UInt8)) fun y4 =>
 Option.bind (aead_padded N cipher_3 y4.2.1) fun y5 =>
 bif decide (0 ≤ (0 : Int)) && decide ((0 : Int) ≤ (32 : Int)) && decide ((32 : Int) ≤ (y3.2.1.length : Int)) && true then
 Option.bind (aead_length N (data_2.length : Int) y5.2.1) fun y8 =>
 Option.bind (aead_length N (cipher_3.length : Int) y8.2.1) fun y10 =>
 Option.bind (poly1305_Sum N (cut y3.2.1 0 32) y10.2.1) fun y11 =>
 some ((y11.1.1, ()), (y11.2.1, ()))
 else none
def aead_Tag_C (N : Nat) : Ctx := ⟨39, G_tys, [(119, aead_keyed_ctr N), (165, chacha_Block_ctr N), (166, aead_padded_ctr N), (168, aead_length_ctr N), (167, poly1305_Sum_ctr N)], G_globs, G_ifs⟩
def aead_Tag_S0 : Spec := ⟨[.val (.sl .u8), .val (.sl .u8), .val (.sl .u8), .val (.sl .u8)], []⟩
def aead_Tag_S1 : Spec := ⟨[.row 0, .val .bool], [(.row 5 .u8, .pos 0)]⟩
def aead_Tag_K (_N : Nat) : XE → GS → Option aead_Tag_R := retK 0 [8, 9] [false, false] aead_Tag_S1
def aead_Tag_L : List Code := (bodyOf (some Tryd.f121))
theorem aead_Tag_b {E : Env} (N : Nat) (hb : Base Tryd.prog (aead_Tag_C N) E 0) : Blk Tryd.prog (aead_Tag_C N) E (List.range aead_Tag_S0.ks.length) aead_Tag_S0 (aead_Tag_L.drop 0) (fun y => aead_Tag N y.1.1 y.1.2.1 y.1.2.2.1 y.1.2.2.2.1) (aead_Tag_K N) :=
 Blk.chunkAt hb 7 (X := (aead_Tag_K N .normal)) (NxOk.end (by kernel_rfl)) rfl (fun x => by kernel_rfl)
def aead_Tag_ctr (N : Nat) : Ctr := ⟨aead_Tag_S0, aead_Tag_S1.un [false, false], 0, (fun y => aead_Tag N y.1.1 y.1.2.1 y.1.2.2.1 y.1.2.2.2.1)⟩
theorem aead_Tag_ctrs (N : Nat) : CtrsOk Tryd.prog (aead_Tag_C N) := ctrs_of (Γ := aead_Tag_C N) G_ifs_ok (by
 intro p hp
 simp only [aead_Tag_C, List.mem_cons, List.not_mem_nil, or_false] at hp
 rcases hp with rfl | rfl | rfl | rfl | rfl
 · exact aead_keyed_ok N
 · exact chacha_Block_ok N
 · exact aead_padded_ok N
 · exact aead_length_ok N
 · exact poly1305_Sum_ok N)
theorem aead_Tag_ok (N : Nat) : Ctr.ok Tryd.prog G_globs 121 (aead_Tag_ctr N) :=
 ctr_fn (Γ := aead_Tag_C N) (rfit := aead_Tag_S1) (bs := [false, false]) (res := [8, 9]) (by kernel_rfl) (tys_ok G_tys_ok) (aead_Tag_ctrs N) Tryd.func121 (by kernel_rfl) (by kernel_rfl) Tryd.ntmps121 (by kernel_rfl) (by kernel_rfl) (by kernel_rfl) (by kernel_rfl) (fun E hb => aead_Tag_b N hb)
/-! ipsecgate/aead.Seal -/
abbrev aead_Seal_R : Type := ((Int × Unit) × ((List UInt8) × Unit))
def aead_Seal (N : Nat) (key_0 : (List UInt8)) (nonce_1 : (List UInt8)) (data_2 : (List UInt8)) (plain_3 : (List UInt8)) : Option aead_Seal_R :=
 Option.bind (aead_keyed N key_0 nonce_1) fun y1 =>
 bif (!y1.1.1) then
 some (((13 : Int), ()), (([] : List UInt8), ()))
 else
 Option.bind (chacha_Xor N key_0 (1 : UInt32) nonce_1 plain_3) fun y3 =>
 Option.bind (aead_Tag N key_0 nonce_1 data_2 y3.2.1) fun y4 =>
 bif room (y3.2.1.length + y4.2.1.length) 1 then
 some (((0 : Int), ()), ((y3.2.1 ++ y4.2.1), ()))
 else none
def aead_Seal_C (N : Nat) : Ctx := ⟨36, G_tys, [(119, aead_keyed_ctr N), (120, chacha_Xor_ctr N), (121, aead_Tag_ctr N)], G_globs, G_ifs⟩
def aead_Seal_S0 : Spec := ⟨[.val (.sl .u8), .val (.sl .u8), .val (.sl .u8), .val (.sl .u8)], []⟩
def aead_Seal_S1 : Spec := ⟨[.row 0, .val .i64], [(.row 5 .u8, .pos 0)]⟩
def aead_Seal_K (_N : Nat) : XE → GS → Option aead_Seal_R := retK 0 [8, 9] [false, false] aead_Seal_S1
def aead_Seal_L : List Code := (bodyOf (some Tryd.f57))
theorem aead_Seal_b {E : Env} (N : Nat) (hb : Base Tryd.prog (aead_Seal_C N) E 0) : Blk Tryd.prog (aead_Seal_C N) E (List.range aead_Seal_S0.ks.length) aead_Seal_S0 (aead_Seal_L.drop 0) (fun y => aead_Seal N y.1.1 y.1.2.1 y.1.2.2.1 y.1.2.2.2.1) (aead_Seal_K N) :=
 Blk.chunkAt hb 7 (X := (aead_Seal_K N .normal)) (NxOk.end (by kernel_rfl)) rfl (fun x => by kernel_rfl)
def aead_Seal_ctr (N : Nat) : Ctr := ⟨aead_Seal_S0, aead_Seal_S1.un [false, false], 0, (fun y => aead_Seal N y.1.1 y.1.2.1 y.1.2.2.1 y.1.2.2.2.1)⟩
theorem aead_Seal_ctrs (N : Nat) : CtrsOk Tryd.prog (aead_Seal_C N) := ctrs_of (Γ := aead_Seal_C N) G_ifs_ok (by
 intro p hp
 simp only [aead_Seal_C, List.mem_cons, List.not_mem_nil, or_false] at hp
 rcases hp with rfl | rfl | rfl
 · exact aead_keyed_ok N
 · exact chacha_Xor_ok N
 · exact aead_Tag_ok N)
theorem aead_Seal_ok (N : Nat) : Ctr.ok Tryd.prog G_globs 57 (aead_Seal_ctr N) :=
 ctr_fn (Γ := aead_Seal_C N) (rfit := aead_Seal_S1) (bs := [false, false]) (res := [8, 9]) (by kernel_rfl) (tys_ok G_tys_ok) (aead_Seal_ctrs N) Tryd.func57 (by kernel_rfl) (by kernel_rfl) Tryd.ntmps57 (by kernel_rfl) (by kernel_rfl) (by kernel_rfl) (by kernel_rfl) (fun E hb => aead_Seal_b N hb)
/-! ipsecgate/sealed.write -/
abbrev sealed_write_R : Type := ((Int × Unit) × ((List UInt8) × Unit))
def sealed_write (N : Nat) (h_0 : D75) (kind_1 : Int) (first_2 : Int) (between_3 : (List UInt8)) (inner_4 : (List UInt8)) (key_5 : (List UInt8)) (iv_6 : UInt64) : Option sealed_write_R :=
 let x7 := w64 ((w64 ((w64 ((w64 ((w64 ((4 : Int) + (between_3.length : Int))) + (8 : Int))) + (inner_4.length : Int))) + (1 : Int))) + (16 : Int))
 bif (decide ((8192 : Int) < (w64 ((28 : Int) + x7)))) then
 some (((11 : Int), ()), (([] : List UInt8), ()))
 else
 Option.bind (header_Build N (h_0.1, h_0.2.1, kind_1, h_0.2.2.2.1, h_0.2.2.2.2.1, h_0.2.2.2.2.2.1, ()) (w64 ((28 : Int) + x7))) fun y11 =>
 bif (!(decide (y11.1.1 = (0 : Int)))) then
 some ((y11.1.1, ()), (([] : List UInt8), ()))
 else
 bif room (y11.2.1.length + ([(iu8 first_2), (0 : UInt8)] : List UInt8).length) 1 then
 Option.bind (wire_Put N (iu64 x7) (2 : Int) (y11.2.1 ++ ([(iu8 first_2), (0 : UInt8)] : List UInt8))) fun y16 =>
 bif room (y16.2.1.length + between_3.length) 1 then
 let x17 := y16.2.1 ++ between_3
 Option.bind (wire_Put N iv_6 (8 : Int) ([] : List UInt8)) fun y18 =>
 bif room (0 + inner_4.length) 1 then
 bif room (inner_4.length + ([(0 : UInt8)] : List UInt8).length) 1 then
 bif decide (0 ≤ (0 : Int)) && decide ((0 : Int) ≤ (32 : Int)) && decide ((32 : Int) ≤ (key_5.length : Int)) && true then
 Option.bind (sealed_nonce N key_5 y18.2.1) fun y21 =>
 Option.bind (aead_Seal N (cut key_5 0 32) y21.2.1 x17 (inner_4 ++ ([(0 : UInt8)] : List UInt8))) fun y22 =>
 bif room (x17.length + y18.2.1.length) 1 then
 bif room ((x17 ++ y18.2.1).length + y22.2.1.length) 1 then
 some (((0 : Int), ()), (((x17 ++ y18.2.1) ++ y22.2.1), ()))
 else none
 else none
 else none
 else none
 else none
 else none
 else none
def sealed_write_C (N : Nat) : Ctx := ⟨80, G_tys, [(56, header_Build_ctr N), (91, wire_Put_ctr N), (163, sealed_nonce_ctr N), (57, aead_Seal_ctr N)], G_globs, G_ifs⟩
def sealed_write_S0 : Spec := ⟨[.val T75, .val .i64, .val .i64, .val (.sl .u8), .val (.sl .u8), .val (.sl .u8), .val .u64], []⟩
def sealed_write_S1 : Spec := ⟨[.row 0, .val .i64], [(.row 5 .u8, .pos 0)]⟩
def sealed_write_K (_N : Nat) : XE → GS → Option sealed_write_R := retK 0 [14, 15] [false, false] sealed_write_S1
def sealed_write_L : List Code := (bodyOf (some Tryd.f117))
theorem sealed_write_b {E : Env} (N : Nat) (hb : Base Tryd.prog (sealed_write_C N) E 0) : Blk Tryd.prog (sealed_write_C N) E (List.range sealed_write_S0.ks.length) sealed_write_S0 (sealed_write_L.drop 0) (fun y => sealed_write N y.1.1 y.1.2.1 y.1.2.2.1 y.1.2.2.2.1 y.1.2.2.2.2.1 y.1.2.2.2.2.2.1 y.1.2.2.2.2.2.2.1) (sealed_write_K N) :=
 Blk.chunkAt hb 15 (X := (sealed_write_K N .normal)) (NxOk.end (by kernel_rfl)) rfl (fun x => by kernel_rfl)
def sealed_write_ctr (N : Nat) : Ctr := ⟨sealed_write_S0, sealed_write_S1.un [false, false], 0, (fun y => sealed_write N y.1.1 y.1.2.1 y.1.2.2.1 y.1.2.2.2.1 y.1.2.2.2.2.1 y.1.2.2.2.2.2.1 y.1.2.2.2.2.2.2.1)⟩
theorem sealed_write_ctrs (N : Nat) : CtrsOk Tryd.prog (sealed_write_C N) := ctrs_of (Γ := sealed_write_C N) G_ifs_ok (by
 intro p hp
 simp only [sealed_write_C, List.mem_cons, List.not_mem_nil, or_false] at hp
 rcases hp with rfl | rfl | rfl | rfl
 · exact header_Build_ok N
 · exact wire_Put_ok N
 · exact sealed_nonce_ok N
 · exact aead_Seal_ok N)
theorem sealed_write_ok (N : Nat) : Ctr.ok Tryd.prog G_globs 117 (sealed_write_ctr N) :=
 ctr_fn (Γ := sealed_write_C N) (rfit := sealed_write_S1) (bs := [false, false]) (res := [14, 15]) (by kernel_rfl) (tys_ok G_tys_ok) (sealed_write_ctrs N) Tryd.func117 (by kernel_rfl) (by kernel_rfl) Tryd.ntmps117 (by kernel_rfl) (by kernel_rfl) (by kernel_rfl) (by kernel_rfl) (fun E hb => sealed_write_b N hb)
/-! ipsecgate/sealed.Seal -/
abbrev sealed_Seal_R : Type := ((Int × Unit) × ((List UInt8) × Unit))
def sealed_Seal (N : Nat) (h_0 : D75) (first_1 : Int) (inner_2 : (List UInt8)) (key_3 : (List UInt8)) (iv_4 : UInt64) : Option sealed_Seal_R :=
 Option.bind (sealed_check N h_0 key_3 first_1) fun y1 =>
 bif (!(decide (y1.1.1 = (0 : Int)))) then
 some ((y1.1.1, ()), (([] : List UInt8), ()))
 else
 Option.bind (sealed_write N h_0 (46 : Int) first_1 ([] : List UInt8) inner_2 key_3 iv_4) fun y3 =>
 some ((y3.1.1, ()), (y3.2.1, ()))
def sealed_Seal_C (N : Nat) : Ctx := ⟨28, G_tys, [(116, sealed_check_ctr N), (117, sealed_write_ctr N)], G_globs, G_ifs⟩
def sealed_Seal_S0 : Spec := ⟨[.val T75, .val .i64, .val (.sl .u8), .val (.sl .u8), .val .u64], []⟩
def sealed_Seal_S1 : Spec := ⟨[.row 0, .val .i64], [(.row 5 .u8, .pos 0)]⟩
def sealed_Seal_K (_N : Nat) : XE → GS → Option sealed_Seal_R := retK 0 [10, 11] [false, false] sealed_Seal_S1
def sealed_Seal_L : List Code := (bodyOf (some Tryd.f55))
theorem sealed_Seal_b {E : Env} (N : Nat) (hb : Base Tryd.prog (sealed_Seal_C N) E 0) : Blk Tryd.prog (sealed_Seal_C N) E (List.range sealed_Seal_S0.ks.length) sealed_Seal_S0 (sealed_Seal_L.drop 0) (fun y => sealed_Seal N y.1.1 y.1.2.1 y.1.2.2.1 y.1.2.2.2.1 y.1.2.2.2.2.1) (sealed_Seal_K N) :=
 Blk.chunkAt hb 6 (X := (sealed_Seal_K N .normal)) (NxOk.end (by kernel_rfl)) rfl (fun x => by kernel_rfl)
def sealed_Seal_ctr (N : Nat) : Ctr := ⟨sealed_Seal_S0, sealed_Seal_S1.un [false, false], 0, (fun y => sealed_Seal N y.1.1 y.1.2.1 y.1.2.2.1 y.1.2.2.2.1 y.1.2.2.2.2.1)⟩
theorem sealed_Seal_ctrs (N : Nat) : CtrsOk Tryd.prog (sealed_Seal_C N) := ctrs_of (Γ := sealed_Seal_C N) G_ifs_ok (by
 intro p hp
 simp only [sealed_Seal_C, List.mem_cons, List.not_mem_nil, or_false] at hp
 rcases hp with rfl | rfl
 · exact sealed_check_ok N
 · exact sealed_write_ok N)
theorem sealed_Seal_ok (N : Nat) : Ctr.ok Tryd.prog G_globs 55 (sealed_Seal_ctr N) :=
 ctr_fn (Γ := sealed_Seal_C N) (rfit := sealed_Seal_S1) (bs := [false, false]) (res := [10, 11]) (by kernel_rfl) (tys_ok G_tys_ok) (sealed_Seal_ctrs N) Tryd.func55 (by kernel_rfl) (by kernel_rfl) Tryd.ntmps55 (by kernel_rfl) (by kernel_rfl) (by kernel_rfl) (by kernel_rfl) (fun E hb => sealed_Seal_b N hb)
/-! ipsecgate/wire.Slice -/
abbrev wire_Slice_R : Type := (((List UInt8) × Bool × Unit) × (Unit))
def wire_Slice_1 (N : Nat) (b_0 : (List UInt8)) (at_1 : Int) (n_2 : Int) (t_27 : Bool) : Option wire_Slice_R :=
 bif t_27 then
 some ((([] : List UInt8), false, ()), (()))
 else
 let x2 := w64 (at_1 + n_2)
 let x3 := w64 (at_1 + n_2)
 bif decide (0 ≤ at_1) && decide (at_1 ≤ x2) && decide (x2 ≤ (b_0.length : Int)) && (decide (x2 ≤ x3) && decide (x3 ≤ (b_0.length : Int))) then
 some (((cut b_0 at_1.toNat x2.toNat), true, ()), (()))
 else none
def wire_Slice (N : Nat) (b_0 : (List UInt8)) (at_1 : Int) (n_2 : Int) : Option wire_Slice_R :=
 bif (decide (at_1 < (0 : Int))) then
 wire_Slice_1 N b_0 at_1 n_2 true
 else
 bif (decide (n_2 < (0 : Int))) then
 wire_Slice_1 N b_0 at_1 n_2 true
 else
 bif (decide ((b_0.length : Int) < at_1)) then
 wire_Slice_1 N b_0 at_1 n_2 true
 else
 wire_Slice_1 N b_0 at_1 n_2 (decide ((w64 ((b_0.length : Int) - at_1)) < n_2))
def wire_Slice_C (N : Nat) : Ctx := ⟨37, G_tys, [], G_globs, G_ifs⟩
def wire_Slice_S0 : Spec := ⟨[.val (.sl .u8), .val .i64, .val .i64, .val .bool], []⟩
def wire_Slice_S1 : Spec := ⟨[.val (.sl .u8), .val .i64, .val .i64], []⟩
def wire_Slice_S2 : Spec := ⟨[.val (.sl .u8), .val .bool], []⟩
def wire_Slice_K (_N : Nat) : XE → GS → Option wire_Slice_R := retK 0 [6, 7] [false, false] wire_Slice_S2
def wire_Slice_L : List Code := (bodyOf (some Tryd.f162))
theorem wire_Slice_1_b {E : Env} (N : Nat) (hb : Base Tryd.prog (wire_Slice_C N) E 0) : Blk Tryd.prog (wire_Slice_C N) E [0, 1, 2, 27] wire_Slice_S0 (wire_Slice_L.drop 2) (fun y => wire_Slice_1 N y.1.1 y.1.2.1 y.1.2.2.1 y.1.2.2.2.1) (wire_Slice_K N) :=
 Blk.chunkAt hb 3 (X := (wire_Slice_K N .normal)) (NxOk.end (by kernel_rfl)) rfl (fun x => by kernel_rfl)
theorem wire_Slice_b {E : Env} (N : Nat) (hb : Base Tryd.prog (wire_Slice_C N) E 0) : Blk Tryd.prog (wire_Slice_C N) E (List.range wire_Slice_S1.ks.length) wire_Slice_S1 (wire_Slice_L.drop 0) (fun y => wire_Slice N y.1.1 y.1.2.1 y.1.2.2.1) (wire_Slice_K N) :=
 Blk.chunkAt hb 2 (X := (goK 0 [0, 1, 2, 27] wire_Slice_S0 (fun y => wire_Slice_1 N y.1.1 y.1.2.1 y.1.2.2.1 y.1.2.2.2.1))) (NxOk.go hb (wire_Slice_1_b N hb)) rfl (fun x => by kernel_rfl)
def wire_Slice_ctr (N : Nat) : Ctr := ⟨wire_Slice_S1, wire_Slice_S2.un [false, false], 0, (fun y => wire_Slice N y.1.1 y.1.2.1 y.1.2.2.1)⟩
theorem wire_Slice_ctrs (N : Nat) : CtrsOk Tryd.prog (wire_Slice_C N) := ctrs_nil G_ifs_ok rfl
theorem wire_Slice_ok (N : Nat) : Ctr.ok Tryd.prog G_globs 162 (wire_Slice_ctr N) :=
 ctr_fn (Γ := wire_Slice_C N) (rfit := wire_Slice_S2) (bs := [false, false]) (res := [6, 7]) (by kernel_rfl) (tys_ok G_tys_ok) (wire_Slice_ctrs N) Tryd.func162 (by kernel_rfl) (by kernel_rfl) Tryd.ntmps162 (by kernel_rfl) (by kernel_rfl) (by kernel_rfl) (by kernel_rfl) (fun E hb => wire_Slice_b N hb)
/-! ipsecgate/wire.Number -/
abbrev wire_Number_R : Type := ((UInt64 × Bool × Unit) × (Unit))
def wire_Number_s3 (N : Nat) (v_10 : UInt64) (t_28 : (List UInt8)) (t_29 : Int) (t_30 : Int) : Option (Lo ((UInt64 × (List UInt8) × Int × Int × Unit) × (Unit)) ((UInt64 × Unit) × (Unit)) wire_Number_R) :=
 bif (decide (t_30 < t_29)) then
 bif inR t_30 t_28.length then
 some (.go ((((shl64 v_10 8) ||| (t_28.getD t_30.toNat (0 : UInt8)).toUInt64), t_28, t_29, (w64 (t_30 + (1 : Int))), ()), (())))
 else none
 else
 some (.br ((v_10, ()), (())))
def wire_Number_4 (N : Nat) (v_10 : UInt64) : Option wire_Number_R :=
 some ((v_10, true, ()), (()))
def wire_Number_2 (N : Nat) (v_10 : UInt64) (t_28 : (List UInt8)) (t_29 : Int) (t_30 : Int) : Option wire_Number_R :=
 loopK N (fun y => wire_Number_s3 N y.1.1 y.1.2.1 y.1.2.2.1 y.1.2.2.2.1) (fun (e : ((UInt64 × Unit) × (Unit))) => wire_Number_4 N e.1.1) ((v_10, t_28, t_29, t_30, ()), (()))
def wire_Number_1 (N : Nat) (b_0 : (List UInt8)) (at_1 : Int) (width_2 : Int) (t_18 : Bool) : Option wire_Number_R :=
 bif t_18 then
 some (((0 : UInt64), false, ()), (()))
 else
 Option.bind (wire_Slice N b_0 at_1 width_2) fun y2 =>
 bif (!y2.1.2.1) then
 some (((0 : UInt64), false, ()), (()))
 else
 wire_Number_2 N (0 : UInt64) y2.1.1 (y2.1.1.length : Int) (0 : Int)
def wire_Number (N : Nat) (b_0 : (List UInt8)) (at_1 : Int) (width_2 : Int) : Option wire_Number_R :=
 bif (decide (width_2 < (1 : Int))) then
 wire_Number_1 N b_0 at_1 width_2 true
 else
 wire_Number_1 N b_0 at_1 width_2 (decide ((8 : Int) < width_2))
def wire_Number_C (N : Nat) : Ctx := ⟨41, G_tys, [(162, wire_Slice_ctr N)], G_globs, G_ifs⟩
def wire_Number_S0 : Spec := ⟨[.val .u64, .val (.sl .u8), .val .i64, .val .i64], []⟩
def wire_Number_S1 : Spec := ⟨[.val .u64], []⟩
def wire_Number_S2 : Spec := ⟨[.val (.sl .u8), .val .i64, .val .i64, .val .bool], []⟩
def wire_Number_S3 : Spec := ⟨[.val (.sl .u8), .val .i64, .val .i64], []⟩
def wire_Number_S4 : Spec := ⟨[.val .u64, .val .bool], []⟩
def wire_Number_K (_N : Nat) : XE → GS → Option wire_Number_R := retK 0 [6, 7] [false, false] wire_Number_S4
def wire_Number_L : List Code := (bodyOf (some Tryd.f107))
def wire_Number_L3 : List Code := (loopOf (wire_Number_L[8]?))
def wire_Number_K3 (N : Nat) : XE → GS → Option (Lo ((UInt64 × (List UInt8) × Int × Int × Unit) × (Unit)) ((UInt64 × Unit) × (Unit)) wire_Number_R) := roundK (some 0) (fit 0 [10, 28, 29, 30] wire_Number_S0) (fit 0 [10] wire_Number_S1) (wire_Number_K N)
theorem wire_Number_s3_b {E : Env} (N : Nat) (hb : Base Tryd.prog (wire_Number_C N) E 0) : Blk Tryd.prog (wire_Number_C N) E [10, 28, 29, 30] wire_Number_S0 (wire_Number_L3.drop 0) (fun y => wire_Number_s3 N y.1.1 y.1.2.1 y.1.2.2.1 y.1.2.2.2.1) (wire_Number_K3 N) :=
 Blk.chunkAt hb 4 (X := (wire_Number_K3 N .normal)) (NxOk.end (by kernel_rfl)) rfl (fun x => by kernel_rfl)
theorem wire_Number_4_b {E : Env} (N : Nat) (hb : Base Tryd.prog (wire_Number_C N) E 0) : Blk Tryd.prog (wire_Number_C N) E [10] wire_Number_S1 (wire_Number_L.drop 9) (fun y => wire_Number_4 N y.1.1) (wire_Number_K N) :=
 Blk.chunkAt hb 2 (X := (wire_Number_K N .normal)) (NxOk.end (by kernel_rfl)) rfl (fun x => by kernel_rfl)
theorem wire_Number_2_b {E : Env} (N : Nat) (hb : Base Tryd.prog (wire_Number_C N) E 0) : Blk Tryd.prog (wire_Number_C N) E [10, 28, 29, 30] wire_Number_S0 (wire_Number_L.drop 8) (fun y => wire_Number_2 N y.1.1 y.1.2.1 y.1.2.2.1 y.1.2.2.2.1) (wire_Number_K N) :=
 Blk.loopAt (Nf := N) (hns := [10, 28, 29, 30]) (ans := [10]) (hc := wire_Number_S0) (ac := wire_Number_S1) (bid := 0) (step := (fun y => wire_Number_s3 N y.1.1 y.1.2.1 y.1.2.2.1 y.1.2.2.2.1)) (J := (fun e => (goK 0 [10] wire_Number_S1 (fun y => wire_Number_4 N y.1.1)) (wire_Number_S1.st [10] e))) hb (by kernel_rfl) (Blk.into (X := (goK 0 [10] wire_Number_S1 (fun y => wire_Number_4 N y.1.1))) (NxOk.go hb (wire_Number_4_b N hb)) (fun x => by kernel_rfl)) (wire_Number_s3_b N hb) (fun x => by kernel_rfl)
theorem wire_Number_1_b {E : Env} (N : Nat) (hb : Base Tryd.prog (wire_Number_C N) E 0) : Blk Tryd.prog (wire_Number_C N) E [0, 1, 2, 18] wire_Number_S2 (wire_Number_L.drop 2) (fun y => wire_Number_1 N y.1.1 y.1.2.1 y.1.2.2.1 y.1.2.2.2.1) (wire_Number_K N) :=
 Blk.chunkAt hb 6 (X := (goK 0 [10, 28, 29, 30] wire_Number_S0 (fun y => wire_Number_2 N y.1.1 y.1.2.1 y.1.2.2.1 y.1.2.2.2.1))) (NxOk.go hb (wire_Number_2_b N hb)) rfl (fun x => by kernel_rfl)
theorem wire_Number_b {E : Env} (N : Nat) (hb : Base Tryd.prog (wire_Number_C N) E 0) : Blk Tryd.prog (wire_Number_C N) E (List.range wire_Number_S3.ks.length) wire_Number_S3 (wire_Number_L.drop 0) (fun y => wire_Number N y.1.1 y.1.2.1 y.1.2.2.1) (wire_Number_K N) :=
 Blk.chunkAt hb 2 (X := (goK 0 [0, 1, 2, 18] wire_Number_S2 (fun y => wire_Number_1 N y.1.1 y.1.2.1 y.1.2.2.1 y.1.2.2.2.1))) (NxOk.go hb (wire_Number_1_b N hb)) rfl (fun x => by kernel_rfl)
def wire_Number_ctr (N : Nat) : Ctr := ⟨wire_Number_S3, wire_Number_S4.un [false, false], 0, (fun y => wire_Number N y.1.1 y.1.2.1 y.1.2.2.1)⟩
theorem wire_Number_ctrs (N : Nat) : CtrsOk Tryd.prog (wire_Number_C N) := ctrs_of (Γ := wire_Number_C N) G_ifs_ok (by
 intro p hp
 simp only [wire_Number_C, List.mem_cons, List.not_mem_nil, or_false] at hp
 rcases hp with rfl
 · exact wire_Slice_ok N)
theorem wire_Number_ok (N : Nat) : Ctr.ok Tryd.prog G_globs 107 (wire_Number_ctr N) :=
 ctr_fn (Γ := wire_Number_C N) (rfit := wire_Number_S4) (bs := [false, false]) (res := [6, 7]) (by kernel_rfl) (tys_ok G_tys_ok) (wire_Number_ctrs N) Tryd.func107 (by kernel_rfl) (by kernel_rfl) Tryd.ntmps107 (by kernel_rfl) (by kernel_rfl) (by kernel_rfl) (by kernel_rfl) (fun E hb => wire_Number_b N hb)
/-! (*ipsecgate/header.cursor).take -/
abbrev header_cursor_take_R : Type := ((UInt64 × Unit) × (D236 × Unit))
def header_cursor_take_1 (N : Nat) (width_1 : Int) (v_5 : UInt64) (p0 : D236) : Option header_cursor_take_R :=
 bif p0.2.2.1 then
 some (((0 : UInt64), ()), (p0, ()))
 else
 some ((v_5, ()), ((p0.1, (w64 (p0.2.1 + width_1)), p0.2.2.1, ()), ()))
def header_cursor_take (N : Nat) (width_1 : Int) (c_0 : D236) : Option header_cursor_take_R :=
 Option.bind (wire_Number N c_0.1 c_0.2.1 width_1) fun y1 =>
 bif c_0.2.2.1 then
 header_cursor_take_1 N width_1 y1.1.1 (c_0.1, c_0.2.1, true, ())
 else
 header_cursor_take_1 N width_1 y1.1.1 (c_0.1, c_0.2.1, (!y1.1.2.1), ())
def header_cursor_take_C (N : Nat) : Ctx := ⟨44, G_tys, [(107, wire_Number_ctr N)], G_globs, G_ifs⟩
def header_cursor_take_S0 : Spec := ⟨[.ref 0 T236, .val .i64, .val .u64], [(.box 236 T236, .fix 0)]⟩
def header_cursor_take_S1 : Spec := ⟨[.ref 0 T236, .val .i64], [(.box 236 T236, .pos 0)]⟩
def header_cursor_take_S2 : Spec := ⟨[.val .u64], [(.box 236 T236, .fix 0)]⟩
def header_cursor_take_K (_N : Nat) : XE → GS → Option header_cursor_take_R := retK 1 [4] [false] header_cursor_take_S2
def header_cursor_take_L : List Code := (bodyOf (some Tryd.f205))
theorem header_cursor_take_1_b {E : Env} (N : Nat) (hb : Base Tryd.prog (header_cursor_take_C N) E 1) : Blk Tryd.prog (header_cursor_take_C N) E [0, 1, 5] header_cursor_take_S0 (header_cursor_take_L.drop 3) (fun y => header_cursor_take_1 N y.1.1 y.1.2.1 y.2.1) (header_cursor_take_K N) :=
 Blk.chunkAt hb 5 (X := (header_cursor_take_K N .normal)) (NxOk.end (by kernel_rfl)) rfl (fun x => by kernel_rfl)
theorem header_cursor_take_b {E : Env} (N : Nat) (hb : Base Tryd.prog (header_cursor_take_C N) E 1) : Blk Tryd.prog (header_cursor_take_C N) E (List.range header_cursor_take_S1.ks.length) header_cursor_take_S1 (header_cursor_take_L.drop 0) (fun y => header_cursor_take N y.1.1 y.2.1) (header_cursor_take_K N) :=
 Blk.chunkAt hb 3 (X := (goK 1 [0, 1, 5] header_cursor_take_S0 (fun y => header_cursor_take_1 N y.1.1 y.1.2.1 y.2.1))) (NxOk.go hb (header_cursor_take_1_b N hb)) rfl (fun x => by kernel_rfl)
def header_cursor_take_ctr (N : Nat) : Ctr := ⟨header_cursor_take_S1, header_cursor_take_S2.un [false], 1, (fun y => header_cursor_take N y.1.1 y.2.1)⟩
theorem header_cursor_take_ctrs (N : Nat) : CtrsOk Tryd.prog (header_cursor_take_C N) := ctrs_of (Γ := header_cursor_take_C N) G_ifs_ok (by
 intro p hp
 simp only [header_cursor_take_C, List.mem_cons, List.not_mem_nil, or_false] at hp
 rcases hp with rfl
 · exact wire_Number_ok N)
theorem header_cursor_take_ok (N : Nat) : Ctr.ok Tryd.prog G_globs 205 (header_cursor_take_ctr N) :=
 ctr_fn (Γ := header_cursor_take_C N) (rfit := header_cursor_take_S2) (bs := [false]) (res := [4]) (by kernel_rfl) (tys_ok G_tys_ok) (header_cursor_take_ctrs N) Tryd.func205 (by kernel_rfl) (by kernel_rfl) Tryd.ntmps205 (by kernel_rfl) (by kernel_rfl) (by kernel_rfl) (by kernel_rfl) (fun E hb => header_cursor_take_b N hb)
/-! ipsecgate/header.Parse -/
abbrev header_Parse_R : Type := ((D75 × Int × Unit) × (Unit))
def header_Parse_1 (N : Nat) (e_8 : Int) (t_2 : D75) (h_5 : D75) : Option header_Parse_R :=
 bif (!(decide (e_8 = (0 : Int)))) then
 some ((((0 : UInt64), (0 : UInt64), (0 : Int), (0 : Int), (0 : Int), (0 : UInt32), ()), e_8, ()), (()))
 else
 some ((h_5, (0 : Int), ()), (()))
def header_Parse (N : Nat) (b_0 : (List UInt8)) : Option header_Parse_R :=
 Option.bind (header_cursor_take N (8 : Int) (b_0, (0 : Int), false, ())) fun y1 =>
 Option.bind (header_cursor_take N (8 : Int) y1.2.1) fun y2 =>
 Option.bind (header_cursor_take N (1 : Int) y2.2.1) fun y3 =>
 let x4 := w64 (y3.1.1.toNat : Int)
 Option.bind (header_cursor_take N (1 : Int) y3.2.1) fun y5 =>
 Option.bind (header_cursor_take N (1 : Int) y5.2.1) fun y6 =>
 let x7 := w64 (y6.1.1.toNat : Int)
 Option.bind (header_cursor_take N (1 : Int) y6.2.1) fun y8 =>
 let x10 := and64 (w64 (y8.1.1.toNat : Int)) (56 : Int)
 Option.bind (header_cursor_take N (4 : Int) y8.2.1) fun y11 =>
 Option.bind (header_cursor_take N (4 : Int) y11.2.1) fun y12 =>
 Option.bind (header_Check N (y1.1.1, y2.1.1, x4, x7, x10, y11.1.1.toUInt32, ())) fun y13 =>
 bif y12.2.1.2.2.1 then
 header_Parse_1 N (1 : Int) ((0 : UInt64), (0 : UInt64), (0 : Int), (0 : Int), (0 : Int), (0 : UInt32), ()) (y1.1.1, y2.1.1, x4, x7, x10, y11.1.1.toUInt32, ())
 else
 bif (!(decide ((y5.1.1 / (16 : UInt64)) = (2 : UInt64)))) then
 header_Parse_1 N (3 : Int) ((0 : UInt64), (0 : UInt64), (0 : Int), (0 : Int), (0 : Int), (0 : UInt32), ()) (y1.1.1, y2.1.1, x4, x7, x10, y11.1.1.toUInt32, ())
 else
 bif (!(decide (y12.1.1 = (iu64 (b_0.length : Int))))) then
 header_Parse_1 N (2 : Int) ((0 : UInt64), (0 : UInt64), (0 : Int), (0 : Int), (0 : Int), (0 : UInt32), ()) (y1.1.1, y2.1.1, x4, x7, x10, y11.1.1.toUInt32, ())
 else
 header_Parse_1 N y13.1.1 ((0 : UInt64), (0 : UInt64), (0 : Int), (0 : Int), (0 : Int), (0 : UInt32), ()) (y1.1.1, y2.1.1, x4, x7, x10, y11.1.1.toUInt32, ())
def header_Parse_C (N : Nat) : Ctx := ⟨59, G_tys, [(205, header_cursor_take_ctr N), (118, header_Check_ctr N)], G_globs, G_ifs⟩
def header_Parse_S0 : Spec := ⟨[.ref 0 T75, .ref 1 T75, .val .i64], [(.box 76 T75, .pos 0), (.box 76 T75, .pos 1)]⟩
def header_Parse_S1 : Spec := ⟨[.val (.sl .u8)], []⟩
def header_Parse_S2 : Spec := ⟨[.fp T75, .val .i64], []⟩
def header_Parse_K (_N : Nat) : XE → GS → Option header_Parse_R := retK 0 [2, 3] [true, false] header_Parse_S2
def header_Parse_L : List Code := (bodyOf (some Tryd.f171))
theorem header_Parse_1_b {E : Env} (N : Nat) (hb : Base Tryd.prog (header_Parse_C N) E 0) : Blk Tryd.prog (header_Parse_C N) E [2, 5, 8] header_Parse_S0 (header_Parse_L.drop 8) (fun y => header_Parse_1 N y.1.1 y.2.1 y.2.2.1) (header_Parse_K N) :=
 Blk.chunkAt hb 4 (X := (header_Parse_K N .normal)) (NxOk.end (by kernel_rfl)) rfl (fun x => by kernel_rfl)
theorem header_Parse_b {E : Env} (N : Nat) (hb : Base Tryd.prog (header_Parse_C N) E 0) : Blk Tryd.prog (header_Parse_C N) E (List.range header_Parse_S1.ks.length) header_Parse_S1 (header_Parse_L.drop 0) (fun y => header_Parse N y.1.1) (header_Parse_K N) :=
 Blk.chunkAt hb 8 (X := (goK 0 [2, 5, 8] header_Parse_S0 (fun y => header_Parse_1 N y.1.1 y.2.1 y.2.2.1))) (NxOk.go hb (header_Parse_1_b N hb)) rfl (fun x => by kernel_rfl)
def header_Parse_ctr (N : Nat) : Ctr := ⟨header_Parse_S1, header_Parse_S2.un [true, false], 0, (fun y => header_Parse N y.1.1)⟩
theorem header_Parse_ctrs (N : Nat) : CtrsOk Tryd.prog (header_Parse_C N) := ctrs_of (Γ := header_Parse_C N) G_ifs_ok (by
 intro p hp
 simp only [header_Parse_C, List.mem_cons, List.not_mem_nil, or_false] at hp
 rcases hp with rfl | rfl
 · exact header_cursor_take_ok N
 · exact header_Check_ok N)
theorem header_Parse_ok (N : Nat) : Ctr.ok Tryd.prog G_globs 171 (header_Parse_ctr N) :=
 ctr_fn (Γ := header_Parse_C N) (rfit := header_Parse_S2) (bs := [true, false]) (res := [2, 3]) (by kernel_rfl) (tys_ok G_tys_ok) (header_Parse_ctrs N) Tryd.func171 (by kernel_rfl) (by kernel_rfl) Tryd.ntmps171 (by kernel_rfl) (by kernel_rfl) (by kernel_rfl) (by kernel_rfl) (fun E hb => header_Parse_b N hb)
/-! ipsecgate/chain.read -/
abbrev chain_read_R : Type := ((D242 × Unit) × (Unit))
def chain_read_1 (N : Nat) (kind_0 : Int) (b_1 : (List UInt8)) (n_5 : UInt64) (t_25 : Bool) (t_4 : D242) : Option chain_read_R :=
 bif t_25 then
 some (((((0 : Int), false, ([] : List UInt8), ()), (0 : Int), ([] : List UInt8), (2 : Int), ()), ()), (()))
 else
 bif inR (1 : Int) b_1.length then
 bif decide (0 ≤ (4 : Int)) && decide ((4 : Int) ≤ (n_5.toNat : Int)) && decide ((n_5.toNat : Int) ≤ (b_1.length : Int)) && true then
 let x8 := cut b_1 4 ((n_5.toNat : Int).toNat)
 bif room (0 + x8.length) 1 then
 bif inR (0 : Int) b_1.length then
 bif decide (0 ≤ (n_5.toNat : Int)) && decide ((n_5.toNat : Int) ≤ (b_1.length : Int)) && decide ((b_1.length : Int) ≤ (b_1.length : Int)) && true then
 some ((((kind_0, (!(decide (((b_1.getD 1 (0 : UInt8)) &&& (128 : UInt8)) = (0 : UInt8)))), x8, ()), ((b_1.getD 0 (0 : UInt8)).toNat : Int), (cut b_1 ((n_5.toNat : Int).toNat) b_1.length), (0 : Int), ()), ()), (()))
 else none
 else none
 else none
 else none
 else none
def chain_read (N : Nat) (kind_0 : Int) (b_1 : (List UInt8)) : Option chain_read_R :=
 bif (decide ((b_1.length : Int) < (4 : Int))) then
 some (((((0 : Int), false, ([] : List UInt8), ()), (0 : Int), ([] : List UInt8), (1 : Int), ()), ()), (()))
 else
 Option.bind (wire_Number N b_1 (2 : Int) (2 : Int)) fun y3 =>
 bif (decide (y3.1.1 < (4 : UInt64))) then
 chain_read_1 N kind_0 b_1 y3.1.1 true (((0 : Int), false, ([] : List UInt8), ()), (0 : Int), ([] : List UInt8), (0 : Int), ())
 else
 chain_read_1 N kind_0 b_1 y3.1.1 (decide ((iu64 (b_1.length : Int)) < y3.1.1)) (((0 : Int), false, ([] : List UInt8), ()), (0 : Int), ([] : List UInt8), (0 : Int), ())
def chain_read_C (N : Nat) : Ctx := ⟨47, G_tys, [(107, wire_Number_ctr N)], G_globs, G_ifs⟩
def chain_read_S0 : Spec := ⟨[.val .i64, .val (.sl .u8), .ref 0 T242, .val .u64, .val .bool], [(.box 242 T242, .pos 2)]⟩
def chain_read_S1 : Spec := ⟨[.val .i64, .val (.sl .u8)], []⟩
def chain_read_S2 : Spec := ⟨[.fp T242], []⟩
def chain_read_K (_N : Nat) : XE → GS → Option chain_read_R := retK 0 [4] [true] chain_read_S2
def chain_read_L : List Code := (bodyOf (some Tryd.f225))
theorem chain_read_1_b {E : Env} (N : Nat) (hb : Base Tryd.prog (chain_read_C N) E 0) : Blk Tryd.prog (chain_read_C N) E [0, 1, 4, 5, 25] chain_read_S0 (chain_read_L.drop 5) (fun y => chain_read_1 N y.1.1 y.1.2.1 y.1.2.2.1 y.1.2.2.2.1 y.2.1) (chain_read_K N) :=
 Blk.chunkAt hb 4 (X := (chain_read_K N .normal)) (NxOk.end (by kernel_rfl)) rfl (fun x => by kernel_rfl)
theorem chain_read_b {E : Env} (N : Nat) (hb : Base Tryd.prog (chain_read_C N) E 0) : Blk Tryd.prog (chain_read_C N) E (List.range chain_read_S1.ks.length) chain_read_S1 (chain_read_L.drop 0) (fun y => chain_read N y.1.1 y.1.2.1) (chain_read_K N) :=
 Blk.chunkAt hb 5 (X := (goK 0 [0, 1, 4, 5, 25] chain_read_S0 (fun y => chain_read_1 N y.1.1 y.1.2.1 y.1.2.2.1 y.1.2.2.2.1 y.2.1))) (NxOk.go hb (chain_read_1_b N hb)) rfl (fun x => by kernel_rfl)
def chain_read_ctr (N : Nat) : Ctr := ⟨chain_read_S1, chain_read_S2.un [true], 0, (fun y => chain_read N y.1.1 y.1.2.1)⟩
theorem chain_read_ctrs (N : Nat) : CtrsOk Tryd.prog (chain_read_C N) := ctrs_of (Γ := chain_read_C N) G_ifs_ok (by
 intro p hp
 simp only [chain_read_C, List.mem_cons, List.not_mem_nil, or_false] at hp
 rcases hp with rfl
 · exact wire_Number_ok N)
theorem chain_read_ok (N : Nat) : Ctr.ok Tryd.prog G_globs 225 (chain_read_ctr N) :=
 ctr_fn (Γ := chain_read_C N) (rfit := chain_read_S2) (bs := [true]) (res := [4]) (by kernel_rfl) (tys_ok G_tys_ok) (chain_read_ctrs N) Tryd.func225 (by kernel_rfl) (by kernel_rfl) Tryd.ntmps225 (by kernel_rfl) (by kernel_rfl) (by kernel_rfl) (by kernel_rfl) (fun E hb => chain_read_b N hb)
/-! ipsecgate/chain.last -/
abbrev chain_last_R : Type := ((Bool × Unit) × (Unit))
def chain_last (N : Nat) (kind_0 : Int) : Option chain_last_R :=
 bif (decide (kind_0 = (46 : Int))) then
 some ((true, ()), (()))
 else
 some (((decide (kind_0 = (53 : Int))), ()), (()))
def chain_last_C (N : Nat) : Ctx := ⟨9, G_tys, [], G_globs, G_ifs⟩
def chain_last_S0 : Spec := ⟨[.val .i64], []⟩
def chain_last_S1 : Spec := ⟨[.val .bool], []⟩
def chain_last_K (_N : Nat) : XE → GS → Option chain_last_R := retK 0 [2] [false] chain_last_S1
def chain_last_L : List Code := (bodyOf (some Tryd.f207))
theorem chain_last_b {E : Env} (N : Nat) (hb : Base Tryd.prog (chain_last_C N) E 0) : Blk Tryd.prog (chain_last_C N) E (List.range chain_last_S0.ks.length) chain_last_S0 (chain_last_L.drop 0) (fun y => chain_last N y.1.1) (chain_last_K N) :=
 Blk.chunkAt hb 3 (X := (chain_last_K N .normal)) (NxOk.end (by kernel_rfl)) rfl (fun x => by kernel_rfl)
def chain_last_ctr (N : Nat) : Ctr := ⟨chain_last_S0, chain_last_S1.un [false], 0, (fun y => chain_last N y.1.1)⟩
theorem chain_last_ctrs (N : Nat) : CtrsOk Tryd.prog (chain_last_C N) := ctrs_nil G_ifs_ok rfl
theorem chain_last_ok (N : Nat) : Ctr.ok Tryd.prog G_globs 207 (chain_last_ctr N) :=
 ctr_fn (Γ := chain_last_C N) (rfit := chain_last_S1) (bs := [false]) (res := [2]) (by kernel_rfl) (tys_ok G_tys_ok) (chain_last_ctrs N) Tryd.func207 (by kernel_rfl) (by kernel_rfl) Tryd.ntmps207 (by kernel_rfl) (by kernel_rfl) (by kernel_rfl) (by kernel_rfl) (fun E hb => chain_last_b N hb)
end
end Go.Proofs.YtofajgidjkjnpaaDoor