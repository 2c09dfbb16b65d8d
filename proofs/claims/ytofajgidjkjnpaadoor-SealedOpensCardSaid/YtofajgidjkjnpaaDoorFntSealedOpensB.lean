/- Functions of the program as plain functions, each with the proof that the text computes it. -/
import Derived.Test.YtofajgidjkjnpaaDoorFnsSealedOpensA
import Derived.Test.YtofajgidjkjnpaaDoorFntSealedOpensA
set_option linter.unusedVariables false
set_option linter.unusedSimpArgs false
namespace Go.Proofs.YtofajgidjkjnpaaDoor
open Go
set_option maxRecDepth 100000
set_option linter.unusedVariables false
noncomputable section
/-! ipsecgate/ipsecgateref17.body -/
abbrev ref17_body_R : Type := ((D75 × Int × (List UInt8) × Int × Unit) × (Unit))
def ref17_body (N : Nat) (b_0 : (List UInt8)) (key_1 : (List UInt8)) (kind_2 : Int) : Option ref17_body_R :=
 bif (!(decide ((key_1.length : Int) = (36 : Int)))) then
 some ((((0 : UInt64), (0 : UInt64), (0 : Int), (0 : Int), (0 : Int), (0 : UInt32), ()), (0 : Int), ([] : List UInt8), (13 : Int), ()), (()))
 else
 Option.bind (ref02_Parse N b_0) fun y3 =>
 bif (!(decide (y3.1.2.1 = (0 : Int)))) then
 some ((((0 : UInt64), (0 : UInt64), (0 : Int), (0 : Int), (0 : Int), (0 : UInt32), ()), (0 : Int), ([] : List UInt8), y3.1.2.1, ()), (()))
 else
 bif (!(decide (y3.1.1.2.2.1 = kind_2))) then
 some ((((0 : UInt64), (0 : UInt64), (0 : Int), (0 : Int), (0 : Int), (0 : UInt32), ()), (0 : Int), ([] : List UInt8), (7 : Int), ()), (()))
 else
 bif decide (0 ≤ (28 : Int)) && decide ((28 : Int) ≤ (b_0.length : Int)) && decide ((b_0.length : Int) ≤ (b_0.length : Int)) && true then
 Option.bind (ref03_Parse N y3.1.1.2.2.1 (cut b_0 28 b_0.length)) fun y7 =>
 bif (!(decide (y7.1.2.1 = (0 : Int)))) then
 some ((((0 : UInt64), (0 : UInt64), (0 : Int), (0 : Int), (0 : Int), (0 : UInt32), ()), (0 : Int), ([] : List UInt8), y7.1.2.1, ()), (()))
 else
 bif inR (0 : Int) y7.2.1.length then
 some ((y3.1.1, y7.1.1, ((y7.2.1.getD 0 ((0 : Int), false, ([] : List UInt8), ())).2.2.1), (0 : Int), ()), (()))
 else none
 else none
def ref17_body_C (N : Nat) : Ctx := ⟨51, G_tys, [(173, ref02_Parse_ctr N), (174, ref03_Parse_ctr N)], G_globs, G_ifs⟩
def ref17_body_S0 : Spec := ⟨[.val (.sl .u8), .val (.sl .u8), .val .i64], []⟩
def ref17_body_S1 : Spec := ⟨[.fp T75, .val .i64, .val (.sl .u8), .val .i64], []⟩
def ref17_body_K (_N : Nat) : XE → GS → Option ref17_body_R := retK 0 [6, 7, 8, 9] [true, false, false, false] ref17_body_S1
def ref17_body_L : List Code := (bodyOf (some Tryd.f129))
theorem ref17_body_b {E : Env} (N : Nat) (hb : Base Tryd.prog (ref17_body_C N) E 0) : Blk Tryd.prog (ref17_body_C N) E (List.range ref17_body_S0.ks.length) ref17_body_S0 (ref17_body_L.drop 0) (fun y => ref17_body N y.1.1 y.1.2.1 y.1.2.2.1) (ref17_body_K N) :=
 Blk.chunkAt hb 13 (X := (ref17_body_K N .normal)) (NxOk.end (by kernel_rfl)) rfl (fun x => by kernel_rfl)
def ref17_body_ctr (N : Nat) : Ctr := ⟨ref17_body_S0, ref17_body_S1.un [true, false, false, false], 0, (fun y => ref17_body N y.1.1 y.1.2.1 y.1.2.2.1)⟩
theorem ref17_body_ctrs (N : Nat) : CtrsOk Tryd.prog (ref17_body_C N) := ctrs_of (Γ := ref17_body_C N) G_ifs_ok (by
 intro p hp
 simp only [ref17_body_C, List.mem_cons, List.not_mem_nil, or_false] at hp
 rcases hp with rfl | rfl
 · exact ref02_Parse_ok N
 · exact ref03_Parse_ok N)
theorem ref17_body_ok (N : Nat) : Ctr.ok Tryd.prog G_globs 129 (ref17_body_ctr N) :=
 ctr_fn (Γ := ref17_body_C N) (rfit := ref17_body_S1) (bs := [true, false, false, false]) (res := [6, 7, 8, 9]) (by kernel_rfl) (tys_ok G_tys_ok) (ref17_body_ctrs N) Tryd.func129 (by kernel_rfl) (by kernel_rfl) Tryd.ntmps129 (by kernel_rfl) (by kernel_rfl) (by kernel_rfl) (by kernel_rfl) (fun E hb => ref17_body_b N hb)
/-! ipsecgate/ipsecgateref01.Compare -/
abbrev ref01_Compare_R : Type := ((Int × Unit) × (Unit))
def ref01_Compare_3 (N : Nat) (a_0 : (List UInt8)) (b_1 : (List UInt8)) (i_5 : Int) (t_15 : Bool) : Option (Lo (((List UInt8) × (List UInt8) × Int × Unit) × (Unit)) (((List UInt8) × (List UInt8) × Unit) × (Unit)) ref01_Compare_R) :=
 bif t_15 then
 bif inR i_5 a_0.length then
 bif inR i_5 b_1.length then
 bif (decide ((a_0.getD i_5.toNat (0 : UInt8)) < (b_1.getD i_5.toNat (0 : UInt8)))) then
 some (.rt (((-1 : Int), ()), (())))
 else
 bif inR i_5 a_0.length then
 bif inR i_5 b_1.length then
 bif (decide ((b_1.getD i_5.toNat (0 : UInt8)) < (a_0.getD i_5.toNat (0 : UInt8)))) then
 some (.rt (((1 : Int), ()), (())))
 else
 some (.go ((a_0, b_1, (w64 (i_5 + (1 : Int))), ()), (())))
 else none
 else none
 else none
 else none
 else
 some (.br ((a_0, b_1, ()), (())))
def ref01_Compare_s2 (N : Nat) (a_0 : (List UInt8)) (b_1 : (List UInt8)) (i_5 : Int) : Option (Lo (((List UInt8) × (List UInt8) × Int × Unit) × (Unit)) (((List UInt8) × (List UInt8) × Unit) × (Unit)) ref01_Compare_R) :=
 bif (decide (i_5 < (a_0.length : Int))) then
 ref01_Compare_3 N a_0 b_1 i_5 (decide (i_5 < (b_1.length : Int)))
 else
 ref01_Compare_3 N a_0 b_1 i_5 false
def ref01_Compare_4 (N : Nat) (a_0 : (List UInt8)) (b_1 : (List UInt8)) : Option ref01_Compare_R :=
 bif (decide ((a_0.length : Int) < (b_1.length : Int))) then
 some (((-1 : Int), ()), (()))
 else
 bif (decide ((b_1.length : Int) < (a_0.length : Int))) then
 some (((1 : Int), ()), (()))
 else
 some (((0 : Int), ()), (()))
def ref01_Compare_1 (N : Nat) (a_0 : (List UInt8)) (b_1 : (List UInt8)) (i_5 : Int) : Option ref01_Compare_R :=
 loopK N (fun y => ref01_Compare_s2 N y.1.1 y.1.2.1 y.1.2.2.1) (fun (e : (((List UInt8) × (List UInt8) × Unit) × (Unit))) => ref01_Compare_4 N e.1.1 e.1.2.1) ((a_0, b_1, i_5, ()), (()))
def ref01_Compare (N : Nat) (a_0 : (List UInt8)) (b_1 : (List UInt8)) : Option ref01_Compare_R :=
 ref01_Compare_1 N a_0 b_1 (0 : Int)
def ref01_Compare_C (N : Nat) : Ctx := ⟨48, G_tys, [], G_globs, G_ifs⟩
def ref01_Compare_S0 : Spec := ⟨[.val (.sl .u8), .val (.sl .u8), .val .i64, .val .bool], []⟩
def ref01_Compare_S1 : Spec := ⟨[.val (.sl .u8), .val (.sl .u8), .val .i64], []⟩
def ref01_Compare_S2 : Spec := ⟨[.val (.sl .u8), .val (.sl .u8)], []⟩
def ref01_Compare_S3 : Spec := ⟨[.val .i64], []⟩
def ref01_Compare_K (_N : Nat) : XE → GS → Option ref01_Compare_R := retK 0 [4] [false] ref01_Compare_S3
def ref01_Compare_L : List Code := (bodyOf (some Tryd.f95))
def ref01_Compare_L2 : List Code := (loopOf (ref01_Compare_L[2]?))
def ref01_Compare_K2 (N : Nat) : XE → GS → Option (Lo (((List UInt8) × (List UInt8) × Int × Unit) × (Unit)) (((List UInt8) × (List UInt8) × Unit) × (Unit)) ref01_Compare_R) := roundK (some 0) (fit 0 [0, 1, 5] ref01_Compare_S1) (fit 0 [0, 1] ref01_Compare_S2) (ref01_Compare_K N)
theorem ref01_Compare_3_b {E : Env} (N : Nat) (hb : Base Tryd.prog (ref01_Compare_C N) E 0) : Blk Tryd.prog (ref01_Compare_C N) E [0, 1, 5, 15] ref01_Compare_S0 (ref01_Compare_L2.drop 1) (fun y => ref01_Compare_3 N y.1.1 y.1.2.1 y.1.2.2.1 y.1.2.2.2.1) (ref01_Compare_K2 N) :=
 Blk.chunkAt hb 3 (X := (ref01_Compare_K2 N .normal)) (NxOk.end (by kernel_rfl)) rfl (fun x => by kernel_rfl)
theorem ref01_Compare_s2_b {E : Env} (N : Nat) (hb : Base Tryd.prog (ref01_Compare_C N) E 0) : Blk Tryd.prog (ref01_Compare_C N) E [0, 1, 5] ref01_Compare_S1 (ref01_Compare_L2.drop 0) (fun y => ref01_Compare_s2 N y.1.1 y.1.2.1 y.1.2.2.1) (ref01_Compare_K2 N) :=
 Blk.chunkAt hb 1 (X := (goK 0 [0, 1, 5, 15] ref01_Compare_S0 (fun y => ref01_Compare_3 N y.1.1 y.1.2.1 y.1.2.2.1 y.1.2.2.2.1))) (NxOk.go hb (ref01_Compare_3_b N hb)) rfl (fun x => by kernel_rfl)
theorem ref01_Compare_4_b {E : Env} (N : Nat) (hb : Base Tryd.prog (ref01_Compare_C N) E 0) : Blk Tryd.prog (ref01_Compare_C N) E [0, 1] ref01_Compare_S2 (ref01_Compare_L.drop 3) (fun y => ref01_Compare_4 N y.1.1 y.1.2.1) (ref01_Compare_K N) :=
 Blk.chunkAt hb 3 (X := (ref01_Compare_K N .normal)) (NxOk.end (by kernel_rfl)) rfl (fun x => by kernel_rfl)
theorem ref01_Compare_1_b {E : Env} (N : Nat) (hb : Base Tryd.prog (ref01_Compare_C N) E 0) : Blk Tryd.prog (ref01_Compare_C N) E [0, 1, 5] ref01_Compare_S1 (ref01_Compare_L.drop 2) (fun y => ref01_Compare_1 N y.1.1 y.1.2.1 y.1.2.2.1) (ref01_Compare_K N) :=
 Blk.loopAt (Nf := N) (hns := [0, 1, 5]) (ans := [0, 1]) (hc := ref01_Compare_S1) (ac := ref01_Compare_S2) (bid := 0) (step := (fun y => ref01_Compare_s2 N y.1.1 y.1.2.1 y.1.2.2.1)) (J := (fun e => (goK 0 [0, 1] ref01_Compare_S2 (fun y => ref01_Compare_4 N y.1.1 y.1.2.1)) (ref01_Compare_S2.st [0, 1] e))) hb (by kernel_rfl) (Blk.into (X := (goK 0 [0, 1] ref01_Compare_S2 (fun y => ref01_Compare_4 N y.1.1 y.1.2.1))) (NxOk.go hb (ref01_Compare_4_b N hb)) (fun x => by kernel_rfl)) (ref01_Compare_s2_b N hb) (fun x => by kernel_rfl)
theorem ref01_Compare_b {E : Env} (N : Nat) (hb : Base Tryd.prog (ref01_Compare_C N) E 0) : Blk Tryd.prog (ref01_Compare_C N) E (List.range ref01_Compare_S2.ks.length) ref01_Compare_S2 (ref01_Compare_L.drop 0) (fun y => ref01_Compare N y.1.1 y.1.2.1) (ref01_Compare_K N) :=
 Blk.chunkAt hb 2 (X := (goK 0 [0, 1, 5] ref01_Compare_S1 (fun y => ref01_Compare_1 N y.1.1 y.1.2.1 y.1.2.2.1))) (NxOk.go hb (ref01_Compare_1_b N hb)) rfl (fun x => by kernel_rfl)
def ref01_Compare_ctr (N : Nat) : Ctr := ⟨ref01_Compare_S2, ref01_Compare_S3.un [false], 0, (fun y => ref01_Compare N y.1.1 y.1.2.1)⟩
theorem ref01_Compare_ctrs (N : Nat) : CtrsOk Tryd.prog (ref01_Compare_C N) := ctrs_nil G_ifs_ok rfl
theorem ref01_Compare_ok (N : Nat) : Ctr.ok Tryd.prog G_globs 95 (ref01_Compare_ctr N) :=
 ctr_fn (Γ := ref01_Compare_C N) (rfit := ref01_Compare_S3) (bs := [false]) (res := [4]) (by kernel_rfl) (tys_ok G_tys_ok) (ref01_Compare_ctrs N) Tryd.func95 (by kernel_rfl) (by kernel_rfl) Tryd.ntmps95 (by kernel_rfl) (by kernel_rfl) (by kernel_rfl) (by kernel_rfl) (fun E hb => ref01_Compare_b N hb)
/-! ipsecgate/ipsecgateref01.Equal -/
abbrev ref01_Equal_R : Type := ((Bool × Unit) × (Unit))
def ref01_Equal (N : Nat) (a_0 : (List UInt8)) (b_1 : (List UInt8)) : Option ref01_Equal_R :=
 Option.bind (ref01_Compare N a_0 b_1) fun y1 =>
 some (((decide (y1.1.1 = (0 : Int))), ()), (()))
def ref01_Equal_C (N : Nat) : Ctx := ⟨9, G_tys, [(95, ref01_Compare_ctr N)], G_globs, G_ifs⟩
def ref01_Equal_S0 : Spec := ⟨[.val (.sl .u8), .val (.sl .u8)], []⟩
def ref01_Equal_S1 : Spec := ⟨[.val .bool], []⟩
def ref01_Equal_K (_N : Nat) : XE → GS → Option ref01_Equal_R := retK 0 [4] [false] ref01_Equal_S1
def ref01_Equal_L : List Code := (bodyOf (some Tryd.f21))
theorem ref01_Equal_b {E : Env} (N : Nat) (hb : Base Tryd.prog (ref01_Equal_C N) E 0) : Blk Tryd.prog (ref01_Equal_C N) E (List.range ref01_Equal_S0.ks.length) ref01_Equal_S0 (ref01_Equal_L.drop 0) (fun y => ref01_Equal N y.1.1 y.1.2.1) (ref01_Equal_K N) :=
 Blk.chunkAt hb 3 (X := (ref01_Equal_K N .normal)) (NxOk.end (by kernel_rfl)) rfl (fun x => by kernel_rfl)
def ref01_Equal_ctr (N : Nat) : Ctr := ⟨ref01_Equal_S0, ref01_Equal_S1.un [false], 0, (fun y => ref01_Equal N y.1.1 y.1.2.1)⟩
theorem ref01_Equal_ctrs (N : Nat) : CtrsOk Tryd.prog (ref01_Equal_C N) := ctrs_of (Γ := ref01_Equal_C N) G_ifs_ok (by
 intro p hp
 simp only [ref01_Equal_C, List.mem_cons, List.not_mem_nil, or_false] at hp
 rcases hp with rfl
 · exact ref01_Compare_ok N)
theorem ref01_Equal_ok (N : Nat) : Ctr.ok Tryd.prog G_globs 21 (ref01_Equal_ctr N) :=
 ctr_fn (Γ := ref01_Equal_C N) (rfit := ref01_Equal_S1) (bs := [false]) (res := [4]) (by kernel_rfl) (tys_ok G_tys_ok) (ref01_Equal_ctrs N) Tryd.func21 (by kernel_rfl) (by kernel_rfl) Tryd.ntmps21 (by kernel_rfl) (by kernel_rfl) (by kernel_rfl) (by kernel_rfl) (fun E hb => ref01_Equal_b N hb)
/-! ipsecgate/ipsecgateref12.Open -/
abbrev ref12_Open_R : Type := ((Int × Unit) × ((List UInt8) × Unit))
def ref12_Open_1 (N : Nat) (key_0 : (List UInt8)) (nonce_1 : (List UInt8)) (data_2 : (List UInt8)) (sealed_3 : (List UInt8)) (t_22 : Bool) : Option ref12_Open_R :=
 bif t_22 then
 some (((13 : Int), ()), (([] : List UInt8), ()))
 else
 bif (decide ((sealed_3.length : Int) < (16 : Int))) then
 some (((1 : Int), ()), (([] : List UInt8), ()))
 else
 let x6 := w64 ((sealed_3.length : Int) - (16 : Int))
 bif decide (0 ≤ (0 : Int)) && decide ((0 : Int) ≤ x6) && decide (x6 ≤ (sealed_3.length : Int)) && true then
 Option.bind (ref12_Tag N key_0 nonce_1 data_2 (cut sealed_3 0 x6.toNat)) fun y8 =>
 bif decide (0 ≤ x6) && decide (x6 ≤ (sealed_3.length : Int)) && decide ((sealed_3.length : Int) ≤ (sealed_3.length : Int)) && true then
 Option.bind (ref01_Equal N y8.2.1 (cut sealed_3 x6.toNat sealed_3.length)) fun y10 =>
 bif (!y10.1.1) then
 some (((12 : Int), ()), (([] : List UInt8), ()))
 else
 bif decide (0 ≤ (0 : Int)) && decide ((0 : Int) ≤ x6) && decide (x6 ≤ (sealed_3.length : Int)) && true then
 Option.bind (ref10_Xor N key_0 (1 : UInt32) nonce_1 (cut sealed_3 0 x6.toNat)) fun y13 =>
 some (((0 : Int), ()), (y13.2.1, ()))
 else none
 else none
 else none
def ref12_Open (N : Nat) (key_0 : (List UInt8)) (nonce_1 : (List UInt8)) (data_2 : (List UInt8)) (sealed_3 : (List UInt8)) : Option ref12_Open_R :=
 bif (!(decide ((key_0.length : Int) = (32 : Int)))) then
 ref12_Open_1 N key_0 nonce_1 data_2 sealed_3 true
 else
 ref12_Open_1 N key_0 nonce_1 data_2 sealed_3 (!(decide ((nonce_1.length : Int) = (12 : Int))))
def ref12_Open_C (N : Nat) : Ctx := ⟨55, G_tys, [(160, ref12_Tag_ctr N), (21, ref01_Equal_ctr N), (159, ref10_Xor_ctr N)], G_globs, G_ifs⟩
def ref12_Open_S0 : Spec := ⟨[.val (.sl .u8), .val (.sl .u8), .val (.sl .u8), .val (.sl .u8), .val .bool], []⟩
def ref12_Open_S1 : Spec := ⟨[.val (.sl .u8), .val (.sl .u8), .val (.sl .u8), .val (.sl .u8)], []⟩
def ref12_Open_S2 : Spec := ⟨[.row 0, .val .i64], [(.row 5 .u8, .pos 0)]⟩
def ref12_Open_K (_N : Nat) : XE → GS → Option ref12_Open_R := retK 0 [8, 9] [false, false] ref12_Open_S2
def ref12_Open_L : List Code := (bodyOf (some Tryd.f106))
theorem ref12_Open_1_b {E : Env} (N : Nat) (hb : Base Tryd.prog (ref12_Open_C N) E 0) : Blk Tryd.prog (ref12_Open_C N) E [0, 1, 2, 3, 22] ref12_Open_S0 (ref12_Open_L.drop 2) (fun y => ref12_Open_1 N y.1.1 y.1.2.1 y.1.2.2.1 y.1.2.2.2.1 y.1.2.2.2.2.1) (ref12_Open_K N) :=
 Blk.chunkAt hb 10 (X := (ref12_Open_K N .normal)) (NxOk.end (by kernel_rfl)) rfl (fun x => by kernel_rfl)
theorem ref12_Open_b {E : Env} (N : Nat) (hb : Base Tryd.prog (ref12_Open_C N) E 0) : Blk Tryd.prog (ref12_Open_C N) E (List.range ref12_Open_S1.ks.length) ref12_Open_S1 (ref12_Open_L.drop 0) (fun y => ref12_Open N y.1.1 y.1.2.1 y.1.2.2.1 y.1.2.2.2.1) (ref12_Open_K N) :=
 Blk.chunkAt hb 2 (X := (goK 0 [0, 1, 2, 3, 22] ref12_Open_S0 (fun y => ref12_Open_1 N y.1.1 y.1.2.1 y.1.2.2.1 y.1.2.2.2.1 y.1.2.2.2.2.1))) (NxOk.go hb (ref12_Open_1_b N hb)) rfl (fun x => by kernel_rfl)
def ref12_Open_ctr (N : Nat) : Ctr := ⟨ref12_Open_S1, ref12_Open_S2.un [false, false], 0, (fun y => ref12_Open N y.1.1 y.1.2.1 y.1.2.2.1 y.1.2.2.2.1)⟩
theorem ref12_Open_ctrs (N : Nat) : CtrsOk Tryd.prog (ref12_Open_C N) := ctrs_of (Γ := ref12_Open_C N) G_ifs_ok (by
 intro p hp
 simp only [ref12_Open_C, List.mem_cons, List.not_mem_nil, or_false] at hp
 rcases hp with rfl | rfl | rfl
 · exact ref12_Tag_ok N
 · exact ref01_Equal_ok N
 · exact ref10_Xor_ok N)
theorem ref12_Open_ok (N : Nat) : Ctr.ok Tryd.prog G_globs 106 (ref12_Open_ctr N) :=
 ctr_fn (Γ := ref12_Open_C N) (rfit := ref12_Open_S2) (bs := [false, false]) (res := [8, 9]) (by kernel_rfl) (tys_ok G_tys_ok) (ref12_Open_ctrs N) Tryd.func106 (by kernel_rfl) (by kernel_rfl) Tryd.ntmps106 (by kernel_rfl) (by kernel_rfl) (by kernel_rfl) (by kernel_rfl) (fun E hb => ref12_Open_b N hb)
/-! ipsecgate/ipsecgateref17.open -/
abbrev ref17_open_R : Type := ((Int × Unit) × ((List UInt8) × Unit))
def ref17_open (N : Nat) (b_0 : (List UInt8)) (key_1 : (List UInt8)) (data_2 : (List UInt8)) (sealed_3 : (List UInt8)) : Option ref17_open_R :=
 Option.bind (ref01_Number N sealed_3 (0 : Int) (8 : Int)) fun y1 =>
 bif decide (0 ≤ (0 : Int)) && decide ((0 : Int) ≤ (32 : Int)) && decide ((32 : Int) ≤ (key_1.length : Int)) && true then
 Option.bind (ref17_nonce N key_1 y1.1.1) fun y3 =>
 bif decide (0 ≤ (8 : Int)) && decide ((8 : Int) ≤ (sealed_3.length : Int)) && decide ((sealed_3.length : Int) ≤ (sealed_3.length : Int)) && true then
 Option.bind (ref12_Open N (cut key_1 0 32) y3.2.1 data_2 (cut sealed_3 8 sealed_3.length)) fun y5 =>
 some ((y5.1.1, ()), (y5.2.1, ()))
 else none
 else none
def ref17_open_C (N : Nat) : Ctx := ⟨28, G_tys, [(58, ref01_Number_ctr N), (170, ref17_nonce_ctr N), (106, ref12_Open_ctr N)], G_globs, G_ifs⟩
def ref17_open_S0 : Spec := ⟨[.val (.sl .u8), .val (.sl .u8), .val (.sl .u8), .val (.sl .u8)], []⟩
def ref17_open_S1 : Spec := ⟨[.row 0, .val .i64], [(.row 5 .u8, .pos 0)]⟩
def ref17_open_K (_N : Nat) : XE → GS → Option ref17_open_R := retK 0 [8, 9] [false, false] ref17_open_S1
def ref17_open_L : List Code := (bodyOf (some Tryd.f130))
theorem ref17_open_b {E : Env} (N : Nat) (hb : Base Tryd.prog (ref17_open_C N) E 0) : Blk Tryd.prog (ref17_open_C N) E (List.range ref17_open_S0.ks.length) ref17_open_S0 (ref17_open_L.drop 0) (fun y => ref17_open N y.1.1 y.1.2.1 y.1.2.2.1 y.1.2.2.2.1) (ref17_open_K N) :=
 Blk.chunkAt hb 4 (X := (ref17_open_K N .normal)) (NxOk.end (by kernel_rfl)) rfl (fun x => by kernel_rfl)
def ref17_open_ctr (N : Nat) : Ctr := ⟨ref17_open_S0, ref17_open_S1.un [false, false], 0, (fun y => ref17_open N y.1.1 y.1.2.1 y.1.2.2.1 y.1.2.2.2.1)⟩
theorem ref17_open_ctrs (N : Nat) : CtrsOk Tryd.prog (ref17_open_C N) := ctrs_of (Γ := ref17_open_C N) G_ifs_ok (by
 intro p hp
 simp only [ref17_open_C, List.mem_cons, List.not_mem_nil, or_false] at hp
 rcases hp with rfl | rfl | rfl
 · exact ref01_Number_ok N
 · exact ref17_nonce_ok N
 · exact ref12_Open_ok N)
theorem ref17_open_ok (N : Nat) : Ctr.ok Tryd.prog G_globs 130 (ref17_open_ctr N) :=
 ctr_fn (Γ := ref17_open_C N) (rfit := ref17_open_S1) (bs := [false, false]) (res := [8, 9]) (by kernel_rfl) (tys_ok G_tys_ok) (ref17_open_ctrs N) Tryd.func130 (by kernel_rfl) (by kernel_rfl) Tryd.ntmps130 (by kernel_rfl) (by kernel_rfl) (by kernel_rfl) (by kernel_rfl) (fun E hb => ref17_open_b N hb)
/-! ipsecgate/ipsecgateref17.strip -/
abbrev ref17_strip_R : Type := (((List UInt8) × Int × Unit) × (Unit))
def ref17_strip (N : Nat) (plain_0 : (List UInt8)) : Option ref17_strip_R :=
 let x2 := w64 ((plain_0.length : Int) - (1 : Int))
 bif inR x2 plain_0.length then
 let x4 := ((plain_0.getD x2.toNat (0 : UInt8)).toNat : Int)
 bif (decide (x2 < x4)) then
 some ((([] : List UInt8), (4 : Int), ()), (()))
 else
 bif decide (0 ≤ (0 : Int)) && decide ((0 : Int) ≤ (w64 (x2 - x4))) && decide ((w64 (x2 - x4)) ≤ (plain_0.length : Int)) && true then
 some (((cut plain_0 0 (w64 (x2 - x4)).toNat), (0 : Int), ()), (()))
 else none
 else none
def ref17_strip_C (N : Nat) : Ctx := ⟨22, G_tys, [], G_globs, G_ifs⟩
def ref17_strip_S0 : Spec := ⟨[.val (.sl .u8)], []⟩
def ref17_strip_S1 : Spec := ⟨[.val (.sl .u8), .val .i64], []⟩
def ref17_strip_K (_N : Nat) : XE → GS → Option ref17_strip_R := retK 0 [2, 3] [false, false] ref17_strip_S1
def ref17_strip_L : List Code := (bodyOf (some Tryd.f131))
theorem ref17_strip_b {E : Env} (N : Nat) (hb : Base Tryd.prog (ref17_strip_C N) E 0) : Blk Tryd.prog (ref17_strip_C N) E (List.range ref17_strip_S0.ks.length) ref17_strip_S0 (ref17_strip_L.drop 0) (fun y => ref17_strip N y.1.1) (ref17_strip_K N) :=
 Blk.chunkAt hb 7 (X := (ref17_strip_K N .normal)) (NxOk.end (by kernel_rfl)) rfl (fun x => by kernel_rfl)
def ref17_strip_ctr (N : Nat) : Ctr := ⟨ref17_strip_S0, ref17_strip_S1.un [false, false], 0, (fun y => ref17_strip N y.1.1)⟩
theorem ref17_strip_ctrs (N : Nat) : CtrsOk Tryd.prog (ref17_strip_C N) := ctrs_nil G_ifs_ok rfl
theorem ref17_strip_ok (N : Nat) : Ctr.ok Tryd.prog G_globs 131 (ref17_strip_ctr N) :=
 ctr_fn (Γ := ref17_strip_C N) (rfit := ref17_strip_S1) (bs := [false, false]) (res := [2, 3]) (by kernel_rfl) (tys_ok G_tys_ok) (ref17_strip_ctrs N) Tryd.func131 (by kernel_rfl) (by kernel_rfl) Tryd.ntmps131 (by kernel_rfl) (by kernel_rfl) (by kernel_rfl) (by kernel_rfl) (fun E hb => ref17_strip_b N hb)
/-! ipsecgate/ipsecgateref17.Open -/
abbrev ref17_Open_R : Type := ((D75 × Int × (List UInt8) × Int × Unit) × (Unit))
def ref17_Open_2 (N : Nat) (b_0 : (List UInt8)) (key_1 : (List UInt8)) (first_9 : Int) (s_10 : (List UInt8)) (e_11 : Int) (t_4 : D75) (h_8 : D75) : Option ref17_Open_R :=
 bif (!(decide (e_11 = (0 : Int)))) then
 some ((((0 : UInt64), (0 : UInt64), (0 : Int), (0 : Int), (0 : Int), (0 : UInt32), ()), (0 : Int), ([] : List UInt8), e_11, ()), (()))
 else
 bif decide (0 ≤ (0 : Int)) && decide ((0 : Int) ≤ (32 : Int)) && decide ((32 : Int) ≤ (b_0.length : Int)) && true then
 Option.bind (ref17_open N b_0 key_1 (cut b_0 0 32) s_10) fun y7 =>
 bif (!(decide (y7.1.1 = (0 : Int)))) then
 some ((((0 : UInt64), (0 : UInt64), (0 : Int), (0 : Int), (0 : Int), (0 : UInt32), ()), (0 : Int), ([] : List UInt8), y7.1.1, ()), (()))
 else
 Option.bind (ref17_strip N y7.2.1) fun y9 =>
 bif (!(decide (y9.1.2.1 = (0 : Int)))) then
 some ((((0 : UInt64), (0 : UInt64), (0 : Int), (0 : Int), (0 : Int), (0 : UInt32), ()), (0 : Int), ([] : List UInt8), y9.1.2.1, ()), (()))
 else
 some ((h_8, first_9, y9.1.1, (0 : Int), ()), (()))
 else none
def ref17_Open_1 (N : Nat) (b_0 : (List UInt8)) (key_1 : (List UInt8)) (first_9 : Int) (s_10 : (List UInt8)) (e_11 : Int) (t_28 : Bool) (t_4 : D75) (h_8 : D75) : Option ref17_Open_R :=
 bif t_28 then
 ref17_Open_2 N b_0 key_1 first_9 s_10 (1 : Int) t_4 h_8
 else
 ref17_Open_2 N b_0 key_1 first_9 s_10 e_11 t_4 h_8
def ref17_Open (N : Nat) (b_0 : (List UInt8)) (key_1 : (List UInt8)) : Option ref17_Open_R :=
 Option.bind (ref17_body N b_0 key_1 (46 : Int)) fun y1 =>
 bif (decide (y1.1.2.2.2.1 = (0 : Int))) then
 ref17_Open_1 N b_0 key_1 y1.1.2.1 y1.1.2.2.1 y1.1.2.2.2.1 (decide ((y1.1.2.2.1.length : Int) < (25 : Int))) ((0 : UInt64), (0 : UInt64), (0 : Int), (0 : Int), (0 : Int), (0 : UInt32), ()) y1.1.1
 else
 ref17_Open_1 N b_0 key_1 y1.1.2.1 y1.1.2.2.1 y1.1.2.2.2.1 false ((0 : UInt64), (0 : UInt64), (0 : Int), (0 : Int), (0 : Int), (0 : UInt32), ()) y1.1.1
def ref17_Open_C (N : Nat) : Ctx := ⟨58, G_tys, [(129, ref17_body_ctr N), (130, ref17_open_ctr N), (131, ref17_strip_ctr N)], G_globs, G_ifs⟩
def ref17_Open_S0 : Spec := ⟨[.val (.sl .u8), .val (.sl .u8), .ref 0 T75, .ref 1 T75, .val .i64, .val (.sl .u8), .val .i64], [(.box 76 T75, .pos 2), (.box 76 T75, .pos 3)]⟩
def ref17_Open_S1 : Spec := ⟨[.val (.sl .u8), .val (.sl .u8), .ref 0 T75, .ref 1 T75, .val .i64, .val (.sl .u8), .val .i64, .val .bool], [(.box 76 T75, .pos 2), (.box 76 T75, .pos 3)]⟩
def ref17_Open_S2 : Spec := ⟨[.val (.sl .u8), .val (.sl .u8)], []⟩
def ref17_Open_S3 : Spec := ⟨[.fp T75, .val .i64, .val (.sl .u8), .val .i64], []⟩
def ref17_Open_K (_N : Nat) : XE → GS → Option ref17_Open_R := retK 0 [4, 5, 6, 7] [true, false, false, false] ref17_Open_S3
def ref17_Open_L : List Code := (bodyOf (some Tryd.f65))
theorem ref17_Open_2_b {E : Env} (N : Nat) (hb : Base Tryd.prog (ref17_Open_C N) E 0) : Blk Tryd.prog (ref17_Open_C N) E [0, 1, 4, 8, 9, 10, 11] ref17_Open_S0 (ref17_Open_L.drop 4) (fun y => ref17_Open_2 N y.1.1 y.1.2.1 y.1.2.2.1 y.1.2.2.2.1 y.1.2.2.2.2.1 y.2.1 y.2.2.1) (ref17_Open_K N) :=
 Blk.chunkAt hb 10 (X := (ref17_Open_K N .normal)) (NxOk.end (by kernel_rfl)) rfl (fun x => by kernel_rfl)
theorem ref17_Open_1_b {E : Env} (N : Nat) (hb : Base Tryd.prog (ref17_Open_C N) E 0) : Blk Tryd.prog (ref17_Open_C N) E [0, 1, 4, 8, 9, 10, 11, 28] ref17_Open_S1 (ref17_Open_L.drop 3) (fun y => ref17_Open_1 N y.1.1 y.1.2.1 y.1.2.2.1 y.1.2.2.2.1 y.1.2.2.2.2.1 y.1.2.2.2.2.2.1 y.2.1 y.2.2.1) (ref17_Open_K N) :=
 Blk.chunkAt hb 1 (X := (goK 0 [0, 1, 4, 8, 9, 10, 11] ref17_Open_S0 (fun y => ref17_Open_2 N y.1.1 y.1.2.1 y.1.2.2.1 y.1.2.2.2.1 y.1.2.2.2.2.1 y.2.1 y.2.2.1))) (NxOk.go hb (ref17_Open_2_b N hb)) rfl (fun x => by kernel_rfl)
theorem ref17_Open_b {E : Env} (N : Nat) (hb : Base Tryd.prog (ref17_Open_C N) E 0) : Blk Tryd.prog (ref17_Open_C N) E (List.range ref17_Open_S2.ks.length) ref17_Open_S2 (ref17_Open_L.drop 0) (fun y => ref17_Open N y.1.1 y.1.2.1) (ref17_Open_K N) :=
 Blk.chunkAt hb 3 (X := (goK 0 [0, 1, 4, 8, 9, 10, 11, 28] ref17_Open_S1 (fun y => ref17_Open_1 N y.1.1 y.1.2.1 y.1.2.2.1 y.1.2.2.2.1 y.1.2.2.2.2.1 y.1.2.2.2.2.2.1 y.2.1 y.2.2.1))) (NxOk.go hb (ref17_Open_1_b N hb)) rfl (fun x => by kernel_rfl)
def ref17_Open_ctr (N : Nat) : Ctr := ⟨ref17_Open_S2, ref17_Open_S3.un [true, false, false, false], 0, (fun y => ref17_Open N y.1.1 y.1.2.1)⟩
theorem ref17_Open_ctrs (N : Nat) : CtrsOk Tryd.prog (ref17_Open_C N) := ctrs_of (Γ := ref17_Open_C N) G_ifs_ok (by
 intro p hp
 simp only [ref17_Open_C, List.mem_cons, List.not_mem_nil, or_false] at hp
 rcases hp with rfl | rfl | rfl
 · exact ref17_body_ok N
 · exact ref17_open_ok N
 · exact ref17_strip_ok N)
theorem ref17_Open_ok (N : Nat) : Ctr.ok Tryd.prog G_globs 65 (ref17_Open_ctr N) :=
 ctr_fn (Γ := ref17_Open_C N) (rfit := ref17_Open_S3) (bs := [true, false, false, false]) (res := [4, 5, 6, 7]) (by kernel_rfl) (tys_ok G_tys_ok) (ref17_Open_ctrs N) Tryd.func65 (by kernel_rfl) (by kernel_rfl) Tryd.ntmps65 (by kernel_rfl) (by kernel_rfl) (by kernel_rfl) (by kernel_rfl) (fun E hb => ref17_Open_b N hb)
/-! ipsecgate/sealed.OpenPart -/
abbrev sealed_OpenPart_R : Type := ((D75 × D91 × Int × Unit) × (Unit))
def sealed_OpenPart_4 (N : Nat) (e_8 : Int) (t_4 : D75) (t_5 : D91) (r_7 : D154) (f_13 : D91) : Option sealed_OpenPart_R :=
 bif (!(decide (e_8 = (0 : Int)))) then
 some ((((0 : UInt64), (0 : UInt64), (0 : Int), (0 : Int), (0 : Int), (0 : UInt32), ()), ((0 : Int), (0 : Int), (0 : Int), ([] : List UInt8), ()), e_8, ()), (()))
 else
 some ((r_7.1, f_13, (0 : Int), ()), (()))
def sealed_OpenPart_3 (N : Nat) (e_8 : Int) (t_4 : D75) (t_5 : D91) (r_7 : D154) (f_13 : D91) (plain_14 : (List UInt8)) : Option sealed_OpenPart_R :=
 bif (decide (e_8 = (0 : Int))) then
 Option.bind (sealed_unpad N plain_14) fun y13 =>
 sealed_OpenPart_4 N y13.1.2.1 t_4 t_5 r_7 (f_13.1, f_13.2.1, f_13.2.2.1, y13.1.1, ())
 else
 sealed_OpenPart_4 N e_8 t_4 t_5 r_7 f_13
def sealed_OpenPart_2 (N : Nat) (e_8 : Int) (t_76 : Bool) (t_4 : D75) (t_5 : D91) (r_7 : D154) (f_13 : D91) (plain_14 : (List UInt8)) : Option sealed_OpenPart_R :=
 bif t_76 then
 sealed_OpenPart_3 N (7 : Int) t_4 t_5 r_7 f_13 plain_14
 else
 sealed_OpenPart_3 N e_8 t_4 t_5 r_7 f_13 plain_14
def sealed_OpenPart_1 (N : Nat) (b_0 : (List UInt8)) (key_1 : (List UInt8)) (t_55 : Bool) (t_4 : D75) (t_5 : D91) (r_7 : D154) (f_13 : D91) : Option sealed_OpenPart_R :=
 bif t_55 then
 some ((((0 : UInt64), (0 : UInt64), (0 : Int), (0 : Int), (0 : Int), (0 : UInt32), ()), ((0 : Int), (0 : Int), (0 : Int), ([] : List UInt8), ()), (5 : Int), ()), (()))
 else
 Option.bind (sealed_read_open N r_7 b_0 key_1 (4 : Int)) fun y8 =>
 bif (decide (y8.1.1 = (0 : Int))) then
 bif (!(decide (f_13.2.2.1 = (0 : Int)))) then
 sealed_OpenPart_2 N y8.1.1 (!(decide (f_13.1 = (1 : Int)))) t_4 t_5 r_7 f_13 y8.2.1
 else
 sealed_OpenPart_2 N y8.1.1 false t_4 t_5 r_7 f_13 y8.2.1
 else
 sealed_OpenPart_2 N y8.1.1 false t_4 t_5 r_7 f_13 y8.2.1
def sealed_OpenPart (N : Nat) (b_0 : (List UInt8)) (key_1 : (List UInt8)) : Option sealed_OpenPart_R :=
 Option.bind (sealed_parse N b_0 key_1 (53 : Int) (29 : Int)) fun y1 =>
 bif (!(decide (y1.1.2.1 = (0 : Int)))) then
 some ((((0 : UInt64), (0 : UInt64), (0 : Int), (0 : Int), (0 : Int), (0 : UInt32), ()), ((0 : Int), (0 : Int), (0 : Int), ([] : List UInt8), ()), y1.1.2.1, ()), (()))
 else
 Option.bind (wire_Number N y1.1.1.2.2.1 (0 : Int) (2 : Int)) fun y3 =>
 Option.bind (wire_Number N y1.1.1.2.2.1 (2 : Int) (2 : Int)) fun y4 =>
 let x5 := w64 (y3.1.1.toNat : Int)
 let x6 := w64 (y4.1.1.toNat : Int)
 bif (decide (y3.1.1 = (0 : UInt64))) then
 sealed_OpenPart_1 N b_0 key_1 true ((0 : UInt64), (0 : UInt64), (0 : Int), (0 : Int), (0 : Int), (0 : UInt32), ()) ((0 : Int), (0 : Int), (0 : Int), ([] : List UInt8), ()) y1.1.1 (x5, x6, y1.1.1.2.1, ([] : List UInt8), ())
 else
 bif (decide (y4.1.1 < y3.1.1)) then
 sealed_OpenPart_1 N b_0 key_1 true ((0 : UInt64), (0 : UInt64), (0 : Int), (0 : Int), (0 : Int), (0 : UInt32), ()) ((0 : Int), (0 : Int), (0 : Int), ([] : List UInt8), ()) y1.1.1 (x5, x6, y1.1.1.2.1, ([] : List UInt8), ())
 else
 sealed_OpenPart_1 N b_0 key_1 (decide ((16 : UInt64) < y4.1.1)) ((0 : UInt64), (0 : UInt64), (0 : Int), (0 : Int), (0 : Int), (0 : UInt32), ()) ((0 : Int), (0 : Int), (0 : Int), ([] : List UInt8), ()) y1.1.1 (x5, x6, y1.1.1.2.1, ([] : List UInt8), ())
def sealed_OpenPart_C (N : Nat) : Ctx := ⟨93, G_tys, [(126, sealed_parse_ctr N), (107, wire_Number_ctr N), (127, sealed_read_open_ctr N), (128, sealed_unpad_ctr N)], G_globs, G_ifs⟩
def sealed_OpenPart_S0 : Spec := ⟨[.ref 0 T75, .ref 1 T91, .ref 2 T154, .val .i64, .ref 3 T91], [(.box 76 T75, .pos 0), (.box 92 T91, .pos 1), (.box 155 T154, .pos 2), (.box 92 T91, .pos 4)]⟩
def sealed_OpenPart_S1 : Spec := ⟨[.ref 0 T75, .ref 1 T91, .ref 2 T154, .val .i64, .ref 3 T91, .row 4], [(.box 76 T75, .pos 0), (.box 92 T91, .pos 1), (.box 155 T154, .pos 2), (.box 92 T91, .pos 4), (.row 5 .u8, .pos 5)]⟩
def sealed_OpenPart_S2 : Spec := ⟨[.ref 0 T75, .ref 1 T91, .ref 2 T154, .val .i64, .ref 3 T91, .row 4, .val .bool], [(.box 76 T75, .pos 0), (.box 92 T91, .pos 1), (.box 155 T154, .pos 2), (.box 92 T91, .pos 4), (.row 5 .u8, .pos 5)]⟩
def sealed_OpenPart_S3 : Spec := ⟨[.val (.sl .u8), .val (.sl .u8), .ref 0 T75, .ref 1 T91, .ref 2 T154, .ref 3 T91, .val .bool], [(.box 76 T75, .pos 2), (.box 92 T91, .pos 3), (.box 155 T154, .pos 4), (.box 92 T91, .pos 5)]⟩
def sealed_OpenPart_S4 : Spec := ⟨[.val (.sl .u8), .val (.sl .u8)], []⟩
def sealed_OpenPart_S5 : Spec := ⟨[.fp T75, .fp T91, .val .i64], []⟩
def sealed_OpenPart_K (_N : Nat) : XE → GS → Option sealed_OpenPart_R := retK 0 [4, 5, 6] [true, true, false] sealed_OpenPart_S5
def sealed_OpenPart_L : List Code := (bodyOf (some Tryd.f66))
theorem sealed_OpenPart_4_b {E : Env} (N : Nat) (hb : Base Tryd.prog (sealed_OpenPart_C N) E 0) : Blk Tryd.prog (sealed_OpenPart_C N) E [4, 5, 7, 8, 13] sealed_OpenPart_S0 (sealed_OpenPart_L.drop 14) (fun y => sealed_OpenPart_4 N y.1.1 y.2.1 y.2.2.1 y.2.2.2.1 y.2.2.2.2.1) (sealed_OpenPart_K N) :=
 Blk.chunkAt hb 4 (X := (sealed_OpenPart_K N .normal)) (NxOk.end (by kernel_rfl)) rfl (fun x => by kernel_rfl)
theorem sealed_OpenPart_3_b {E : Env} (N : Nat) (hb : Base Tryd.prog (sealed_OpenPart_C N) E 0) : Blk Tryd.prog (sealed_OpenPart_C N) E [4, 5, 7, 8, 13, 14] sealed_OpenPart_S1 (sealed_OpenPart_L.drop 12) (fun y => sealed_OpenPart_3 N y.1.1 y.2.1 y.2.2.1 y.2.2.2.1 y.2.2.2.2.1 y.2.2.2.2.2.1) (sealed_OpenPart_K N) :=
 Blk.chunkAt hb 2 (X := (goK 0 [4, 5, 7, 8, 13] sealed_OpenPart_S0 (fun y => sealed_OpenPart_4 N y.1.1 y.2.1 y.2.2.1 y.2.2.2.1 y.2.2.2.2.1))) (NxOk.go hb (sealed_OpenPart_4_b N hb)) rfl (fun x => by kernel_rfl)
theorem sealed_OpenPart_2_b {E : Env} (N : Nat) (hb : Base Tryd.prog (sealed_OpenPart_C N) E 0) : Blk Tryd.prog (sealed_OpenPart_C N) E [4, 5, 7, 8, 13, 14, 76] sealed_OpenPart_S2 (sealed_OpenPart_L.drop 11) (fun y => sealed_OpenPart_2 N y.1.1 y.1.2.1 y.2.1 y.2.2.1 y.2.2.2.1 y.2.2.2.2.1 y.2.2.2.2.2.1) (sealed_OpenPart_K N) :=
 Blk.chunkAt hb 1 (X := (goK 0 [4, 5, 7, 8, 13, 14] sealed_OpenPart_S1 (fun y => sealed_OpenPart_3 N y.1.1 y.2.1 y.2.2.1 y.2.2.2.1 y.2.2.2.2.1 y.2.2.2.2.2.1))) (NxOk.go hb (sealed_OpenPart_3_b N hb)) rfl (fun x => by kernel_rfl)
theorem sealed_OpenPart_1_b {E : Env} (N : Nat) (hb : Base Tryd.prog (sealed_OpenPart_C N) E 0) : Blk Tryd.prog (sealed_OpenPart_C N) E [0, 1, 4, 5, 7, 13, 55] sealed_OpenPart_S3 (sealed_OpenPart_L.drop 8) (fun y => sealed_OpenPart_1 N y.1.1 y.1.2.1 y.1.2.2.1 y.2.1 y.2.2.1 y.2.2.2.1 y.2.2.2.2.1) (sealed_OpenPart_K N) :=
 Blk.chunkAt hb 3 (X := (goK 0 [4, 5, 7, 8, 13, 14, 76] sealed_OpenPart_S2 (fun y => sealed_OpenPart_2 N y.1.1 y.1.2.1 y.2.1 y.2.2.1 y.2.2.2.1 y.2.2.2.2.1 y.2.2.2.2.2.1))) (NxOk.go hb (sealed_OpenPart_2_b N hb)) rfl (fun x => by kernel_rfl)
theorem sealed_OpenPart_b {E : Env} (N : Nat) (hb : Base Tryd.prog (sealed_OpenPart_C N) E 0) : Blk Tryd.prog (sealed_OpenPart_C N) E (List.range sealed_OpenPart_S4.ks.length) sealed_OpenPart_S4 (sealed_OpenPart_L.drop 0) (fun y => sealed_OpenPart N y.1.1 y.1.2.1) (sealed_OpenPart_K N) :=
 Blk.chunkAt hb 8 (X := (goK 0 [0, 1, 4, 5, 7, 13, 55] sealed_OpenPart_S3 (fun y => sealed_OpenPart_1 N y.1.1 y.1.2.1 y.1.2.2.1 y.2.1 y.2.2.1 y.2.2.2.1 y.2.2.2.2.1))) (NxOk.go hb (sealed_OpenPart_1_b N hb)) rfl (fun x => by kernel_rfl)
def sealed_OpenPart_ctr (N : Nat) : Ctr := ⟨sealed_OpenPart_S4, sealed_OpenPart_S5.un [true, true, false], 0, (fun y => sealed_OpenPart N y.1.1 y.1.2.1)⟩
theorem sealed_OpenPart_ctrs (N : Nat) : CtrsOk Tryd.prog (sealed_OpenPart_C N) := ctrs_of (Γ := sealed_OpenPart_C N) G_ifs_ok (by
 intro p hp
 simp only [sealed_OpenPart_C, List.mem_cons, List.not_mem_nil, or_false] at hp
 rcases hp with rfl | rfl | rfl | rfl
 · exact sealed_parse_ok N
 · exact wire_Number_ok N
 · exact sealed_read_open_ok N
 · exact sealed_unpad_ok N)
theorem sealed_OpenPart_ok (N : Nat) : Ctr.ok Tryd.prog G_globs 66 (sealed_OpenPart_ctr N) :=
 ctr_fn (Γ := sealed_OpenPart_C N) (rfit := sealed_OpenPart_S5) (bs := [true, true, false]) (res := [4, 5, 6]) (by kernel_rfl) (tys_ok G_tys_ok) (sealed_OpenPart_ctrs N) Tryd.func66 (by kernel_rfl) (by kernel_rfl) Tryd.ntmps66 (by kernel_rfl) (by kernel_rfl) (by kernel_rfl) (by kernel_rfl) (fun E hb => sealed_OpenPart_b N hb)
/-! ipsecgate/ipsecgateref17.OpenPart -/
abbrev ref17_OpenPart_R : Type := ((D75 × D91 × Int × Unit) × (Unit))
def ref17_OpenPart_4 (N : Nat) (first_8 : Int) (number_11 : UInt64) (total_13 : UInt64) (t_80 : Bool) (t_4 : D75) (t_5 : D91) (h_7 : D75) (plain_15 : (List UInt8)) : Option ref17_OpenPart_R :=
 bif t_80 then
 some ((((0 : UInt64), (0 : UInt64), (0 : Int), (0 : Int), (0 : Int), (0 : UInt32), ()), ((0 : Int), (0 : Int), (0 : Int), ([] : List UInt8), ()), (7 : Int), ()), (()))
 else
 Option.bind (ref17_strip N plain_15) fun y15 =>
 bif (!(decide (y15.1.2.1 = (0 : Int)))) then
 some ((((0 : UInt64), (0 : UInt64), (0 : Int), (0 : Int), (0 : Int), (0 : UInt32), ()), ((0 : Int), (0 : Int), (0 : Int), ([] : List UInt8), ()), y15.1.2.1, ()), (()))
 else
 some ((h_7, ((w64 (number_11.toNat : Int)), (w64 (total_13.toNat : Int)), first_8, y15.1.1, ()), (0 : Int), ()), (()))
def ref17_OpenPart_3 (N : Nat) (b_0 : (List UInt8)) (key_1 : (List UInt8)) (first_8 : Int) (s_9 : (List UInt8)) (number_11 : UInt64) (total_13 : UInt64) (t_57 : Bool) (t_4 : D75) (t_5 : D91) (h_7 : D75) : Option ref17_OpenPart_R :=
 bif t_57 then
 some ((((0 : UInt64), (0 : UInt64), (0 : Int), (0 : Int), (0 : Int), (0 : UInt32), ()), ((0 : Int), (0 : Int), (0 : Int), ([] : List UInt8), ()), (5 : Int), ()), (()))
 else
 bif decide (0 ≤ (0 : Int)) && decide ((0 : Int) ≤ (36 : Int)) && decide ((36 : Int) ≤ (b_0.length : Int)) && true then
 bif decide (0 ≤ (4 : Int)) && decide ((4 : Int) ≤ (s_9.length : Int)) && decide ((s_9.length : Int) ≤ (s_9.length : Int)) && true then
 Option.bind (ref17_open N b_0 key_1 (cut b_0 0 36) (cut s_9 4 s_9.length)) fun y11 =>
 bif (!(decide (y11.1.1 = (0 : Int)))) then
 some ((((0 : UInt64), (0 : UInt64), (0 : Int), (0 : Int), (0 : Int), (0 : UInt32), ()), ((0 : Int), (0 : Int), (0 : Int), ([] : List UInt8), ()), y11.1.1, ()), (()))
 else
 bif (!(decide (first_8 = (0 : Int)))) then
 ref17_OpenPart_4 N first_8 number_11 total_13 (!(decide (number_11 = (1 : UInt64)))) t_4 t_5 h_7 y11.2.1
 else
 ref17_OpenPart_4 N first_8 number_11 total_13 false t_4 t_5 h_7 y11.2.1
 else none
 else none
def ref17_OpenPart_2 (N : Nat) (b_0 : (List UInt8)) (key_1 : (List UInt8)) (first_8 : Int) (s_9 : (List UInt8)) (e_10 : Int) (t_4 : D75) (t_5 : D91) (h_7 : D75) : Option ref17_OpenPart_R :=
 bif (!(decide (e_10 = (0 : Int)))) then
 some ((((0 : UInt64), (0 : UInt64), (0 : Int), (0 : Int), (0 : Int), (0 : UInt32), ()), ((0 : Int), (0 : Int), (0 : Int), ([] : List UInt8), ()), e_10, ()), (()))
 else
 Option.bind (ref01_Number N s_9 (0 : Int) (2 : Int)) fun y6 =>
 Option.bind (ref01_Number N s_9 (2 : Int) (2 : Int)) fun y7 =>
 bif (decide (y6.1.1 = (0 : UInt64))) then
 ref17_OpenPart_3 N b_0 key_1 first_8 s_9 y6.1.1 y7.1.1 true t_4 t_5 h_7
 else
 bif (decide (y7.1.1 < y6.1.1)) then
 ref17_OpenPart_3 N b_0 key_1 first_8 s_9 y6.1.1 y7.1.1 true t_4 t_5 h_7
 else
 ref17_OpenPart_3 N b_0 key_1 first_8 s_9 y6.1.1 y7.1.1 (decide ((16 : UInt64) < y7.1.1)) t_4 t_5 h_7
def ref17_OpenPart_1 (N : Nat) (b_0 : (List UInt8)) (key_1 : (List UInt8)) (first_8 : Int) (s_9 : (List UInt8)) (e_10 : Int) (t_31 : Bool) (t_4 : D75) (t_5 : D91) (h_7 : D75) : Option ref17_OpenPart_R :=
 bif t_31 then
 ref17_OpenPart_2 N b_0 key_1 first_8 s_9 (1 : Int) t_4 t_5 h_7
 else
 ref17_OpenPart_2 N b_0 key_1 first_8 s_9 e_10 t_4 t_5 h_7
def ref17_OpenPart (N : Nat) (b_0 : (List UInt8)) (key_1 : (List UInt8)) : Option ref17_OpenPart_R :=
 Option.bind (ref17_body N b_0 key_1 (53 : Int)) fun y1 =>
 bif (decide (y1.1.2.2.2.1 = (0 : Int))) then
 ref17_OpenPart_1 N b_0 key_1 y1.1.2.1 y1.1.2.2.1 y1.1.2.2.2.1 (decide ((y1.1.2.2.1.length : Int) < (29 : Int))) ((0 : UInt64), (0 : UInt64), (0 : Int), (0 : Int), (0 : Int), (0 : UInt32), ()) ((0 : Int), (0 : Int), (0 : Int), ([] : List UInt8), ()) y1.1.1
 else
 ref17_OpenPart_1 N b_0 key_1 y1.1.2.1 y1.1.2.2.1 y1.1.2.2.2.1 false ((0 : UInt64), (0 : UInt64), (0 : Int), (0 : Int), (0 : Int), (0 : UInt32), ()) ((0 : Int), (0 : Int), (0 : Int), ([] : List UInt8), ()) y1.1.1
def ref17_OpenPart_C (N : Nat) : Ctx := ⟨101, G_tys, [(129, ref17_body_ctr N), (58, ref01_Number_ctr N), (130, ref17_open_ctr N), (131, ref17_strip_ctr N)], G_globs, G_ifs⟩
def ref17_OpenPart_S0 : Spec := ⟨[.ref 0 T75, .ref 1 T91, .ref 2 T75, .val .i64, .val .u64, .val .u64, .row 3, .val .bool], [(.box 76 T75, .pos 0), (.box 92 T91, .pos 1), (.box 76 T75, .pos 2), (.row 5 .u8, .pos 6)]⟩
def ref17_OpenPart_S1 : Spec := ⟨[.val (.sl .u8), .val (.sl .u8), .ref 0 T75, .ref 1 T91, .ref 2 T75, .val .i64, .val (.sl .u8), .val .u64, .val .u64, .val .bool], [(.box 76 T75, .pos 2), (.box 92 T91, .pos 3), (.box 76 T75, .pos 4)]⟩
def ref17_OpenPart_S2 : Spec := ⟨[.val (.sl .u8), .val (.sl .u8), .ref 0 T75, .ref 1 T91, .ref 2 T75, .val .i64, .val (.sl .u8), .val .i64], [(.box 76 T75, .pos 2), (.box 92 T91, .pos 3), (.box 76 T75, .pos 4)]⟩
def ref17_OpenPart_S3 : Spec := ⟨[.val (.sl .u8), .val (.sl .u8), .ref 0 T75, .ref 1 T91, .ref 2 T75, .val .i64, .val (.sl .u8), .val .i64, .val .bool], [(.box 76 T75, .pos 2), (.box 92 T91, .pos 3), (.box 76 T75, .pos 4)]⟩
def ref17_OpenPart_S4 : Spec := ⟨[.val (.sl .u8), .val (.sl .u8)], []⟩
def ref17_OpenPart_S5 : Spec := ⟨[.fp T75, .fp T91, .val .i64], []⟩
def ref17_OpenPart_K (_N : Nat) : XE → GS → Option ref17_OpenPart_R := retK 0 [4, 5, 6] [true, true, false] ref17_OpenPart_S5
def ref17_OpenPart_L : List Code := (bodyOf (some Tryd.f67))
theorem ref17_OpenPart_4_b {E : Env} (N : Nat) (hb : Base Tryd.prog (ref17_OpenPart_C N) E 0) : Blk Tryd.prog (ref17_OpenPart_C N) E [4, 5, 7, 8, 11, 13, 15, 80] ref17_OpenPart_S0 (ref17_OpenPart_L.drop 14) (fun y => ref17_OpenPart_4 N y.1.1 y.1.2.1 y.1.2.2.1 y.1.2.2.2.1 y.2.1 y.2.2.1 y.2.2.2.1 y.2.2.2.2.1) (ref17_OpenPart_K N) :=
 Blk.chunkAt hb 6 (X := (ref17_OpenPart_K N .normal)) (NxOk.end (by kernel_rfl)) rfl (fun x => by kernel_rfl)
theorem ref17_OpenPart_3_b {E : Env} (N : Nat) (hb : Base Tryd.prog (ref17_OpenPart_C N) E 0) : Blk Tryd.prog (ref17_OpenPart_C N) E [0, 1, 4, 5, 7, 8, 9, 11, 13, 57] ref17_OpenPart_S1 (ref17_OpenPart_L.drop 9) (fun y => ref17_OpenPart_3 N y.1.1 y.1.2.1 y.1.2.2.1 y.1.2.2.2.1 y.1.2.2.2.2.1 y.1.2.2.2.2.2.1 y.1.2.2.2.2.2.2.1 y.2.1 y.2.2.1 y.2.2.2.1) (ref17_OpenPart_K N) :=
 Blk.chunkAt hb 5 (X := (goK 0 [4, 5, 7, 8, 11, 13, 15, 80] ref17_OpenPart_S0 (fun y => ref17_OpenPart_4 N y.1.1 y.1.2.1 y.1.2.2.1 y.1.2.2.2.1 y.2.1 y.2.2.1 y.2.2.2.1 y.2.2.2.2.1))) (NxOk.go hb (ref17_OpenPart_4_b N hb)) rfl (fun x => by kernel_rfl)
theorem ref17_OpenPart_2_b {E : Env} (N : Nat) (hb : Base Tryd.prog (ref17_OpenPart_C N) E 0) : Blk Tryd.prog (ref17_OpenPart_C N) E [0, 1, 4, 5, 7, 8, 9, 10] ref17_OpenPart_S2 (ref17_OpenPart_L.drop 4) (fun y => ref17_OpenPart_2 N y.1.1 y.1.2.1 y.1.2.2.1 y.1.2.2.2.1 y.1.2.2.2.2.1 y.2.1 y.2.2.1 y.2.2.2.1) (ref17_OpenPart_K N) :=
 Blk.chunkAt hb 5 (X := (goK 0 [0, 1, 4, 5, 7, 8, 9, 11, 13, 57] ref17_OpenPart_S1 (fun y => ref17_OpenPart_3 N y.1.1 y.1.2.1 y.1.2.2.1 y.1.2.2.2.1 y.1.2.2.2.2.1 y.1.2.2.2.2.2.1 y.1.2.2.2.2.2.2.1 y.2.1 y.2.2.1 y.2.2.2.1))) (NxOk.go hb (ref17_OpenPart_3_b N hb)) rfl (fun x => by kernel_rfl)
theorem ref17_OpenPart_1_b {E : Env} (N : Nat) (hb : Base Tryd.prog (ref17_OpenPart_C N) E 0) : Blk Tryd.prog (ref17_OpenPart_C N) E [0, 1, 4, 5, 7, 8, 9, 10, 31] ref17_OpenPart_S3 (ref17_OpenPart_L.drop 3) (fun y => ref17_OpenPart_1 N y.1.1 y.1.2.1 y.1.2.2.1 y.1.2.2.2.1 y.1.2.2.2.2.1 y.1.2.2.2.2.2.1 y.2.1 y.2.2.1 y.2.2.2.1) (ref17_OpenPart_K N) :=
 Blk.chunkAt hb 1 (X := (goK 0 [0, 1, 4, 5, 7, 8, 9, 10] ref17_OpenPart_S2 (fun y => ref17_OpenPart_2 N y.1.1 y.1.2.1 y.1.2.2.1 y.1.2.2.2.1 y.1.2.2.2.2.1 y.2.1 y.2.2.1 y.2.2.2.1))) (NxOk.go hb (ref17_OpenPart_2_b N hb)) rfl (fun x => by kernel_rfl)
theorem ref17_OpenPart_b {E : Env} (N : Nat) (hb : Base Tryd.prog (ref17_OpenPart_C N) E 0) : Blk Tryd.prog (ref17_OpenPart_C N) E (List.range ref17_OpenPart_S4.ks.length) ref17_OpenPart_S4 (ref17_OpenPart_L.drop 0) (fun y => ref17_OpenPart N y.1.1 y.1.2.1) (ref17_OpenPart_K N) :=
 Blk.chunkAt hb 3 (X := (goK 0 [0, 1, 4, 5, 7, 8, 9, 10, 31] ref17_OpenPart_S3 (fun y => ref17_OpenPart_1 N y.1.1 y.1.2.1 y.1.2.2.1 y.1.2.2.2.1 y.1.2.2.2.2.1 y.1.2.2.2.2.2.1 y.2.1 y.2.2.1 y.2.2.2.1))) (NxOk.go hb (ref17_OpenPart_1_b N hb)) rfl (fun x => by kernel_rfl)
def ref17_OpenPart_ctr (N : Nat) : Ctr := ⟨ref17_OpenPart_S4, ref17_OpenPart_S5.un [true, true, false], 0, (fun y => ref17_OpenPart N y.1.1 y.1.2.1)⟩
theorem ref17_OpenPart_ctrs (N : Nat) : CtrsOk Tryd.prog (ref17_OpenPart_C N) := ctrs_of (Γ := ref17_OpenPart_C N) G_ifs_ok (by
 intro p hp
 simp only [ref17_OpenPart_C, List.mem_cons, List.not_mem_nil, or_false] at hp
 rcases hp with rfl | rfl | rfl | rfl
 · exact ref17_body_ok N
 · exact ref01_Number_ok N
 · exact ref17_open_ok N
 · exact ref17_strip_ok N)
theorem ref17_OpenPart_ok (N : Nat) : Ctr.ok Tryd.prog G_globs 67 (ref17_OpenPart_ctr N) :=
 ctr_fn (Γ := ref17_OpenPart_C N) (rfit := ref17_OpenPart_S5) (bs := [true, true, false]) (res := [4, 5, 6]) (by kernel_rfl) (tys_ok G_tys_ok) (ref17_OpenPart_ctrs N) Tryd.func67 (by kernel_rfl) (by kernel_rfl) Tryd.ntmps67 (by kernel_rfl) (by kernel_rfl) (by kernel_rfl) (by kernel_rfl) (fun E hb => ref17_OpenPart_b N hb)
/-! ipsecgate/ipsecgateref17.Same -/
abbrev ref17_Same_R : Type := ((Bool × Unit) × (Unit))
def ref17_Same_s2 (N : Nat) (a_0 : (List D91)) (b_1 : (List D91)) (i_5 : Int) : Option (Lo (((List D91) × (List D91) × Int × Unit) × (Unit)) ((Unit) × (Unit)) ref17_Same_R) :=
 bif (decide (i_5 < (a_0.length : Int))) then
 bif inR i_5 a_0.length then
 bif inR i_5 b_1.length then
 bif (!(decide ((a_0.getD i_5.toNat ((0 : Int), (0 : Int), (0 : Int), ([] : List UInt8), ())).1 = (b_1.getD i_5.toNat ((0 : Int), (0 : Int), (0 : Int), ([] : List UInt8), ())).1))) then
 some (.rt ((false, ()), (())))
 else
 bif inR i_5 a_0.length then
 bif inR i_5 b_1.length then
 bif (!(decide ((a_0.getD i_5.toNat ((0 : Int), (0 : Int), (0 : Int), ([] : List UInt8), ())).2.1 = (b_1.getD i_5.toNat ((0 : Int), (0 : Int), (0 : Int), ([] : List UInt8), ())).2.1))) then
 some (.rt ((false, ()), (())))
 else
 bif inR i_5 a_0.length then
 bif inR i_5 b_1.length then
 bif (!(decide ((a_0.getD i_5.toNat ((0 : Int), (0 : Int), (0 : Int), ([] : List UInt8), ())).2.2.1 = (b_1.getD i_5.toNat ((0 : Int), (0 : Int), (0 : Int), ([] : List UInt8), ())).2.2.1))) then
 some (.rt ((false, ()), (())))
 else
 bif inR i_5 a_0.length then
 bif inR i_5 b_1.length then
 Option.bind (ref01_Equal N (a_0.getD i_5.toNat ((0 : Int), (0 : Int), (0 : Int), ([] : List UInt8), ())).2.2.2.1 (b_1.getD i_5.toNat ((0 : Int), (0 : Int), (0 : Int), ([] : List UInt8), ())).2.2.2.1) fun y17 =>
 bif (!y17.1.1) then
 some (.rt ((false, ()), (())))
 else
 some (.go ((a_0, b_1, (w64 (i_5 + (1 : Int))), ()), (())))
 else none
 else none
 else none
 else none
 else none
 else none
 else none
 else none
 else
 some (.br ((()), (())))
def ref17_Same_3 (N : Nat) : Option ref17_Same_R :=
 some ((true, ()), (()))
def ref17_Same_1 (N : Nat) (a_0 : (List D91)) (b_1 : (List D91)) (i_5 : Int) : Option ref17_Same_R :=
 loopK N (fun y => ref17_Same_s2 N y.1.1 y.1.2.1 y.1.2.2.1) (fun (e : ((Unit) × (Unit))) => ref17_Same_3 N) ((a_0, b_1, i_5, ()), (()))
def ref17_Same (N : Nat) (a_0 : (List D91)) (b_1 : (List D91)) : Option ref17_Same_R :=
 bif (!(decide ((a_0.length : Int) = (b_1.length : Int)))) then
 some ((false, ()), (()))
 else
 ref17_Same_1 N a_0 b_1 (0 : Int)
def ref17_Same_C (N : Nat) : Ctx := ⟨68, G_tys, [(21, ref01_Equal_ctr N)], G_globs, G_ifs⟩
def ref17_Same_S0 : Spec := ⟨[.val (.sl T91), .val (.sl T91), .val .i64], []⟩
def ref17_Same_S1 : Spec := ⟨[], []⟩
def ref17_Same_S2 : Spec := ⟨[.val (.sl T91), .val (.sl T91)], []⟩
def ref17_Same_S3 : Spec := ⟨[.val .bool], []⟩
def ref17_Same_K (_N : Nat) : XE → GS → Option ref17_Same_R := retK 0 [4] [false] ref17_Same_S3
def ref17_Same_L : List Code := (bodyOf (some Tryd.f68))
def ref17_Same_L2 : List Code := (loopOf (ref17_Same_L[4]?))
def ref17_Same_K2 (N : Nat) : XE → GS → Option (Lo (((List D91) × (List D91) × Int × Unit) × (Unit)) ((Unit) × (Unit)) ref17_Same_R) := roundK (some 0) (fit 0 [0, 1, 5] ref17_Same_S0) (fit 0 [] ref17_Same_S1) (ref17_Same_K N)
theorem ref17_Same_s2_b {E : Env} (N : Nat) (hb : Base Tryd.prog (ref17_Same_C N) E 0) : Blk Tryd.prog (ref17_Same_C N) E [0, 1, 5] ref17_Same_S0 (ref17_Same_L2.drop 0) (fun y => ref17_Same_s2 N y.1.1 y.1.2.1 y.1.2.2.1) (ref17_Same_K2 N) :=
 Blk.chunkAt hb 4 (X := (ref17_Same_K2 N .normal)) (NxOk.end (by kernel_rfl)) rfl (fun x => by kernel_rfl)
theorem ref17_Same_3_b {E : Env} (N : Nat) (hb : Base Tryd.prog (ref17_Same_C N) E 0) : Blk Tryd.prog (ref17_Same_C N) E [] ref17_Same_S1 (ref17_Same_L.drop 5) (fun y => ref17_Same_3 N) (ref17_Same_K N) :=
 Blk.chunkAt hb 2 (X := (ref17_Same_K N .normal)) (NxOk.end (by kernel_rfl)) rfl (fun x => by kernel_rfl)
theorem ref17_Same_1_b {E : Env} (N : Nat) (hb : Base Tryd.prog (ref17_Same_C N) E 0) : Blk Tryd.prog (ref17_Same_C N) E [0, 1, 5] ref17_Same_S0 (ref17_Same_L.drop 4) (fun y => ref17_Same_1 N y.1.1 y.1.2.1 y.1.2.2.1) (ref17_Same_K N) :=
 Blk.loopAt (Nf := N) (hns := [0, 1, 5]) (ans := []) (hc := ref17_Same_S0) (ac := ref17_Same_S1) (bid := 0) (step := (fun y => ref17_Same_s2 N y.1.1 y.1.2.1 y.1.2.2.1)) (J := (fun e => (goK 0 [] ref17_Same_S1 (fun y => ref17_Same_3 N)) (ref17_Same_S1.st [] e))) hb (by kernel_rfl) (Blk.into (X := (goK 0 [] ref17_Same_S1 (fun y => ref17_Same_3 N))) (NxOk.go hb (ref17_Same_3_b N hb)) (fun x => by kernel_rfl)) (ref17_Same_s2_b N hb) (fun x => by kernel_rfl)
theorem ref17_Same_b {E : Env} (N : Nat) (hb : Base Tryd.prog (ref17_Same_C N) E 0) : Blk Tryd.prog (ref17_Same_C N) E (List.range ref17_Same_S2.ks.length) ref17_Same_S2 (ref17_Same_L.drop 0) (fun y => ref17_Same N y.1.1 y.1.2.1) (ref17_Same_K N) :=
 Blk.chunkAt hb 4 (X := (goK 0 [0, 1, 5] ref17_Same_S0 (fun y => ref17_Same_1 N y.1.1 y.1.2.1 y.1.2.2.1))) (NxOk.go hb (ref17_Same_1_b N hb)) rfl (fun x => by kernel_rfl)
def ref17_Same_ctr (N : Nat) : Ctr := ⟨ref17_Same_S2, ref17_Same_S3.un [false], 0, (fun y => ref17_Same N y.1.1 y.1.2.1)⟩
theorem ref17_Same_ctrs (N : Nat) : CtrsOk Tryd.prog (ref17_Same_C N) := ctrs_of (Γ := ref17_Same_C N) G_ifs_ok (by
 intro p hp
 simp only [ref17_Same_C, List.mem_cons, List.not_mem_nil, or_false] at hp
 rcases hp with rfl
 · exact ref01_Equal_ok N)
theorem ref17_Same_ok (N : Nat) : Ctr.ok Tryd.prog G_globs 68 (ref17_Same_ctr N) :=
 ctr_fn (Γ := ref17_Same_C N) (rfit := ref17_Same_S3) (bs := [false]) (res := [4]) (by kernel_rfl) (tys_ok G_tys_ok) (ref17_Same_ctrs N) Tryd.func68 (by kernel_rfl) (by kernel_rfl) Tryd.ntmps68 (by kernel_rfl) (by kernel_rfl) (by kernel_rfl) (by kernel_rfl) (fun E hb => ref17_Same_b N hb)
/-! ipsecgate/ipsecgatelaw17.SealedOpens -/
abbrev law17_SealedOpens_R : Type := ((Bool × Unit) × (Unit))
def law17_SealedOpens_s2 (N : Nat) (k_11 : (List UInt8)) (x_13 : (List UInt8)) (t_89 : Int) (t_90 : Int) (c_9 : ((List UInt8) × (Int × Unit))) (all_17 : (List (List UInt8))) (t_88 : (List (List UInt8))) : Option (Lo (((List UInt8) × (List UInt8) × Int × Int × Unit) × (((List UInt8) × (Int × Unit)) × (List (List UInt8)) × (List (List UInt8)) × Unit)) (((List UInt8) × (List UInt8) × Unit) × ((List (List UInt8)) × Unit)) law17_SealedOpens_R) :=
 bif (decide (t_90 < t_89)) then
 bif inR t_90 t_88.length then
 let x17 := (t_88.getD t_90.toNat ([] : List UInt8))
 Option.bind (make_Codes_Change N x17 c_9) fun y18 =>
 bif room (all_17.length + ([x17, y18.1.1] : List (List UInt8)).length) 24 then
 some (.go ((k_11, x_13, t_89, (w64 (t_90 + (1 : Int))), ()), (y18.2.1, (all_17 ++ ([x17, y18.1.1] : List (List UInt8))), t_88, ())))
 else none
 else none
 else
 some (.br ((k_11, x_13, ()), (all_17, ())))
def law17_SealedOpens_s5 (N : Nat) (k_11 : (List UInt8)) (x_13 : (List UInt8)) (t_103 : Int) (t_104 : Int) (t_102 : (List (List UInt8))) : Option (Lo (((List UInt8) × (List UInt8) × Int × Int × Unit) × ((List (List UInt8)) × Unit)) (((List UInt8) × (List UInt8) × Unit) × (Unit)) law17_SealedOpens_R) :=
 bif (decide (t_104 < t_103)) then
 bif inR t_104 t_102.length then
 let x23 := (t_102.getD t_104.toNat ([] : List UInt8))
 Option.bind (sealed_Open N x23 k_11) fun y24 =>
 Option.bind (ref17_Open N x23 k_11) fun y25 =>
 Option.bind (sealed_OpenPart N x23 k_11) fun y26 =>
 Option.bind (ref17_OpenPart N x23 k_11) fun y27 =>
 bif (!(dq T75 y24.1.1 y25.1.1)) then
 some (.rt ((false, ()), (())))
 else
 bif (!(decide (y24.1.2.1 = y25.1.2.1))) then
 some (.rt ((false, ()), (())))
 else
 bif (!(decide (y24.1.2.2.2.1 = y25.1.2.2.2.1))) then
 some (.rt ((false, ()), (())))
 else
 bif (!(decide (y26.1.2.2.1 = y27.1.2.2.1))) then
 some (.rt ((false, ()), (())))
 else
 bif (!(dq T75 y26.1.1 y27.1.1)) then
 some (.rt ((false, ()), (())))
 else
 Option.bind (ref01_Equal N y24.1.2.2.1 y25.1.2.2.1) fun y33 =>
 bif (!y33.1.1) then
 some (.rt ((false, ()), (())))
 else
 Option.bind (ref17_Same N ([y26.1.2.1] : List D91) ([y27.1.2.1] : List D91)) fun y35 =>
 bif (!y35.1.1) then
 some (.rt ((false, ()), (())))
 else
 some (.go ((k_11, x_13, t_103, (w64 (t_104 + (1 : Int))), ()), (t_102, ())))
 else none
 else
 some (.br ((k_11, x_13, ()), (())))
def law17_SealedOpens_6 (N : Nat) (k_11 : (List UInt8)) (x_13 : (List UInt8)) : Option law17_SealedOpens_R :=
 bif decide (0 ≤ (1 : Int)) && decide ((1 : Int) ≤ (k_11.length : Int)) && decide ((k_11.length : Int) ≤ (k_11.length : Int)) && true then
 Option.bind (sealed_Open N x_13 (cut k_11 1 k_11.length)) fun y39 =>
 some (((decide (y39.1.2.2.2.1 = (13 : Int))), ()), (()))
 else none
def law17_SealedOpens_4 (N : Nat) (k_11 : (List UInt8)) (x_13 : (List UInt8)) (t_103 : Int) (t_104 : Int) (t_102 : (List (List UInt8))) : Option law17_SealedOpens_R :=
 loopK N (fun y => law17_SealedOpens_s5 N y.1.1 y.1.2.1 y.1.2.2.1 y.1.2.2.2.1 y.2.1) (fun (e : (((List UInt8) × (List UInt8) × Unit) × (Unit))) => law17_SealedOpens_6 N e.1.1 e.1.2.1) ((k_11, x_13, t_103, t_104, ()), (t_102, ()))
def law17_SealedOpens_3 (N : Nat) (k_11 : (List UInt8)) (x_13 : (List UInt8)) (all_17 : (List (List UInt8))) : Option law17_SealedOpens_R :=
 law17_SealedOpens_4 N k_11 x_13 (all_17.length : Int) (0 : Int) all_17
def law17_SealedOpens_1 (N : Nat) (k_11 : (List UInt8)) (x_13 : (List UInt8)) (t_89 : Int) (t_90 : Int) (c_9 : ((List UInt8) × (Int × Unit))) (all_17 : (List (List UInt8))) (t_88 : (List (List UInt8))) : Option law17_SealedOpens_R :=
 loopK N (fun y => law17_SealedOpens_s2 N y.1.1 y.1.2.1 y.1.2.2.1 y.1.2.2.2.1 y.2.1 y.2.2.1 y.2.2.2.1) (fun (e : (((List UInt8) × (List UInt8) × Unit) × ((List (List UInt8)) × Unit))) => law17_SealedOpens_3 N e.1.1 e.1.2.1 e.2.1) ((k_11, x_13, t_89, t_90, ()), (c_9, all_17, t_88, ()))
def law17_SealedOpens (N : Nat) (codes_0 : (List UInt8)) (raw_1 : (List UInt8)) (iv_2 : UInt64) (pad_3 : UInt8) : Option law17_SealedOpens_R :=
 Option.bind (law17_awake N) fun y1 =>
 bif (!y1.1.1) then
 some ((false, ()), (()))
 else
 Option.bind (make_New N codes_0 (240 : Int)) fun y3 =>
 Option.bind (law17_draw N y3.2.1) fun y4 =>
 Option.bind (ref17_Seal N y4.1.1 (33 : Int) y4.2.2.2.1 y4.2.2.1 iv_2) fun y5 =>
 Option.bind (make_Codes_Next N (40 : Int) y4.2.1) fun y6 =>
 Option.bind (ref17_Split N y4.1.1 (33 : Int) y4.2.2.2.1 y4.2.2.1 iv_2 (w64 ((1 : Int) + y6.1.1))) fun y8 =>
 Option.bind (make_Codes_Change N y5.2.1 y6.2.1) fun y9 =>
 Option.bind (law17_padded N y4.1.1 y4.2.2.2.1 y4.2.2.1 iv_2 (pad_3.toNat : Int)) fun y11 =>
 Option.bind (make_Codes_Next N (20 : Int) y9.2.1) fun y12 =>
 Option.bind (make_Codes_Next N (20 : Int) y12.2.1) fun y13 =>
 Option.bind (law17_numbered N y8.2.1 y12.1.1 y13.1.1) fun y14 =>
 law17_SealedOpens_1 N y4.2.2.1 y5.2.1 (y8.2.1.length : Int) (0 : Int) y13.2.1 ([raw_1, y5.2.1, y9.1.1, y11.2.1, y14.2.1] : List (List UInt8)) y8.2.1
def law17_SealedOpens_C (N : Nat) : Ctx := ⟨187, G_tys, [(53, law17_awake_ctr N), (16, make_New_ctr N), (54, law17_draw_ctr N), (59, ref17_Seal_ctr N), (61, make_Codes_Next_ctr N), (60, ref17_Split_ctr N), (22, make_Codes_Change_ctr N), (62, law17_padded_ctr N), (63, law17_numbered_ctr N), (64, sealed_Open_ctr N), (65, ref17_Open_ctr N), (66, sealed_OpenPart_ctr N), (67, ref17_OpenPart_ctr N), (21, ref01_Equal_ctr N), (68, ref17_Same_ctr N)], G_globs, G_ifs⟩
def law17_SealedOpens_S0 : Spec := ⟨[.ref 0 (.pair (.sl .u8) (.pair .i64 .unit)), .val (.sl .u8), .val (.sl .u8), .row 1, .row 2, .val .i64, .val .i64], [(.box 122 (.pair (.sl .u8) (.pair .i64 .unit)), .pos 0), (.row 22 (.sl .u8), .pos 3), (.row 22 (.sl .u8), .pos 4)]⟩
def law17_SealedOpens_S1 : Spec := ⟨[.val (.sl .u8), .val (.sl .u8), .row 0, .val .i64, .val .i64], [(.row 22 (.sl .u8), .pos 2)]⟩
def law17_SealedOpens_S2 : Spec := ⟨[.val (.sl .u8), .val (.sl .u8)], []⟩
def law17_SealedOpens_S3 : Spec := ⟨[.val (.sl .u8), .val (.sl .u8), .row 0], [(.row 22 (.sl .u8), .pos 2)]⟩
def law17_SealedOpens_S4 : Spec := ⟨[.val (.sl .u8), .val (.sl .u8), .val .u64, .val .u8], []⟩
def law17_SealedOpens_S5 : Spec := ⟨[.val .bool], []⟩
def law17_SealedOpens_K (_N : Nat) : XE → GS → Option law17_SealedOpens_R := retK 0 [8] [false] law17_SealedOpens_S5
def law17_SealedOpens_L : List Code := (bodyOf (some Tryd.f10))
def law17_SealedOpens_L2 : List Code := (loopOf (law17_SealedOpens_L[9]?))
def law17_SealedOpens_L5 : List Code := (loopOf (law17_SealedOpens_L[11]?))
def law17_SealedOpens_K2 (N : Nat) : XE → GS → Option (Lo (((List UInt8) × (List UInt8) × Int × Int × Unit) × (((List UInt8) × (Int × Unit)) × (List (List UInt8)) × (List (List UInt8)) × Unit)) (((List UInt8) × (List UInt8) × Unit) × ((List (List UInt8)) × Unit)) law17_SealedOpens_R) := roundK (some 0) (fit 0 [9, 11, 13, 17, 88, 89, 90] law17_SealedOpens_S0) (fit 0 [11, 13, 17] law17_SealedOpens_S3) (law17_SealedOpens_K N)
def law17_SealedOpens_K5 (N : Nat) : XE → GS → Option (Lo (((List UInt8) × (List UInt8) × Int × Int × Unit) × ((List (List UInt8)) × Unit)) (((List UInt8) × (List UInt8) × Unit) × (Unit)) law17_SealedOpens_R) := roundK (some 2) (fit 0 [11, 13, 102, 103, 104] law17_SealedOpens_S1) (fit 0 [11, 13] law17_SealedOpens_S2) (law17_SealedOpens_K N)
theorem law17_SealedOpens_s2_b {E : Env} (N : Nat) (hb : Base Tryd.prog (law17_SealedOpens_C N) E 0) : Blk Tryd.prog (law17_SealedOpens_C N) E [9, 11, 13, 17, 88, 89, 90] law17_SealedOpens_S0 (law17_SealedOpens_L2.drop 0) (fun y => law17_SealedOpens_s2 N y.1.1 y.1.2.1 y.1.2.2.1 y.1.2.2.2.1 y.2.1 y.2.2.1 y.2.2.2.1) (law17_SealedOpens_K2 N) :=
 Blk.chunkAt hb 4 (X := (law17_SealedOpens_K2 N .normal)) (NxOk.end (by kernel_rfl)) rfl (fun x => by kernel_rfl)
theorem law17_SealedOpens_s5_b {E : Env} (N : Nat) (hb : Base Tryd.prog (law17_SealedOpens_C N) E 0) : Blk Tryd.prog (law17_SealedOpens_C N) E [11, 13, 102, 103, 104] law17_SealedOpens_S1 (law17_SealedOpens_L5.drop 0) (fun y => law17_SealedOpens_s5 N y.1.1 y.1.2.1 y.1.2.2.1 y.1.2.2.2.1 y.2.1) (law17_SealedOpens_K5 N) :=
 Blk.chunkAt hb 4 (X := (law17_SealedOpens_K5 N .normal)) (NxOk.end (by kernel_rfl)) rfl (fun x => by kernel_rfl)
theorem law17_SealedOpens_6_b {E : Env} (N : Nat) (hb : Base Tryd.prog (law17_SealedOpens_C N) E 0) : Blk Tryd.prog (law17_SealedOpens_C N) E [11, 13] law17_SealedOpens_S2 (law17_SealedOpens_L.drop 12) (fun y => law17_SealedOpens_6 N y.1.1 y.1.2.1) (law17_SealedOpens_K N) :=
 Blk.chunkAt hb 3 (X := (law17_SealedOpens_K N .normal)) (NxOk.end (by kernel_rfl)) rfl (fun x => by kernel_rfl)
theorem law17_SealedOpens_4_b {E : Env} (N : Nat) (hb : Base Tryd.prog (law17_SealedOpens_C N) E 0) : Blk Tryd.prog (law17_SealedOpens_C N) E [11, 13, 102, 103, 104] law17_SealedOpens_S1 (law17_SealedOpens_L.drop 11) (fun y => law17_SealedOpens_4 N y.1.1 y.1.2.1 y.1.2.2.1 y.1.2.2.2.1 y.2.1) (law17_SealedOpens_K N) :=
 Blk.loopAt (Nf := N) (hns := [11, 13, 102, 103, 104]) (ans := [11, 13]) (hc := law17_SealedOpens_S1) (ac := law17_SealedOpens_S2) (bid := 2) (step := (fun y => law17_SealedOpens_s5 N y.1.1 y.1.2.1 y.1.2.2.1 y.1.2.2.2.1 y.2.1)) (J := (fun e => (goK 0 [11, 13] law17_SealedOpens_S2 (fun y => law17_SealedOpens_6 N y.1.1 y.1.2.1)) (law17_SealedOpens_S2.st [11, 13] e))) hb (by kernel_rfl) (Blk.into (X := (goK 0 [11, 13] law17_SealedOpens_S2 (fun y => law17_SealedOpens_6 N y.1.1 y.1.2.1))) (NxOk.go hb (law17_SealedOpens_6_b N hb)) (fun x => by kernel_rfl)) (law17_SealedOpens_s5_b N hb) (fun x => by kernel_rfl)
theorem law17_SealedOpens_3_b {E : Env} (N : Nat) (hb : Base Tryd.prog (law17_SealedOpens_C N) E 0) : Blk Tryd.prog (law17_SealedOpens_C N) E [11, 13, 17] law17_SealedOpens_S3 (law17_SealedOpens_L.drop 10) (fun y => law17_SealedOpens_3 N y.1.1 y.1.2.1 y.2.1) (law17_SealedOpens_K N) :=
 Blk.chunkAt hb 1 (X := (goK 0 [11, 13, 102, 103, 104] law17_SealedOpens_S1 (fun y => law17_SealedOpens_4 N y.1.1 y.1.2.1 y.1.2.2.1 y.1.2.2.2.1 y.2.1))) (NxOk.go hb (law17_SealedOpens_4_b N hb)) rfl (fun x => by kernel_rfl)
theorem law17_SealedOpens_1_b {E : Env} (N : Nat) (hb : Base Tryd.prog (law17_SealedOpens_C N) E 0) : Blk Tryd.prog (law17_SealedOpens_C N) E [9, 11, 13, 17, 88, 89, 90] law17_SealedOpens_S0 (law17_SealedOpens_L.drop 9) (fun y => law17_SealedOpens_1 N y.1.1 y.1.2.1 y.1.2.2.1 y.1.2.2.2.1 y.2.1 y.2.2.1 y.2.2.2.1) (law17_SealedOpens_K N) :=
 Blk.loopAt (Nf := N) (hns := [9, 11, 13, 17, 88, 89, 90]) (ans := [11, 13, 17]) (hc := law17_SealedOpens_S0) (ac := law17_SealedOpens_S3) (bid := 0) (step := (fun y => law17_SealedOpens_s2 N y.1.1 y.1.2.1 y.1.2.2.1 y.1.2.2.2.1 y.2.1 y.2.2.1 y.2.2.2.1)) (J := (fun e => (goK 0 [11, 13, 17] law17_SealedOpens_S3 (fun y => law17_SealedOpens_3 N y.1.1 y.1.2.1 y.2.1)) (law17_SealedOpens_S3.st [11, 13, 17] e))) hb (by kernel_rfl) (Blk.into (X := (goK 0 [11, 13, 17] law17_SealedOpens_S3 (fun y => law17_SealedOpens_3 N y.1.1 y.1.2.1 y.2.1))) (NxOk.go hb (law17_SealedOpens_3_b N hb)) (fun x => by kernel_rfl)) (law17_SealedOpens_s2_b N hb) (fun x => by kernel_rfl)
theorem law17_SealedOpens_b {E : Env} (N : Nat) (hb : Base Tryd.prog (law17_SealedOpens_C N) E 0) : Blk Tryd.prog (law17_SealedOpens_C N) E (List.range law17_SealedOpens_S4.ks.length) law17_SealedOpens_S4 (law17_SealedOpens_L.drop 0) (fun y => law17_SealedOpens N y.1.1 y.1.2.1 y.1.2.2.1 y.1.2.2.2.1) (law17_SealedOpens_K N) :=
 Blk.chunkAt hb 9 (X := (goK 0 [9, 11, 13, 17, 88, 89, 90] law17_SealedOpens_S0 (fun y => law17_SealedOpens_1 N y.1.1 y.1.2.1 y.1.2.2.1 y.1.2.2.2.1 y.2.1 y.2.2.1 y.2.2.2.1))) (NxOk.go hb (law17_SealedOpens_1_b N hb)) rfl (fun x => by kernel_rfl)
def law17_SealedOpens_ctr (N : Nat) : Ctr := ⟨law17_SealedOpens_S4, law17_SealedOpens_S5.un [false], 0, (fun y => law17_SealedOpens N y.1.1 y.1.2.1 y.1.2.2.1 y.1.2.2.2.1)⟩
theorem law17_SealedOpens_ctrs (N : Nat) : CtrsOk Tryd.prog (law17_SealedOpens_C N) := ctrs_of (Γ := law17_SealedOpens_C N) G_ifs_ok (by
 intro p hp
 simp only [law17_SealedOpens_C, List.mem_cons, List.not_mem_nil, or_false] at hp
 rcases hp with rfl | rfl | rfl | rfl | rfl | rfl | rfl | rfl | rfl | rfl | rfl | rfl | rfl | rfl | rfl
 · exact law17_awake_ok N
 · exact make_New_ok N
 · exact law17_draw_ok N
 · exact ref17_Seal_ok N
 · exact make_Codes_Next_ok N
 · exact ref17_Split_ok N
 · exact make_Codes_Change_ok N
 · exact law17_padded_ok N
 · exact law17_numbered_ok N
 · exact sealed_Open_ok N
 · exact ref17_Open_ok N
 · exact sealed_OpenPart_ok N
 · exact ref17_OpenPart_ok N
 · exact ref01_Equal_ok N
 · exact ref17_Same_ok N)
theorem law17_SealedOpens_ok (N : Nat) : Ctr.ok Tryd.prog G_globs 10 (law17_SealedOpens_ctr N) :=
 ctr_fn (Γ := law17_SealedOpens_C N) (rfit := law17_SealedOpens_S5) (bs := [false]) (res := [8]) (by kernel_rfl) (tys_ok G_tys_ok) (law17_SealedOpens_ctrs N) Tryd.func10 (by kernel_rfl) (by kernel_rfl) Tryd.ntmps10 (by kernel_rfl) (by kernel_rfl) (by kernel_rfl) (by kernel_rfl) (fun E hb => law17_SealedOpens_b N hb)
end
end Go.Proofs.YtofajgidjkjnpaaDoor