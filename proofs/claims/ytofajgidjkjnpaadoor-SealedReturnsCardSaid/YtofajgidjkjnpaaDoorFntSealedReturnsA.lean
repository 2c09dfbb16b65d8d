/- Functions of the program as plain functions, each with the proof that the text computes it. -/
import Derived.Test.YtofajgidjkjnpaaDoorFnsSealedReturnsA
import Derived.Test.YtofajgidjkjnpaaDoorRngSealedReturns
import Derived.Test.YtofajgidjkjnpaaDoorGmChunks
import Derived.Test.YtofajgidjkjnpaaDoorGmNil
set_option linter.unusedVariables false
set_option linter.unusedSimpArgs false
namespace Go.Proofs.YtofajgidjkjnpaaDoor
open Go
set_option maxRecDepth 100000
set_option linter.unusedVariables false
noncomputable section
/-! ipsecgate/sealed.parse -/
abbrev sealed_parse_R : Type := ((D154 × Int × Unit) × (Unit))
def sealed_parse (N : Nat) (b_0 : (List UInt8)) (key_1 : (List UInt8)) (kind_2 : Int) (least_3 : Int) : Option sealed_parse_R :=
 bif (!(decide ((key_1.length : Int) = (36 : Int)))) then
 some (((((0 : UInt64), (0 : UInt64), (0 : Int), (0 : Int), (0 : Int), (0 : UInt32), ()), (0 : Int), ([] : List UInt8), ()), (13 : Int), ()), (()))
 else
 Option.bind (header_Parse N b_0) fun y3 =>
 bif (!(decide (y3.1.2.1 = (0 : Int)))) then
 some (((((0 : UInt64), (0 : UInt64), (0 : Int), (0 : Int), (0 : Int), (0 : UInt32), ()), (0 : Int), ([] : List UInt8), ()), y3.1.2.1, ()), (()))
 else
 bif (!(decide (y3.1.1.2.2.1 = kind_2))) then
 some (((((0 : UInt64), (0 : UInt64), (0 : Int), (0 : Int), (0 : Int), (0 : UInt32), ()), (0 : Int), ([] : List UInt8), ()), (7 : Int), ()), (()))
 else
 bif decide (0 ≤ (28 : Int)) && decide ((28 : Int) ≤ (b_0.length : Int)) && decide ((b_0.length : Int) ≤ (b_0.length : Int)) && true then
 Option.bind (chain_Parse N y3.1.1.2.2.1 (cut b_0 28 b_0.length)) fun y7 =>
 bif (!(decide (y7.1.2.2.1 = (0 : Int)))) then
 some (((((0 : UInt64), (0 : UInt64), (0 : Int), (0 : Int), (0 : Int), (0 : UInt32), ()), (0 : Int), ([] : List UInt8), ()), y7.1.2.2.1, ()), (()))
 else
 bif (!(decide ((y7.1.1.length : Int) = (1 : Int)))) then
 some (((((0 : UInt64), (0 : UInt64), (0 : Int), (0 : Int), (0 : Int), (0 : UInt32), ()), (0 : Int), ([] : List UInt8), ()), (7 : Int), ()), (()))
 else
 bif inR (0 : Int) y7.1.1.length then
 bif (decide (((y7.1.1.getD 0 ((0 : Int), false, ([] : List UInt8), ())).2.2.1.length : Int) < least_3)) then
 some (((((0 : UInt64), (0 : UInt64), (0 : Int), (0 : Int), (0 : Int), (0 : UInt32), ()), (0 : Int), ([] : List UInt8), ()), (1 : Int), ()), (()))
 else
 bif inR (0 : Int) y7.1.1.length then
 some (((y3.1.1, y7.1.2.1, (y7.1.1.getD 0 ((0 : Int), false, ([] : List UInt8), ())).2.2.1, ()), (0 : Int), ()), (()))
 else none
 else none
 else none
def sealed_parse_C (N : Nat) : Ctx := ⟨64, G_tys, [(171, header_Parse_ctr N), (172, chain_Parse_ctr N)], G_globs, G_ifs⟩
def sealed_parse_S0 : Spec := ⟨[.val (.sl .u8), .val (.sl .u8), .val .i64, .val .i64], []⟩
def sealed_parse_S1 : Spec := ⟨[.fp T154, .val .i64], []⟩
def sealed_parse_K (_N : Nat) : XE → GS → Option sealed_parse_R := retK 0 [8, 9] [true, false] sealed_parse_S1
def sealed_parse_L : List Code := (bodyOf (some Tryd.f126))
theorem sealed_parse_b {E : Env} (N : Nat) (hb : Base Tryd.prog (sealed_parse_C N) E 0) : Blk Tryd.prog (sealed_parse_C N) E (List.range sealed_parse_S0.ks.length) sealed_parse_S0 (sealed_parse_L.drop 0) (fun y => sealed_parse N y.1.1 y.1.2.1 y.1.2.2.1 y.1.2.2.2.1) (sealed_parse_K N) :=
 Blk.chunkAt hb 17 (X := (sealed_parse_K N .normal)) (NxOk.end (by kernel_rfl)) rfl (fun x => by kernel_rfl)
def sealed_parse_ctr (N : Nat) : Ctr := ⟨sealed_parse_S0, sealed_parse_S1.un [true, false], 0, (fun y => sealed_parse N y.1.1 y.1.2.1 y.1.2.2.1 y.1.2.2.2.1)⟩
theorem sealed_parse_ctrs (N : Nat) : CtrsOk Tryd.prog (sealed_parse_C N) := ctrs_of (Γ := sealed_parse_C N) G_ifs_ok (by
 intro p hp
 simp only [sealed_parse_C, List.mem_cons, List.not_mem_nil, or_false] at hp
 rcases hp with rfl | rfl
 · exact header_Parse_ok N
 · exact chain_Parse_ok N)
theorem sealed_parse_ok (N : Nat) : Ctr.ok Tryd.prog G_globs 126 (sealed_parse_ctr N) :=
 ctr_fn (Γ := sealed_parse_C N) (rfit := sealed_parse_S1) (bs := [true, false]) (res := [8, 9]) (by kernel_rfl) (tys_ok G_tys_ok) (sealed_parse_ctrs N) Tryd.func126 (by kernel_rfl) (by kernel_rfl) Tryd.ntmps126 (by kernel_rfl) (by kernel_rfl) (by kernel_rfl) (by kernel_rfl) (fun E hb => sealed_parse_b N hb)
/-! ipsecgate/aead.different -/
abbrev aead_different_R : Type := ((UInt8 × Unit) × (Unit))
def aead_different_s2 (N : Nat) (a_0 : (List UInt8)) (b_1 : (List UInt8)) (d_5 : UInt8) (t_8 : Int) (t_9 : Int) : Option (Lo (((List UInt8) × (List UInt8) × UInt8 × Int × Int × Unit) × (Unit)) ((UInt8 × Unit) × (Unit)) aead_different_R) :=
 bif (decide (t_9 < t_8)) then
 bif inR t_9 a_0.length then
 bif inR t_9 b_1.length then
 some (.go ((a_0, b_1, (d_5 ||| ((a_0.getD t_9.toNat (0 : UInt8)) ^^^ (b_1.getD t_9.toNat (0 : UInt8)))), t_8, (w64 (t_9 + (1 : Int))), ()), (())))
 else none
 else none
 else
 some (.br ((d_5, ()), (())))
def aead_different_3 (N : Nat) (d_5 : UInt8) : Option aead_different_R :=
 some ((d_5, ()), (()))
def aead_different_1 (N : Nat) (a_0 : (List UInt8)) (b_1 : (List UInt8)) (d_5 : UInt8) (t_8 : Int) (t_9 : Int) : Option aead_different_R :=
 loopK N (fun y => aead_different_s2 N y.1.1 y.1.2.1 y.1.2.2.1 y.1.2.2.2.1 y.1.2.2.2.2.1) (fun (e : ((UInt8 × Unit) × (Unit))) => aead_different_3 N e.1.1) ((a_0, b_1, d_5, t_8, t_9, ()), (()))
def aead_different (N : Nat) (a_0 : (List UInt8)) (b_1 : (List UInt8)) : Option aead_different_R :=
 aead_different_1 N a_0 b_1 (0 : UInt8) (a_0.length : Int) (0 : Int)
def aead_different_C (N : Nat) : Ctx := ⟨25, G_tys, [], G_globs, G_ifs⟩
def aead_different_S0 : Spec := ⟨[.val (.sl .u8), .val (.sl .u8), .val .u8, .val .i64, .val .i64], []⟩
def aead_different_S1 : Spec := ⟨[.val .u8], []⟩
def aead_different_S2 : Spec := ⟨[.val (.sl .u8), .val (.sl .u8)], []⟩
def aead_different_K (_N : Nat) : XE → GS → Option aead_different_R := retK 0 [4] [false] aead_different_S1
def aead_different_L : List Code := (bodyOf (some Tryd.f161))
def aead_different_L2 : List Code := (loopOf (aead_different_L[3]?))
def aead_different_K2 (N : Nat) : XE → GS → Option (Lo (((List UInt8) × (List UInt8) × UInt8 × Int × Int × Unit) × (Unit)) ((UInt8 × Unit) × (Unit)) aead_different_R) := roundK (some 0) (fit 0 [0, 1, 5, 8, 9] aead_different_S0) (fit 0 [5] aead_different_S1) (aead_different_K N)
theorem aead_different_s2_b {E : Env} (N : Nat) (hb : Base Tryd.prog (aead_different_C N) E 0) : Blk Tryd.prog (aead_different_C N) E [0, 1, 5, 8, 9] aead_different_S0 (aead_different_L2.drop 0) (fun y => aead_different_s2 N y.1.1 y.1.2.1 y.1.2.2.1 y.1.2.2.2.1 y.1.2.2.2.2.1) (aead_different_K2 N) :=
 Blk.chunkAt hb 4 (X := (aead_different_K2 N .normal)) (NxOk.end (by kernel_rfl)) rfl (fun x => by kernel_rfl)
theorem aead_different_3_b {E : Env} (N : Nat) (hb : Base Tryd.prog (aead_different_C N) E 0) : Blk Tryd.prog (aead_different_C N) E [5] aead_different_S1 (aead_different_L.drop 4) (fun y => aead_different_3 N y.1.1) (aead_different_K N) :=
 Blk.chunkAt hb 2 (X := (aead_different_K N .normal)) (NxOk.end (by kernel_rfl)) rfl (fun x => by kernel_rfl)
theorem aead_different_1_b {E : Env} (N : Nat) (hb : Base Tryd.prog (aead_different_C N) E 0) : Blk Tryd.prog (aead_different_C N) E [0, 1, 5, 8, 9] aead_different_S0 (aead_different_L.drop 3) (fun y => aead_different_1 N y.1.1 y.1.2.1 y.1.2.2.1 y.1.2.2.2.1 y.1.2.2.2.2.1) (aead_different_K N) :=
 Blk.loopAt (Nf := N) (hns := [0, 1, 5, 8, 9]) (ans := [5]) (hc := aead_different_S0) (ac := aead_different_S1) (bid := 0) (step := (fun y => aead_different_s2 N y.1.1 y.1.2.1 y.1.2.2.1 y.1.2.2.2.1 y.1.2.2.2.2.1)) (J := (fun e => (goK 0 [5] aead_different_S1 (fun y => aead_different_3 N y.1.1)) (aead_different_S1.st [5] e))) hb (by kernel_rfl) (Blk.into (X := (goK 0 [5] aead_different_S1 (fun y => aead_different_3 N y.1.1))) (NxOk.go hb (aead_different_3_b N hb)) (fun x => by kernel_rfl)) (aead_different_s2_b N hb) (fun x => by kernel_rfl)
theorem aead_different_b {E : Env} (N : Nat) (hb : Base Tryd.prog (aead_different_C N) E 0) : Blk Tryd.prog (aead_different_C N) E (List.range aead_different_S2.ks.length) aead_different_S2 (aead_different_L.drop 0) (fun y => aead_different N y.1.1 y.1.2.1) (aead_different_K N) :=
 Blk.chunkAt hb 3 (X := (goK 0 [0, 1, 5, 8, 9] aead_different_S0 (fun y => aead_different_1 N y.1.1 y.1.2.1 y.1.2.2.1 y.1.2.2.2.1 y.1.2.2.2.2.1))) (NxOk.go hb (aead_different_1_b N hb)) rfl (fun x => by kernel_rfl)
def aead_different_ctr (N : Nat) : Ctr := ⟨aead_different_S2, aead_different_S1.un [false], 0, (fun y => aead_different N y.1.1 y.1.2.1)⟩
theorem aead_different_ctrs (N : Nat) : CtrsOk Tryd.prog (aead_different_C N) := ctrs_nil G_ifs_ok rfl
theorem aead_different_ok (N : Nat) : Ctr.ok Tryd.prog G_globs 161 (aead_different_ctr N) :=
 ctr_fn (Γ := aead_different_C N) (rfit := aead_different_S1) (bs := [false]) (res := [4]) (by kernel_rfl) (tys_ok G_tys_ok) (aead_different_ctrs N) Tryd.func161 (by kernel_rfl) (by kernel_rfl) Tryd.ntmps161 (by kernel_rfl) (by kernel_rfl) (by kernel_rfl) (by kernel_rfl) (fun E hb => aead_different_b N hb)
/-! ipsecgate/aead.Open -/
abbrev aead_Open_R : Type := ((Int × Unit) × ((List UInt8) × Unit))
def aead_Open (N : Nat) (key_0 : (List UInt8)) (nonce_1 : (List UInt8)) (data_2 : (List UInt8)) (sealed_3 : (List UInt8)) : Option aead_Open_R :=
 Option.bind (aead_keyed N key_0 nonce_1) fun y1 =>
 bif (!y1.1.1) then
 some (((13 : Int), ()), (([] : List UInt8), ()))
 else
 let x4 := w64 ((sealed_3.length : Int) - (16 : Int))
 bif (decide (x4 < (0 : Int))) then
 some (((1 : Int), ()), (([] : List UInt8), ()))
 else
 bif decide (0 ≤ (0 : Int)) && decide ((0 : Int) ≤ x4) && decide (x4 ≤ (sealed_3.length : Int)) && true then
 Option.bind (aead_Tag N key_0 nonce_1 data_2 (cut sealed_3 0 x4.toNat)) fun y7 =>
 bif decide (0 ≤ x4) && decide (x4 ≤ (sealed_3.length : Int)) && decide ((sealed_3.length : Int) ≤ (sealed_3.length : Int)) && true then
 Option.bind (aead_different N y7.2.1 (cut sealed_3 x4.toNat sealed_3.length)) fun y9 =>
 bif (!(decide (y9.1.1 = (0 : UInt8)))) then
 some (((12 : Int), ()), (([] : List UInt8), ()))
 else
 bif decide (0 ≤ (0 : Int)) && decide ((0 : Int) ≤ x4) && decide (x4 ≤ (sealed_3.length : Int)) && true then
 Option.bind (chacha_Xor N key_0 (1 : UInt32) nonce_1 (cut sealed_3 0 x4.toNat)) fun y12 =>
 some (((0 : Int), ()), (y12.2.1, ()))
 else none
 else none
 else none
def aead_Open_C (N : Nat) : Ctx := ⟨50, G_tys, [(119, aead_keyed_ctr N), (121, aead_Tag_ctr N), (161, aead_different_ctr N), (120, chacha_Xor_ctr N)], G_globs, G_ifs⟩
def aead_Open_S0 : Spec := ⟨[.val (.sl .u8), .val (.sl .u8), .val (.sl .u8), .val (.sl .u8)], []⟩
def aead_Open_S1 : Spec := ⟨[.row 0, .val .i64], [(.row 5 .u8, .pos 0)]⟩
def aead_Open_K (_N : Nat) : XE → GS → Option aead_Open_R := retK 0 [8, 9] [false, false] aead_Open_S1
def aead_Open_L : List Code := (bodyOf (some Tryd.f104))
theorem aead_Open_b {E : Env} (N : Nat) (hb : Base Tryd.prog (aead_Open_C N) E 0) : Blk Tryd.prog (aead_Open_C N) E (List.range aead_Open_S0.ks.length) aead_Open_S0 (aead_Open_L.drop 0) (fun y => aead_Open N y.1.1 y.1.2.1 y.1.2.2.1 y.1.2.2.2.1) (aead_Open_K N) :=
 Blk.chunkAt hb 12 (X := (aead_Open_K N .normal)) (NxOk.end (by kernel_rfl)) rfl (fun x => by kernel_rfl)
def aead_Open_ctr (N : Nat) : Ctr := ⟨aead_Open_S0, aead_Open_S1.un [false, false], 0, (fun y => aead_Open N y.1.1 y.1.2.1 y.1.2.2.1 y.1.2.2.2.1)⟩
theorem aead_Open_ctrs (N : Nat) : CtrsOk Tryd.prog (aead_Open_C N) := ctrs_of (Γ := aead_Open_C N) G_ifs_ok (by
 intro p hp
 simp only [aead_Open_C, List.mem_cons, List.not_mem_nil, or_false] at hp
 rcases hp with rfl | rfl | rfl | rfl
 · exact aead_keyed_ok N
 · exact aead_Tag_ok N
 · exact aead_different_ok N
 · exact chacha_Xor_ok N)
theorem aead_Open_ok (N : Nat) : Ctr.ok Tryd.prog G_globs 104 (aead_Open_ctr N) :=
 ctr_fn (Γ := aead_Open_C N) (rfit := aead_Open_S1) (bs := [false, false]) (res := [8, 9]) (by kernel_rfl) (tys_ok G_tys_ok) (aead_Open_ctrs N) Tryd.func104 (by kernel_rfl) (by kernel_rfl) Tryd.ntmps104 (by kernel_rfl) (by kernel_rfl) (by kernel_rfl) (by kernel_rfl) (fun E hb => aead_Open_b N hb)
/-! (ipsecgate/sealed.read).open -/
abbrev sealed_read_open_R : Type := ((Int × Unit) × ((List UInt8) × Unit))
def sealed_read_open (N : Nat) (r_0 : D154) (b_1 : (List UInt8)) (key_2 : (List UInt8)) (behind_3 : Int) : Option sealed_read_open_R :=
 let x1 := w64 ((32 : Int) + behind_3)
 bif decide (0 ≤ (0 : Int)) && decide ((0 : Int) ≤ (32 : Int)) && decide ((32 : Int) ≤ (key_2.length : Int)) && true then
 let x3 := w64 (x1 + (8 : Int))
 bif decide (0 ≤ x1) && decide (x1 ≤ x3) && decide (x3 ≤ (b_1.length : Int)) && true then
 Option.bind (sealed_nonce N key_2 (cut b_1 x1.toNat x3.toNat)) fun y5 =>
 bif decide (0 ≤ (0 : Int)) && decide ((0 : Int) ≤ x1) && decide (x1 ≤ (b_1.length : Int)) && true then
 let x7 := w64 (x1 + (8 : Int))
 bif decide (0 ≤ x7) && decide (x7 ≤ (b_1.length : Int)) && decide ((b_1.length : Int) ≤ (b_1.length : Int)) && true then
 Option.bind (aead_Open N (cut key_2 0 32) y5.2.1 (cut b_1 0 x1.toNat) (cut b_1 x7.toNat b_1.length)) fun y9 =>
 some ((y9.1.1, ()), (y9.2.1, ()))
 else none
 else none
 else none
 else none
def sealed_read_open_C (N : Nat) : Ctx := ⟨32, G_tys, [(163, sealed_nonce_ctr N), (104, aead_Open_ctr N)], G_globs, G_ifs⟩
def sealed_read_open_S0 : Spec := ⟨[.val T154, .val (.sl .u8), .val (.sl .u8), .val .i64], []⟩
def sealed_read_open_S1 : Spec := ⟨[.row 0, .val .i64], [(.row 5 .u8, .pos 0)]⟩
def sealed_read_open_K (_N : Nat) : XE → GS → Option sealed_read_open_R := retK 0 [8, 9] [false, false] sealed_read_open_S1
def sealed_read_open_L : List Code := (bodyOf (some Tryd.f127))
theorem sealed_read_open_b {E : Env} (N : Nat) (hb : Base Tryd.prog (sealed_read_open_C N) E 0) : Blk Tryd.prog (sealed_read_open_C N) E (List.range sealed_read_open_S0.ks.length) sealed_read_open_S0 (sealed_read_open_L.drop 0) (fun y => sealed_read_open N y.1.1 y.1.2.1 y.1.2.2.1 y.1.2.2.2.1) (sealed_read_open_K N) :=
 Blk.chunkAt hb 4 (X := (sealed_read_open_K N .normal)) (NxOk.end (by kernel_rfl)) rfl (fun x => by kernel_rfl)
def sealed_read_open_ctr (N : Nat) : Ctr := ⟨sealed_read_open_S0, sealed_read_open_S1.un [false, false], 0, (fun y => sealed_read_open N y.1.1 y.1.2.1 y.1.2.2.1 y.1.2.2.2.1)⟩
theorem sealed_read_open_ctrs (N : Nat) : CtrsOk Tryd.prog (sealed_read_open_C N) := ctrs_of (Γ := sealed_read_open_C N) G_ifs_ok (by
 intro p hp
 simp only [sealed_read_open_C, List.mem_cons, List.not_mem_nil, or_false] at hp
 rcases hp with rfl | rfl
 · exact sealed_nonce_ok N
 · exact aead_Open_ok N)
theorem sealed_read_open_ok (N : Nat) : Ctr.ok Tryd.prog G_globs 127 (sealed_read_open_ctr N) :=
 ctr_fn (Γ := sealed_read_open_C N) (rfit := sealed_read_open_S1) (bs := [false, false]) (res := [8, 9]) (by kernel_rfl) (tys_ok G_tys_ok) (sealed_read_open_ctrs N) Tryd.func127 (by kernel_rfl) (by kernel_rfl) Tryd.ntmps127 (by kernel_rfl) (by kernel_rfl) (by kernel_rfl) (by kernel_rfl) (fun E hb => sealed_read_open_b N hb)
/-! ipsecgate/sealed.unpad -/
abbrev sealed_unpad_R : Type := (((List UInt8) × Int × Unit) × (Unit))
def sealed_unpad (N : Nat) (plain_0 : (List UInt8)) : Option sealed_unpad_R :=
 let x2 := w64 ((plain_0.length : Int) - (1 : Int))
 bif inR x2 plain_0.length then
 let x4 := ((plain_0.getD x2.toNat (0 : UInt8)).toNat : Int)
 bif (decide (x2 < x4)) then
 some ((([] : List UInt8), (4 : Int), ()), (()))
 else
 bif decide (0 ≤ (0 : Int)) && decide ((0 : Int) ≤ (w64 (x2 - x4))) && decide ((w64 (x2 - x4)) ≤ (plain_0.length : Int)) && true then
 some (((cut plain_0 0 (w64 (x2 - x4)).toNat), (0 : Int), ()), (()))
 else none
 else none
def sealed_unpad_C (N : Nat) : Ctx := ⟨22, G_tys, [], G_globs, G_ifs⟩
def sealed_unpad_S0 : Spec := ⟨[.val (.sl .u8)], []⟩
def sealed_unpad_S1 : Spec := ⟨[.val (.sl .u8), .val .i64], []⟩
def sealed_unpad_K (_N : Nat) : XE → GS → Option sealed_unpad_R := retK 0 [2, 3] [false, false] sealed_unpad_S1
def sealed_unpad_L : List Code := (bodyOf (some Tryd.f128))
theorem sealed_unpad_b {E : Env} (N : Nat) (hb : Base Tryd.prog (sealed_unpad_C N) E 0) : Blk Tryd.prog (sealed_unpad_C N) E (List.range sealed_unpad_S0.ks.length) sealed_unpad_S0 (sealed_unpad_L.drop 0) (fun y => sealed_unpad N y.1.1) (sealed_unpad_K N) :=
 Blk.chunkAt hb 7 (X := (sealed_unpad_K N .normal)) (NxOk.end (by kernel_rfl)) rfl (fun x => by kernel_rfl)
def sealed_unpad_ctr (N : Nat) : Ctr := ⟨sealed_unpad_S0, sealed_unpad_S1.un [false, false], 0, (fun y => sealed_unpad N y.1.1)⟩
theorem sealed_unpad_ctrs (N : Nat) : CtrsOk Tryd.prog (sealed_unpad_C N) := ctrs_nil G_ifs_ok rfl
theorem sealed_unpad_ok (N : Nat) : Ctr.ok Tryd.prog G_globs 128 (sealed_unpad_ctr N) :=
 ctr_fn (Γ := sealed_unpad_C N) (rfit := sealed_unpad_S1) (bs := [false, false]) (res := [2, 3]) (by kernel_rfl) (tys_ok G_tys_ok) (sealed_unpad_ctrs N) Tryd.func128 (by kernel_rfl) (by kernel_rfl) Tryd.ntmps128 (by kernel_rfl) (by kernel_rfl) (by kernel_rfl) (by kernel_rfl) (fun E hb => sealed_unpad_b N hb)
/-! ipsecgate/sealed.Open -/
abbrev sealed_Open_R : Type := ((D75 × Int × (List UInt8) × Int × Unit) × (Unit))
def sealed_Open_1 (N : Nat) (e_9 : Int) (plain_10 : (List UInt8)) (t_4 : D75) (r_8 : D154) : Option sealed_Open_R :=
 bif (!(decide (e_9 = (0 : Int)))) then
 some ((((0 : UInt64), (0 : UInt64), (0 : Int), (0 : Int), (0 : Int), (0 : UInt32), ()), (0 : Int), ([] : List UInt8), e_9, ()), (()))
 else
 some ((r_8.1, r_8.2.1, plain_10, (0 : Int), ()), (()))
def sealed_Open (N : Nat) (b_0 : (List UInt8)) (key_1 : (List UInt8)) : Option sealed_Open_R :=
 Option.bind (sealed_parse N b_0 key_1 (46 : Int) (25 : Int)) fun y1 =>
 bif (!(decide (y1.1.2.1 = (0 : Int)))) then
 some ((((0 : UInt64), (0 : UInt64), (0 : Int), (0 : Int), (0 : Int), (0 : UInt32), ()), (0 : Int), ([] : List UInt8), y1.1.2.1, ()), (()))
 else
 Option.bind (sealed_read_open N y1.1.1 b_0 key_1 (0 : Int)) fun y3 =>
 bif (decide (y3.1.1 = (0 : Int))) then
 Option.bind (sealed_unpad N y3.2.1) fun y5 =>
 sealed_Open_1 N y5.1.2.1 y5.1.1 ((0 : UInt64), (0 : UInt64), (0 : Int), (0 : Int), (0 : Int), (0 : UInt32), ()) y1.1.1
 else
 sealed_Open_1 N y3.1.1 y3.2.1 ((0 : UInt64), (0 : UInt64), (0 : Int), (0 : Int), (0 : Int), (0 : UInt32), ()) y1.1.1
def sealed_Open_C (N : Nat) : Ctx := ⟨44, G_tys, [(126, sealed_parse_ctr N), (127, sealed_read_open_ctr N), (128, sealed_unpad_ctr N)], G_globs, G_ifs⟩
def sealed_Open_S0 : Spec := ⟨[.ref 0 T75, .ref 1 T154, .val .i64, .val (.sl .u8)], [(.box 76 T75, .pos 0), (.box 155 T154, .pos 1)]⟩
def sealed_Open_S1 : Spec := ⟨[.val (.sl .u8), .val (.sl .u8)], []⟩
def sealed_Open_S2 : Spec := ⟨[.fp T75, .val .i64, .val (.sl .u8), .val .i64], []⟩
def sealed_Open_K (_N : Nat) : XE → GS → Option sealed_Open_R := retK 0 [4, 5, 6, 7] [true, false, false, false] sealed_Open_S2
def sealed_Open_L : List Code := (bodyOf (some Tryd.f64))
theorem sealed_Open_1_b {E : Env} (N : Nat) (hb : Base Tryd.prog (sealed_Open_C N) E 0) : Blk Tryd.prog (sealed_Open_C N) E [4, 8, 9, 10] sealed_Open_S0 (sealed_Open_L.drop 7) (fun y => sealed_Open_1 N y.1.1 y.1.2.1 y.2.1 y.2.2.1) (sealed_Open_K N) :=
 Blk.chunkAt hb 4 (X := (sealed_Open_K N .normal)) (NxOk.end (by kernel_rfl)) rfl (fun x => by kernel_rfl)
theorem sealed_Open_b {E : Env} (N : Nat) (hb : Base Tryd.prog (sealed_Open_C N) E 0) : Blk Tryd.prog (sealed_Open_C N) E (List.range sealed_Open_S1.ks.length) sealed_Open_S1 (sealed_Open_L.drop 0) (fun y => sealed_Open N y.1.1 y.1.2.1) (sealed_Open_K N) :=
 Blk.chunkAt hb 7 (X := (goK 0 [4, 8, 9, 10] sealed_Open_S0 (fun y => sealed_Open_1 N y.1.1 y.1.2.1 y.2.1 y.2.2.1))) (NxOk.go hb (sealed_Open_1_b N hb)) rfl (fun x => by kernel_rfl)
def sealed_Open_ctr (N : Nat) : Ctr := ⟨sealed_Open_S1, sealed_Open_S2.un [true, false, false, false], 0, (fun y => sealed_Open N y.1.1 y.1.2.1)⟩
theorem sealed_Open_ctrs (N : Nat) : CtrsOk Tryd.prog (sealed_Open_C N) := ctrs_of (Γ := sealed_Open_C N) G_ifs_ok (by
 intro p hp
 simp only [sealed_Open_C, List.mem_cons, List.not_mem_nil, or_false] at hp
 rcases hp with rfl | rfl | rfl
 · exact sealed_parse_ok N
 · exact sealed_read_open_ok N
 · exact sealed_unpad_ok N)
theorem sealed_Open_ok (N : Nat) : Ctr.ok Tryd.prog G_globs 64 (sealed_Open_ctr N) :=
 ctr_fn (Γ := sealed_Open_C N) (rfit := sealed_Open_S2) (bs := [true, false, false, false]) (res := [4, 5, 6, 7]) (by kernel_rfl) (tys_ok G_tys_ok) (sealed_Open_ctrs N) Tryd.func64 (by kernel_rfl) (by kernel_rfl) Tryd.ntmps64 (by kernel_rfl) (by kernel_rfl) (by kernel_rfl) (by kernel_rfl) (fun E hb => sealed_Open_b N hb)
/-! ipsecgate/ipsecgatelaw17.awake -/
abbrev law17_awake_R : Type := ((Bool × Unit) × (Unit))
def law17_awake (N : Nat) : Option law17_awake_R :=
 Option.bind (sealed_Seal N ((1 : UInt64), (2 : UInt64), (0 : Int), (37 : Int), (0 : Int), (3 : UInt32), ()) (0 : Int) ([] : List UInt8) (List.replicate 36 (0 : UInt8)) (5 : UInt64)) fun y1 =>
 Option.bind (sealed_Open N y1.2.1 (List.replicate 36 (0 : UInt8))) fun y2 =>
 bif (decide (y1.1.1 = (0 : Int))) then
 bif (decide (y2.1.2.2.2.1 = (0 : Int))) then
 bif (decide ((y1.2.1.length : Int) = (57 : Int))) then
 some (((decide ((y2.1.2.2.1.length : Int) = (0 : Int))), ()), (()))
 else
 some ((false, ()), (()))
 else
 some ((false, ()), (()))
 else
 some ((false, ()), (()))
def law17_awake_C (N : Nat) : Ctx := ⟨39, G_tys, [(55, sealed_Seal_ctr N), (64, sealed_Open_ctr N)], G_globs, G_ifs⟩
def law17_awake_S0 : Spec := ⟨[], []⟩
def law17_awake_S1 : Spec := ⟨[.val .bool], []⟩
def law17_awake_K (_N : Nat) : XE → GS → Option law17_awake_R := retK 0 [0] [false] law17_awake_S1
def law17_awake_L : List Code := (bodyOf (some Tryd.f53))
theorem law17_awake_b {E : Env} (N : Nat) (hb : Base Tryd.prog (law17_awake_C N) E 0) : Blk Tryd.prog (law17_awake_C N) E (List.range law17_awake_S0.ks.length) law17_awake_S0 (law17_awake_L.drop 0) (fun y => law17_awake N) (law17_awake_K N) :=
 Blk.chunkAt hb 6 (X := (law17_awake_K N .normal)) (NxOk.end (by kernel_rfl)) rfl (fun x => by kernel_rfl)
def law17_awake_ctr (N : Nat) : Ctr := ⟨law17_awake_S0, law17_awake_S1.un [false], 0, (fun y => law17_awake N)⟩
theorem law17_awake_ctrs (N : Nat) : CtrsOk Tryd.prog (law17_awake_C N) := ctrs_of (Γ := law17_awake_C N) G_ifs_ok (by
 intro p hp
 simp only [law17_awake_C, List.mem_cons, List.not_mem_nil, or_false] at hp
 rcases hp with rfl | rfl
 · exact sealed_Seal_ok N
 · exact sealed_Open_ok N)
theorem law17_awake_ok (N : Nat) : Ctr.ok Tryd.prog G_globs 53 (law17_awake_ctr N) :=
 ctr_fn (Γ := law17_awake_C N) (rfit := law17_awake_S1) (bs := [false]) (res := [0]) (by kernel_rfl) (tys_ok G_tys_ok) (law17_awake_ctrs N) Tryd.func53 (by kernel_rfl) (by kernel_rfl) Tryd.ntmps53 (by kernel_rfl) (by kernel_rfl) (by kernel_rfl) (by kernel_rfl) (fun E hb => law17_awake_b N hb)
/-! ipsecgate/ipsecgatemake.New -/
abbrev make_New_R : Type := ((Unit) × (((List UInt8) × (Int × Unit)) × Unit))
def make_New_1 (N : Nat) (list_0 : (List UInt8)) : Option make_New_R :=
 some ((()), ((list_0, (0 : Int), ()), ()))
def make_New (N : Nat) (list_0 : (List UInt8)) (most_1 : Int) : Option make_New_R :=
 bif (decide (most_1 < (list_0.length : Int))) then
 bif decide (0 ≤ (0 : Int)) && decide ((0 : Int) ≤ most_1) && decide (most_1 ≤ (list_0.length : Int)) && true then
 make_New_1 N (cut list_0 0 most_1.toNat)
 else none
 else
 make_New_1 N list_0
def make_New_C (N : Nat) : Ctx := ⟨15, G_tys, [], G_globs, G_ifs⟩
def make_New_S0 : Spec := ⟨[.val (.sl .u8)], []⟩
def make_New_S1 : Spec := ⟨[.val (.sl .u8), .val .i64], []⟩
def make_New_S2 : Spec := ⟨[.ref 0 (.pair (.sl .u8) (.pair .i64 .unit))], [(.box 122 (.pair (.sl .u8) (.pair .i64 .unit)), .pos 0)]⟩
def make_New_K (_N : Nat) : XE → GS → Option make_New_R := retK 0 [4] [false] make_New_S2
def make_New_L : List Code := (bodyOf (some Tryd.f16))
theorem make_New_1_b {E : Env} (N : Nat) (hb : Base Tryd.prog (make_New_C N) E 0) : Blk Tryd.prog (make_New_C N) E [0] make_New_S0 (make_New_L.drop 3) (fun y => make_New_1 N y.1.1) (make_New_K N) :=
 Blk.chunkAt hb 2 (X := (make_New_K N .normal)) (NxOk.end (by kernel_rfl)) rfl (fun x => by kernel_rfl)
theorem make_New_b {E : Env} (N : Nat) (hb : Base Tryd.prog (make_New_C N) E 0) : Blk Tryd.prog (make_New_C N) E (List.range make_New_S1.ks.length) make_New_S1 (make_New_L.drop 0) (fun y => make_New N y.1.1 y.1.2.1) (make_New_K N) :=
 Blk.chunkAt hb 3 (X := (goK 0 [0] make_New_S0 (fun y => make_New_1 N y.1.1))) (NxOk.go hb (make_New_1_b N hb)) rfl (fun x => by kernel_rfl)
def make_New_ctr (N : Nat) : Ctr := ⟨make_New_S1, make_New_S2.un [false], 0, (fun y => make_New N y.1.1 y.1.2.1)⟩
theorem make_New_ctrs (N : Nat) : CtrsOk Tryd.prog (make_New_C N) := ctrs_nil G_ifs_ok rfl
theorem make_New_ok (N : Nat) : Ctr.ok Tryd.prog G_globs 16 (make_New_ctr N) :=
 ctr_fn (Γ := make_New_C N) (rfit := make_New_S2) (bs := [false]) (res := [4]) (by kernel_rfl) (tys_ok G_tys_ok) (make_New_ctrs N) Tryd.func16 (by kernel_rfl) (by kernel_rfl) Tryd.ntmps16 (by kernel_rfl) (by kernel_rfl) (by kernel_rfl) (by kernel_rfl) (fun E hb => make_New_b N hb)
/-! (*ipsecgate/ipsecgatemake.Codes).Left -/
abbrev make_Codes_Left_R : Type := ((Bool × Unit) × (Unit))
def make_Codes_Left (N : Nat) (c_0 : ((List UInt8) × (Int × Unit))) : Option make_Codes_Left_R :=
 some (((decide (c_0.2.1 < (c_0.1.length : Int))), ()), (()))
def make_Codes_Left_C (N : Nat) : Ctx := ⟨13, G_tys, [], G_globs, G_ifs⟩
def make_Codes_Left_S0 : Spec := ⟨[.fp (.pair (.sl .u8) (.pair .i64 .unit))], []⟩
def make_Codes_Left_S1 : Spec := ⟨[.val .bool], []⟩
def make_Codes_Left_K (_N : Nat) : XE → GS → Option make_Codes_Left_R := retK 0 [2] [false] make_Codes_Left_S1
def make_Codes_Left_L : List Code := (bodyOf (some Tryd.f124))
theorem make_Codes_Left_b {E : Env} (N : Nat) (hb : Base Tryd.prog (make_Codes_Left_C N) E 0) : Blk Tryd.prog (make_Codes_Left_C N) E (List.range make_Codes_Left_S0.ks.length) make_Codes_Left_S0 (make_Codes_Left_L.drop 0) (fun y => make_Codes_Left N y.1.1) (make_Codes_Left_K N) :=
 Blk.chunkAt hb 3 (X := (make_Codes_Left_K N .normal)) (NxOk.end (by kernel_rfl)) rfl (fun x => by kernel_rfl)
def make_Codes_Left_ctr (N : Nat) : Ctr := ⟨make_Codes_Left_S0, make_Codes_Left_S1.un [false], 0, (fun y => make_Codes_Left N y.1.1)⟩
theorem make_Codes_Left_ctrs (N : Nat) : CtrsOk Tryd.prog (make_Codes_Left_C N) := ctrs_nil G_ifs_ok rfl
theorem make_Codes_Left_ok (N : Nat) : Ctr.ok Tryd.prog G_globs 124 (make_Codes_Left_ctr N) :=
 ctr_fn (Γ := make_Codes_Left_C N) (rfit := make_Codes_Left_S1) (bs := [false]) (res := [2]) (by kernel_rfl) (tys_ok G_tys_ok) (make_Codes_Left_ctrs N) Tryd.func124 (by kernel_rfl) (by kernel_rfl) Tryd.ntmps124 (by kernel_rfl) (by kernel_rfl) (by kernel_rfl) (by kernel_rfl) (fun E hb => make_Codes_Left_b N hb)
/-! (*ipsecgate/ipsecgatemake.Codes).Next -/
abbrev make_Codes_Next_R : Type := ((Int × Unit) × (((List UInt8) × (Int × Unit)) × Unit))
def make_Codes_Next (N : Nat) (n_1 : Int) (c_0 : ((List UInt8) × (Int × Unit))) : Option make_Codes_Next_R :=
 Option.bind (make_Codes_Left N c_0) fun y1 =>
 bif (!y1.1.1) then
 some (((0 : Int), ()), (c_0, ()))
 else
 let x3 := w64 (c_0.2.1 + (1 : Int))
 let x4 := w64 (x3 - (1 : Int))
 bif inR x4 c_0.1.length then
 bif !(decide (n_1 = 0)) then
 some (((((c_0.1.getD x4.toNat (0 : UInt8)).toNat : Int).tmod n_1), ()), ((c_0.1, x3, ()), ()))
 else none
 else none
def make_Codes_Next_C (N : Nat) : Ctx := ⟨29, G_tys, [(124, make_Codes_Left_ctr N)], G_globs, G_ifs⟩
def make_Codes_Next_S0 : Spec := ⟨[.ref 0 (.pair (.sl .u8) (.pair .i64 .unit)), .val .i64], [(.box 122 (.pair (.sl .u8) (.pair .i64 .unit)), .pos 0)]⟩
def make_Codes_Next_S1 : Spec := ⟨[.val .i64], [(.box 122 (.pair (.sl .u8) (.pair .i64 .unit)), .fix 0)]⟩
def make_Codes_Next_K (_N : Nat) : XE → GS → Option make_Codes_Next_R := retK 1 [4] [false] make_Codes_Next_S1
def make_Codes_Next_L : List Code := (bodyOf (some Tryd.f61))
theorem make_Codes_Next_b {E : Env} (N : Nat) (hb : Base Tryd.prog (make_Codes_Next_C N) E 1) : Blk Tryd.prog (make_Codes_Next_C N) E (List.range make_Codes_Next_S0.ks.length) make_Codes_Next_S0 (make_Codes_Next_L.drop 0) (fun y => make_Codes_Next N y.1.1 y.2.1) (make_Codes_Next_K N) :=
 Blk.chunkAt hb 6 (X := (make_Codes_Next_K N .normal)) (NxOk.end (by kernel_rfl)) rfl (fun x => by kernel_rfl)
def make_Codes_Next_ctr (N : Nat) : Ctr := ⟨make_Codes_Next_S0, make_Codes_Next_S1.un [false], 1, (fun y => make_Codes_Next N y.1.1 y.2.1)⟩
theorem make_Codes_Next_ctrs (N : Nat) : CtrsOk Tryd.prog (make_Codes_Next_C N) := ctrs_of (Γ := make_Codes_Next_C N) G_ifs_ok (by
 intro p hp
 simp only [make_Codes_Next_C, List.mem_cons, List.not_mem_nil, or_false] at hp
 rcases hp with rfl
 · exact make_Codes_Left_ok N)
theorem make_Codes_Next_ok (N : Nat) : Ctr.ok Tryd.prog G_globs 61 (make_Codes_Next_ctr N) :=
 ctr_fn (Γ := make_Codes_Next_C N) (rfit := make_Codes_Next_S1) (bs := [false]) (res := [4]) (by kernel_rfl) (tys_ok G_tys_ok) (make_Codes_Next_ctrs N) Tryd.func61 (by kernel_rfl) (by kernel_rfl) Tryd.ntmps61 (by kernel_rfl) (by kernel_rfl) (by kernel_rfl) (by kernel_rfl) (fun E hb => make_Codes_Next_b N hb)
/-! (*ipsecgate/ipsecgatemake.Codes).Word -/
abbrev make_Codes_Word_R : Type := ((UInt64 × Unit) × (((List UInt8) × (Int × Unit)) × Unit))
def make_Codes_Word_s2 (N : Nat) (v_3 : UInt64) (i_4 : Int) (p0 : ((List UInt8) × (Int × Unit))) : Option (Lo ((UInt64 × Int × Unit) × (((List UInt8) × (Int × Unit)) × Unit)) ((UInt64 × Unit) × (((List UInt8) × (Int × Unit)) × Unit)) make_Codes_Word_R) :=
 bif (decide (i_4 < (8 : Int))) then
 Option.bind (make_Codes_Next N (256 : Int) p0) fun y11 =>
 some (.go ((((shl64 v_3 8) ||| (iu64 y11.1.1)), (w64 (i_4 + (1 : Int))), ()), (y11.2.1, ())))
 else
 some (.br ((v_3, ()), (p0, ())))
def make_Codes_Word_3 (N : Nat) (v_3 : UInt64) (p0 : ((List UInt8) × (Int × Unit))) : Option make_Codes_Word_R :=
 some ((v_3, ()), (p0, ()))
def make_Codes_Word_1 (N : Nat) (v_3 : UInt64) (i_4 : Int) (p0 : ((List UInt8) × (Int × Unit))) : Option make_Codes_Word_R :=
 loopK N (fun y => make_Codes_Word_s2 N y.1.1 y.1.2.1 y.2.1) (fun (e : ((UInt64 × Unit) × (((List UInt8) × (Int × Unit)) × Unit))) => make_Codes_Word_3 N e.1.1 e.2.1) ((v_3, i_4, ()), (p0, ()))
def make_Codes_Word (N : Nat) (c_0 : ((List UInt8) × (Int × Unit))) : Option make_Codes_Word_R :=
 Option.bind (make_Codes_Next N (6 : Int) c_0) fun y1 =>
 bif (decide (y1.1.1 = (0 : Int))) then
 Option.bind (make_Codes_Next N (4 : Int) y1.2.1) fun y3 =>
 some (((iu64 y3.1.1), ()), (y3.2.1, ()))
 else
 bif (decide (y1.1.1 = (1 : Int))) then
 Option.bind (make_Codes_Next N (3 : Int) y1.2.1) fun y6 =>
 some ((((18446744073709551615 : UInt64) - (iu64 y6.1.1)), ()), (y6.2.1, ()))
 else
 make_Codes_Word_1 N (0 : UInt64) (0 : Int) y1.2.1
def make_Codes_Word_C (N : Nat) : Ctx := ⟨29, G_tys, [(61, make_Codes_Next_ctr N)], G_globs, G_ifs⟩
def make_Codes_Word_S0 : Spec := ⟨[.ref 0 (.pair (.sl .u8) (.pair .i64 .unit)), .val .u64, .val .i64], [(.box 122 (.pair (.sl .u8) (.pair .i64 .unit)), .fix 0)]⟩
def make_Codes_Word_S1 : Spec := ⟨[.val .u64], [(.box 122 (.pair (.sl .u8) (.pair .i64 .unit)), .fix 0)]⟩
def make_Codes_Word_S2 : Spec := ⟨[.ref 0 (.pair (.sl .u8) (.pair .i64 .unit))], [(.box 122 (.pair (.sl .u8) (.pair .i64 .unit)), .pos 0)]⟩
def make_Codes_Word_K (_N : Nat) : XE → GS → Option make_Codes_Word_R := retK 1 [2] [false] make_Codes_Word_S1
def make_Codes_Word_L : List Code := (bodyOf (some Tryd.f44))
def make_Codes_Word_L2 : List Code := (loopOf (make_Codes_Word_L[5]?))
def make_Codes_Word_K2 (N : Nat) : XE → GS → Option (Lo ((UInt64 × Int × Unit) × (((List UInt8) × (Int × Unit)) × Unit)) ((UInt64 × Unit) × (((List UInt8) × (Int × Unit)) × Unit)) make_Codes_Word_R) := roundK (some 1) (fit 1 [0, 3, 4] make_Codes_Word_S0) (fit 1 [3] make_Codes_Word_S1) (make_Codes_Word_K N)
theorem make_Codes_Word_s2_b {E : Env} (N : Nat) (hb : Base Tryd.prog (make_Codes_Word_C N) E 1) : Blk Tryd.prog (make_Codes_Word_C N) E [0, 3, 4] make_Codes_Word_S0 (make_Codes_Word_L2.drop 0) (fun y => make_Codes_Word_s2 N y.1.1 y.1.2.1 y.2.1) (make_Codes_Word_K2 N) :=
 Blk.chunkAt hb 4 (X := (make_Codes_Word_K2 N .normal)) (NxOk.end (by kernel_rfl)) rfl (fun x => by kernel_rfl)
theorem make_Codes_Word_3_b {E : Env} (N : Nat) (hb : Base Tryd.prog (make_Codes_Word_C N) E 1) : Blk Tryd.prog (make_Codes_Word_C N) E [3] make_Codes_Word_S1 (make_Codes_Word_L.drop 6) (fun y => make_Codes_Word_3 N y.1.1 y.2.1) (make_Codes_Word_K N) :=
 Blk.chunkAt hb 2 (X := (make_Codes_Word_K N .normal)) (NxOk.end (by kernel_rfl)) rfl (fun x => by kernel_rfl)
theorem make_Codes_Word_1_b {E : Env} (N : Nat) (hb : Base Tryd.prog (make_Codes_Word_C N) E 1) : Blk Tryd.prog (make_Codes_Word_C N) E [0, 3, 4] make_Codes_Word_S0 (make_Codes_Word_L.drop 5) (fun y => make_Codes_Word_1 N y.1.1 y.1.2.1 y.2.1) (make_Codes_Word_K N) :=
 Blk.loopAt (Nf := N) (hns := [0, 3, 4]) (ans := [3]) (hc := make_Codes_Word_S0) (ac := make_Codes_Word_S1) (bid := 1) (step := (fun y => make_Codes_Word_s2 N y.1.1 y.1.2.1 y.2.1)) (J := (fun e => (goK 1 [3] make_Codes_Word_S1 (fun y => make_Codes_Word_3 N y.1.1 y.2.1)) (make_Codes_Word_S1.st [3] e))) hb (by kernel_rfl) (Blk.into (X := (goK 1 [3] make_Codes_Word_S1 (fun y => make_Codes_Word_3 N y.1.1 y.2.1))) (NxOk.go hb (make_Codes_Word_3_b N hb)) (fun x => by kernel_rfl)) (make_Codes_Word_s2_b N hb) (fun x => by kernel_rfl)
theorem make_Codes_Word_b {E : Env} (N : Nat) (hb : Base Tryd.prog (make_Codes_Word_C N) E 1) : Blk Tryd.prog (make_Codes_Word_C N) E (List.range make_Codes_Word_S2.ks.length) make_Codes_Word_S2 (make_Codes_Word_L.drop 0) (fun y => make_Codes_Word N y.2.1) (make_Codes_Word_K N) :=
 Blk.chunkAt hb 5 (X := (goK 1 [0, 3, 4] make_Codes_Word_S0 (fun y => make_Codes_Word_1 N y.1.1 y.1.2.1 y.2.1))) (NxOk.go hb (make_Codes_Word_1_b N hb)) rfl (fun x => by kernel_rfl)
def make_Codes_Word_ctr (N : Nat) : Ctr := ⟨make_Codes_Word_S2, make_Codes_Word_S1.un [false], 1, (fun y => make_Codes_Word N y.2.1)⟩
theorem make_Codes_Word_ctrs (N : Nat) : CtrsOk Tryd.prog (make_Codes_Word_C N) := ctrs_of (Γ := make_Codes_Word_C N) G_ifs_ok (by
 intro p hp
 simp only [make_Codes_Word_C, List.mem_cons, List.not_mem_nil, or_false] at hp
 rcases hp with rfl
 · exact make_Codes_Next_ok N)
theorem make_Codes_Word_ok (N : Nat) : Ctr.ok Tryd.prog G_globs 44 (make_Codes_Word_ctr N) :=
 ctr_fn (Γ := make_Codes_Word_C N) (rfit := make_Codes_Word_S1) (bs := [false]) (res := [2]) (by kernel_rfl) (tys_ok G_tys_ok) (make_Codes_Word_ctrs N) Tryd.func44 (by kernel_rfl) (by kernel_rfl) Tryd.ntmps44 (by kernel_rfl) (by kernel_rfl) (by kernel_rfl) (by kernel_rfl) (fun E hb => make_Codes_Word_b N hb)
/-! (*ipsecgate/ipsecgatemake.Codes).Header -/
abbrev make_Codes_Header_R : Type := ((D75 × Unit) × (((List UInt8) × (Int × Unit)) × Unit))
def make_Codes_Header_3 (N : Nat) (t_35 : Bool) (p0 : ((List UInt8) × (Int × Unit))) (t_2 : D75) (h_3 : D75) : Option make_Codes_Header_R :=
 bif t_35 then
 some (((h_3.1, (2 : UInt64), h_3.2.2.1, h_3.2.2.2.1, h_3.2.2.2.2.1, h_3.2.2.2.2.2.1, ()), ()), (p0, ()))
 else
 some ((h_3, ()), (p0, ()))
def make_Codes_Header_2 (N : Nat) (p0 : ((List UInt8) × (Int × Unit))) (t_2 : D75) (h_3 : D75) : Option make_Codes_Header_R :=
 bif (decide (h_3.2.1 = (0 : UInt64))) then
 make_Codes_Header_3 N (!(decide (h_3.2.2.2.1 = (34 : Int)))) p0 t_2 h_3
 else
 make_Codes_Header_3 N false p0 t_2 h_3
def make_Codes_Header_1 (N : Nat) (p0 : ((List UInt8) × (Int × Unit))) (t_2 : D75) (h_3 : D75) : Option make_Codes_Header_R :=
 bif (decide (h_3.1 = (0 : UInt64))) then
 make_Codes_Header_2 N p0 t_2 ((1 : UInt64), h_3.2.1, h_3.2.2.1, h_3.2.2.2.1, h_3.2.2.2.2.1, h_3.2.2.2.2.2.1, ())
 else
 make_Codes_Header_2 N p0 t_2 h_3
def make_Codes_Header (N : Nat) (c_0 : ((List UInt8) × (Int × Unit))) : Option make_Codes_Header_R :=
 Option.bind (make_Codes_Word N c_0) fun y1 =>
 Option.bind (make_Codes_Word N y1.2.1) fun y2 =>
 Option.bind (make_Codes_Next N (4 : Int) y2.2.1) fun y3 =>
 let x4 := w64 ((34 : Int) + y3.1.1)
 Option.bind (make_Codes_Next N (4 : Int) y3.2.1) fun y5 =>
 bif inR y5.1.1 (([(8 : Int), (32 : Int), (40 : Int), (0 : Int)] : List Int).length) then
 let x6 := (([(8 : Int), (32 : Int), (40 : Int), (0 : Int)] : List Int).getD y5.1.1.toNat (0 : Int))
 bif (!(decide (x4 = (34 : Int)))) then
 Option.bind (make_Codes_Next N (256 : Int) y5.2.1) fun y8 =>
 make_Codes_Header_1 N y8.2.1 ((0 : UInt64), (0 : UInt64), (0 : Int), (0 : Int), (0 : Int), (0 : UInt32), ()) (y1.1.1, y2.1.1, (0 : Int), x4, x6, (iu32 y8.1.1), ())
 else
 make_Codes_Header_1 N y5.2.1 ((0 : UInt64), (0 : UInt64), (0 : Int), (0 : Int), (0 : Int), (0 : UInt32), ()) (y1.1.1, y2.1.1, (0 : Int), x4, x6, (0 : UInt32), ())
 else none
def make_Codes_Header_C (N : Nat) : Ctx := ⟨38, G_tys, [(44, make_Codes_Word_ctr N), (61, make_Codes_Next_ctr N)], G_globs, G_ifs⟩
def make_Codes_Header_S0 : Spec := ⟨[.ref 1 T75, .ref 2 T75, .val .bool], [(.box 122 (.pair (.sl .u8) (.pair .i64 .unit)), .fix 0), (.box 76 T75, .pos 0), (.box 76 T75, .pos 1)]⟩
def make_Codes_Header_S1 : Spec := ⟨[.ref 1 T75, .ref 2 T75], [(.box 122 (.pair (.sl .u8) (.pair .i64 .unit)), .fix 0), (.box 76 T75, .pos 0), (.box 76 T75, .pos 1)]⟩
def make_Codes_Header_S2 : Spec := ⟨[.ref 0 (.pair (.sl .u8) (.pair .i64 .unit))], [(.box 122 (.pair (.sl .u8) (.pair .i64 .unit)), .pos 0)]⟩
def make_Codes_Header_S3 : Spec := ⟨[.fp T75], [(.box 122 (.pair (.sl .u8) (.pair .i64 .unit)), .fix 0)]⟩
def make_Codes_Header_K (_N : Nat) : XE → GS → Option make_Codes_Header_R := retK 1 [2] [true] make_Codes_Header_S3
def make_Codes_Header_L : List Code := (bodyOf (some Tryd.f114))
theorem make_Codes_Header_3_b {E : Env} (N : Nat) (hb : Base Tryd.prog (make_Codes_Header_C N) E 1) : Blk Tryd.prog (make_Codes_Header_C N) E [2, 3, 35] make_Codes_Header_S0 (make_Codes_Header_L.drop 7) (fun y => make_Codes_Header_3 N y.1.1 y.2.1 y.2.2.1 y.2.2.2.1) (make_Codes_Header_K N) :=
 Blk.chunkAt hb 3 (X := (make_Codes_Header_K N .normal)) (NxOk.end (by kernel_rfl)) rfl (fun x => by kernel_rfl)
theorem make_Codes_Header_2_b {E : Env} (N : Nat) (hb : Base Tryd.prog (make_Codes_Header_C N) E 1) : Blk Tryd.prog (make_Codes_Header_C N) E [2, 3] make_Codes_Header_S1 (make_Codes_Header_L.drop 6) (fun y => make_Codes_Header_2 N y.2.1 y.2.2.1 y.2.2.2.1) (make_Codes_Header_K N) :=
 Blk.chunkAt hb 1 (X := (goK 1 [2, 3, 35] make_Codes_Header_S0 (fun y => make_Codes_Header_3 N y.1.1 y.2.1 y.2.2.1 y.2.2.2.1))) (NxOk.go hb (make_Codes_Header_3_b N hb)) rfl (fun x => by kernel_rfl)
theorem make_Codes_Header_1_b {E : Env} (N : Nat) (hb : Base Tryd.prog (make_Codes_Header_C N) E 1) : Blk Tryd.prog (make_Codes_Header_C N) E [2, 3] make_Codes_Header_S1 (make_Codes_Header_L.drop 4) (fun y => make_Codes_Header_1 N y.2.1 y.2.2.1 y.2.2.2.1) (make_Codes_Header_K N) :=
 Blk.chunkAt hb 2 (X := (goK 1 [2, 3] make_Codes_Header_S1 (fun y => make_Codes_Header_2 N y.2.1 y.2.2.1 y.2.2.2.1))) (NxOk.go hb (make_Codes_Header_2_b N hb)) rfl (fun x => by kernel_rfl)
theorem make_Codes_Header_b {E : Env} (N : Nat) (hb : Base Tryd.prog (make_Codes_Header_C N) E 1) : Blk Tryd.prog (make_Codes_Header_C N) E (List.range make_Codes_Header_S2.ks.length) make_Codes_Header_S2 (make_Codes_Header_L.drop 0) (fun y => make_Codes_Header N y.2.1) (make_Codes_Header_K N) :=
 Blk.chunkAt hb 4 (X := (goK 1 [2, 3] make_Codes_Header_S1 (fun y => make_Codes_Header_1 N y.2.1 y.2.2.1 y.2.2.2.1))) (NxOk.go hb (make_Codes_Header_1_b N hb)) rfl (fun x => by kernel_rfl)
def make_Codes_Header_ctr (N : Nat) : Ctr := ⟨make_Codes_Header_S2, make_Codes_Header_S3.un [true], 1, (fun y => make_Codes_Header N y.2.1)⟩
theorem make_Codes_Header_ctrs (N : Nat) : CtrsOk Tryd.prog (make_Codes_Header_C N) := ctrs_of (Γ := make_Codes_Header_C N) G_ifs_ok (by
 intro p hp
 simp only [make_Codes_Header_C, List.mem_cons, List.not_mem_nil, or_false] at hp
 rcases hp with rfl | rfl
 · exact make_Codes_Word_ok N
 · exact make_Codes_Next_ok N)
theorem make_Codes_Header_ok (N : Nat) : Ctr.ok Tryd.prog G_globs 114 (make_Codes_Header_ctr N) :=
 ctr_fn (Γ := make_Codes_Header_C N) (rfit := make_Codes_Header_S3) (bs := [true]) (res := [2]) (by kernel_rfl) (tys_ok G_tys_ok) (make_Codes_Header_ctrs N) Tryd.func114 (by kernel_rfl) (by kernel_rfl) Tryd.ntmps114 (by kernel_rfl) (by kernel_rfl) (by kernel_rfl) (by kernel_rfl) (fun E hb => make_Codes_Header_b N hb)
/-! (*ipsecgate/ipsecgatemake.Codes).Bytes -/
abbrev make_Codes_Bytes_R : Type := ((Unit) × (((List UInt8) × (Int × Unit)) × (List UInt8) × Unit))
def make_Codes_Bytes_s2 (N : Nat) (n_1 : Int) (i_6 : Int) (p0 : ((List UInt8) × (Int × Unit))) (out_5 : (List UInt8)) : Option (Lo ((Int × Int × Unit) × (((List UInt8) × (Int × Unit)) × (List UInt8) × Unit)) ((Unit) × (((List UInt8) × (Int × Unit)) × (List UInt8) × Unit)) make_Codes_Bytes_R) :=
 bif (decide (i_6 < n_1)) then
 Option.bind (make_Codes_Next N (256 : Int) p0) fun y2 =>
 let x4 := w64 (y2.1.1 + (w64 (i_6 * (7 : Int))))
 bif room (out_5.length + ([iu8 x4] : List UInt8).length) 1 then
 some (.go ((n_1, (w64 (i_6 + (1 : Int))), ()), (y2.2.1, (out_5 ++ ([iu8 x4] : List UInt8)), ())))
 else none
 else
 some (.br ((()), (p0, out_5, ())))
def make_Codes_Bytes_3 (N : Nat) (p0 : ((List UInt8) × (Int × Unit))) (out_5 : (List UInt8)) : Option make_Codes_Bytes_R :=
 some ((()), (p0, out_5, ()))
def make_Codes_Bytes_1 (N : Nat) (n_1 : Int) (i_6 : Int) (p0 : ((List UInt8) × (Int × Unit))) (out_5 : (List UInt8)) : Option make_Codes_Bytes_R :=
 loopK N (fun y => make_Codes_Bytes_s2 N y.1.1 y.1.2.1 y.2.1 y.2.2.1) (fun (e : ((Unit) × (((List UInt8) × (Int × Unit)) × (List UInt8) × Unit))) => make_Codes_Bytes_3 N e.2.1 e.2.2.1) ((n_1, i_6, ()), (p0, out_5, ()))
def make_Codes_Bytes (N : Nat) (n_1 : Int) (c_0 : ((List UInt8) × (Int × Unit))) : Option make_Codes_Bytes_R :=
 make_Codes_Bytes_1 N n_1 (0 : Int) c_0 ([] : List UInt8)
def make_Codes_Bytes_C (N : Nat) : Ctx := ⟨22, G_tys, [(61, make_Codes_Next_ctr N)], G_globs, G_ifs⟩
def make_Codes_Bytes_S0 : Spec := ⟨[.ref 0 (.pair (.sl .u8) (.pair .i64 .unit)), .val .i64, .row 1, .val .i64], [(.box 122 (.pair (.sl .u8) (.pair .i64 .unit)), .fix 0), (.row 5 .u8, .pos 2)]⟩
def make_Codes_Bytes_S1 : Spec := ⟨[.row 1], [(.box 122 (.pair (.sl .u8) (.pair .i64 .unit)), .fix 0), (.row 5 .u8, .pos 0)]⟩
def make_Codes_Bytes_S2 : Spec := ⟨[.ref 0 (.pair (.sl .u8) (.pair .i64 .unit)), .val .i64], [(.box 122 (.pair (.sl .u8) (.pair .i64 .unit)), .pos 0)]⟩
def make_Codes_Bytes_K (_N : Nat) : XE → GS → Option make_Codes_Bytes_R := retK 1 [4] [false] make_Codes_Bytes_S1
def make_Codes_Bytes_L : List Code := (bodyOf (some Tryd.f115))
def make_Codes_Bytes_L2 : List Code := (loopOf (make_Codes_Bytes_L[3]?))
def make_Codes_Bytes_K2 (N : Nat) : XE → GS → Option (Lo ((Int × Int × Unit) × (((List UInt8) × (Int × Unit)) × (List UInt8) × Unit)) ((Unit) × (((List UInt8) × (Int × Unit)) × (List UInt8) × Unit)) make_Codes_Bytes_R) := roundK (some 0) (fit 1 [0, 1, 5, 6] make_Codes_Bytes_S0) (fit 1 [5] make_Codes_Bytes_S1) (make_Codes_Bytes_K N)
theorem make_Codes_Bytes_s2_b {E : Env} (N : Nat) (hb : Base Tryd.prog (make_Codes_Bytes_C N) E 1) : Blk Tryd.prog (make_Codes_Bytes_C N) E [0, 1, 5, 6] make_Codes_Bytes_S0 (make_Codes_Bytes_L2.drop 0) (fun y => make_Codes_Bytes_s2 N y.1.1 y.1.2.1 y.2.1 y.2.2.1) (make_Codes_Bytes_K2 N) :=
 Blk.chunkAt hb 4 (X := (make_Codes_Bytes_K2 N .normal)) (NxOk.end (by kernel_rfl)) rfl (fun x => by kernel_rfl)
theorem make_Codes_Bytes_3_b {E : Env} (N : Nat) (hb : Base Tryd.prog (make_Codes_Bytes_C N) E 1) : Blk Tryd.prog (make_Codes_Bytes_C N) E [5] make_Codes_Bytes_S1 (make_Codes_Bytes_L.drop 4) (fun y => make_Codes_Bytes_3 N y.2.1 y.2.2.1) (make_Codes_Bytes_K N) :=
 Blk.chunkAt hb 2 (X := (make_Codes_Bytes_K N .normal)) (NxOk.end (by kernel_rfl)) rfl (fun x => by kernel_rfl)
theorem make_Codes_Bytes_1_b {E : Env} (N : Nat) (hb : Base Tryd.prog (make_Codes_Bytes_C N) E 1) : Blk Tryd.prog (make_Codes_Bytes_C N) E [0, 1, 5, 6] make_Codes_Bytes_S0 (make_Codes_Bytes_L.drop 3) (fun y => make_Codes_Bytes_1 N y.1.1 y.1.2.1 y.2.1 y.2.2.1) (make_Codes_Bytes_K N) :=
 Blk.loopAt (Nf := N) (hns := [0, 1, 5, 6]) (ans := [5]) (hc := make_Codes_Bytes_S0) (ac := make_Codes_Bytes_S1) (bid := 0) (step := (fun y => make_Codes_Bytes_s2 N y.1.1 y.1.2.1 y.2.1 y.2.2.1)) (J := (fun e => (goK 1 [5] make_Codes_Bytes_S1 (fun y => make_Codes_Bytes_3 N y.2.1 y.2.2.1)) (make_Codes_Bytes_S1.st [5] e))) hb (by kernel_rfl) (Blk.into (X := (goK 1 [5] make_Codes_Bytes_S1 (fun y => make_Codes_Bytes_3 N y.2.1 y.2.2.1))) (NxOk.go hb (make_Codes_Bytes_3_b N hb)) (fun x => by kernel_rfl)) (make_Codes_Bytes_s2_b N hb) (fun x => by kernel_rfl)
theorem make_Codes_Bytes_b {E : Env} (N : Nat) (hb : Base Tryd.prog (make_Codes_Bytes_C N) E 1) : Blk Tryd.prog (make_Codes_Bytes_C N) E (List.range make_Codes_Bytes_S2.ks.length) make_Codes_Bytes_S2 (make_Codes_Bytes_L.drop 0) (fun y => make_Codes_Bytes N y.1.1 y.2.1) (make_Codes_Bytes_K N) :=
 Blk.chunkAt hb 3 (X := (goK 1 [0, 1, 5, 6] make_Codes_Bytes_S0 (fun y => make_Codes_Bytes_1 N y.1.1 y.1.2.1 y.2.1 y.2.2.1))) (NxOk.go hb (make_Codes_Bytes_1_b N hb)) rfl (fun x => by kernel_rfl)
def make_Codes_Bytes_ctr (N : Nat) : Ctr := ⟨make_Codes_Bytes_S2, make_Codes_Bytes_S1.un [false], 1, (fun y => make_Codes_Bytes N y.1.1 y.2.1)⟩
theorem make_Codes_Bytes_ctrs (N : Nat) : CtrsOk Tryd.prog (make_Codes_Bytes_C N) := ctrs_of (Γ := make_Codes_Bytes_C N) G_ifs_ok (by
 intro p hp
 simp only [make_Codes_Bytes_C, List.mem_cons, List.not_mem_nil, or_false] at hp
 rcases hp with rfl
 · exact make_Codes_Next_ok N)
theorem make_Codes_Bytes_ok (N : Nat) : Ctr.ok Tryd.prog G_globs 115 (make_Codes_Bytes_ctr N) :=
 ctr_fn (Γ := make_Codes_Bytes_C N) (rfit := make_Codes_Bytes_S1) (bs := [false]) (res := [4]) (by kernel_rfl) (tys_ok G_tys_ok) (make_Codes_Bytes_ctrs N) Tryd.func115 (by kernel_rfl) (by kernel_rfl) Tryd.ntmps115 (by kernel_rfl) (by kernel_rfl) (by kernel_rfl) (by kernel_rfl) (fun E hb => make_Codes_Bytes_b N hb)
/-! ipsecgate/ipsecgatelaw17.draw -/
abbrev law17_draw_R : Type := ((D75 × Unit) × (((List UInt8) × (Int × Unit)) × (List UInt8) × (List UInt8) × Unit))
def law17_draw (N : Nat) (c_0 : ((List UInt8) × (Int × Unit))) : Option law17_draw_R :=
 Option.bind (make_Codes_Header N c_0) fun y1 =>
 Option.bind (make_Codes_Bytes N (36 : Int) y1.2.1) fun y2 =>
 Option.bind (make_Codes_Next N (80 : Int) y2.2.1) fun y3 =>
 Option.bind (make_Codes_Bytes N y3.1.1 y3.2.1) fun y4 =>
 some ((y1.1.1, ()), (y4.2.1, y2.2.2.1, y4.2.2.1, ()))
def law17_draw_C (N : Nat) : Ctx := ⟨13, G_tys, [(114, make_Codes_Header_ctr N), (115, make_Codes_Bytes_ctr N), (61, make_Codes_Next_ctr N)], G_globs, G_ifs⟩
def law17_draw_S0 : Spec := ⟨[.ref 0 (.pair (.sl .u8) (.pair .i64 .unit))], [(.box 122 (.pair (.sl .u8) (.pair .i64 .unit)), .pos 0)]⟩
def law17_draw_S1 : Spec := ⟨[.fp T75, .row 1, .row 2], [(.box 122 (.pair (.sl .u8) (.pair .i64 .unit)), .fix 0), (.row 5 .u8, .pos 1), (.row 5 .u8, .pos 2)]⟩
def law17_draw_K (_N : Nat) : XE → GS → Option law17_draw_R := retK 1 [2, 3, 4] [true, false, false] law17_draw_S1
def law17_draw_L : List Code := (bodyOf (some Tryd.f54))
theorem law17_draw_b {E : Env} (N : Nat) (hb : Base Tryd.prog (law17_draw_C N) E 1) : Blk Tryd.prog (law17_draw_C N) E (List.range law17_draw_S0.ks.length) law17_draw_S0 (law17_draw_L.drop 0) (fun y => law17_draw N y.2.1) (law17_draw_K N) :=
 Blk.chunkAt hb 3 (X := (law17_draw_K N .normal)) (NxOk.end (by kernel_rfl)) rfl (fun x => by kernel_rfl)
def law17_draw_ctr (N : Nat) : Ctr := ⟨law17_draw_S0, law17_draw_S1.un [true, false, false], 1, (fun y => law17_draw N y.2.1)⟩
theorem law17_draw_ctrs (N : Nat) : CtrsOk Tryd.prog (law17_draw_C N) := ctrs_of (Γ := law17_draw_C N) G_ifs_ok (by
 intro p hp
 simp only [law17_draw_C, List.mem_cons, List.not_mem_nil, or_false] at hp
 rcases hp with rfl | rfl | rfl
 · exact make_Codes_Header_ok N
 · exact make_Codes_Bytes_ok N
 · exact make_Codes_Next_ok N)
theorem law17_draw_ok (N : Nat) : Ctr.ok Tryd.prog G_globs 54 (law17_draw_ctr N) :=
 ctr_fn (Γ := law17_draw_C N) (rfit := law17_draw_S1) (bs := [true, false, false]) (res := [2, 3, 4]) (by kernel_rfl) (tys_ok G_tys_ok) (law17_draw_ctrs N) Tryd.func54 (by kernel_rfl) (by kernel_rfl) Tryd.ntmps54 (by kernel_rfl) (by kernel_rfl) (by kernel_rfl) (by kernel_rfl) (fun E hb => law17_draw_b N hb)
/-! ipsecgate/sealed.Split -/
abbrev sealed_Split_R : Type := ((Int × Unit) × ((List (List UInt8)) × Unit))
def sealed_Split_s6 (N : Nat) (first_1 : Int) (key_3 : (List UInt8)) (iv_4 : UInt64) (pieces_15 : (List (List UInt8))) (t_46 : (List (List UInt8))) (t_47 : Int) (t_48 : Int) (h_6 : D75) (l_16 : (List (List UInt8))) : Option (Lo ((Int × (List UInt8) × UInt64 × (List (List UInt8)) × (List (List UInt8)) × Int × Int × Unit) × (D75 × (List (List UInt8)) × Unit)) ((Unit) × ((List (List UInt8)) × Unit)) sealed_Split_R) :=
 bif (decide (t_48 < t_47)) then
 bif inR t_48 t_46.length then
 Option.bind (wire_Put N (iu64 (w64 (t_48 + (1 : Int)))) (2 : Int) ([] : List UInt8)) fun y14 =>
 Option.bind (wire_Put N (iu64 (pieces_15.length : Int)) (2 : Int) y14.2.1) fun y17 =>
 Option.bind (sealed_write N h_6 (53 : Int) first_1 y17.2.1 (t_46.getD t_48.toNat ([] : List UInt8)) key_3 (iv_4 + (iu64 t_48))) fun y20 =>
 bif (!(decide (y20.1.1 = (0 : Int)))) then
 some (.rt ((y20.1.1, ()), (([] : List (List UInt8)), ())))
 else
 bif room (l_16.length + ([y20.2.1] : List (List UInt8)).length) 24 then
 some (.go (((0 : Int), key_3, iv_4, pieces_15, t_46, t_47, (w64 (t_48 + (1 : Int))), ()), (h_6, (l_16 ++ ([y20.2.1] : List (List UInt8))), ())))
 else none
 else none
 else
 some (.br ((()), (l_16, ())))
def sealed_Split_7 (N : Nat) (l_16 : (List (List UInt8))) : Option sealed_Split_R :=
 some (((0 : Int), ()), (l_16, ()))
def sealed_Split_5 (N : Nat) (first_1 : Int) (key_3 : (List UInt8)) (iv_4 : UInt64) (pieces_15 : (List (List UInt8))) (t_46 : (List (List UInt8))) (t_47 : Int) (t_48 : Int) (h_6 : D75) (l_16 : (List (List UInt8))) : Option sealed_Split_R :=
 loopK N (fun y => sealed_Split_s6 N y.1.1 y.1.2.1 y.1.2.2.1 y.1.2.2.2.1 y.1.2.2.2.2.1 y.1.2.2.2.2.2.1 y.1.2.2.2.2.2.2.1 y.2.1 y.2.2.1) (fun (e : ((Unit) × ((List (List UInt8)) × Unit))) => sealed_Split_7 N e.2.1) ((first_1, key_3, iv_4, pieces_15, t_46, t_47, t_48, ()), (h_6, l_16, ()))
def sealed_Split_4 (N : Nat) (first_1 : Int) (key_3 : (List UInt8)) (iv_4 : UInt64) (pieces_15 : (List (List UInt8))) (h_6 : D75) : Option sealed_Split_R :=
 bif (decide ((16 : Int) < (pieces_15.length : Int))) then
 some (((10 : Int), ()), (([] : List (List UInt8)), ()))
 else
 sealed_Split_5 N first_1 key_3 iv_4 pieces_15 pieces_15 (pieces_15.length : Int) (0 : Int) h_6 ([] : List (List UInt8))
def sealed_Split_3 (N : Nat) (first_1 : Int) (key_3 : (List UInt8)) (iv_4 : UInt64) (pieces_15 : (List (List UInt8))) (h_6 : D75) : Option sealed_Split_R :=
 bif (decide ((pieces_15.length : Int) = (0 : Int))) then
 sealed_Split_4 N first_1 key_3 iv_4 ([([] : List UInt8)] : List (List UInt8)) h_6
 else
 sealed_Split_4 N first_1 key_3 iv_4 pieces_15 h_6
def sealed_Split_2 (N : Nat) (first_1 : Int) (inner_2 : (List UInt8)) (key_3 : (List UInt8)) (iv_4 : UInt64) (size_5 : Int) (h_6 : D75) : Option sealed_Split_R :=
 bif decide (1 ≤ size_5) && (decide (size_5 ≤ 4096) && decide (inner_2.length ≤ 1000000)) then
 sealed_Split_3 N first_1 key_3 iv_4 (chunks inner_2 size_5.toNat) h_6
 else none
def sealed_Split_1 (N : Nat) (first_1 : Int) (inner_2 : (List UInt8)) (key_3 : (List UInt8)) (iv_4 : UInt64) (size_5 : Int) (t_34 : Bool) (h_6 : D75) : Option sealed_Split_R :=
 bif t_34 then
 some (((5 : Int), ()), (([] : List (List UInt8)), ()))
 else
 sealed_Split_2 N first_1 inner_2 key_3 iv_4 size_5 h_6
def sealed_Split (N : Nat) (h_0 : D75) (first_1 : Int) (inner_2 : (List UInt8)) (key_3 : (List UInt8)) (iv_4 : UInt64) (size_5 : Int) : Option sealed_Split_R :=
 Option.bind (sealed_check N h_0 key_3 first_1) fun y1 =>
 bif (!(decide (y1.1.1 = (0 : Int)))) then
 some ((y1.1.1, ()), (([] : List (List UInt8)), ()))
 else
 bif (decide (size_5 < (1 : Int))) then
 sealed_Split_1 N first_1 inner_2 key_3 iv_4 size_5 true h_0
 else
 sealed_Split_1 N first_1 inner_2 key_3 iv_4 size_5 (decide ((4096 : Int) < size_5)) h_0
def sealed_Split_C (N : Nat) : Ctx := ⟨83, G_tys, [(116, sealed_check_ctr N), (91, wire_Put_ctr N), (117, sealed_write_ctr N)], G_globs, G_ifs⟩
def sealed_Split_S0 : Spec := ⟨[.val .i64, .val (.sl .u8), .val .u64, .ref 0 T75, .val (.sl (.sl .u8)), .row 1, .val (.sl (.sl .u8)), .val .i64, .val .i64], [(.box 76 T75, .pos 3), (.row 22 (.sl .u8), .pos 5)]⟩
def sealed_Split_S1 : Spec := ⟨[.row 0], [(.row 22 (.sl .u8), .pos 0)]⟩
def sealed_Split_S2 : Spec := ⟨[.val .i64, .val (.sl .u8), .val .u64, .ref 0 T75, .val (.sl (.sl .u8))], [(.box 76 T75, .pos 3)]⟩
def sealed_Split_S3 : Spec := ⟨[.val .i64, .val (.sl .u8), .val (.sl .u8), .val .u64, .val .i64, .ref 0 T75], [(.box 76 T75, .pos 5)]⟩
def sealed_Split_S4 : Spec := ⟨[.val .i64, .val (.sl .u8), .val (.sl .u8), .val .u64, .val .i64, .ref 0 T75, .val .bool], [(.box 76 T75, .pos 5)]⟩
def sealed_Split_S5 : Spec := ⟨[.val T75, .val .i64, .val (.sl .u8), .val (.sl .u8), .val .u64, .val .i64], []⟩
def sealed_Split_S6 : Spec := ⟨[.row 0, .val .i64], [(.row 22 (.sl .u8), .pos 0)]⟩
def sealed_Split_K (_N : Nat) : XE → GS → Option sealed_Split_R := retK 0 [12, 13] [false, false] sealed_Split_S6
def sealed_Split_L : List Code := (bodyOf (some Tryd.f70))
def sealed_Split_L6 : List Code := (loopOf (sealed_Split_L[13]?))
def sealed_Split_K6 (N : Nat) : XE → GS → Option (Lo ((Int × (List UInt8) × UInt64 × (List (List UInt8)) × (List (List UInt8)) × Int × Int × Unit) × (D75 × (List (List UInt8)) × Unit)) ((Unit) × ((List (List UInt8)) × Unit)) sealed_Split_R) := roundK (some 0) (fit 0 [1, 3, 4, 6, 15, 16, 46, 47, 48] sealed_Split_S0) (fit 0 [16] sealed_Split_S1) (sealed_Split_K N)
theorem sealed_Split_s6_b {E : Env} (N : Nat) (hb : Base Tryd.prog (sealed_Split_C N) E 0) : Blk Tryd.prog (sealed_Split_C N) E [1, 3, 4, 6, 15, 16, 46, 47, 48] sealed_Split_S0 (sealed_Split_L6.drop 0) (fun y => sealed_Split_s6 N y.1.1 y.1.2.1 y.1.2.2.1 y.1.2.2.2.1 y.1.2.2.2.2.1 y.1.2.2.2.2.2.1 y.1.2.2.2.2.2.2.1 y.2.1 y.2.2.1) (sealed_Split_K6 N) :=
 Blk.chunkAt hb 4 (X := (sealed_Split_K6 N .normal)) (NxOk.end (by kernel_rfl)) rfl (fun x => by kernel_rfl)
theorem sealed_Split_7_b {E : Env} (N : Nat) (hb : Base Tryd.prog (sealed_Split_C N) E 0) : Blk Tryd.prog (sealed_Split_C N) E [16] sealed_Split_S1 (sealed_Split_L.drop 14) (fun y => sealed_Split_7 N y.2.1) (sealed_Split_K N) :=
 Blk.chunkAt hb 2 (X := (sealed_Split_K N .normal)) (NxOk.end (by kernel_rfl)) rfl (fun x => by kernel_rfl)
theorem sealed_Split_5_b {E : Env} (N : Nat) (hb : Base Tryd.prog (sealed_Split_C N) E 0) : Blk Tryd.prog (sealed_Split_C N) E [1, 3, 4, 6, 15, 16, 46, 47, 48] sealed_Split_S0 (sealed_Split_L.drop 13) (fun y => sealed_Split_5 N y.1.1 y.1.2.1 y.1.2.2.1 y.1.2.2.2.1 y.1.2.2.2.2.1 y.1.2.2.2.2.2.1 y.1.2.2.2.2.2.2.1 y.2.1 y.2.2.1) (sealed_Split_K N) :=
 Blk.loopAt (Nf := N) (hns := [1, 3, 4, 6, 15, 16, 46, 47, 48]) (ans := [16]) (hc := sealed_Split_S0) (ac := sealed_Split_S1) (bid := 0) (step := (fun y => sealed_Split_s6 N y.1.1 y.1.2.1 y.1.2.2.1 y.1.2.2.2.1 y.1.2.2.2.2.1 y.1.2.2.2.2.2.1 y.1.2.2.2.2.2.2.1 y.2.1 y.2.2.1)) (J := (fun e => (goK 0 [16] sealed_Split_S1 (fun y => sealed_Split_7 N y.2.1)) (sealed_Split_S1.st [16] e))) hb (by kernel_rfl) (Blk.into (X := (goK 0 [16] sealed_Split_S1 (fun y => sealed_Split_7 N y.2.1))) (NxOk.go hb (sealed_Split_7_b N hb)) (fun x => by kernel_rfl)) (sealed_Split_s6_b N hb) (fun x => by kernel_rfl)
theorem sealed_Split_4_b {E : Env} (N : Nat) (hb : Base Tryd.prog (sealed_Split_C N) E 0) : Blk Tryd.prog (sealed_Split_C N) E [1, 3, 4, 6, 15] sealed_Split_S2 (sealed_Split_L.drop 9) (fun y => sealed_Split_4 N y.1.1 y.1.2.1 y.1.2.2.1 y.1.2.2.2.1 y.2.1) (sealed_Split_K N) :=
 Blk.chunkAt hb 4 (X := (goK 0 [1, 3, 4, 6, 15, 16, 46, 47, 48] sealed_Split_S0 (fun y => sealed_Split_5 N y.1.1 y.1.2.1 y.1.2.2.1 y.1.2.2.2.1 y.1.2.2.2.2.1 y.1.2.2.2.2.2.1 y.1.2.2.2.2.2.2.1 y.2.1 y.2.2.1))) (NxOk.go hb (sealed_Split_5_b N hb)) rfl (fun x => by kernel_rfl)
theorem sealed_Split_3_b {E : Env} (N : Nat) (hb : Base Tryd.prog (sealed_Split_C N) E 0) : Blk Tryd.prog (sealed_Split_C N) E [1, 3, 4, 6, 15] sealed_Split_S2 (sealed_Split_L.drop 7) (fun y => sealed_Split_3 N y.1.1 y.1.2.1 y.1.2.2.1 y.1.2.2.2.1 y.2.1) (sealed_Split_K N) :=
 Blk.chunkAt hb 2 (X := (goK 0 [1, 3, 4, 6, 15] sealed_Split_S2 (fun y => sealed_Split_4 N y.1.1 y.1.2.1 y.1.2.2.1 y.1.2.2.2.1 y.2.1))) (NxOk.go hb (sealed_Split_4_b N hb)) rfl (fun x => by kernel_rfl)
theorem sealed_Split_2_b {E : Env} (N : Nat) (hb : Base Tryd.prog (sealed_Split_C N) E 0) : Blk Tryd.prog (sealed_Split_C N) E [1, 2, 3, 4, 5, 6] sealed_Split_S3 (sealed_Split_L.drop 6) (fun y => sealed_Split_2 N y.1.1 y.1.2.1 y.1.2.2.1 y.1.2.2.2.1 y.1.2.2.2.2.1 y.2.1) (sealed_Split_K N) :=
 Blk_chunks (l := sealed_Split_L) (i := 6) hb (hl := (by kernel_rfl : sealed_Split_L[6]? = some (.region 6 #[⟨some 35, .move (.tmp 2), 22, "sealed.go:142", #[], none⟩, ⟨some 36, .move (.tmp 5), 3, "sealed.go:142", #[], none⟩, ⟨some 37, .call ⟨.value (.func 133), #[.tmp 35, .tmp 36], #[22, 3]⟩, 163, "sealed.go:142", #[⟨0, .data⟩, ⟨1, .data⟩], none⟩, ⟨some 38, .call ⟨.value (.func 132), #[.tmp 37], #[163]⟩, 50, "sealed.go:142", #[⟨2, .data⟩, ⟨2, .chain⟩], none⟩, ⟨some 15, .assign (.tmp 38), 50, "sealed.go:142", #[⟨3, .data⟩, ⟨3, .chain⟩, ⟨0, .phase⟩, ⟨1, .phase⟩, ⟨2, .phase⟩, ⟨3, .phase⟩], none⟩] false))) (by kernel_rfl) (X := (goK 0 [1, 3, 4, 6, 15] sealed_Split_S2 (fun y => sealed_Split_3 N y.1.1 y.1.2.1 y.1.2.2.1 y.1.2.2.2.1 y.2.1))) (NxOk.go hb (sealed_Split_3_b N hb)) (fun z => z.1.2.1) (fun z => z.1.2.2.2.2.1) (fun z => rfl) (fun z => rfl) (fun z => by kernel_rfl)
theorem sealed_Split_1_b {E : Env} (N : Nat) (hb : Base Tryd.prog (sealed_Split_C N) E 0) : Blk Tryd.prog (sealed_Split_C N) E [1, 2, 3, 4, 5, 6, 34] sealed_Split_S4 (sealed_Split_L.drop 5) (fun y => sealed_Split_1 N y.1.1 y.1.2.1 y.1.2.2.1 y.1.2.2.2.1 y.1.2.2.2.2.1 y.1.2.2.2.2.2.1 y.2.1) (sealed_Split_K N) :=
 Blk.chunkAt hb 1 (X := (goK 0 [1, 2, 3, 4, 5, 6] sealed_Split_S3 (fun y => sealed_Split_2 N y.1.1 y.1.2.1 y.1.2.2.1 y.1.2.2.2.1 y.1.2.2.2.2.1 y.2.1))) (NxOk.go hb (sealed_Split_2_b N hb)) rfl (fun x => by kernel_rfl)
theorem sealed_Split_b {E : Env} (N : Nat) (hb : Base Tryd.prog (sealed_Split_C N) E 0) : Blk Tryd.prog (sealed_Split_C N) E (List.range sealed_Split_S5.ks.length) sealed_Split_S5 (sealed_Split_L.drop 0) (fun y => sealed_Split N y.1.1 y.1.2.1 y.1.2.2.1 y.1.2.2.2.1 y.1.2.2.2.2.1 y.1.2.2.2.2.2.1) (sealed_Split_K N) :=
 Blk.chunkAt hb 5 (X := (goK 0 [1, 2, 3, 4, 5, 6, 34] sealed_Split_S4 (fun y => sealed_Split_1 N y.1.1 y.1.2.1 y.1.2.2.1 y.1.2.2.2.1 y.1.2.2.2.2.1 y.1.2.2.2.2.2.1 y.2.1))) (NxOk.go hb (sealed_Split_1_b N hb)) rfl (fun x => by kernel_rfl)
def sealed_Split_ctr (N : Nat) : Ctr := ⟨sealed_Split_S5, sealed_Split_S6.un [false, false], 0, (fun y => sealed_Split N y.1.1 y.1.2.1 y.1.2.2.1 y.1.2.2.2.1 y.1.2.2.2.2.1 y.1.2.2.2.2.2.1)⟩
theorem sealed_Split_ctrs (N : Nat) : CtrsOk Tryd.prog (sealed_Split_C N) := ctrs_of (Γ := sealed_Split_C N) G_ifs_ok (by
 intro p hp
 simp only [sealed_Split_C, List.mem_cons, List.not_mem_nil, or_false] at hp
 rcases hp with rfl | rfl | rfl
 · exact sealed_check_ok N
 · exact wire_Put_ok N
 · exact sealed_write_ok N)
theorem sealed_Split_ok (N : Nat) : Ctr.ok Tryd.prog G_globs 70 (sealed_Split_ctr N) :=
 ctr_fn (Γ := sealed_Split_C N) (rfit := sealed_Split_S6) (bs := [false, false]) (res := [12, 13]) (by kernel_rfl) (tys_ok G_tys_ok) (sealed_Split_ctrs N) Tryd.func70 (by kernel_rfl) (by kernel_rfl) Tryd.ntmps70 (by kernel_rfl) (by kernel_rfl) (by kernel_rfl) (by kernel_rfl) (fun E hb => sealed_Split_b N hb)
/-! ipsecgate/sealed.OpenPart -/
abbrev sealed_OpenPart_R : Type := ((D75 × D91 × Int × Unit) × (Unit))
def sealed_OpenPart_4 (N : Nat) (e_8 : Int) (t_4 : D75) (t_5 : D91) (r_7 : D154) (f_13 : D91) : Option sealed_OpenPart_R :=
 bif (!(decide (e_8 = (0 : Int)))) then
 some ((((0 : UInt64), (0 : UInt64), (0 : Int), (0 : Int), (0 : Int), (0 : UInt32), ()), ((0 : Int), (0 : Int), (0 : Int), ([] : List UInt8), ()), e_8, ()), (()))
 else
 some ((r_7.1, f_13, (0 : Int), ()), (()))
def sealed_OpenPart_3 (N : Nat) (e_8 : Int) (t_4 : D75) (t_5 : D91) (r_7 : D154) (f_13 : D91) (plain_14 : (List UInt8)) : Option sealed_OpenPart_R :=
 bif (decide (e_8 = (0 : Int))) then
 Option.bind (sealed_unpad N plain_14) fun y13 =>
 sealed_OpenPart_4 N y13.1.2.1 t_4 t_5 r_7 (f_13.1, f_13.2.1, f_13.2.2.1, y13.1.1, ())
 else
 sealed_OpenPart_4 N e_8 t_4 t_5 r_7 f_13
def sealed_OpenPart_2 (N : Nat) (e_8 : Int) (t_76 : Bool) (t_4 : D75) (t_5 : D91) (r_7 : D154) (f_13 : D91) (plain_14 : (List UInt8)) : Option sealed_OpenPart_R :=
 bif t_76 then
 sealed_OpenPart_3 N (7 : Int) t_4 t_5 r_7 f_13 plain_14
 else
 sealed_OpenPart_3 N e_8 t_4 t_5 r_7 f_13 plain_14
def sealed_OpenPart_1 (N : Nat) (b_0 : (List UInt8)) (key_1 : (List UInt8)) (t_55 : Bool) (t_4 : D75) (t_5 : D91) (r_7 : D154) (f_13 : D91) : Option sealed_OpenPart_R :=
 bif t_55 then
 some ((((0 : UInt64), (0 : UInt64), (0 : Int), (0 : Int), (0 : Int), (0 : UInt32), ()), ((0 : Int), (0 : Int), (0 : Int), ([] : List UInt8), ()), (5 : Int), ()), (()))
 else
 Option.bind (sealed_read_open N r_7 b_0 key_1 (4 : Int)) fun y8 =>
 bif (decide (y8.1.1 = (0 : Int))) then
 bif (!(decide (f_13.2.2.1 = (0 : Int)))) then
 sealed_OpenPart_2 N y8.1.1 (!(decide (f_13.1 = (1 : Int)))) t_4 t_5 r_7 f_13 y8.2.1
 else
 sealed_OpenPart_2 N y8.1.1 false t_4 t_5 r_7 f_13 y8.2.1
 else
 sealed_OpenPart_2 N y8.1.1 false t_4 t_5 r_7 f_13 y8.2.1
def sealed_OpenPart (N : Nat) (b_0 : (List UInt8)) (key_1 : (List UInt8)) : Option sealed_OpenPart_R :=
 Option.bind (sealed_parse N b_0 key_1 (53 : Int) (29 : Int)) fun y1 =>
 bif (!(decide (y1.1.2.1 = (0 : Int)))) then
 some ((((0 : UInt64), (0 : UInt64), (0 : Int), (0 : Int), (0 : Int), (0 : UInt32), ()), ((0 : Int), (0 : Int), (0 : Int), ([] : List UInt8), ()), y1.1.2.1, ()), (()))
 else
 Option.bind (wire_Number N y1.1.1.2.2.1 (0 : Int) (2 : Int)) fun y3 =>
 Option.bind (wire_Number N y1.1.1.2.2.1 (2 : Int) (2 : Int)) fun y4 =>
 let x5 := w64 (y3.1.1.toNat : Int)
 let x6 := w64 (y4.1.1.toNat : Int)
 bif (decide (y3.1.1 = (0 : UInt64))) then
 sealed_OpenPart_1 N b_0 key_1 true ((0 : UInt64), (0 : UInt64), (0 : Int), (0 : Int), (0 : Int), (0 : UInt32), ()) ((0 : Int), (0 : Int), (0 : Int), ([] : List UInt8), ()) y1.1.1 (x5, x6, y1.1.1.2.1, ([] : List UInt8), ())
 else
 bif (decide (y4.1.1 < y3.1.1)) then
 sealed_OpenPart_1 N b_0 key_1 true ((0 : UInt64), (0 : UInt64), (0 : Int), (0 : Int), (0 : Int), (0 : UInt32), ()) ((0 : Int), (0 : Int), (0 : Int), ([] : List UInt8), ()) y1.1.1 (x5, x6, y1.1.1.2.1, ([] : List UInt8), ())
 else
 sealed_OpenPart_1 N b_0 key_1 (decide ((16 : UInt64) < y4.1.1)) ((0 : UInt64), (0 : UInt64), (0 : Int), (0 : Int), (0 : Int), (0 : UInt32), ()) ((0 : Int), (0 : Int), (0 : Int), ([] : List UInt8), ()) y1.1.1 (x5, x6, y1.1.1.2.1, ([] : List UInt8), ())
def sealed_OpenPart_C (N : Nat) : Ctx := ⟨93, G_tys, [(126, sealed_parse_ctr N), (107, wire_Number_ctr N), (127, sealed_read_open_ctr N), (128, sealed_unpad_ctr N)], G_globs, G_ifs⟩
def sealed_OpenPart_S0 : Spec := ⟨[.ref 0 T75, .ref 1 T91, .ref 2 T154, .val .i64, .ref 3 T91], [(.box 76 T75, .pos 0), (.box 92 T91, .pos 1), (.box 155 T154, .pos 2), (.box 92 T91, .pos 4)]⟩
def sealed_OpenPart_S1 : Spec := ⟨[.ref 0 T75, .ref 1 T91, .ref 2 T154, .val .i64, .ref 3 T91, .row 4], [(.box 76 T75, .pos 0), (.box 92 T91, .pos 1), (.box 155 T154, .pos 2), (.box 92 T91, .pos 4), (.row 5 .u8, .pos 5)]⟩
def sealed_OpenPart_S2 : Spec := ⟨[.ref 0 T75, .ref 1 T91, .ref 2 T154, .val .i64, .ref 3 T91, .row 4, .val .bool], [(.box 76 T75, .pos 0), (.box 92 T91, .pos 1), (.box 155 T154, .pos 2), (.box 92 T91, .pos 4), (.row 5 .u8, .pos 5)]⟩
def sealed_OpenPart_S3 : Spec := ⟨[.val (.sl .u8), .val (.sl .u8), .ref 0 T75, .ref 1 T91, .ref 2 T154, .ref 3 T91, .val .bool], [(.box 76 T75, .pos 2), (.box 92 T91, .pos 3), (.box 155 T154, .pos 4), (.box 92 T91, .pos 5)]⟩
def sealed_OpenPart_S4 : Spec := ⟨[.val (.sl .u8), .val (.sl .u8)], []⟩
def sealed_OpenPart_S5 : Spec := ⟨[.fp T75, .fp T91, .val .i64], []⟩
def sealed_OpenPart_K (_N : Nat) : XE → GS → Option sealed_OpenPart_R := retK 0 [4, 5, 6] [true, true, false] sealed_OpenPart_S5
def sealed_OpenPart_L : List Code := (bodyOf (some Tryd.f66))
theorem sealed_OpenPart_4_b {E : Env} (N : Nat) (hb : Base Tryd.prog (sealed_OpenPart_C N) E 0) : Blk Tryd.prog (sealed_OpenPart_C N) E [4, 5, 7, 8, 13] sealed_OpenPart_S0 (sealed_OpenPart_L.drop 14) (fun y => sealed_OpenPart_4 N y.1.1 y.2.1 y.2.2.1 y.2.2.2.1 y.2.2.2.2.1) (sealed_OpenPart_K N) :=
 Blk.chunkAt hb 4 (X := (sealed_OpenPart_K N .normal)) (NxOk.end (by kernel_rfl)) rfl (fun x => by kernel_rfl)
theorem sealed_OpenPart_3_b {E : Env} (N : Nat) (hb : Base Tryd.prog (sealed_OpenPart_C N) E 0) : Blk Tryd.prog (sealed_OpenPart_C N) E [4, 5, 7, 8, 13, 14] sealed_OpenPart_S1 (sealed_OpenPart_L.drop 12) (fun y => sealed_OpenPart_3 N y.1.1 y.2.1 y.2.2.1 y.2.2.2.1 y.2.2.2.2.1 y.2.2.2.2.2.1) (sealed_OpenPart_K N) :=
 Blk.chunkAt hb 2 (X := (goK 0 [4, 5, 7, 8, 13] sealed_OpenPart_S0 (fun y => sealed_OpenPart_4 N y.1.1 y.2.1 y.2.2.1 y.2.2.2.1 y.2.2.2.2.1))) (NxOk.go hb (sealed_OpenPart_4_b N hb)) rfl (fun x => by kernel_rfl)
theorem sealed_OpenPart_2_b {E : Env} (N : Nat) (hb : Base Tryd.prog (sealed_OpenPart_C N) E 0) : Blk Tryd.prog (sealed_OpenPart_C N) E [4, 5, 7, 8, 13, 14, 76] sealed_OpenPart_S2 (sealed_OpenPart_L.drop 11) (fun y => sealed_OpenPart_2 N y.1.1 y.1.2.1 y.2.1 y.2.2.1 y.2.2.2.1 y.2.2.2.2.1 y.2.2.2.2.2.1) (sealed_OpenPart_K N) :=
 Blk.chunkAt hb 1 (X := (goK 0 [4, 5, 7, 8, 13, 14] sealed_OpenPart_S1 (fun y => sealed_OpenPart_3 N y.1.1 y.2.1 y.2.2.1 y.2.2.2.1 y.2.2.2.2.1 y.2.2.2.2.2.1))) (NxOk.go hb (sealed_OpenPart_3_b N hb)) rfl (fun x => by kernel_rfl)
theorem sealed_OpenPart_1_b {E : Env} (N : Nat) (hb : Base Tryd.prog (sealed_OpenPart_C N) E 0) : Blk Tryd.prog (sealed_OpenPart_C N) E [0, 1, 4, 5, 7, 13, 55] sealed_OpenPart_S3 (sealed_OpenPart_L.drop 8) (fun y => sealed_OpenPart_1 N y.1.1 y.1.2.1 y.1.2.2.1 y.2.1 y.2.2.1 y.2.2.2.1 y.2.2.2.2.1) (sealed_OpenPart_K N) :=
 Blk.chunkAt hb 3 (X := (goK 0 [4, 5, 7, 8, 13, 14, 76] sealed_OpenPart_S2 (fun y => sealed_OpenPart_2 N y.1.1 y.1.2.1 y.2.1 y.2.2.1 y.2.2.2.1 y.2.2.2.2.1 y.2.2.2.2.2.1))) (NxOk.go hb (sealed_OpenPart_2_b N hb)) rfl (fun x => by kernel_rfl)
theorem sealed_OpenPart_b {E : Env} (N : Nat) (hb : Base Tryd.prog (sealed_OpenPart_C N) E 0) : Blk Tryd.prog (sealed_OpenPart_C N) E (List.range sealed_OpenPart_S4.ks.length) sealed_OpenPart_S4 (sealed_OpenPart_L.drop 0) (fun y => sealed_OpenPart N y.1.1 y.1.2.1) (sealed_OpenPart_K N) :=
 Blk.chunkAt hb 8 (X := (goK 0 [0, 1, 4, 5, 7, 13, 55] sealed_OpenPart_S3 (fun y => sealed_OpenPart_1 N y.1.1 y.1.2.1 y.1.2.2.1 y.2.1 y.2.2.1 y.2.2.2.1 y.2.2.2.2.1))) (NxOk.go hb (sealed_OpenPart_1_b N hb)) rfl (fun x => by kernel_rfl)
def sealed_OpenPart_ctr (N : Nat) : Ctr := ⟨sealed_OpenPart_S4, sealed_OpenPart_S5.un [true, true, false], 0, (fun y => sealed_OpenPart N y.1.1 y.1.2.1)⟩
theorem sealed_OpenPart_ctrs (N : Nat) : CtrsOk Tryd.prog (sealed_OpenPart_C N) := ctrs_of (Γ := sealed_OpenPart_C N) G_ifs_ok (by
 intro p hp
 simp only [sealed_OpenPart_C, List.mem_cons, List.not_mem_nil, or_false] at hp
 rcases hp with rfl | rfl | rfl | rfl
 · exact sealed_parse_ok N
 · exact wire_Number_ok N
 · exact sealed_read_open_ok N
 · exact sealed_unpad_ok N)
theorem sealed_OpenPart_ok (N : Nat) : Ctr.ok Tryd.prog G_globs 66 (sealed_OpenPart_ctr N) :=
 ctr_fn (Γ := sealed_OpenPart_C N) (rfit := sealed_OpenPart_S5) (bs := [true, true, false]) (res := [4, 5, 6]) (by kernel_rfl) (tys_ok G_tys_ok) (sealed_OpenPart_ctrs N) Tryd.func66 (by kernel_rfl) (by kernel_rfl) Tryd.ntmps66 (by kernel_rfl) (by kernel_rfl) (by kernel_rfl) (by kernel_rfl) (fun E hb => sealed_OpenPart_b N hb)
/-! ipsecgate/sealed.Add$1 -/
abbrev sealed_Add_f1_R : Type := ((Int × Unit) × (Unit))
def sealed_Add_f1 (N : Nat) (x_0 : D91) (n_1 : Int) : Option sealed_Add_f1_R :=
 some (((w64 (x_0.1 - n_1)), ()), (()))
def sealed_Add_f1_C (N : Nat) : Ctx := ⟨9, G_tys, [], G_globs, G_ifs⟩
def sealed_Add_f1_S0 : Spec := ⟨[.val T91, .val .i64], []⟩
def sealed_Add_f1_S1 : Spec := ⟨[.val .i64], []⟩
def sealed_Add_f1_K (_N : Nat) : XE → GS → Option sealed_Add_f1_R := retK 0 [4] [false] sealed_Add_f1_S1
def sealed_Add_f1_L : List Code := (bodyOf (some Tryd.f148))
theorem sealed_Add_f1_b {E : Env} (N : Nat) (hb : Base Tryd.prog (sealed_Add_f1_C N) E 0) : Blk Tryd.prog (sealed_Add_f1_C N) E (List.range sealed_Add_f1_S0.ks.length) sealed_Add_f1_S0 (sealed_Add_f1_L.drop 0) (fun y => sealed_Add_f1 N y.1.1 y.1.2.1) (sealed_Add_f1_K N) :=
 Blk.chunkAt hb 3 (X := (sealed_Add_f1_K N .normal)) (NxOk.end (by kernel_rfl)) rfl (fun x => by kernel_rfl)
def sealed_Add_f1_ctr (N : Nat) : Ctr := ⟨sealed_Add_f1_S0, sealed_Add_f1_S1.un [false], 0, (fun y => sealed_Add_f1 N y.1.1 y.1.2.1)⟩
theorem sealed_Add_f1_ctrs (N : Nat) : CtrsOk Tryd.prog (sealed_Add_f1_C N) := ctrs_nil G_ifs_ok rfl
theorem sealed_Add_f1_ok (N : Nat) : Ctr.ok Tryd.prog G_globs 148 (sealed_Add_f1_ctr N) :=
 ctr_fn (Γ := sealed_Add_f1_C N) (rfit := sealed_Add_f1_S1) (bs := [false]) (res := [4]) (by kernel_rfl) (tys_ok G_tys_ok) (sealed_Add_f1_ctrs N) Tryd.func148 (by kernel_rfl) (by kernel_rfl) Tryd.ntmps148 (by kernel_rfl) (by kernel_rfl) (by kernel_rfl) (by kernel_rfl) (fun E hb => sealed_Add_f1_b N hb)
/-! slices.BinarySearchFunc[[]ipsecgate/api.Fragment,ipsecgate/api.Fragment,int]_sealed.Add$1 -/
abbrev slices_BinarySearchFunc___api_Fragment_api_Fragment_int__sealed_Add_f1_R : Type := ((Int × Bool × Unit) × (Unit))
def slices_BinarySearchFunc___api_Fragment_api_Fragment_int__sealed_Add_f1_s2 (N : Nat) (x_0 : (List D91)) (target_1 : Int) (n_8 : Int) (i_9 : Int) (j_10 : Int) : Option (Lo (((List D91) × Int × Int × Int × Int × Unit) × (Unit)) (((List D91) × Int × Int × Int × Unit) × (Unit)) slices_BinarySearchFunc___api_Fragment_api_Fragment_int__sealed_Add_f1_R) :=
 bif (decide (i_9 < j_10)) then
 let x6 := w64 ((shr64 (iu64 (w64 (i_9 + j_10))) 1).toNat : Int)
 bif inR x6 x_0.length then
 Option.bind (sealed_Add_f1 N (x_0.getD x6.toNat ((0 : Int), (0 : Int), (0 : Int), ([] : List UInt8), ())) target_1) fun y8 =>
 bif (decide (y8.1.1 < (0 : Int))) then
 some (.go ((x_0, target_1, n_8, (w64 (x6 + (1 : Int))), j_10, ()), (())))
 else
 some (.go ((x_0, target_1, n_8, i_9, x6, ()), (())))
 else none
 else
 some (.br ((x_0, target_1, n_8, i_9, ()), (())))
def slices_BinarySearchFunc___api_Fragment_api_Fragment_int__sealed_Add_f1_3 (N : Nat) (x_0 : (List D91)) (target_1 : Int) (n_8 : Int) (i_9 : Int) : Option slices_BinarySearchFunc___api_Fragment_api_Fragment_int__sealed_Add_f1_R :=
 bif (decide (i_9 < n_8)) then
 bif inR i_9 x_0.length then
 Option.bind (sealed_Add_f1 N (x_0.getD i_9.toNat ((0 : Int), (0 : Int), (0 : Int), ([] : List UInt8), ())) target_1) fun y13 =>
 some ((i_9, (decide (y13.1.1 = (0 : Int))), ()), (()))
 else none
 else
 some ((i_9, false, ()), (()))
def slices_BinarySearchFunc___api_Fragment_api_Fragment_int__sealed_Add_f1_1 (N : Nat) (x_0 : (List D91)) (target_1 : Int) (n_8 : Int) (i_9 : Int) (j_10 : Int) : Option slices_BinarySearchFunc___api_Fragment_api_Fragment_int__sealed_Add_f1_R :=
 loopK N (fun y => slices_BinarySearchFunc___api_Fragment_api_Fragment_int__sealed_Add_f1_s2 N y.1.1 y.1.2.1 y.1.2.2.1 y.1.2.2.2.1 y.1.2.2.2.2.1) (fun (e : (((List D91) × Int × Int × Int × Unit) × (Unit))) => slices_BinarySearchFunc___api_Fragment_api_Fragment_int__sealed_Add_f1_3 N e.1.1 e.1.2.1 e.1.2.2.1 e.1.2.2.2.1) ((x_0, target_1, n_8, i_9, j_10, ()), (()))
def slices_BinarySearchFunc___api_Fragment_api_Fragment_int__sealed_Add_f1 (N : Nat) (x_0 : (List D91)) (target_1 : Int) : Option slices_BinarySearchFunc___api_Fragment_api_Fragment_int__sealed_Add_f1_R :=
 let x1 := (x_0.length : Int)
 slices_BinarySearchFunc___api_Fragment_api_Fragment_int__sealed_Add_f1_1 N x_0 target_1 x1 (0 : Int) x1
def slices_BinarySearchFunc___api_Fragment_api_Fragment_int__sealed_Add_f1_C (N : Nat) : Ctx := ⟨49, G_tys, [(148, sealed_Add_f1_ctr N)], G_globs, G_ifs⟩
def slices_BinarySearchFunc___api_Fragment_api_Fragment_int__sealed_Add_f1_S0 : Spec := ⟨[.val (.sl T91), .val .i64, .clo 148 [], .val .i64, .val .i64, .val .i64], []⟩
def slices_BinarySearchFunc___api_Fragment_api_Fragment_int__sealed_Add_f1_S1 : Spec := ⟨[.val (.sl T91), .val .i64, .clo 148 [], .val .i64, .val .i64], []⟩
def slices_BinarySearchFunc___api_Fragment_api_Fragment_int__sealed_Add_f1_S2 : Spec := ⟨[.val (.sl T91), .val .i64, .clo 148 []], []⟩
def slices_BinarySearchFunc___api_Fragment_api_Fragment_int__sealed_Add_f1_S3 : Spec := ⟨[.val .i64, .val .bool], []⟩
def slices_BinarySearchFunc___api_Fragment_api_Fragment_int__sealed_Add_f1_K (_N : Nat) : XE → GS → Option slices_BinarySearchFunc___api_Fragment_api_Fragment_int__sealed_Add_f1_R := retK 0 [6, 7] [false, false] slices_BinarySearchFunc___api_Fragment_api_Fragment_int__sealed_Add_f1_S3
def slices_BinarySearchFunc___api_Fragment_api_Fragment_int__sealed_Add_f1_L : List Code := (bodyOf (some Tryd.f147))
def slices_BinarySearchFunc___api_Fragment_api_Fragment_int__sealed_Add_f1_L2 : List Code := (loopOf (slices_BinarySearchFunc___api_Fragment_api_Fragment_int__sealed_Add_f1_L[3]?))
def slices_BinarySearchFunc___api_Fragment_api_Fragment_int__sealed_Add_f1_K2 (N : Nat) : XE → GS → Option (Lo (((List D91) × Int × Int × Int × Int × Unit) × (Unit)) (((List D91) × Int × Int × Int × Unit) × (Unit)) slices_BinarySearchFunc___api_Fragment_api_Fragment_int__sealed_Add_f1_R) := roundK (some 0) (fit 0 [0, 1, 2, 8, 9, 10] slices_BinarySearchFunc___api_Fragment_api_Fragment_int__sealed_Add_f1_S0) (fit 0 [0, 1, 2, 8, 9] slices_BinarySearchFunc___api_Fragment_api_Fragment_int__sealed_Add_f1_S1) (slices_BinarySearchFunc___api_Fragment_api_Fragment_int__sealed_Add_f1_K N)
theorem slices_BinarySearchFunc___api_Fragment_api_Fragment_int__sealed_Add_f1_s2_b {E : Env} (N : Nat) (hb : Base Tryd.prog (slices_BinarySearchFunc___api_Fragment_api_Fragment_int__sealed_Add_f1_C N) E 0) : Blk Tryd.prog (slices_BinarySearchFunc___api_Fragment_api_Fragment_int__sealed_Add_f1_C N) E [0, 1, 2, 8, 9, 10] slices_BinarySearchFunc___api_Fragment_api_Fragment_int__sealed_Add_f1_S0 (slices_BinarySearchFunc___api_Fragment_api_Fragment_int__sealed_Add_f1_L2.drop 0) (fun y => slices_BinarySearchFunc___api_Fragment_api_Fragment_int__sealed_Add_f1_s2 N y.1.1 y.1.2.1 y.1.2.2.1 y.1.2.2.2.1 y.1.2.2.2.2.1) (slices_BinarySearchFunc___api_Fragment_api_Fragment_int__sealed_Add_f1_K2 N) :=
 Blk.chunkAt hb 3 (X := (slices_BinarySearchFunc___api_Fragment_api_Fragment_int__sealed_Add_f1_K2 N .normal)) (NxOk.end (by kernel_rfl)) rfl (fun x => by kernel_rfl)
theorem slices_BinarySearchFunc___api_Fragment_api_Fragment_int__sealed_Add_f1_3_b {E : Env} (N : Nat) (hb : Base Tryd.prog (slices_BinarySearchFunc___api_Fragment_api_Fragment_int__sealed_Add_f1_C N) E 0) : Blk Tryd.prog (slices_BinarySearchFunc___api_Fragment_api_Fragment_int__sealed_Add_f1_C N) E [0, 1, 2, 8, 9] slices_BinarySearchFunc___api_Fragment_api_Fragment_int__sealed_Add_f1_S1 (slices_BinarySearchFunc___api_Fragment_api_Fragment_int__sealed_Add_f1_L.drop 4) (fun y => slices_BinarySearchFunc___api_Fragment_api_Fragment_int__sealed_Add_f1_3 N y.1.1 y.1.2.1 y.1.2.2.1 y.1.2.2.2.1) (slices_BinarySearchFunc___api_Fragment_api_Fragment_int__sealed_Add_f1_K N) :=
 Blk.chunkAt hb 2 (X := (slices_BinarySearchFunc___api_Fragment_api_Fragment_int__sealed_Add_f1_K N .normal)) (NxOk.end (by kernel_rfl)) rfl (fun x => by kernel_rfl)
theorem slices_BinarySearchFunc___api_Fragment_api_Fragment_int__sealed_Add_f1_1_b {E : Env} (N : Nat) (hb : Base Tryd.prog (slices_BinarySearchFunc___api_Fragment_api_Fragment_int__sealed_Add_f1_C N) E 0) : Blk Tryd.prog (slices_BinarySearchFunc___api_Fragment_api_Fragment_int__sealed_Add_f1_C N) E [0, 1, 2, 8, 9, 10] slices_BinarySearchFunc___api_Fragment_api_Fragment_int__sealed_Add_f1_S0 (slices_BinarySearchFunc___api_Fragment_api_Fragment_int__sealed_Add_f1_L.drop 3) (fun y => slices_BinarySearchFunc___api_Fragment_api_Fragment_int__sealed_Add_f1_1 N y.1.1 y.1.2.1 y.1.2.2.1 y.1.2.2.2.1 y.1.2.2.2.2.1) (slices_BinarySearchFunc___api_Fragment_api_Fragment_int__sealed_Add_f1_K N) :=
 Blk.loopAt (Nf := N) (hns := [0, 1, 2, 8, 9, 10]) (ans := [0, 1, 2, 8, 9]) (hc := slices_BinarySearchFunc___api_Fragment_api_Fragment_int__sealed_Add_f1_S0) (ac := slices_BinarySearchFunc___api_Fragment_api_Fragment_int__sealed_Add_f1_S1) (bid := 0) (step := (fun y => slices_BinarySearchFunc___api_Fragment_api_Fragment_int__sealed_Add_f1_s2 N y.1.1 y.1.2.1 y.1.2.2.1 y.1.2.2.2.1 y.1.2.2.2.2.1)) (J := (fun e => (goK 0 [0, 1, 2, 8, 9] slices_BinarySearchFunc___api_Fragment_api_Fragment_int__sealed_Add_f1_S1 (fun y => slices_BinarySearchFunc___api_Fragment_api_Fragment_int__sealed_Add_f1_3 N y.1.1 y.1.2.1 y.1.2.2.1 y.1.2.2.2.1)) (slices_BinarySearchFunc___api_Fragment_api_Fragment_int__sealed_Add_f1_S1.st [0, 1, 2, 8, 9] e))) hb (by kernel_rfl) (Blk.into (X := (goK 0 [0, 1, 2, 8, 9] slices_BinarySearchFunc___api_Fragment_api_Fragment_int__sealed_Add_f1_S1 (fun y => slices_BinarySearchFunc___api_Fragment_api_Fragment_int__sealed_Add_f1_3 N y.1.1 y.1.2.1 y.1.2.2.1 y.1.2.2.2.1))) (NxOk.go hb (slices_BinarySearchFunc___api_Fragment_api_Fragment_int__sealed_Add_f1_3_b N hb)) (fun x => by kernel_rfl)) (slices_BinarySearchFunc___api_Fragment_api_Fragment_int__sealed_Add_f1_s2_b N hb) (fun x => by kernel_rfl)
theorem slices_BinarySearchFunc___api_Fragment_api_Fragment_int__sealed_Add_f1_b {E : Env} (N : Nat) (hb : Base Tryd.prog (slices_BinarySearchFunc___api_Fragment_api_Fragment_int__sealed_Add_f1_C N) E 0) : Blk Tryd.prog (slices_BinarySearchFunc___api_Fragment_api_Fragment_int__sealed_Add_f1_C N) E (List.range slices_BinarySearchFunc___api_Fragment_api_Fragment_int__sealed_Add_f1_S2.ks.length) slices_BinarySearchFunc___api_Fragment_api_Fragment_int__sealed_Add_f1_S2 (slices_BinarySearchFunc___api_Fragment_api_Fragment_int__sealed_Add_f1_L.drop 0) (fun y => slices_BinarySearchFunc___api_Fragment_api_Fragment_int__sealed_Add_f1 N y.1.1 y.1.2.1) (slices_BinarySearchFunc___api_Fragment_api_Fragment_int__sealed_Add_f1_K N) :=
 Blk.chunkAt hb 3 (X := (goK 0 [0, 1, 2, 8, 9, 10] slices_BinarySearchFunc___api_Fragment_api_Fragment_int__sealed_Add_f1_S0 (fun y => slices_BinarySearchFunc___api_Fragment_api_Fragment_int__sealed_Add_f1_1 N y.1.1 y.1.2.1 y.1.2.2.1 y.1.2.2.2.1 y.1.2.2.2.2.1))) (NxOk.go hb (slices_BinarySearchFunc___api_Fragment_api_Fragment_int__sealed_Add_f1_1_b N hb)) rfl (fun x => by kernel_rfl)
def slices_BinarySearchFunc___api_Fragment_api_Fragment_int__sealed_Add_f1_ctr (N : Nat) : Ctr := ⟨slices_BinarySearchFunc___api_Fragment_api_Fragment_int__sealed_Add_f1_S2, slices_BinarySearchFunc___api_Fragment_api_Fragment_int__sealed_Add_f1_S3.un [false, false], 0, (fun y => slices_BinarySearchFunc___api_Fragment_api_Fragment_int__sealed_Add_f1 N y.1.1 y.1.2.1)⟩
theorem slices_BinarySearchFunc___api_Fragment_api_Fragment_int__sealed_Add_f1_ctrs (N : Nat) : CtrsOk Tryd.prog (slices_BinarySearchFunc___api_Fragment_api_Fragment_int__sealed_Add_f1_C N) := ctrs_of (Γ := slices_BinarySearchFunc___api_Fragment_api_Fragment_int__sealed_Add_f1_C N) G_ifs_ok (by
 intro p hp
 simp only [slices_BinarySearchFunc___api_Fragment_api_Fragment_int__sealed_Add_f1_C, List.mem_cons, List.not_mem_nil, or_false] at hp
 rcases hp with rfl
 · exact sealed_Add_f1_ok N)
theorem slices_BinarySearchFunc___api_Fragment_api_Fragment_int__sealed_Add_f1_ok (N : Nat) : Ctr.ok Tryd.prog G_globs 147 (slices_BinarySearchFunc___api_Fragment_api_Fragment_int__sealed_Add_f1_ctr N) :=
 ctr_fn (Γ := slices_BinarySearchFunc___api_Fragment_api_Fragment_int__sealed_Add_f1_C N) (rfit := slices_BinarySearchFunc___api_Fragment_api_Fragment_int__sealed_Add_f1_S3) (bs := [false, false]) (res := [6, 7]) (by kernel_rfl) (tys_ok G_tys_ok) (slices_BinarySearchFunc___api_Fragment_api_Fragment_int__sealed_Add_f1_ctrs N) Tryd.func147 (by kernel_rfl) (by kernel_rfl) Tryd.ntmps147 (by kernel_rfl) (by kernel_rfl) (by kernel_rfl) (by kernel_rfl) (fun E hb => slices_BinarySearchFunc___api_Fragment_api_Fragment_int__sealed_Add_f1_b N hb)
/-! slices.Clone[[]ipsecgate/api.Fragment,ipsecgate/api.Fragment] -/
abbrev slices_Clone___api_Fragment_api_Fragment__R : Type := ((Unit) × ((List D91) × Unit))
def slices_Clone___api_Fragment_api_Fragment_ (N : Nat) (s_0 : (List D91)) : Option slices_Clone___api_Fragment_api_Fragment__R :=
 bif room (([] : List D91).length + s_0.length) 48 then
 some ((()), ((([] : List D91) ++ s_0), ()))
 else none
def slices_Clone___api_Fragment_api_Fragment__C (N : Nat) : Ctx := ⟨8, G_tys, [], G_globs, G_ifs⟩
def slices_Clone___api_Fragment_api_Fragment__S0 : Spec := ⟨[.val (.sl T91)], []⟩
def slices_Clone___api_Fragment_api_Fragment__S1 : Spec := ⟨[.row 0], [(.row 92 T91, .pos 0)]⟩
def slices_Clone___api_Fragment_api_Fragment__K (_N : Nat) : XE → GS → Option slices_Clone___api_Fragment_api_Fragment__R := retK 0 [2] [false] slices_Clone___api_Fragment_api_Fragment__S1
def slices_Clone___api_Fragment_api_Fragment__L : List Code := (bodyOf (some Tryd.f150))
theorem slices_Clone___api_Fragment_api_Fragment__b1 {E : Env} (N : Nat) (hb : Base Tryd.prog (slices_Clone___api_Fragment_api_Fragment__C N) E 0) : Blk Tryd.prog (slices_Clone___api_Fragment_api_Fragment__C N) E [0] slices_Clone___api_Fragment_api_Fragment__S0 (slices_Clone___api_Fragment_api_Fragment__L.drop 1) (fun y => slices_Clone___api_Fragment_api_Fragment_ N y.1.1) (slices_Clone___api_Fragment_api_Fragment__K N) :=
 Blk.isNil (t := T91) (l := slices_Clone___api_Fragment_api_Fragment__L) (i := 1) (m := 0) (d := 3) (d' := 4) (hl := (by kernel_rfl : slices_Clone___api_Fragment_api_Fragment__L[1]? = some (.region 1 #[⟨some 3, .move (.tmp 0), 96, "slices.go:357", #[], none⟩, ⟨some 4, .binOp .eql 96 (.tmp 3) (.const (.slice none 0 0)) 96, 4, "slices.go:357", #[⟨0, .data⟩], none⟩] false))) hb (e := 92) (by kernel_rfl) (by kernel_rfl) (by kernel_rfl) (fun z => z.1.1) (fun z => rfl) (by rintro ⟨⟨x, u⟩, v⟩ h; obtain rfl : x = [] := h; kernel_rfl) (fun z => by kernel_rfl)
theorem slices_Clone___api_Fragment_api_Fragment__b {E : Env} (N : Nat) (hb : Base Tryd.prog (slices_Clone___api_Fragment_api_Fragment__C N) E 0) : Blk Tryd.prog (slices_Clone___api_Fragment_api_Fragment__C N) E (List.range slices_Clone___api_Fragment_api_Fragment__S0.ks.length) slices_Clone___api_Fragment_api_Fragment__S0 (slices_Clone___api_Fragment_api_Fragment__L.drop 0) (fun y => slices_Clone___api_Fragment_api_Fragment_ N y.1.1) (slices_Clone___api_Fragment_api_Fragment__K N) :=
 Blk.chunkAt hb 1 (X := (goK 0 [0] slices_Clone___api_Fragment_api_Fragment__S0 (fun y => slices_Clone___api_Fragment_api_Fragment_ N y.1.1))) (NxOk.go hb (slices_Clone___api_Fragment_api_Fragment__b1 N hb)) rfl (fun x => by kernel_rfl)
def slices_Clone___api_Fragment_api_Fragment__ctr (N : Nat) : Ctr := ⟨slices_Clone___api_Fragment_api_Fragment__S0, slices_Clone___api_Fragment_api_Fragment__S1.un [false], 0, (fun y => slices_Clone___api_Fragment_api_Fragment_ N y.1.1)⟩
theorem slices_Clone___api_Fragment_api_Fragment__ctrs (N : Nat) : CtrsOk Tryd.prog (slices_Clone___api_Fragment_api_Fragment__C N) := ctrs_nil G_ifs_ok rfl
theorem slices_Clone___api_Fragment_api_Fragment__ok (N : Nat) : Ctr.ok Tryd.prog G_globs 150 (slices_Clone___api_Fragment_api_Fragment__ctr N) :=
 ctr_fn (Γ := slices_Clone___api_Fragment_api_Fragment__C N) (rfit := slices_Clone___api_Fragment_api_Fragment__S1) (bs := [false]) (res := [2]) (by kernel_rfl) (tys_ok G_tys_ok) (slices_Clone___api_Fragment_api_Fragment__ctrs N) Tryd.func150 (by kernel_rfl) (by kernel_rfl) Tryd.ntmps150 (by kernel_rfl) (by kernel_rfl) (by kernel_rfl) (by kernel_rfl) (fun E hb => slices_Clone___api_Fragment_api_Fragment__b N hb)
end
end Go.Proofs.YtofajgidjkjnpaaDoor