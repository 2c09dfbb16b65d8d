/- Functions of the program as plain functions, each with the proof that the text computes it. -/
import Derived.Test.YtofajgidjkjnpaaDoorFnsSealedWritesA
import Derived.Test.YtofajgidjkjnpaaDoorRngSealedWrites
import Derived.Test.YtofajgidjkjnpaaDoorGmChunks
set_option linter.unusedVariables false
set_option linter.unusedSimpArgs false
namespace Go.Proofs.YtofajgidjkjnpaaDoor
open Go
set_option maxRecDepth 100000
set_option linter.unusedVariables false
noncomputable section
/-! ipsecgate/sealed.parse -/
abbrev sealed_parse_R : Type := ((D154 × Int × Unit) × (Unit))
def sealed_parse (N : Nat) (b_0 : (List UInt8)) (key_1 : (List UInt8)) (kind_2 : Int) (least_3 : Int) : Option sealed_parse_R :=
 bif (!(decide ((key_1.length : Int) = (36 : Int)))) then
 some (((((0 : UInt64), (0 : UInt64), (0 : Int), (0 : Int), (0 : Int), (0 : UInt32), ()), (0 : Int), ([] : List UInt8), ()), (13 : Int), ()), (()))
 else
 Option.bind (header_Parse N b_0) fun y3 =>
 bif (!(decide (y3.1.2.1 = (0 : Int)))) then
 some (((((0 : UInt64), (0 : UInt64), (0 : Int), (0 : Int), (0 : Int), (0 : UInt32), ()), (0 : Int), ([] : List UInt8), ()), y3.1.2.1, ()), (()))
 else
 bif (!(decide (y3.1.1.2.2.1 = kind_2))) then
 some (((((0 : UInt64), (0 : UInt64), (0 : Int), (0 : Int), (0 : Int), (0 : UInt32), ()), (0 : Int), ([] : List UInt8), ()), (7 : Int), ()), (()))
 else
 bif decide (0 ≤ (28 : Int)) && decide ((28 : Int) ≤ (b_0.length : Int)) && decide ((b_0.length : Int) ≤ (b_0.length : Int)) && true then
 Option.bind (chain_Parse N y3.1.1.2.2.1 (cut b_0 28 b_0.length)) fun y7 =>
 bif (!(decide (y7.1.2.2.1 = (0 : Int)))) then
 some (((((0 : UInt64), (0 : UInt64), (0 : Int), (0 : Int), (0 : Int), (0 : UInt32), ()), (0 : Int), ([] : List UInt8), ()), y7.1.2.2.1, ()), (()))
 else
 bif (!(decide ((y7.1.1.length : Int) = (1 : Int)))) then
 some (((((0 : UInt64), (0 : UInt64), (0 : Int), (0 : Int), (0 : Int), (0 : UInt32), ()), (0 : Int), ([] : List UInt8), ()), (7 : Int), ()), (()))
 else
 bif inR (0 : Int) y7.1.1.length then
 bif (decide (((y7.1.1.getD 0 ((0 : Int), false, ([] : List UInt8), ())).2.2.1.length : Int) < least_3)) then
 some (((((0 : UInt64), (0 : UInt64), (0 : Int), (0 : Int), (0 : Int), (0 : UInt32), ()), (0 : Int), ([] : List UInt8), ()), (1 : Int), ()), (()))
 else
 bif inR (0 : Int) y7.1.1.length then
 some (((y3.1.1, y7.1.2.1, (y7.1.1.getD 0 ((0 : Int), false, ([] : List UInt8), ())).2.2.1, ()), (0 : Int), ()), (()))
 else none
 else none
 else none
def sealed_parse_C (N : Nat) : Ctx := ⟨64, G_tys, [(171, header_Parse_ctr N), (172, chain_Parse_ctr N)], G_globs, G_ifs⟩
def sealed_parse_S0 : Spec := ⟨[.val (.sl .u8), .val (.sl .u8), .val .i64, .val .i64], []⟩
def sealed_parse_S1 : Spec := ⟨[.fp T154, .val .i64], []⟩
def sealed_parse_K (_N : Nat) : XE → GS → Option sealed_parse_R := retK 0 [8, 9] [true, false] sealed_parse_S1
def sealed_parse_L : List Code := (bodyOf (some Tryd.f126))
theorem sealed_parse_b {E : Env} (N : Nat) (hb : Base Tryd.prog (sealed_parse_C N) E 0) : Blk Tryd.prog (sealed_parse_C N) E (List.range sealed_parse_S0.ks.length) sealed_parse_S0 (sealed_parse_L.drop 0) (fun y => sealed_parse N y.1.1 y.1.2.1 y.1.2.2.1 y.1.2.2.2.1) (sealed_parse_K N) :=
 Blk.chunkAt hb 17 (X := (sealed_parse_K N .normal)) (NxOk.end (by kernel_rfl)) rfl (fun x => by kernel_rfl)
def sealed_parse_ctr (N : Nat) : Ctr := ⟨sealed_parse_S0, sealed_parse_S1.un [true, false], 0, (fun y => sealed_parse N y.1.1 y.1.2.1 y.1.2.2.1 y.1.2.2.2.1)⟩
theorem sealed_parse_ctrs (N : Nat) : CtrsOk Tryd.prog (sealed_parse_C N) := ctrs_of (Γ := sealed_parse_C N) G_ifs_ok (by
 intro p hp
 simp only [sealed_parse_C, List.mem_cons, List.not_mem_nil, or_false] at hp
 rcases hp with rfl | rfl
 · exact header_Parse_ok N
 · exact chain_Parse_ok N)
theorem sealed_parse_ok (N : Nat) : Ctr.ok Tryd.prog G_globs 126 (sealed_parse_ctr N) :=
 ctr_fn (Γ := sealed_parse_C N) (rfit := sealed_parse_S1) (bs := [true, false]) (res := [8, 9]) (by kernel_rfl) (tys_ok G_tys_ok) (sealed_parse_ctrs N) Tryd.func126 (by kernel_rfl) (by kernel_rfl) Tryd.ntmps126 (by kernel_rfl) (by kernel_rfl) (by kernel_rfl) (by kernel_rfl) (fun E hb => sealed_parse_b N hb)
/-! ipsecgate/aead.different -/
abbrev aead_different_R : Type := ((UInt8 × Unit) × (Unit))
def aead_different_s2 (N : Nat) (a_0 : (List UInt8)) (b_1 : (List UInt8)) (d_5 : UInt8) (t_8 : Int) (t_9 : Int) : Option (Lo (((List UInt8) × (List UInt8) × UInt8 × Int × Int × Unit) × (Unit)) ((UInt8 × Unit) × (Unit)) aead_different_R) :=
 bif (decide (t_9 < t_8)) then
 bif inR t_9 a_0.length then
 bif inR t_9 b_1.length then
 some (.go ((a_0, b_1, (d_5 ||| ((a_0.getD t_9.toNat (0 : UInt8)) ^^^ (b_1.getD t_9.toNat (0 : UInt8)))), t_8, (w64 (t_9 + (1 : Int))), ()), (())))
 else none
 else none
 else
 some (.br ((d_5, ()), (())))
def aead_different_3 (N : Nat) (d_5 : UInt8) : Option aead_different_R :=
 some ((d_5, ()), (()))
def aead_different_1 (N : Nat) (a_0 : (List UInt8)) (b_1 : (List UInt8)) (d_5 : UInt8) (t_8 : Int) (t_9 : Int) : Option aead_different_R :=
 loopK N (fun y => aead_different_s2 N y.1.1 y.1.2.1 y.1.2.2.1 y.1.2.2.2.1 y.1.2.2.2.2.1) (fun (e : ((UInt8 × Unit) × (Unit))) => aead_different_3 N e.1.1) ((a_0, b_1, d_5, t_8, t_9, ()), (()))
def aead_different (N : Nat) (a_0 : (List UInt8)) (b_1 : (List UInt8)) : Option aead_different_R :=
 aead_different_1 N a_0 b_1 (0 : UInt8) (a_0.length : Int) (0 : Int)
def aead_different_C (N : Nat) : Ctx := ⟨25, G_tys, [], G_globs, G_ifs⟩
def aead_different_S0 : Spec := ⟨[.val (.sl .u8), .val (.sl .u8), .val .u8, .val .i64, .val .i64], []⟩
def aead_different_S1 : Spec := ⟨[.val .u8], []⟩
def aead_different_S2 : Spec := ⟨[.val (.sl .u8), .val (.sl .u8)], []⟩
def aead_different_K (_N : Nat) : XE → GS → Option aead_different_R := retK 0 [4] [false] aead_different_S1
def aead_different_L : List Code := (bodyOf (some Tryd.f161))
def aead_different_L2 : List Code := (loopOf (aead_different_L[3]?))
def aead_different_K2 (N : Nat) : XE → GS → Option (Lo (((List UInt8) × (List UInt8) × UInt8 × Int × Int × Unit) × (Unit)) ((UInt8 × Unit) × (Unit)) aead_different_R) := roundK (some 0) (fit 0 [0, 1, 5, 8, 9] aead_different_S0) (fit 0 [5] aead_different_S1) (aead_different_K N)
theorem aead_different_s2_b {E : Env} (N : Nat) (hb : Base Tryd.prog (aead_different_C N) E 0) : Blk Tryd.prog (aead_different_C N) E [0, 1, 5, 8, 9] aead_different_S0 (aead_different_L2.drop 0) (fun y => aead_different_s2 N y.1.1 y.1.2.1 y.1.2.2.1 y.1.2.2.2.1 y.1.2.2.2.2.1) (aead_different_K2 N) :=
 Blk.chunkAt hb 4 (X := (aead_different_K2 N .normal)) (NxOk.end (by kernel_rfl)) rfl (fun x => by kernel_rfl)
theorem aead_different_3_b {E : Env} (N : Nat) (hb : Base Tryd.prog (aead_different_C N) E 0) : Blk Tryd.prog (aead_different_C N) E [5] aead_different_S1 (aead_different_L.drop 4) (fun y => aead_different_3 N y.1.1) (aead_different_K N) :=
 Blk.chunkAt hb 2 (X := (aead_different_K N .normal)) (NxOk.end (by kernel_rfl)) rfl (fun x => by kernel_rfl)
theorem aead_different_1_b {E : Env} (N : Nat) (hb : Base Tryd.prog (aead_different_C N) E 0) : Blk Tryd.prog (aead_different_C N) E [0, 1, 5, 8, 9] aead_different_S0 (aead_different_L.drop 3) (fun y => aead_different_1 N y.1.1 y.1.2.1 y.1.2.2.1 y.1.2.2.2.1 y.1.2.2.2.2.1) (aead_different_K N) :=
 Blk.loopAt (Nf := N) (hns := [0, 1, 5, 8, 9]) (ans := [5]) (hc := aead_different_S0) (ac := aead_different_S1) (bid := 0) (step := (fun y => aead_different_s2 N y.1.1 y.1.2.1 y.1.2.2.1 y.1.2.2.2.1 y.1.2.2.2.2.1)) (J := (fun e => (goK 0 [5] aead_different_S1 (fun y => aead_different_3 N y.1.1)) (aead_different_S1.st [5] e))) hb (by kernel_rfl) (Blk.into (X := (goK 0 [5] aead_different_S1 (fun y => aead_different_3 N y.1.1))) (NxOk.go hb (aead_different_3_b N hb)) (fun x => by kernel_rfl)) (aead_different_s2_b N hb) (fun x => by kernel_rfl)
theorem aead_different_b {E : Env} (N : Nat) (hb : Base Tryd.prog (aead_different_C N) E 0) : Blk Tryd.prog (aead_different_C N) E (List.range aead_different_S2.ks.length) aead_different_S2 (aead_different_L.drop 0) (fun y => aead_different N y.1.1 y.1.2.1) (aead_different_K N) :=
 Blk.chunkAt hb 3 (X := (goK 0 [0, 1, 5, 8, 9] aead_different_S0 (fun y => aead_different_1 N y.1.1 y.1.2.1 y.1.2.2.1 y.1.2.2.2.1 y.1.2.2.2.2.1))) (NxOk.go hb (aead_different_1_b N hb)) rfl (fun x => by kernel_rfl)
def aead_different_ctr (N : Nat) : Ctr := ⟨aead_different_S2, aead_different_S1.un [false], 0, (fun y => aead_different N y.1.1 y.1.2.1)⟩
theorem aead_different_ctrs (N : Nat) : CtrsOk Tryd.prog (aead_different_C N) := ctrs_nil G_ifs_ok rfl
theorem aead_different_ok (N : Nat) : Ctr.ok Tryd.prog G_globs 161 (aead_different_ctr N) :=
 ctr_fn (Γ := aead_different_C N) (rfit := aead_different_S1) (bs := [false]) (res := [4]) (by kernel_rfl) (tys_ok G_tys_ok) (aead_different_ctrs N) Tryd.func161 (by kernel_rfl) (by kernel_rfl) Tryd.ntmps161 (by kernel_rfl) (by kernel_rfl) (by kernel_rfl) (by kernel_rfl) (fun E hb => aead_different_b N hb)
/-! ipsecgate/aead.Open -/
abbrev aead_Open_R : Type := ((Int × Unit) × ((List UInt8) × Unit))
def aead_Open (N : Nat) (key_0 : (List UInt8)) (nonce_1 : (List UInt8)) (data_2 : (List UInt8)) (sealed_3 : (List UInt8)) : Option aead_Open_R :=
 Option.bind (aead_keyed N key_0 nonce_1) fun y1 =>
 bif (!y1.1.1) then
 some (((13 : Int), ()), (([] : List UInt8), ()))
 else
 let x4 := w64 ((sealed_3.length : Int) - (16 : Int))
 bif (decide (x4 < (0 : Int))) then
 some (((1 : Int), ()), (([] : List UInt8), ()))
 else
 bif decide (0 ≤ (0 : Int)) && decide ((0 : Int) ≤ x4) && decide (x4 ≤ (sealed_3.length : Int)) && true then
 Option.bind (aead_Tag N key_0 nonce_1 data_2 (cut sealed_3 0 x4.toNat)) fun y7 =>
 bif decide (0 ≤ x4) && decide (x4 ≤ (sealed_3.length : Int)) && decide ((sealed_3.length : Int) ≤ (sealed_3.length : Int)) && true then
 Option.bind (aead_different N y7.2.1 (cut sealed_3 x4.toNat sealed_3.length)) fun y9 =>
 bif (!(decide (y9.1.1 = (0 : UInt8)))) then
 some (((12 : Int), ()), (([] : List UInt8), ()))
 else
 bif decide (0 ≤ (0 : Int)) && decide ((0 : Int) ≤ x4) && decide (x4 ≤ (sealed_3.length : Int)) && true then
 Option.bind (chacha_Xor N key_0 (1 : UInt32) nonce_1 (cut sealed_3 0 x4.toNat)) fun y12 =>
 some (((0 : Int), ()), (y12.2.1, ()))
 else none
 else none
 else none
def aead_Open_C (N : Nat) : Ctx := ⟨50, G_tys, [(119, aead_keyed_ctr N), (121, aead_Tag_ctr N), (161, aead_different_ctr N), (120, chacha_Xor_ctr N)], G_globs, G_ifs⟩
def aead_Open_S0 : Spec := ⟨[.val (.sl .u8), .val (.sl .u8), .val (.sl .u8), .val (.sl .u8)], []⟩
def aead_Open_S1 : Spec := ⟨[.row 0, .val .i64], [(.row 5 .u8, .pos 0)]⟩
def aead_Open_K (_N : Nat) : XE → GS → Option aead_Open_R := retK 0 [8, 9] [false, false] aead_Open_S1
def aead_Open_L : List Code := (bodyOf (some Tryd.f104))
theorem aead_Open_b {E : Env} (N : Nat) (hb : Base Tryd.prog (aead_Open_C N) E 0) : Blk Tryd.prog (aead_Open_C N) E (List.range aead_Open_S0.ks.length) aead_Open_S0 (aead_Open_L.drop 0) (fun y => aead_Open N y.1.1 y.1.2.1 y.1.2.2.1 y.1.2.2.2.1) (aead_Open_K N) :=
 Blk.chunkAt hb 12 (X := (aead_Open_K N .normal)) (NxOk.end (by kernel_rfl)) rfl (fun x => by kernel_rfl)
def aead_Open_ctr (N : Nat) : Ctr := ⟨aead_Open_S0, aead_Open_S1.un [false, false], 0, (fun y => aead_Open N y.1.1 y.1.2.1 y.1.2.2.1 y.1.2.2.2.1)⟩
theorem aead_Open_ctrs (N : Nat) : CtrsOk Tryd.prog (aead_Open_C N) := ctrs_of (Γ := aead_Open_C N) G_ifs_ok (by
 intro p hp
 simp only [aead_Open_C, List.mem_cons, List.not_mem_nil, or_false] at hp
 rcases hp with rfl | rfl | rfl | rfl
 · exact aead_keyed_ok N
 · exact aead_Tag_ok N
 · exact aead_different_ok N
 · exact chacha_Xor_ok N)
theorem aead_Open_ok (N : Nat) : Ctr.ok Tryd.prog G_globs 104 (aead_Open_ctr N) :=
 ctr_fn (Γ := aead_Open_C N) (rfit := aead_Open_S1) (bs := [false, false]) (res := [8, 9]) (by kernel_rfl) (tys_ok G_tys_ok) (aead_Open_ctrs N) Tryd.func104 (by kernel_rfl) (by kernel_rfl) Tryd.ntmps104 (by kernel_rfl) (by kernel_rfl) (by kernel_rfl) (by kernel_rfl) (fun E hb => aead_Open_b N hb)
/-! (ipsecgate/sealed.read).open -/
abbrev sealed_read_open_R : Type := ((Int × Unit) × ((List UInt8) × Unit))
def sealed_read_open (N : Nat) (r_0 : D154) (b_1 : (List UInt8)) (key_2 : (List UInt8)) (behind_3 : Int) : Option sealed_read_open_R :=
 let x1 := w64 ((32 : Int) + behind_3)
 bif decide (0 ≤ (0 : Int)) && decide ((0 : Int) ≤ (32 : Int)) && decide ((32 : Int) ≤ (key_2.length : Int)) && true then
 let x3 := w64 (x1 + (8 : Int))
 bif decide (0 ≤ x1) && decide (x1 ≤ x3) && decide (x3 ≤ (b_1.length : Int)) && true then
 Option.bind (sealed_nonce N key_2 (cut b_1 x1.toNat x3.toNat)) fun y5 =>
 bif decide (0 ≤ (0 : Int)) && decide ((0 : Int) ≤ x1) && decide (x1 ≤ (b_1.length : Int)) && true then
 let x7 := w64 (x1 + (8 : Int))
 bif decide (0 ≤ x7) && decide (x7 ≤ (b_1.length : Int)) && decide ((b_1.length : Int) ≤ (b_1.length : Int)) && true then
 Option.bind (aead_Open N (cut key_2 0 32) y5.2.1 (cut b_1 0 x1.toNat) (cut b_1 x7.toNat b_1.length)) fun y9 =>
 some ((y9.1.1, ()), (y9.2.1, ()))
 else none
 else none
 else none
 else none
def sealed_read_open_C (N : Nat) : Ctx := ⟨32, G_tys, [(163, sealed_nonce_ctr N), (104, aead_Open_ctr N)], G_globs, G_ifs⟩
def sealed_read_open_S0 : Spec := ⟨[.val T154, .val (.sl .u8), .val (.sl .u8), .val .i64], []⟩
def sealed_read_open_S1 : Spec := ⟨[.row 0, .val .i64], [(.row 5 .u8, .pos 0)]⟩
def sealed_read_open_K (_N : Nat) : XE → GS → Option sealed_read_open_R := retK 0 [8, 9] [false, false] sealed_read_open_S1
def sealed_read_open_L : List Code := (bodyOf (some Tryd.f127))
theorem sealed_read_open_b {E : Env} (N : Nat) (hb : Base Tryd.prog (sealed_read_open_C N) E 0) : Blk Tryd.prog (sealed_read_open_C N) E (List.range sealed_read_open_S0.ks.length) sealed_read_open_S0 (sealed_read_open_L.drop 0) (fun y => sealed_read_open N y.1.1 y.1.2.1 y.1.2.2.1 y.1.2.2.2.1) (sealed_read_open_K N) :=
 Blk.chunkAt hb 4 (X := (sealed_read_open_K N .normal)) (NxOk.end (by kernel_rfl)) rfl (fun x => by kernel_rfl)
def sealed_read_open_ctr (N : Nat) : Ctr := ⟨sealed_read_open_S0, sealed_read_open_S1.un [false, false], 0, (fun y => sealed_read_open N y.1.1 y.1.2.1 y.1.2.2.1 y.1.2.2.2.1)⟩
theorem sealed_read_open_ctrs (N : Nat) : CtrsOk Tryd.prog (sealed_read_open_C N) := ctrs_of (Γ := sealed_read_open_C N) G_ifs_ok (by
 intro p hp
 simp only [sealed_read_open_C, List.mem_cons, List.not_mem_nil, or_false] at hp
 rcases hp with rfl | rfl
 · exact sealed_nonce_ok N
 · exact aead_Open_ok N)
theorem sealed_read_open_ok (N : Nat) : Ctr.ok Tryd.prog G_globs 127 (sealed_read_open_ctr N) :=
 ctr_fn (Γ := sealed_read_open_C N) (rfit := sealed_read_open_S1) (bs := [false, false]) (res := [8, 9]) (by kernel_rfl) (tys_ok G_tys_ok) (sealed_read_open_ctrs N) Tryd.func127 (by kernel_rfl) (by kernel_rfl) Tryd.ntmps127 (by kernel_rfl) (by kernel_rfl) (by kernel_rfl) (by kernel_rfl) (fun E hb => sealed_read_open_b N hb)
/-! ipsecgate/sealed.unpad -/
abbrev sealed_unpad_R : Type := (((List UInt8) × Int × Unit) × (Unit))
def sealed_unpad (N : Nat) (plain_0 : (List UInt8)) : Option sealed_unpad_R :=
 let x2 := w64 ((plain_0.length : Int) - (1 : Int))
 bif inR x2 plain_0.length then
 let x4 := ((plain_0.getD x2.toNat (0 : UInt8)).toNat : Int)
 bif (decide (x2 < x4)) then
 some ((([] : List UInt8), (4 : Int), ()), (()))
 else
 bif decide (0 ≤ (0 : Int)) && decide ((0 : Int) ≤ (w64 (x2 - x4))) && decide ((w64 (x2 - x4)) ≤ (plain_0.length : Int)) && true then
 some (((cut plain_0 0 (w64 (x2 - x4)).toNat), (0 : Int), ()), (()))
 else none
 else none
def sealed_unpad_C (N : Nat) : Ctx := ⟨22, G_tys, [], G_globs, G_ifs⟩
def sealed_unpad_S0 : Spec := ⟨[.val (.sl .u8)], []⟩
def sealed_unpad_S1 : Spec := ⟨[.val (.sl .u8), .val .i64], []⟩
def sealed_unpad_K (_N : Nat) : XE → GS → Option sealed_unpad_R := retK 0 [2, 3] [false, false] sealed_unpad_S1
def sealed_unpad_L : List Code := (bodyOf (some Tryd.f128))
theorem sealed_unpad_b {E : Env} (N : Nat) (hb : Base Tryd.prog (sealed_unpad_C N) E 0) : Blk Tryd.prog (sealed_unpad_C N) E (List.range sealed_unpad_S0.ks.length) sealed_unpad_S0 (sealed_unpad_L.drop 0) (fun y => sealed_unpad N y.1.1) (sealed_unpad_K N) :=
 Blk.chunkAt hb 7 (X := (sealed_unpad_K N .normal)) (NxOk.end (by kernel_rfl)) rfl (fun x => by kernel_rfl)
def sealed_unpad_ctr (N : Nat) : Ctr := ⟨sealed_unpad_S0, sealed_unpad_S1.un [false, false], 0, (fun y => sealed_unpad N y.1.1)⟩
theorem sealed_unpad_ctrs (N : Nat) : CtrsOk Tryd.prog (sealed_unpad_C N) := ctrs_nil G_ifs_ok rfl
theorem sealed_unpad_ok (N : Nat) : Ctr.ok Tryd.prog G_globs 128 (sealed_unpad_ctr N) :=
 ctr_fn (Γ := sealed_unpad_C N) (rfit := sealed_unpad_S1) (bs := [false, false]) (res := [2, 3]) (by kernel_rfl) (tys_ok G_tys_ok) (sealed_unpad_ctrs N) Tryd.func128 (by kernel_rfl) (by kernel_rfl) Tryd.ntmps128 (by kernel_rfl) (by kernel_rfl) (by kernel_rfl) (by kernel_rfl) (fun E hb => sealed_unpad_b N hb)
/-! ipsecgate/sealed.Open -/
abbrev sealed_Open_R : Type := ((D75 × Int × (List UInt8) × Int × Unit) × (Unit))
def sealed_Open_1 (N : Nat) (e_9 : Int) (plain_10 : (List UInt8)) (t_4 : D75) (r_8 : D154) : Option sealed_Open_R :=
 bif (!(decide (e_9 = (0 : Int)))) then
 some ((((0 : UInt64), (0 : UInt64), (0 : Int), (0 : Int), (0 : Int), (0 : UInt32), ()), (0 : Int), ([] : List UInt8), e_9, ()), (()))
 else
 some ((r_8.1, r_8.2.1, plain_10, (0 : Int), ()), (()))
def sealed_Open (N : Nat) (b_0 : (List UInt8)) (key_1 : (List UInt8)) : Option sealed_Open_R :=
 Option.bind (sealed_parse N b_0 key_1 (46 : Int) (25 : Int)) fun y1 =>
 bif (!(decide (y1.1.2.1 = (0 : Int)))) then
 some ((((0 : UInt64), (0 : UInt64), (0 : Int), (0 : Int), (0 : Int), (0 : UInt32), ()), (0 : Int), ([] : List UInt8), y1.1.2.1, ()), (()))
 else
 Option.bind (sealed_read_open N y1.1.1 b_0 key_1 (0 : Int)) fun y3 =>
 bif (decide (y3.1.1 = (0 : Int))) then
 Option.bind (sealed_unpad N y3.2.1) fun y5 =>
 sealed_Open_1 N y5.1.2.1 y5.1.1 ((0 : UInt64), (0 : UInt64), (0 : Int), (0 : Int), (0 : Int), (0 : UInt32), ()) y1.1.1
 else
 sealed_Open_1 N y3.1.1 y3.2.1 ((0 : UInt64), (0 : UInt64), (0 : Int), (0 : Int), (0 : Int), (0 : UInt32), ()) y1.1.1
def sealed_Open_C (N : Nat) : Ctx := ⟨44, G_tys, [(126, sealed_parse_ctr N), (127, sealed_read_open_ctr N), (128, sealed_unpad_ctr N)], G_globs, G_ifs⟩
def sealed_Open_S0 : Spec := ⟨[.ref 0 T75, .ref 1 T154, .val .i64, .val (.sl .u8)], [(.box 76 T75, .pos 0), (.box 155 T154, .pos 1)]⟩
def sealed_Open_S1 : Spec := ⟨[.val (.sl .u8), .val (.sl .u8)], []⟩
def sealed_Open_S2 : Spec := ⟨[.fp T75, .val .i64, .val (.sl .u8), .val .i64], []⟩
def sealed_Open_K (_N : Nat) : XE → GS → Option sealed_Open_R := retK 0 [4, 5, 6, 7] [true, false, false, false] sealed_Open_S2
def sealed_Open_L : List Code := (bodyOf (some Tryd.f64))
theorem sealed_Open_1_b {E : Env} (N : Nat) (hb : Base Tryd.prog (sealed_Open_C N) E 0) : Blk Tryd.prog (sealed_Open_C N) E [4, 8, 9, 10] sealed_Open_S0 (sealed_Open_L.drop 7) (fun y => sealed_Open_1 N y.1.1 y.1.2.1 y.2.1 y.2.2.1) (sealed_Open_K N) :=
 Blk.chunkAt hb 4 (X := (sealed_Open_K N .normal)) (NxOk.end (by kernel_rfl)) rfl (fun x => by kernel_rfl)
theorem sealed_Open_b {E : Env} (N : Nat) (hb : Base Tryd.prog (sealed_Open_C N) E 0) : Blk Tryd.prog (sealed_Open_C N) E (List.range sealed_Open_S1.ks.length) sealed_Open_S1 (sealed_Open_L.drop 0) (fun y => sealed_Open N y.1.1 y.1.2.1) (sealed_Open_K N) :=
 Blk.chunkAt hb 7 (X := (goK 0 [4, 8, 9, 10] sealed_Open_S0 (fun y => sealed_Open_1 N y.1.1 y.1.2.1 y.2.1 y.2.2.1))) (NxOk.go hb (sealed_Open_1_b N hb)) rfl (fun x => by kernel_rfl)
def sealed_Open_ctr (N : Nat) : Ctr := ⟨sealed_Open_S1, sealed_Open_S2.un [true, false, false, false], 0, (fun y => sealed_Open N y.1.1 y.1.2.1)⟩
theorem sealed_Open_ctrs (N : Nat) : CtrsOk Tryd.prog (sealed_Open_C N) := ctrs_of (Γ := sealed_Open_C N) G_ifs_ok (by
 intro p hp
 simp only [sealed_Open_C, List.mem_cons, List.not_mem_nil, or_false] at hp
 rcases hp with rfl | rfl | rfl
 · exact sealed_parse_ok N
 · exact sealed_read_open_ok N
 · exact sealed_unpad_ok N)
theorem sealed_Open_ok (N : Nat) : Ctr.ok Tryd.prog G_globs 64 (sealed_Open_ctr N) :=
 ctr_fn (Γ := sealed_Open_C N) (rfit := sealed_Open_S2) (bs := [true, false, false, false]) (res := [4, 5, 6, 7]) (by kernel_rfl) (tys_ok G_tys_ok) (sealed_Open_ctrs N) Tryd.func64 (by kernel_rfl) (by kernel_rfl) Tryd.ntmps64 (by kernel_rfl) (by kernel_rfl) (by kernel_rfl) (by kernel_rfl) (fun E hb => sealed_Open_b N hb)
/-! ipsecgate/ipsecgatelaw17.awake -/
abbrev law17_awake_R : Type := ((Bool × Unit) × (Unit))
def law17_awake (N : Nat) : Option law17_awake_R :=
 Option.bind (sealed_Seal N ((1 : UInt64), (2 : UInt64), (0 : Int), (37 : Int), (0 : Int), (3 : UInt32), ()) (0 : Int) ([] : List UInt8) (List.replicate 36 (0 : UInt8)) (5 : UInt64)) fun y1 =>
 Option.bind (sealed_Open N y1.2.1 (List.replicate 36 (0 : UInt8))) fun y2 =>
 bif (decide (y1.1.1 = (0 : Int))) then
 bif (decide (y2.1.2.2.2.1 = (0 : Int))) then
 bif (decide ((y1.2.1.length : Int) = (57 : Int))) then
 some (((decide ((y2.1.2.2.1.length : Int) = (0 : Int))), ()), (()))
 else
 some ((false, ()), (()))
 else
 some ((false, ()), (()))
 else
 some ((false, ()), (()))
def law17_awake_C (N : Nat) : Ctx := ⟨39, G_tys, [(55, sealed_Seal_ctr N), (64, sealed_Open_ctr N)], G_globs, G_ifs⟩
def law17_awake_S0 : Spec := ⟨[], []⟩
def law17_awake_S1 : Spec := ⟨[.val .bool], []⟩
def law17_awake_K (_N : Nat) : XE → GS → Option law17_awake_R := retK 0 [0] [false] law17_awake_S1
def law17_awake_L : List Code := (bodyOf (some Tryd.f53))
theorem law17_awake_b {E : Env} (N : Nat) (hb : Base Tryd.prog (law17_awake_C N) E 0) : Blk Tryd.prog (law17_awake_C N) E (List.range law17_awake_S0.ks.length) law17_awake_S0 (law17_awake_L.drop 0) (fun y => law17_awake N) (law17_awake_K N) :=
 Blk.chunkAt hb 6 (X := (law17_awake_K N .normal)) (NxOk.end (by kernel_rfl)) rfl (fun x => by kernel_rfl)
def law17_awake_ctr (N : Nat) : Ctr := ⟨law17_awake_S0, law17_awake_S1.un [false], 0, (fun y => law17_awake N)⟩
theorem law17_awake_ctrs (N : Nat) : CtrsOk Tryd.prog (law17_awake_C N) := ctrs_of (Γ := law17_awake_C N) G_ifs_ok (by
 intro p hp
 simp only [law17_awake_C, List.mem_cons, List.not_mem_nil, or_false] at hp
 rcases hp with rfl | rfl
 · exact sealed_Seal_ok N
 · exact sealed_Open_ok N)
theorem law17_awake_ok (N : Nat) : Ctr.ok Tryd.prog G_globs 53 (law17_awake_ctr N) :=
 ctr_fn (Γ := law17_awake_C N) (rfit := law17_awake_S1) (bs := [false]) (res := [0]) (by kernel_rfl) (tys_ok G_tys_ok) (law17_awake_ctrs N) Tryd.func53 (by kernel_rfl) (by kernel_rfl) Tryd.ntmps53 (by kernel_rfl) (by kernel_rfl) (by kernel_rfl) (by kernel_rfl) (fun E hb => law17_awake_b N hb)
/-! ipsecgate/ipsecgatemake.New -/
abbrev make_New_R : Type := ((Unit) × (((List UInt8) × (Int × Unit)) × Unit))
def make_New_1 (N : Nat) (list_0 : (List UInt8)) : Option make_New_R :=
 some ((()), ((list_0, (0 : Int), ()), ()))
def make_New (N : Nat) (list_0 : (List UInt8)) (most_1 : Int) : Option make_New_R :=
 bif (decide (most_1 < (list_0.length : Int))) then
 bif decide (0 ≤ (0 : Int)) && decide ((0 : Int) ≤ most_1) && decide (most_1 ≤ (list_0.length : Int)) && true then
 make_New_1 N (cut list_0 0 most_1.toNat)
 else none
 else
 make_New_1 N list_0
def make_New_C (N : Nat) : Ctx := ⟨15, G_tys, [], G_globs, G_ifs⟩
def make_New_S0 : Spec := ⟨[.val (.sl .u8)], []⟩
def make_New_S1 : Spec := ⟨[.val (.sl .u8), .val .i64], []⟩
def make_New_S2 : Spec := ⟨[.ref 0 (.pair (.sl .u8) (.pair .i64 .unit))], [(.box 122 (.pair (.sl .u8) (.pair .i64 .unit)), .pos 0)]⟩
def make_New_K (_N : Nat) : XE → GS → Option make_New_R := retK 0 [4] [false] make_New_S2
def make_New_L : List Code := (bodyOf (some Tryd.f16))
theorem make_New_1_b {E : Env} (N : Nat) (hb : Base Tryd.prog (make_New_C N) E 0) : Blk Tryd.prog (make_New_C N) E [0] make_New_S0 (make_New_L.drop 3) (fun y => make_New_1 N y.1.1) (make_New_K N) :=
 Blk.chunkAt hb 2 (X := (make_New_K N .normal)) (NxOk.end (by kernel_rfl)) rfl (fun x => by kernel_rfl)
theorem make_New_b {E : Env} (N : Nat) (hb : Base Tryd.prog (make_New_C N) E 0) : Blk Tryd.prog (make_New_C N) E (List.range make_New_S1.ks.length) make_New_S1 (make_New_L.drop 0) (fun y => make_New N y.1.1 y.1.2.1) (make_New_K N) :=
 Blk.chunkAt hb 3 (X := (goK 0 [0] make_New_S0 (fun y => make_New_1 N y.1.1))) (NxOk.go hb (make_New_1_b N hb)) rfl (fun x => by kernel_rfl)
def make_New_ctr (N : Nat) : Ctr := ⟨make_New_S1, make_New_S2.un [false], 0, (fun y => make_New N y.1.1 y.1.2.1)⟩
theorem make_New_ctrs (N : Nat) : CtrsOk Tryd.prog (make_New_C N) := ctrs_nil G_ifs_ok rfl
theorem make_New_ok (N : Nat) : Ctr.ok Tryd.prog G_globs 16 (make_New_ctr N) :=
 ctr_fn (Γ := make_New_C N) (rfit := make_New_S2) (bs := [false]) (res := [4]) (by kernel_rfl) (tys_ok G_tys_ok) (make_New_ctrs N) Tryd.func16 (by kernel_rfl) (by kernel_rfl) Tryd.ntmps16 (by kernel_rfl) (by kernel_rfl) (by kernel_rfl) (by kernel_rfl) (fun E hb => make_New_b N hb)
/-! (*ipsecgate/ipsecgatemake.Codes).Left -/
abbrev make_Codes_Left_R : Type := ((Bool × Unit) × (Unit))
def make_Codes_Left (N : Nat) (c_0 : ((List UInt8) × (Int × Unit))) : Option make_Codes_Left_R :=
 some (((decide (c_0.2.1 < (c_0.1.length : Int))), ()), (()))
def make_Codes_Left_C (N : Nat) : Ctx := ⟨13, G_tys, [], G_globs, G_ifs⟩
def make_Codes_Left_S0 : Spec := ⟨[.fp (.pair (.sl .u8) (.pair .i64 .unit))], []⟩
def make_Codes_Left_S1 : Spec := ⟨[.val .bool], []⟩
def make_Codes_Left_K (_N : Nat) : XE → GS → Option make_Codes_Left_R := retK 0 [2] [false] make_Codes_Left_S1
def make_Codes_Left_L : List Code := (bodyOf (some Tryd.f124))
theorem make_Codes_Left_b {E : Env} (N : Nat) (hb : Base Tryd.prog (make_Codes_Left_C N) E 0) : Blk Tryd.prog (make_Codes_Left_C N) E (List.range make_Codes_Left_S0.ks.length) make_Codes_Left_S0 (make_Codes_Left_L.drop 0) (fun y => make_Codes_Left N y.1.1) (make_Codes_Left_K N) :=
 Blk.chunkAt hb 3 (X := (make_Codes_Left_K N .normal)) (NxOk.end (by kernel_rfl)) rfl (fun x => by kernel_rfl)
def make_Codes_Left_ctr (N : Nat) : Ctr := ⟨make_Codes_Left_S0, make_Codes_Left_S1.un [false], 0, (fun y => make_Codes_Left N y.1.1)⟩
theorem make_Codes_Left_ctrs (N : Nat) : CtrsOk Tryd.prog (make_Codes_Left_C N) := ctrs_nil G_ifs_ok rfl
theorem make_Codes_Left_ok (N : Nat) : Ctr.ok Tryd.prog G_globs 124 (make_Codes_Left_ctr N) :=
 ctr_fn (Γ := make_Codes_Left_C N) (rfit := make_Codes_Left_S1) (bs := [false]) (res := [2]) (by kernel_rfl) (tys_ok G_tys_ok) (make_Codes_Left_ctrs N) Tryd.func124 (by kernel_rfl) (by kernel_rfl) Tryd.ntmps124 (by kernel_rfl) (by kernel_rfl) (by kernel_rfl) (by kernel_rfl) (fun E hb => make_Codes_Left_b N hb)
/-! (*ipsecgate/ipsecgatemake.Codes).Next -/
abbrev make_Codes_Next_R : Type := ((Int × Unit) × (((List UInt8) × (Int × Unit)) × Unit))
def make_Codes_Next (N : Nat) (n_1 : Int) (c_0 : ((List UInt8) × (Int × Unit))) : Option make_Codes_Next_R :=
 Option.bind (make_Codes_Left N c_0) fun y1 =>
 bif (!y1.1.1) then
 some (((0 : Int), ()), (c_0, ()))
 else
 let x3 := w64 (c_0.2.1 + (1 : Int))
 let x4 := w64 (x3 - (1 : Int))
 bif inR x4 c_0.1.length then
 bif !(decide (n_1 = 0)) then
 some (((((c_0.1.getD x4.toNat (0 : UInt8)).toNat : Int).tmod n_1), ()), ((c_0.1, x3, ()), ()))
 else none
 else none
def make_Codes_Next_C (N : Nat) : Ctx := ⟨29, G_tys, [(124, make_Codes_Left_ctr N)], G_globs, G_ifs⟩
def make_Codes_Next_S0 : Spec := ⟨[.ref 0 (.pair (.sl .u8) (.pair .i64 .unit)), .val .i64], [(.box 122 (.pair (.sl .u8) (.pair .i64 .unit)), .pos 0)]⟩
def make_Codes_Next_S1 : Spec := ⟨[.val .i64], [(.box 122 (.pair (.sl .u8) (.pair .i64 .unit)), .fix 0)]⟩
def make_Codes_Next_K (_N : Nat) : XE → GS → Option make_Codes_Next_R := retK 1 [4] [false] make_Codes_Next_S1
def make_Codes_Next_L : List Code := (bodyOf (some Tryd.f61))
theorem make_Codes_Next_b {E : Env} (N : Nat) (hb : Base Tryd.prog (make_Codes_Next_C N) E 1) : Blk Tryd.prog (make_Codes_Next_C N) E (List.range make_Codes_Next_S0.ks.length) make_Codes_Next_S0 (make_Codes_Next_L.drop 0) (fun y => make_Codes_Next N y.1.1 y.2.1) (make_Codes_Next_K N) :=
 Blk.chunkAt hb 6 (X := (make_Codes_Next_K N .normal)) (NxOk.end (by kernel_rfl)) rfl (fun x => by kernel_rfl)
def make_Codes_Next_ctr (N : Nat) : Ctr := ⟨make_Codes_Next_S0, make_Codes_Next_S1.un [false], 1, (fun y => make_Codes_Next N y.1.1 y.2.1)⟩
theorem make_Codes_Next_ctrs (N : Nat) : CtrsOk Tryd.prog (make_Codes_Next_C N) := ctrs_of (Γ := make_Codes_Next_C N) G_ifs_ok (by
 intro p hp
 simp only [make_Codes_Next_C, List.mem_cons, List.not_mem_nil, or_false] at hp
 rcases hp with rfl
 · exact make_Codes_Left_ok N)
theorem make_Codes_Next_ok (N : Nat) : Ctr.ok Tryd.prog G_globs 61 (make_Codes_Next_ctr N) :=
 ctr_fn (Γ := make_Codes_Next_C N) (rfit := make_Codes_Next_S1) (bs := [false]) (res := [4]) (by kernel_rfl) (tys_ok G_tys_ok) (make_Codes_Next_ctrs N) Tryd.func61 (by kernel_rfl) (by kernel_rfl) Tryd.ntmps61 (by kernel_rfl) (by kernel_rfl) (by kernel_rfl) (by kernel_rfl) (fun E hb => make_Codes_Next_b N hb)
/-! (*ipsecgate/ipsecgatemake.Codes).Word -/
abbrev make_Codes_Word_R : Type := ((UInt64 × Unit) × (((List UInt8) × (Int × Unit)) × Unit))
def make_Codes_Word_s2 (N : Nat) (v_3 : UInt64) (i_4 : Int) (p0 : ((List UInt8) × (Int × Unit))) : Option (Lo ((UInt64 × Int × Unit) × (((List UInt8) × (Int × Unit)) × Unit)) ((UInt64 × Unit) × (((List UInt8) × (Int × Unit)) × Unit)) make_Codes_Word_R) :=
 bif (decide (i_4 < (8 : Int))) then
 Option.bind (make_Codes_Next N (256 : Int) p0) fun y11 =>
 some (.go ((((shl64 v_3 8) ||| (iu64 y11.1.1)), (w64 (i_4 + (1 : Int))), ()), (y11.2.1, ())))
 else
 some (.br ((v_3, ()), (p0, ())))
def make_Codes_Word_3 (N : Nat) (v_3 : UInt64) (p0 : ((List UInt8) × (Int × Unit))) : Option make_Codes_Word_R :=
 some ((v_3, ()), (p0, ()))
def make_Codes_Word_1 (N : Nat) (v_3 : UInt64) (i_4 : Int) (p0 : ((List UInt8) × (Int × Unit))) : Option make_Codes_Word_R :=
 loopK N (fun y => make_Codes_Word_s2 N y.1.1 y.1.2.1 y.2.1) (fun (e : ((UInt64 × Unit) × (((List UInt8) × (Int × Unit)) × Unit))) => make_Codes_Word_3 N e.1.1 e.2.1) ((v_3, i_4, ()), (p0, ()))
def make_Codes_Word (N : Nat) (c_0 : ((List UInt8) × (Int × Unit))) : Option make_Codes_Word_R :=
 Option.bind (make_Codes_Next N (6 : Int) c_0) fun y1 =>
 bif (decide (y1.1.1 = (0 : Int))) then
 Option.bind (make_Codes_Next N (4 : Int) y1.2.1) fun y3 =>
 some (((iu64 y3.1.1), ()), (y3.2.1, ()))
 else
 bif (decide (y1.1.1 = (1 : Int))) then
 Option.bind (make_Codes_Next N (3 : Int) y1.2.1) fun y6 =>
 some ((((18446744073709551615 : UInt64) - (iu64 y6.1.1)), ()), (y6.2.1, ()))
 else
 make_Codes_Word_1 N (0 : UInt64) (0 : Int) y1.2.1
def make_Codes_Word_C (N : Nat) : Ctx := ⟨29, G_tys, [(61, make_Codes_Next_ctr N)], G_globs, G_ifs⟩
def make_Codes_Word_S0 : Spec := ⟨[.ref 0 (.pair (.sl .u8) (.pair .i64 .unit)), .val .u64, .val .i64], [(.box 122 (.pair (.sl .u8) (.pair .i64 .unit)), .fix 0)]⟩
def make_Codes_Word_S1 : Spec := ⟨[.val .u64], [(.box 122 (.pair (.sl .u8) (.pair .i64 .unit)), .fix 0)]⟩
def make_Codes_Word_S2 : Spec := ⟨[.ref 0 (.pair (.sl .u8) (.pair .i64 .unit))], [(.box 122 (.pair (.sl .u8) (.pair .i64 .unit)), .pos 0)]⟩
def make_Codes_Word_K (_N : Nat) : XE → GS → Option make_Codes_Word_R := retK 1 [2] [false] make_Codes_Word_S1
def make_Codes_Word_L : List Code := (bodyOf (some Tryd.f44))
def make_Codes_Word_L2 : List Code := (loopOf (make_Codes_Word_L[5]?))
def make_Codes_Word_K2 (N : Nat) : XE → GS → Option (Lo ((UInt64 × Int × Unit) × (((List UInt8) × (Int × Unit)) × Unit)) ((UInt64 × Unit) × (((List UInt8) × (Int × Unit)) × Unit)) make_Codes_Word_R) := roundK (some 1) (fit 1 [0, 3, 4] make_Codes_Word_S0) (fit 1 [3] make_Codes_Word_S1) (make_Codes_Word_K N)
theorem make_Codes_Word_s2_b {E : Env} (N : Nat) (hb : Base Tryd.prog (make_Codes_Word_C N) E 1) : Blk Tryd.prog (make_Codes_Word_C N) E [0, 3, 4] make_Codes_Word_S0 (make_Codes_Word_L2.drop 0) (fun y => make_Codes_Word_s2 N y.1.1 y.1.2.1 y.2.1) (make_Codes_Word_K2 N) :=
 Blk.chunkAt hb 4 (X := (make_Codes_Word_K2 N .normal)) (NxOk.end (by kernel_rfl)) rfl (fun x => by kernel_rfl)
theorem make_Codes_Word_3_b {E : Env} (N : Nat) (hb : Base Tryd.prog (make_Codes_Word_C N) E 1) : Blk Tryd.prog (make_Codes_Word_C N) E [3] make_Codes_Word_S1 (make_Codes_Word_L.drop 6) (fun y => make_Codes_Word_3 N y.1.1 y.2.1) (make_Codes_Word_K N) :=
 Blk.chunkAt hb 2 (X := (make_Codes_Word_K N .normal)) (NxOk.end (by kernel_rfl)) rfl (fun x => by kernel_rfl)
theorem make_Codes_Word_1_b {E : Env} (N : Nat) (hb : Base Tryd.prog (make_Codes_Word_C N) E 1) : Blk Tryd.prog (make_Codes_Word_C N) E [0, 3, 4] make_Codes_Word_S0 (make_Codes_Word_L.drop 5) (fun y => make_Codes_Word_1 N y.1.1 y.1.2.1 y.2.1) (make_Codes_Word_K N) :=
 Blk.loopAt (Nf := N) (hns := [0, 3, 4]) (ans := [3]) (hc := make_Codes_Word_S0) (ac := make_Codes_Word_S1) (bid := 1) (step := (fun y => make_Codes_Word_s2 N y.1.1 y.1.2.1 y.2.1)) (J := (fun e => (goK 1 [3] make_Codes_Word_S1 (fun y => make_Codes_Word_3 N y.1.1 y.2.1)) (make_Codes_Word_S1.st [3] e))) hb (by kernel_rfl) (Blk.into (X := (goK 1 [3] make_Codes_Word_S1 (fun y => make_Codes_Word_3 N y.1.1 y.2.1))) (NxOk.go hb (make_Codes_Word_3_b N hb)) (fun x => by kernel_rfl)) (make_Codes_Word_s2_b N hb) (fun x => by kernel_rfl)
theorem make_Codes_Word_b {E : Env} (N : Nat) (hb : Base Tryd.prog (make_Codes_Word_C N) E 1) : Blk Tryd.prog (make_Codes_Word_C N) E (List.range make_Codes_Word_S2.ks.length) make_Codes_Word_S2 (make_Codes_Word_L.drop 0) (fun y => make_Codes_Word N y.2.1) (make_Codes_Word_K N) :=
 Blk.chunkAt hb 5 (X := (goK 1 [0, 3, 4] make_Codes_Word_S0 (fun y => make_Codes_Word_1 N y.1.1 y.1.2.1 y.2.1))) (NxOk.go hb (make_Codes_Word_1_b N hb)) rfl (fun x => by kernel_rfl)
def make_Codes_Word_ctr (N : Nat) : Ctr := ⟨make_Codes_Word_S2, make_Codes_Word_S1.un [false], 1, (fun y => make_Codes_Word N y.2.1)⟩
theorem make_Codes_Word_ctrs (N : Nat) : CtrsOk Tryd.prog (make_Codes_Word_C N) := ctrs_of (Γ := make_Codes_Word_C N) G_ifs_ok (by
 intro p hp
 simp only [make_Codes_Word_C, List.mem_cons, List.not_mem_nil, or_false] at hp
 rcases hp with rfl
 · exact make_Codes_Next_ok N)
theorem make_Codes_Word_ok (N : Nat) : Ctr.ok Tryd.prog G_globs 44 (make_Codes_Word_ctr N) :=
 ctr_fn (Γ := make_Codes_Word_C N) (rfit := make_Codes_Word_S1) (bs := [false]) (res := [2]) (by kernel_rfl) (tys_ok G_tys_ok) (make_Codes_Word_ctrs N) Tryd.func44 (by kernel_rfl) (by kernel_rfl) Tryd.ntmps44 (by kernel_rfl) (by kernel_rfl) (by kernel_rfl) (by kernel_rfl) (fun E hb => make_Codes_Word_b N hb)
/-! (*ipsecgate/ipsecgatemake.Codes).Header -/
abbrev make_Codes_Header_R : Type := ((D75 × Unit) × (((List UInt8) × (Int × Unit)) × Unit))
def make_Codes_Header_3 (N : Nat) (t_35 : Bool) (p0 : ((List UInt8) × (Int × Unit))) (t_2 : D75) (h_3 : D75) : Option make_Codes_Header_R :=
 bif t_35 then
 some (((h_3.1, (2 : UInt64), h_3.2.2.1, h_3.2.2.2.1, h_3.2.2.2.2.1, h_3.2.2.2.2.2.1, ()), ()), (p0, ()))
 else
 some ((h_3, ()), (p0, ()))
def make_Codes_Header_2 (N : Nat) (p0 : ((List UInt8) × (Int × Unit))) (t_2 : D75) (h_3 : D75) : Option make_Codes_Header_R :=
 bif (decide (h_3.2.1 = (0 : UInt64))) then
 make_Codes_Header_3 N (!(decide (h_3.2.2.2.1 = (34 : Int)))) p0 t_2 h_3
 else
 make_Codes_Header_3 N false p0 t_2 h_3
def make_Codes_Header_1 (N : Nat) (p0 : ((List UInt8) × (Int × Unit))) (t_2 : D75) (h_3 : D75) : Option make_Codes_Header_R :=
 bif (decide (h_3.1 = (0 : UInt64))) then
 make_Codes_Header_2 N p0 t_2 ((1 : UInt64), h_3.2.1, h_3.2.2.1, h_3.2.2.2.1, h_3.2.2.2.2.1, h_3.2.2.2.2.2.1, ())
 else
 make_Codes_Header_2 N p0 t_2 h_3
def make_Codes_Header (N : Nat) (c_0 : ((List UInt8) × (Int × Unit))) : Option make_Codes_Header_R :=
 Option.bind (make_Codes_Word N c_0) fun y1 =>
 Option.bind (make_Codes_Word N y1.2.1) fun y2 =>
 Option.bind (make_Codes_Next N (4 : Int) y2.2.1) fun y3 =>
 let x4 := w64 ((34 : Int) + y3.1.1)
 Option.bind (make_Codes_Next N (4 : Int) y3.2.1) fun y5 =>
 bif inR y5.1.1 (([(8 : Int), (32 : Int), (40 : Int), (0 : Int)] : List Int).length) then
 let x6 := (([(8 : Int), (32 : Int), (40 : Int), (0 : Int)] : List Int).getD y5.1.1.toNat (0 : Int))
 bif (!(decide (x4 = (34 : Int)))) then
 Option.bind (make_Codes_Next N (256 : Int) y5.2.1) fun y8 =>
 make_Codes_Header_1 N y8.2.1 ((0 : UInt64), (0 : UInt64), (0 : Int), (0 : Int), (0 : Int), (0 : UInt32), ()) (y1.1.1, y2.1.1, (0 : Int), x4, x6, (iu32 y8.1.1), ())
 else
 make_Codes_Header_1 N y5.2.1 ((0 : UInt64), (0 : UInt64), (0 : Int), (0 : Int), (0 : Int), (0 : UInt32), ()) (y1.1.1, y2.1.1, (0 : Int), x4, x6, (0 : UInt32), ())
 else none
def make_Codes_Header_C (N : Nat) : Ctx := ⟨38, G_tys, [(44, make_Codes_Word_ctr N), (61, make_Codes_Next_ctr N)], G_globs, G_ifs⟩
def make_Codes_Header_S0 : Spec := ⟨[.ref 1 T75, .ref 2 T75, .val .bool], [(.box 122 (.pair (.sl .u8) (.pair .i64 .unit)), .fix 0), (.box 76 T75, .pos 0), (.box 76 T75, .pos 1)]⟩
def make_Codes_Header_S1 : Spec := ⟨[.ref 1 T75, .ref 2 T75], [(.box 122 (.pair (.sl .u8) (.pair .i64 .unit)), .fix 0), (.box 76 T75, .pos 0), (.box 76 T75, .pos 1)]⟩
def make_Codes_Header_S2 : Spec := ⟨[.ref 0 (.pair (.sl .u8) (.pair .i64 .unit))], [(.box 122 (.pair (.sl .u8) (.pair .i64 .unit)), .pos 0)]⟩
def make_Codes_Header_S3 : Spec := ⟨[.fp T75], [(.box 122 (.pair (.sl .u8) (.pair .i64 .unit)), .fix 0)]⟩
def make_Codes_Header_K (_N : Nat) : XE → GS → Option make_Codes_Header_R := retK 1 [2] [true] make_Codes_Header_S3
def make_Codes_Header_L : List Code := (bodyOf (some Tryd.f114))
theorem make_Codes_Header_3_b {E : Env} (N : Nat) (hb : Base Tryd.prog (make_Codes_Header_C N) E 1) : Blk Tryd.prog (make_Codes_Header_C N) E [2, 3, 35] make_Codes_Header_S0 (make_Codes_Header_L.drop 7) (fun y => make_Codes_Header_3 N y.1.1 y.2.1 y.2.2.1 y.2.2.2.1) (make_Codes_Header_K N) :=
 Blk.chunkAt hb 3 (X := (make_Codes_Header_K N .normal)) (NxOk.end (by kernel_rfl)) rfl (fun x => by kernel_rfl)
theorem make_Codes_Header_2_b {E : Env} (N : Nat) (hb : Base Tryd.prog (make_Codes_Header_C N) E 1) : Blk Tryd.prog (make_Codes_Header_C N) E [2, 3] make_Codes_Header_S1 (make_Codes_Header_L.drop 6) (fun y => make_Codes_Header_2 N y.2.1 y.2.2.1 y.2.2.2.1) (make_Codes_Header_K N) :=
 Blk.chunkAt hb 1 (X := (goK 1 [2, 3, 35] make_Codes_Header_S0 (fun y => make_Codes_Header_3 N y.1.1 y.2.1 y.2.2.1 y.2.2.2.1))) (NxOk.go hb (make_Codes_Header_3_b N hb)) rfl (fun x => by kernel_rfl)
theorem make_Codes_Header_1_b {E : Env} (N : Nat) (hb : Base Tryd.prog (make_Codes_Header_C N) E 1) : Blk Tryd.prog (make_Codes_Header_C N) E [2, 3] make_Codes_Header_S1 (make_Codes_Header_L.drop 4) (fun y => make_Codes_Header_1 N y.2.1 y.2.2.1 y.2.2.2.1) (make_Codes_Header_K N) :=
 Blk.chunkAt hb 2 (X := (goK 1 [2, 3] make_Codes_Header_S1 (fun y => make_Codes_Header_2 N y.2.1 y.2.2.1 y.2.2.2.1))) (NxOk.go hb (make_Codes_Header_2_b N hb)) rfl (fun x => by kernel_rfl)
theorem make_Codes_Header_b {E : Env} (N : Nat) (hb : Base Tryd.prog (make_Codes_Header_C N) E 1) : Blk Tryd.prog (make_Codes_Header_C N) E (List.range make_Codes_Header_S2.ks.length) make_Codes_Header_S2 (make_Codes_Header_L.drop 0) (fun y => make_Codes_Header N y.2.1) (make_Codes_Header_K N) :=
 Blk.chunkAt hb 4 (X := (goK 1 [2, 3] make_Codes_Header_S1 (fun y => make_Codes_Header_1 N y.2.1 y.2.2.1 y.2.2.2.1))) (NxOk.go hb (make_Codes_Header_1_b N hb)) rfl (fun x => by kernel_rfl)
def make_Codes_Header_ctr (N : Nat) : Ctr := ⟨make_Codes_Header_S2, make_Codes_Header_S3.un [true], 1, (fun y => make_Codes_Header N y.2.1)⟩
theorem make_Codes_Header_ctrs (N : Nat) : CtrsOk Tryd.prog (make_Codes_Header_C N) := ctrs_of (Γ := make_Codes_Header_C N) G_ifs_ok (by
 intro p hp
 simp only [make_Codes_Header_C, List.mem_cons, List.not_mem_nil, or_false] at hp
 rcases hp with rfl | rfl
 · exact make_Codes_Word_ok N
 · exact make_Codes_Next_ok N)
theorem make_Codes_Header_ok (N : Nat) : Ctr.ok Tryd.prog G_globs 114 (make_Codes_Header_ctr N) :=
 ctr_fn (Γ := make_Codes_Header_C N) (rfit := make_Codes_Header_S3) (bs := [true]) (res := [2]) (by kernel_rfl) (tys_ok G_tys_ok) (make_Codes_Header_ctrs N) Tryd.func114 (by kernel_rfl) (by kernel_rfl) Tryd.ntmps114 (by kernel_rfl) (by kernel_rfl) (by kernel_rfl) (by kernel_rfl) (fun E hb => make_Codes_Header_b N hb)
/-! (*ipsecgate/ipsecgatemake.Codes).Bytes -/
abbrev make_Codes_Bytes_R : Type := ((Unit) × (((List UInt8) × (Int × Unit)) × (List UInt8) × Unit))
def make_Codes_Bytes_s2 (N : Nat) (n_1 : Int) (i_6 : Int) (p0 : ((List UInt8) × (Int × Unit))) (out_5 : (List UInt8)) : Option (Lo ((Int × Int × Unit) × (((List UInt8) × (Int × Unit)) × (List UInt8) × Unit)) ((Unit) × (((List UInt8) × (Int × Unit)) × (List UInt8) × Unit)) make_Codes_Bytes_R) :=
 bif (decide (i_6 < n_1)) then
 Option.bind (make_Codes_Next N (256 : Int) p0) fun y2 =>
 let x4 := w64 (y2.1.1 + (w64 (i_6 * (7 : Int))))
 bif room (out_5.length + ([iu8 x4] : List UInt8).length) 1 then
 some (.go ((n_1, (w64 (i_6 + (1 : Int))), ()), (y2.2.1, (out_5 ++ ([iu8 x4] : List UInt8)), ())))
 else none
 else
 some (.br ((()), (p0, out_5, ())))
def make_Codes_Bytes_3 (N : Nat) (p0 : ((List UInt8) × (Int × Unit))) (out_5 : (List UInt8)) : Option make_Codes_Bytes_R :=
 some ((()), (p0, out_5, ()))
def make_Codes_Bytes_1 (N : Nat) (n_1 : Int) (i_6 : Int) (p0 : ((List UInt8) × (Int × Unit))) (out_5 : (List UInt8)) : Option make_Codes_Bytes_R :=
 loopK N (fun y => make_Codes_Bytes_s2 N y.1.1 y.1.2.1 y.2.1 y.2.2.1) (fun (e : ((Unit) × (((List UInt8) × (Int × Unit)) × (List UInt8) × Unit))) => make_Codes_Bytes_3 N e.2.1 e.2.2.1) ((n_1, i_6, ()), (p0, out_5, ()))
def make_Codes_Bytes (N : Nat) (n_1 : Int) (c_0 : ((List UInt8) × (Int × Unit))) : Option make_Codes_Bytes_R :=
 make_Codes_Bytes_1 N n_1 (0 : Int) c_0 ([] : List UInt8)
def make_Codes_Bytes_C (N : Nat) : Ctx := ⟨22, G_tys, [(61, make_Codes_Next_ctr N)], G_globs, G_ifs⟩
def make_Codes_Bytes_S0 : Spec := ⟨[.ref 0 (.pair (.sl .u8) (.pair .i64 .unit)), .val .i64, .row 1, .val .i64], [(.box 122 (.pair (.sl .u8) (.pair .i64 .unit)), .fix 0), (.row 5 .u8, .pos 2)]⟩
def make_Codes_Bytes_S1 : Spec := ⟨[.row 1], [(.box 122 (.pair (.sl .u8) (.pair .i64 .unit)), .fix 0), (.row 5 .u8, .pos 0)]⟩
def make_Codes_Bytes_S2 : Spec := ⟨[.ref 0 (.pair (.sl .u8) (.pair .i64 .unit)), .val .i64], [(.box 122 (.pair (.sl .u8) (.pair .i64 .unit)), .pos 0)]⟩
def make_Codes_Bytes_K (_N : Nat) : XE → GS → Option make_Codes_Bytes_R := retK 1 [4] [false] make_Codes_Bytes_S1
def make_Codes_Bytes_L : List Code := (bodyOf (some Tryd.f115))
def make_Codes_Bytes_L2 : List Code := (loopOf (make_Codes_Bytes_L[3]?))
def make_Codes_Bytes_K2 (N : Nat) : XE → GS → Option (Lo ((Int × Int × Unit) × (((List UInt8) × (Int × Unit)) × (List UInt8) × Unit)) ((Unit) × (((List UInt8) × (Int × Unit)) × (List UInt8) × Unit)) make_Codes_Bytes_R) := roundK (some 0) (fit 1 [0, 1, 5, 6] make_Codes_Bytes_S0) (fit 1 [5] make_Codes_Bytes_S1) (make_Codes_Bytes_K N)
theorem make_Codes_Bytes_s2_b {E : Env} (N : Nat) (hb : Base Tryd.prog (make_Codes_Bytes_C N) E 1) : Blk Tryd.prog (make_Codes_Bytes_C N) E [0, 1, 5, 6] make_Codes_Bytes_S0 (make_Codes_Bytes_L2.drop 0) (fun y => make_Codes_Bytes_s2 N y.1.1 y.1.2.1 y.2.1 y.2.2.1) (make_Codes_Bytes_K2 N) :=
 Blk.chunkAt hb 4 (X := (make_Codes_Bytes_K2 N .normal)) (NxOk.end (by kernel_rfl)) rfl (fun x => by kernel_rfl)
theorem make_Codes_Bytes_3_b {E : Env} (N : Nat) (hb : Base Tryd.prog (make_Codes_Bytes_C N) E 1) : Blk Tryd.prog (make_Codes_Bytes_C N) E [5] make_Codes_Bytes_S1 (make_Codes_Bytes_L.drop 4) (fun y => make_Codes_Bytes_3 N y.2.1 y.2.2.1) (make_Codes_Bytes_K N) :=
 Blk.chunkAt hb 2 (X := (make_Codes_Bytes_K N .normal)) (NxOk.end (by kernel_rfl)) rfl (fun x => by kernel_rfl)
theorem make_Codes_Bytes_1_b {E : Env} (N : Nat) (hb : Base Tryd.prog (make_Codes_Bytes_C N) E 1) : Blk Tryd.prog (make_Codes_Bytes_C N) E [0, 1, 5, 6] make_Codes_Bytes_S0 (make_Codes_Bytes_L.drop 3) (fun y => make_Codes_Bytes_1 N y.1.1 y.1.2.1 y.2.1 y.2.2.1) (make_Codes_Bytes_K N) :=
 Blk.loopAt (Nf := N) (hns := [0, 1, 5, 6]) (ans := [5]) (hc := make_Codes_Bytes_S0) (ac := make_Codes_Bytes_S1) (bid := 0) (step := (fun y => make_Codes_Bytes_s2 N y.1.1 y.1.2.1 y.2.1 y.2.2.1)) (J := (fun e => (goK 1 [5] make_Codes_Bytes_S1 (fun y => make_Codes_Bytes_3 N y.2.1 y.2.2.1)) (make_Codes_Bytes_S1.st [5] e))) hb (by kernel_rfl) (Blk.into (X := (goK 1 [5] make_Codes_Bytes_S1 (fun y => make_Codes_Bytes_3 N y.2.1 y.2.2.1))) (NxOk.go hb (make_Codes_Bytes_3_b N hb)) (fun x => by kernel_rfl)) (make_Codes_Bytes_s2_b N hb) (fun x => by kernel_rfl)
theorem make_Codes_Bytes_b {E : Env} (N : Nat) (hb : Base Tryd.prog (make_Codes_Bytes_C N) E 1) : Blk Tryd.prog (make_Codes_Bytes_C N) E (List.range make_Codes_Bytes_S2.ks.length) make_Codes_Bytes_S2 (make_Codes_Bytes_L.drop 0) (fun y => make_Codes_Bytes N y.1.1 y.2.1) (make_Codes_Bytes_K N) :=
 Blk.chunkAt hb 3 (X := (goK 1 [0, 1, 5, 6] make_Codes_Bytes_S0 (fun y => make_Codes_Bytes_1 N y.1.1 y.1.2.1 y.2.1 y.2.2.1))) (NxOk.go hb (make_Codes_Bytes_1_b N hb)) rfl (fun x => by kernel_rfl)
def make_Codes_Bytes_ctr (N : Nat) : Ctr := ⟨make_Codes_Bytes_S2, make_Codes_Bytes_S1.un [false], 1, (fun y => make_Codes_Bytes N y.1.1 y.2.1)⟩
theorem make_Codes_Bytes_ctrs (N : Nat) : CtrsOk Tryd.prog (make_Codes_Bytes_C N) := ctrs_of (Γ := make_Codes_Bytes_C N) G_ifs_ok (by
 intro p hp
 simp only [make_Codes_Bytes_C, List.mem_cons, List.not_mem_nil, or_false] at hp
 rcases hp with rfl
 · exact make_Codes_Next_ok N)
theorem make_Codes_Bytes_ok (N : Nat) : Ctr.ok Tryd.prog G_globs 115 (make_Codes_Bytes_ctr N) :=
 ctr_fn (Γ := make_Codes_Bytes_C N) (rfit := make_Codes_Bytes_S1) (bs := [false]) (res := [4]) (by kernel_rfl) (tys_ok G_tys_ok) (make_Codes_Bytes_ctrs N) Tryd.func115 (by kernel_rfl) (by kernel_rfl) Tryd.ntmps115 (by kernel_rfl) (by kernel_rfl) (by kernel_rfl) (by kernel_rfl) (fun E hb => make_Codes_Bytes_b N hb)
/-! ipsecgate/ipsecgatelaw17.draw -/
abbrev law17_draw_R : Type := ((D75 × Unit) × (((List UInt8) × (Int × Unit)) × (List UInt8) × (List UInt8) × Unit))
def law17_draw (N : Nat) (c_0 : ((List UInt8) × (Int × Unit))) : Option law17_draw_R :=
 Option.bind (make_Codes_Header N c_0) fun y1 =>
 Option.bind (make_Codes_Bytes N (36 : Int) y1.2.1) fun y2 =>
 Option.bind (make_Codes_Next N (80 : Int) y2.2.1) fun y3 =>
 Option.bind (make_Codes_Bytes N y3.1.1 y3.2.1) fun y4 =>
 some ((y1.1.1, ()), (y4.2.1, y2.2.2.1, y4.2.2.1, ()))
def law17_draw_C (N : Nat) : Ctx := ⟨13, G_tys, [(114, make_Codes_Header_ctr N), (115, make_Codes_Bytes_ctr N), (61, make_Codes_Next_ctr N)], G_globs, G_ifs⟩
def law17_draw_S0 : Spec := ⟨[.ref 0 (.pair (.sl .u8) (.pair .i64 .unit))], [(.box 122 (.pair (.sl .u8) (.pair .i64 .unit)), .pos 0)]⟩
def law17_draw_S1 : Spec := ⟨[.fp T75, .row 1, .row 2], [(.box 122 (.pair (.sl .u8) (.pair .i64 .unit)), .fix 0), (.row 5 .u8, .pos 1), (.row 5 .u8, .pos 2)]⟩
def law17_draw_K (_N : Nat) : XE → GS → Option law17_draw_R := retK 1 [2, 3, 4] [true, false, false] law17_draw_S1
def law17_draw_L : List Code := (bodyOf (some Tryd.f54))
theorem law17_draw_b {E : Env} (N : Nat) (hb : Base Tryd.prog (law17_draw_C N) E 1) : Blk Tryd.prog (law17_draw_C N) E (List.range law17_draw_S0.ks.length) law17_draw_S0 (law17_draw_L.drop 0) (fun y => law17_draw N y.2.1) (law17_draw_K N) :=
 Blk.chunkAt hb 3 (X := (law17_draw_K N .normal)) (NxOk.end (by kernel_rfl)) rfl (fun x => by kernel_rfl)
def law17_draw_ctr (N : Nat) : Ctr := ⟨law17_draw_S0, law17_draw_S1.un [true, false, false], 1, (fun y => law17_draw N y.2.1)⟩
theorem law17_draw_ctrs (N : Nat) : CtrsOk Tryd.prog (law17_draw_C N) := ctrs_of (Γ := law17_draw_C N) G_ifs_ok (by
 intro p hp
 simp only [law17_draw_C, List.mem_cons, List.not_mem_nil, or_false] at hp
 rcases hp with rfl | rfl | rfl
 · exact make_Codes_Header_ok N
 · exact make_Codes_Bytes_ok N
 · exact make_Codes_Next_ok N)
theorem law17_draw_ok (N : Nat) : Ctr.ok Tryd.prog G_globs 54 (law17_draw_ctr N) :=
 ctr_fn (Γ := law17_draw_C N) (rfit := law17_draw_S1) (bs := [true, false, false]) (res := [2, 3, 4]) (by kernel_rfl) (tys_ok G_tys_ok) (law17_draw_ctrs N) Tryd.func54 (by kernel_rfl) (by kernel_rfl) Tryd.ntmps54 (by kernel_rfl) (by kernel_rfl) (by kernel_rfl) (by kernel_rfl) (fun E hb => law17_draw_b N hb)
/-! (*ipsecgate/ipsecgatemake.Codes).Int -/
abbrev make_Codes_Int_R : Type := ((Int × Unit) × (((List UInt8) × (Int × Unit)) × Unit))
def make_Codes_Int (N : Nat) (c_0 : ((List UInt8) × (Int × Unit))) : Option make_Codes_Int_R :=
 Option.bind (make_Codes_Next N (4 : Int) c_0) fun y1 =>
 bif (decide (y1.1.1 = (3 : Int))) then
 Option.bind (make_Codes_Next N (([(9223372036854775807 : Int), (-9223372036854775808 : Int), (65535 : Int), (65536 : Int), (255 : Int), (256 : Int), (-1 : Int), (-2 : Int), (0 : Int), (4294967296 : Int), (16384 : Int), (37 : Int)] : List Int).length : Int) y1.2.1) fun y4 =>
 bif inR y4.1.1 (([(9223372036854775807 : Int), (-9223372036854775808 : Int), (65535 : Int), (65536 : Int), (255 : Int), (256 : Int), (-1 : Int), (-2 : Int), (0 : Int), (4294967296 : Int), (16384 : Int), (37 : Int)] : List Int).length) then
 some (((([(9223372036854775807 : Int), (-9223372036854775808 : Int), (65535 : Int), (65536 : Int), (255 : Int), (256 : Int), (-1 : Int), (-2 : Int), (0 : Int), (4294967296 : Int), (16384 : Int), (37 : Int)] : List Int).getD y4.1.1.toNat (0 : Int)), ()), (y4.2.1, ()))
 else none
 else
 Option.bind (make_Codes_Next N (60 : Int) y1.2.1) fun y6 =>
 some (((w64 (y6.1.1 - (3 : Int))), ()), (y6.2.1, ()))
def make_Codes_Int_C (N : Nat) : Ctx := ⟨18, G_tys, [(61, make_Codes_Next_ctr N)], G_globs, G_ifs⟩
def make_Codes_Int_S0 : Spec := ⟨[.ref 0 (.pair (.sl .u8) (.pair .i64 .unit))], [(.box 122 (.pair (.sl .u8) (.pair .i64 .unit)), .pos 0)]⟩
def make_Codes_Int_S1 : Spec := ⟨[.val .i64], [(.box 122 (.pair (.sl .u8) (.pair .i64 .unit)), .fix 0)]⟩
def make_Codes_Int_K (_N : Nat) : XE → GS → Option make_Codes_Int_R := retK 1 [2] [false] make_Codes_Int_S1
def make_Codes_Int_L : List Code := (bodyOf (some Tryd.f69))
theorem make_Codes_Int_b {E : Env} (N : Nat) (hb : Base Tryd.prog (make_Codes_Int_C N) E 1) : Blk Tryd.prog (make_Codes_Int_C N) E (List.range make_Codes_Int_S0.ks.length) make_Codes_Int_S0 (make_Codes_Int_L.drop 0) (fun y => make_Codes_Int N y.2.1) (make_Codes_Int_K N) :=
 Blk.chunkAt hb 6 (X := (make_Codes_Int_K N .normal)) (NxOk.end (by kernel_rfl)) rfl (fun x => by kernel_rfl)
def make_Codes_Int_ctr (N : Nat) : Ctr := ⟨make_Codes_Int_S0, make_Codes_Int_S1.un [false], 1, (fun y => make_Codes_Int N y.2.1)⟩
theorem make_Codes_Int_ctrs (N : Nat) : CtrsOk Tryd.prog (make_Codes_Int_C N) := ctrs_of (Γ := make_Codes_Int_C N) G_ifs_ok (by
 intro p hp
 simp only [make_Codes_Int_C, List.mem_cons, List.not_mem_nil, or_false] at hp
 rcases hp with rfl
 · exact make_Codes_Next_ok N)
theorem make_Codes_Int_ok (N : Nat) : Ctr.ok Tryd.prog G_globs 69 (make_Codes_Int_ctr N) :=
 ctr_fn (Γ := make_Codes_Int_C N) (rfit := make_Codes_Int_S1) (bs := [false]) (res := [2]) (by kernel_rfl) (tys_ok G_tys_ok) (make_Codes_Int_ctrs N) Tryd.func69 (by kernel_rfl) (by kernel_rfl) Tryd.ntmps69 (by kernel_rfl) (by kernel_rfl) (by kernel_rfl) (by kernel_rfl) (fun E hb => make_Codes_Int_b N hb)
/-! (*ipsecgate/ipsecgatemake.Codes).Change -/
abbrev make_Codes_Change_R : Type := (((List UInt8) × Unit) × (((List UInt8) × (Int × Unit)) × Unit))
def make_Codes_Change (N : Nat) (b_1 : (List UInt8)) (c_0 : ((List UInt8) × (Int × Unit))) : Option make_Codes_Change_R :=
 bif room (0 + b_1.length) 1 then
 Option.bind (make_Codes_Next N (5 : Int) c_0) fun y1 =>
 bif (decide (y1.1.1 = (0 : Int))) then
 Option.bind (make_Codes_Next N (256 : Int) y1.2.1) fun y3 =>
 bif room (b_1.length + ([(iu8 y3.1.1)] : List UInt8).length) 1 then
 some (((b_1 ++ ([(iu8 y3.1.1)] : List UInt8)), ()), (y3.2.1, ()))
 else none
 else
 bif (decide (y1.1.1 = (1 : Int))) then
 Option.bind (make_Codes_Next N (9 : Int) y1.2.1) fun y8 =>
 let x10 := w64 ((w64 ((b_1.length : Int) * y8.1.1)).tdiv (9 : Int))
 bif decide (0 ≤ (0 : Int)) && decide ((0 : Int) ≤ x10) && decide (x10 ≤ (b_1.length : Int)) && true then
 some (((cut b_1 0 x10.toNat), ()), (y8.2.1, ()))
 else none
 else
 bif (decide ((0 : Int) < (b_1.length : Int))) then
 Option.bind (make_Codes_Next N (256 : Int) y1.2.1) fun y14 =>
 Option.bind (make_Codes_Next N (256 : Int) y14.2.1) fun y16 =>
 let x17 := or64 (shlI y14.1.1 8) y16.1.1
 let x18 := (b_1.length : Int)
 bif !(decide (x18 = 0)) then
 bif inR (x17.tmod x18) b_1.length then
 Option.bind (make_Codes_Next N (255 : Int) y16.2.1) fun y21 =>
 bif inR (x17.tmod x18) b_1.length then
 some (((b_1.set (x17.tmod x18).toNat ((b_1.getD (x17.tmod x18).toNat (0 : UInt8)) ^^^ (iu8 (w64 ((1 : Int) + y21.1.1))))), ()), (y21.2.1, ()))
 else none
 else none
 else none
 else
 some ((b_1, ()), (y1.2.1, ()))
 else none
def make_Codes_Change_C (N : Nat) : Ctx := ⟨51, G_tys, [(61, make_Codes_Next_ctr N)], G_globs, G_ifs⟩
def make_Codes_Change_S0 : Spec := ⟨[.ref 0 (.pair (.sl .u8) (.pair .i64 .unit)), .val (.sl .u8)], [(.box 122 (.pair (.sl .u8) (.pair .i64 .unit)), .pos 0)]⟩
def make_Codes_Change_S1 : Spec := ⟨[.val (.sl .u8)], [(.box 122 (.pair (.sl .u8) (.pair .i64 .unit)), .fix 0)]⟩
def make_Codes_Change_K (_N : Nat) : XE → GS → Option make_Codes_Change_R := retK 1 [4] [false] make_Codes_Change_S1
def make_Codes_Change_L : List Code := (bodyOf (some Tryd.f22))
theorem make_Codes_Change_b {E : Env} (N : Nat) (hb : Base Tryd.prog (make_Codes_Change_C N) E 1) : Blk Tryd.prog (make_Codes_Change_C N) E (List.range make_Codes_Change_S0.ks.length) make_Codes_Change_S0 (make_Codes_Change_L.drop 0) (fun y => make_Codes_Change N y.1.1 y.2.1) (make_Codes_Change_K N) :=
 Blk.chunkAt hb 8 (X := (make_Codes_Change_K N .normal)) (NxOk.end (by kernel_rfl)) rfl (fun x => by kernel_rfl)
def make_Codes_Change_ctr (N : Nat) : Ctr := ⟨make_Codes_Change_S0, make_Codes_Change_S1.un [false], 1, (fun y => make_Codes_Change N y.1.1 y.2.1)⟩
theorem make_Codes_Change_ctrs (N : Nat) : CtrsOk Tryd.prog (make_Codes_Change_C N) := ctrs_of (Γ := make_Codes_Change_C N) G_ifs_ok (by
 intro p hp
 simp only [make_Codes_Change_C, List.mem_cons, List.not_mem_nil, or_false] at hp
 rcases hp with rfl
 · exact make_Codes_Next_ok N)
theorem make_Codes_Change_ok (N : Nat) : Ctr.ok Tryd.prog G_globs 22 (make_Codes_Change_ctr N) :=
 ctr_fn (Γ := make_Codes_Change_C N) (rfit := make_Codes_Change_S1) (bs := [false]) (res := [4]) (by kernel_rfl) (tys_ok G_tys_ok) (make_Codes_Change_ctrs N) Tryd.func22 (by kernel_rfl) (by kernel_rfl) Tryd.ntmps22 (by kernel_rfl) (by kernel_rfl) (by kernel_rfl) (by kernel_rfl) (fun E hb => make_Codes_Change_b N hb)
/-! ipsecgate/ipsecgatemake.Mod -/
abbrev make_Mod_R : Type := ((Int × Unit) × (Unit))
def make_Mod (N : Nat) (x_0 : Int) (n_1 : Int) : Option make_Mod_R :=
 bif !(decide (n_1 = 0)) then
 bif (decide ((x_0.tmod n_1) < (0 : Int))) then
 some (((w64 ((x_0.tmod n_1) + n_1)), ()), (()))
 else
 some (((x_0.tmod n_1), ()), (()))
 else none
def make_Mod_C (N : Nat) : Ctx := ⟨14, G_tys, [], G_globs, G_ifs⟩
def make_Mod_S0 : Spec := ⟨[.val .i64, .val .i64], []⟩
def make_Mod_S1 : Spec := ⟨[.val .i64], []⟩
def make_Mod_K (_N : Nat) : XE → GS → Option make_Mod_R := retK 0 [4] [false] make_Mod_S1
def make_Mod_L : List Code := (bodyOf (some Tryd.f42))
theorem make_Mod_b {E : Env} (N : Nat) (hb : Base Tryd.prog (make_Mod_C N) E 0) : Blk Tryd.prog (make_Mod_C N) E (List.range make_Mod_S0.ks.length) make_Mod_S0 (make_Mod_L.drop 0) (fun y => make_Mod N y.1.1 y.1.2.1) (make_Mod_K N) :=
 Blk.chunkAt hb 6 (X := (make_Mod_K N .normal)) (NxOk.end (by kernel_rfl)) rfl (fun x => by kernel_rfl)
def make_Mod_ctr (N : Nat) : Ctr := ⟨make_Mod_S0, make_Mod_S1.un [false], 0, (fun y => make_Mod N y.1.1 y.1.2.1)⟩
theorem make_Mod_ctrs (N : Nat) : CtrsOk Tryd.prog (make_Mod_C N) := ctrs_nil G_ifs_ok rfl
theorem make_Mod_ok (N : Nat) : Ctr.ok Tryd.prog G_globs 42 (make_Mod_ctr N) :=
 ctr_fn (Γ := make_Mod_C N) (rfit := make_Mod_S1) (bs := [false]) (res := [4]) (by kernel_rfl) (tys_ok G_tys_ok) (make_Mod_ctrs N) Tryd.func42 (by kernel_rfl) (by kernel_rfl) Tryd.ntmps42 (by kernel_rfl) (by kernel_rfl) (by kernel_rfl) (by kernel_rfl) (fun E hb => make_Mod_b N hb)
/-! ipsecgate/ipsecgateref02.Check -/
abbrev ref02_Check_R : Type := ((Int × Unit) × (Unit))
def ref02_Check (N : Nat) (h_0 : D75) : Option ref02_Check_R :=
 bif (decide (h_0.1 = (0 : UInt64))) then
 some (((20 : Int), ()), (()))
 else
 bif (decide (h_0.2.2.2.1 < (34 : Int))) then
 some (((5 : Int), ()), (()))
 else
 bif (decide ((37 : Int) < h_0.2.2.2.1)) then
 some (((5 : Int), ()), (()))
 else
 bif (decide (h_0.2.2.1 < (0 : Int))) then
 some (((5 : Int), ()), (()))
 else
 bif (decide ((255 : Int) < h_0.2.2.1)) then
 some (((5 : Int), ()), (()))
 else
 bif (!(decide ((andNot64 h_0.2.2.2.2.1 (56 : Int)) = (0 : Int)))) then
 some (((5 : Int), ()), (()))
 else
 bif (!(decide (h_0.2.2.2.1 = (34 : Int)))) then
 bif (decide (h_0.2.1 = (0 : UInt64))) then
 some (((20 : Int), ()), (()))
 else
 bif (decide (h_0.2.2.2.1 = (34 : Int))) then
 bif (!(decide (h_0.2.2.2.2.2.1 = (0 : UInt32)))) then
 some (((7 : Int), ()), (()))
 else
 some (((0 : Int), ()), (()))
 else
 some (((0 : Int), ()), (()))
 else
 bif (decide (h_0.2.2.2.1 = (34 : Int))) then
 bif (!(decide (h_0.2.2.2.2.2.1 = (0 : UInt32)))) then
 some (((7 : Int), ()), (()))
 else
 some (((0 : Int), ()), (()))
 else
 some (((0 : Int), ()), (()))
def ref02_Check_C (N : Nat) : Ctx := ⟨50, G_tys, [], G_globs, G_ifs⟩
def ref02_Check_S0 : Spec := ⟨[.val T75], []⟩
def ref02_Check_S1 : Spec := ⟨[.val .i64], []⟩
def ref02_Check_K (_N : Nat) : XE → GS → Option ref02_Check_R := retK 0 [2] [false] ref02_Check_S1
def ref02_Check_L : List Code := (bodyOf (some Tryd.f169))
theorem ref02_Check_b {E : Env} (N : Nat) (hb : Base Tryd.prog (ref02_Check_C N) E 0) : Blk Tryd.prog (ref02_Check_C N) E (List.range ref02_Check_S0.ks.length) ref02_Check_S0 (ref02_Check_L.drop 0) (fun y => ref02_Check N y.1.1) (ref02_Check_K N) :=
 Blk.chunkAt hb 4 (X := (ref02_Check_K N .normal)) (NxOk.end (by kernel_rfl)) rfl (fun x => by kernel_rfl)
def ref02_Check_ctr (N : Nat) : Ctr := ⟨ref02_Check_S0, ref02_Check_S1.un [false], 0, (fun y => ref02_Check N y.1.1)⟩
theorem ref02_Check_ctrs (N : Nat) : CtrsOk Tryd.prog (ref02_Check_C N) := ctrs_nil G_ifs_ok rfl
theorem ref02_Check_ok (N : Nat) : Ctr.ok Tryd.prog G_globs 169 (ref02_Check_ctr N) :=
 ctr_fn (Γ := ref02_Check_C N) (rfit := ref02_Check_S1) (bs := [false]) (res := [2]) (by kernel_rfl) (tys_ok G_tys_ok) (ref02_Check_ctrs N) Tryd.func169 (by kernel_rfl) (by kernel_rfl) Tryd.ntmps169 (by kernel_rfl) (by kernel_rfl) (by kernel_rfl) (by kernel_rfl) (fun E hb => ref02_Check_b N hb)
/-! ipsecgate/ipsecgateref17.begin -/
abbrev ref17_begin_R : Type := ((Int × Unit) × (Unit))
def ref17_begin (N : Nat) (h_0 : D75) (first_1 : Int) (key_2 : (List UInt8)) : Option ref17_begin_R :=
 bif (!(decide ((key_2.length : Int) = (36 : Int)))) then
 some (((13 : Int), ()), (()))
 else
 Option.bind (ref02_Check N (h_0.1, h_0.2.1, (46 : Int), h_0.2.2.2.1, h_0.2.2.2.2.1, h_0.2.2.2.2.2.1, ())) fun y3 =>
 bif (!(decide (y3.1.1 = (0 : Int)))) then
 some ((y3.1.1, ()), (()))
 else
 bif (decide (first_1 < (0 : Int))) then
 some (((5 : Int), ()), (()))
 else
 bif (decide ((255 : Int) < first_1)) then
 some (((5 : Int), ()), (()))
 else
 some (((0 : Int), ()), (()))
def ref17_begin_C (N : Nat) : Ctx := ⟨23, G_tys, [(169, ref02_Check_ctr N)], G_globs, G_ifs⟩
def ref17_begin_S0 : Spec := ⟨[.val T75, .val .i64, .val (.sl .u8)], []⟩
def ref17_begin_S1 : Spec := ⟨[.val .i64], []⟩
def ref17_begin_K (_N : Nat) : XE → GS → Option ref17_begin_R := retK 0 [6] [false] ref17_begin_S1
def ref17_begin_L : List Code := (bodyOf (some Tryd.f122))
theorem ref17_begin_b {E : Env} (N : Nat) (hb : Base Tryd.prog (ref17_begin_C N) E 0) : Blk Tryd.prog (ref17_begin_C N) E (List.range ref17_begin_S0.ks.length) ref17_begin_S0 (ref17_begin_L.drop 0) (fun y => ref17_begin N y.1.1 y.1.2.1 y.1.2.2.1) (ref17_begin_K N) :=
 Blk.chunkAt hb 11 (X := (ref17_begin_K N .normal)) (NxOk.end (by kernel_rfl)) rfl (fun x => by kernel_rfl)
def ref17_begin_ctr (N : Nat) : Ctr := ⟨ref17_begin_S0, ref17_begin_S1.un [false], 0, (fun y => ref17_begin N y.1.1 y.1.2.1 y.1.2.2.1)⟩
theorem ref17_begin_ctrs (N : Nat) : CtrsOk Tryd.prog (ref17_begin_C N) := ctrs_of (Γ := ref17_begin_C N) G_ifs_ok (by
 intro p hp
 simp only [ref17_begin_C, List.mem_cons, List.not_mem_nil, or_false] at hp
 rcases hp with rfl
 · exact ref02_Check_ok N)
theorem ref17_begin_ok (N : Nat) : Ctr.ok Tryd.prog G_globs 122 (ref17_begin_ctr N) :=
 ctr_fn (Γ := ref17_begin_C N) (rfit := ref17_begin_S1) (bs := [false]) (res := [6]) (by kernel_rfl) (tys_ok G_tys_ok) (ref17_begin_ctrs N) Tryd.func122 (by kernel_rfl) (by kernel_rfl) Tryd.ntmps122 (by kernel_rfl) (by kernel_rfl) (by kernel_rfl) (by kernel_rfl) (fun E hb => ref17_begin_b N hb)
/-! ipsecgate/ipsecgateref01.Put -/
abbrev ref01_Put_R : Type := ((Unit) × ((List UInt8) × Unit))
def ref01_Put_s3 (N : Nat) (v_1 : UInt64) (i_8 : Int) (out_7 : (List UInt8)) : Option (Lo ((UInt64 × Int × Unit) × ((List UInt8) × Unit)) ((Unit) × ((List UInt8) × Unit)) ref01_Put_R) :=
 bif (decide ((0 : Int) ≤ i_8)) then
 let x6 := shr64 v_1 (iu64 (w64 ((8 : Int) * i_8))).toNat
 bif room (out_7.length + ([x6.toUInt8] : List UInt8).length) 1 then
 some (.go ((v_1, (w64 (i_8 - (1 : Int))), ()), ((out_7 ++ ([x6.toUInt8] : List UInt8)), ())))
 else none
 else
 some (.br ((()), (out_7, ())))
def ref01_Put_4 (N : Nat) (out_7 : (List UInt8)) : Option ref01_Put_R :=
 some ((()), (out_7, ()))
def ref01_Put_2 (N : Nat) (v_1 : UInt64) (i_8 : Int) (out_7 : (List UInt8)) : Option ref01_Put_R :=
 loopK N (fun y => ref01_Put_s3 N y.1.1 y.1.2.1 y.2.1) (fun (e : ((Unit) × ((List UInt8) × Unit))) => ref01_Put_4 N e.2.1) ((v_1, i_8, ()), (out_7, ()))
def ref01_Put_1 (N : Nat) (v_1 : UInt64) (width_2 : Int) (t_16 : Bool) (out_7 : (List UInt8)) : Option ref01_Put_R :=
 bif t_16 then
 some ((()), (out_7, ()))
 else
 ref01_Put_2 N v_1 (w64 (width_2 - (1 : Int))) out_7
def ref01_Put (N : Nat) (b_0 : (List UInt8)) (v_1 : UInt64) (width_2 : Int) : Option ref01_Put_R :=
 bif room (0 + b_0.length) 1 then
 bif (decide (width_2 < (1 : Int))) then
 ref01_Put_1 N v_1 width_2 true b_0
 else
 ref01_Put_1 N v_1 width_2 (decide ((8 : Int) < width_2)) b_0
 else none
def ref01_Put_C (N : Nat) : Ctx := ⟨34, G_tys, [], G_globs, G_ifs⟩
def ref01_Put_S0 : Spec := ⟨[.val .u64, .row 0, .val .i64], [(.row 5 .u8, .pos 1)]⟩
def ref01_Put_S1 : Spec := ⟨[.row 0], [(.row 5 .u8, .pos 0)]⟩
def ref01_Put_S2 : Spec := ⟨[.val .u64, .val .i64, .row 0, .val .bool], [(.row 5 .u8, .pos 2)]⟩
def ref01_Put_S3 : Spec := ⟨[.val (.sl .u8), .val .u64, .val .i64], []⟩
def ref01_Put_K (_N : Nat) : XE → GS → Option ref01_Put_R := retK 0 [6] [false] ref01_Put_S1
def ref01_Put_L : List Code := (bodyOf (some Tryd.f113))
def ref01_Put_L3 : List Code := (loopOf (ref01_Put_L[5]?))
def ref01_Put_K3 (N : Nat) : XE → GS → Option (Lo ((UInt64 × Int × Unit) × ((List UInt8) × Unit)) ((Unit) × ((List UInt8) × Unit)) ref01_Put_R) := roundK (some 0) (fit 0 [1, 7, 8] ref01_Put_S0) (fit 0 [7] ref01_Put_S1) (ref01_Put_K N)
theorem ref01_Put_s3_b {E : Env} (N : Nat) (hb : Base Tryd.prog (ref01_Put_C N) E 0) : Blk Tryd.prog (ref01_Put_C N) E [1, 7, 8] ref01_Put_S0 (ref01_Put_L3.drop 0) (fun y => ref01_Put_s3 N y.1.1 y.1.2.1 y.2.1) (ref01_Put_K3 N) :=
 Blk.chunkAt hb 4 (X := (ref01_Put_K3 N .normal)) (NxOk.end (by kernel_rfl)) rfl (fun x => by kernel_rfl)
theorem ref01_Put_4_b {E : Env} (N : Nat) (hb : Base Tryd.prog (ref01_Put_C N) E 0) : Blk Tryd.prog (ref01_Put_C N) E [7] ref01_Put_S1 (ref01_Put_L.drop 6) (fun y => ref01_Put_4 N y.2.1) (ref01_Put_K N) :=
 Blk.chunkAt hb 2 (X := (ref01_Put_K N .normal)) (NxOk.end (by kernel_rfl)) rfl (fun x => by kernel_rfl)
theorem ref01_Put_2_b {E : Env} (N : Nat) (hb : Base Tryd.prog (ref01_Put_C N) E 0) : Blk Tryd.prog (ref01_Put_C N) E [1, 7, 8] ref01_Put_S0 (ref01_Put_L.drop 5) (fun y => ref01_Put_2 N y.1.1 y.1.2.1 y.2.1) (ref01_Put_K N) :=
 Blk.loopAt (Nf := N) (hns := [1, 7, 8]) (ans := [7]) (hc := ref01_Put_S0) (ac := ref01_Put_S1) (bid := 0) (step := (fun y => ref01_Put_s3 N y.1.1 y.1.2.1 y.2.1)) (J := (fun e => (goK 0 [7] ref01_Put_S1 (fun y => ref01_Put_4 N y.2.1)) (ref01_Put_S1.st [7] e))) hb (by kernel_rfl) (Blk.into (X := (goK 0 [7] ref01_Put_S1 (fun y => ref01_Put_4 N y.2.1))) (NxOk.go hb (ref01_Put_4_b N hb)) (fun x => by kernel_rfl)) (ref01_Put_s3_b N hb) (fun x => by kernel_rfl)
theorem ref01_Put_1_b {E : Env} (N : Nat) (hb : Base Tryd.prog (ref01_Put_C N) E 0) : Blk Tryd.prog (ref01_Put_C N) E [1, 2, 7, 16] ref01_Put_S2 (ref01_Put_L.drop 3) (fun y => ref01_Put_1 N y.1.1 y.1.2.1 y.1.2.2.1 y.2.1) (ref01_Put_K N) :=
 Blk.chunkAt hb 2 (X := (goK 0 [1, 7, 8] ref01_Put_S0 (fun y => ref01_Put_2 N y.1.1 y.1.2.1 y.2.1))) (NxOk.go hb (ref01_Put_2_b N hb)) rfl (fun x => by kernel_rfl)
theorem ref01_Put_b {E : Env} (N : Nat) (hb : Base Tryd.prog (ref01_Put_C N) E 0) : Blk Tryd.prog (ref01_Put_C N) E (List.range ref01_Put_S3.ks.length) ref01_Put_S3 (ref01_Put_L.drop 0) (fun y => ref01_Put N y.1.1 y.1.2.1 y.1.2.2.1) (ref01_Put_K N) :=
 Blk.chunkAt hb 3 (X := (goK 0 [1, 2, 7, 16] ref01_Put_S2 (fun y => ref01_Put_1 N y.1.1 y.1.2.1 y.1.2.2.1 y.2.1))) (NxOk.go hb (ref01_Put_1_b N hb)) rfl (fun x => by kernel_rfl)
def ref01_Put_ctr (N : Nat) : Ctr := ⟨ref01_Put_S3, ref01_Put_S1.un [false], 0, (fun y => ref01_Put N y.1.1 y.1.2.1 y.1.2.2.1)⟩
theorem ref01_Put_ctrs (N : Nat) : CtrsOk Tryd.prog (ref01_Put_C N) := ctrs_nil G_ifs_ok rfl
theorem ref01_Put_ok (N : Nat) : Ctr.ok Tryd.prog G_globs 113 (ref01_Put_ctr N) :=
 ctr_fn (Γ := ref01_Put_C N) (rfit := ref01_Put_S1) (bs := [false]) (res := [6]) (by kernel_rfl) (tys_ok G_tys_ok) (ref01_Put_ctrs N) Tryd.func113 (by kernel_rfl) (by kernel_rfl) Tryd.ntmps113 (by kernel_rfl) (by kernel_rfl) (by kernel_rfl) (by kernel_rfl) (fun E hb => ref01_Put_b N hb)
/-! ipsecgate/ipsecgateref02.Build -/
abbrev ref02_Build_R : Type := ((Int × Unit) × ((List UInt8) × Unit))
def ref02_Build_1 (N : Nat) (length_1 : Int) (t_18 : Bool) (h_2 : D75) : Option ref02_Build_R :=
 bif t_18 then
 some (((5 : Int), ()), (([] : List UInt8), ()))
 else
 Option.bind (ref01_Put N ([] : List UInt8) h_2.1 (8 : Int)) fun y4 =>
 Option.bind (ref01_Put N y4.2.1 h_2.2.1 (8 : Int)) fun y5 =>
 let x7 := iu8 h_2.2.2.2.1
 let x8 := iu8 h_2.2.2.2.2.1
 bif room (y5.2.1.length + ([(iu8 h_2.2.2.1), (32 : UInt8), x7, x8] : List UInt8).length) 1 then
 Option.bind (ref01_Put N (y5.2.1 ++ ([(iu8 h_2.2.2.1), (32 : UInt8), x7, x8] : List UInt8)) h_2.2.2.2.2.2.1.toUInt64 (4 : Int)) fun y10 =>
 Option.bind (ref01_Put N y10.2.1 (iu64 length_1) (4 : Int)) fun y12 =>
 some (((0 : Int), ()), (y12.2.1, ()))
 else none
def ref02_Build (N : Nat) (h_0 : D75) (length_1 : Int) : Option ref02_Build_R :=
 Option.bind (ref02_Check N h_0) fun y1 =>
 bif (!(decide (y1.1.1 = (0 : Int)))) then
 some ((y1.1.1, ()), (([] : List UInt8), ()))
 else
 bif (decide (length_1 < (28 : Int))) then
 ref02_Build_1 N length_1 true h_0
 else
 ref02_Build_1 N length_1 (decide ((8192 : Int) < length_1)) h_0
def ref02_Build_C (N : Nat) : Ctx := ⟨47, G_tys, [(169, ref02_Check_ctr N), (113, ref01_Put_ctr N)], G_globs, G_ifs⟩
def ref02_Build_S0 : Spec := ⟨[.val .i64, .ref 0 T75, .val .bool], [(.box 76 T75, .pos 1)]⟩
def ref02_Build_S1 : Spec := ⟨[.val T75, .val .i64], []⟩
def ref02_Build_S2 : Spec := ⟨[.row 0, .val .i64], [(.row 5 .u8, .pos 0)]⟩
def ref02_Build_K (_N : Nat) : XE → GS → Option ref02_Build_R := retK 0 [4, 5] [false, false] ref02_Build_S2
def ref02_Build_L : List Code := (bodyOf (some Tryd.f125))
theorem ref02_Build_1_b {E : Env} (N : Nat) (hb : Base Tryd.prog (ref02_Build_C N) E 0) : Blk Tryd.prog (ref02_Build_C N) E [1, 2, 18] ref02_Build_S0 (ref02_Build_L.drop 5) (fun y => ref02_Build_1 N y.1.1 y.1.2.1 y.2.1) (ref02_Build_K N) :=
 Blk.chunkAt hb 7 (X := (ref02_Build_K N .normal)) (NxOk.end (by kernel_rfl)) rfl (fun x => by kernel_rfl)
theorem ref02_Build_b {E : Env} (N : Nat) (hb : Base Tryd.prog (ref02_Build_C N) E 0) : Blk Tryd.prog (ref02_Build_C N) E (List.range ref02_Build_S1.ks.length) ref02_Build_S1 (ref02_Build_L.drop 0) (fun y => ref02_Build N y.1.1 y.1.2.1) (ref02_Build_K N) :=
 Blk.chunkAt hb 5 (X := (goK 0 [1, 2, 18] ref02_Build_S0 (fun y => ref02_Build_1 N y.1.1 y.1.2.1 y.2.1))) (NxOk.go hb (ref02_Build_1_b N hb)) rfl (fun x => by kernel_rfl)
def ref02_Build_ctr (N : Nat) : Ctr := ⟨ref02_Build_S1, ref02_Build_S2.un [false, false], 0, (fun y => ref02_Build N y.1.1 y.1.2.1)⟩
theorem ref02_Build_ctrs (N : Nat) : CtrsOk Tryd.prog (ref02_Build_C N) := ctrs_of (Γ := ref02_Build_C N) G_ifs_ok (by
 intro p hp
 simp only [ref02_Build_C, List.mem_cons, List.not_mem_nil, or_false] at hp
 rcases hp with rfl | rfl
 · exact ref02_Check_ok N
 · exact ref01_Put_ok N)
theorem ref02_Build_ok (N : Nat) : Ctr.ok Tryd.prog G_globs 125 (ref02_Build_ctr N) :=
 ctr_fn (Γ := ref02_Build_C N) (rfit := ref02_Build_S2) (bs := [false, false]) (res := [4, 5]) (by kernel_rfl) (tys_ok G_tys_ok) (ref02_Build_ctrs N) Tryd.func125 (by kernel_rfl) (by kernel_rfl) Tryd.ntmps125 (by kernel_rfl) (by kernel_rfl) (by kernel_rfl) (by kernel_rfl) (fun E hb => ref02_Build_b N hb)
/-! ipsecgate/ipsecgateref17.nonce -/
abbrev ref17_nonce_R : Type := ((Unit) × ((List UInt8) × Unit))
def ref17_nonce (N : Nat) (key_0 : (List UInt8)) (iv_1 : UInt64) : Option ref17_nonce_R :=
 bif decide (0 ≤ (32 : Int)) && decide ((32 : Int) ≤ (key_0.length : Int)) && decide ((key_0.length : Int) ≤ (key_0.length : Int)) && true then
 let x1 := cut key_0 32 key_0.length
 bif room (0 + x1.length) 1 then
 Option.bind (ref01_Put N x1 iv_1 (8 : Int)) fun y2 =>
 some ((()), (y2.2.1, ()))
 else none
 else none
def ref17_nonce_C (N : Nat) : Ctx := ⟨10, G_tys, [(113, ref01_Put_ctr N)], G_globs, G_ifs⟩
def ref17_nonce_S0 : Spec := ⟨[.val (.sl .u8), .val .u64], []⟩
def ref17_nonce_S1 : Spec := ⟨[.row 0], [(.row 5 .u8, .pos 0)]⟩
def ref17_nonce_K (_N : Nat) : XE → GS → Option ref17_nonce_R := retK 0 [4] [false] ref17_nonce_S1
def ref17_nonce_L : List Code := (bodyOf (some Tryd.f170))
theorem ref17_nonce_b {E : Env} (N : Nat) (hb : Base Tryd.prog (ref17_nonce_C N) E 0) : Blk Tryd.prog (ref17_nonce_C N) E (List.range ref17_nonce_S0.ks.length) ref17_nonce_S0 (ref17_nonce_L.drop 0) (fun y => ref17_nonce N y.1.1 y.1.2.1) (ref17_nonce_K N) :=
 Blk.chunkAt hb 3 (X := (ref17_nonce_K N .normal)) (NxOk.end (by kernel_rfl)) rfl (fun x => by kernel_rfl)
def ref17_nonce_ctr (N : Nat) : Ctr := ⟨ref17_nonce_S0, ref17_nonce_S1.un [false], 0, (fun y => ref17_nonce N y.1.1 y.1.2.1)⟩
theorem ref17_nonce_ctrs (N : Nat) : CtrsOk Tryd.prog (ref17_nonce_C N) := ctrs_of (Γ := ref17_nonce_C N) G_ifs_ok (by
 intro p hp
 simp only [ref17_nonce_C, List.mem_cons, List.not_mem_nil, or_false] at hp
 rcases hp with rfl
 · exact ref01_Put_ok N)
theorem ref17_nonce_ok (N : Nat) : Ctr.ok Tryd.prog G_globs 170 (ref17_nonce_ctr N) :=
 ctr_fn (Γ := ref17_nonce_C N) (rfit := ref17_nonce_S1) (bs := [false]) (res := [4]) (by kernel_rfl) (tys_ok G_tys_ok) (ref17_nonce_ctrs N) Tryd.func170 (by kernel_rfl) (by kernel_rfl) Tryd.ntmps170 (by kernel_rfl) (by kernel_rfl) (by kernel_rfl) (by kernel_rfl) (fun E hb => ref17_nonce_b N hb)
/-! ipsecgate/ipsecgateref10.word -/
abbrev ref10_word_R : Type := ((UInt32 × Unit) × (Unit))
def ref10_word (N : Nat) (b_0 : (List UInt8)) (i_1 : Int) : Option ref10_word_R :=
 let x1 := w64 ((4 : Int) * i_1)
 bif inR x1 b_0.length then
 let x4 := w64 ((w64 ((4 : Int) * i_1)) + (1 : Int))
 bif inR x4 b_0.length then
 let x9 := w64 ((w64 ((4 : Int) * i_1)) + (2 : Int))
 bif inR x9 b_0.length then
 let x14 := w64 ((w64 ((4 : Int) * i_1)) + (3 : Int))
 bif inR x14 b_0.length then
 some ((((((b_0.getD x1.toNat (0 : UInt8)).toUInt32 ||| (shl32 (b_0.getD x4.toNat (0 : UInt8)).toUInt32 8)) ||| (shl32 (b_0.getD x9.toNat (0 : UInt8)).toUInt32 16)) ||| (shl32 (b_0.getD x14.toNat (0 : UInt8)).toUInt32 24)), ()), (()))
 else none
 else none
 else none
 else none
def ref10_word_C (N : Nat) : Ctx := ⟨38, G_tys, [], G_globs, G_ifs⟩
def ref10_word_S0 : Spec := ⟨[.val (.sl .u8), .val .i64], []⟩
def ref10_word_S1 : Spec := ⟨[.val .u32], []⟩
def ref10_word_K (_N : Nat) : XE → GS → Option ref10_word_R := retK 0 [4] [false] ref10_word_S1
def ref10_word_L : List Code := (bodyOf (some Tryd.f217))
theorem ref10_word_b {E : Env} (N : Nat) (hb : Base Tryd.prog (ref10_word_C N) E 0) : Blk Tryd.prog (ref10_word_C N) E (List.range ref10_word_S0.ks.length) ref10_word_S0 (ref10_word_L.drop 0) (fun y => ref10_word N y.1.1 y.1.2.1) (ref10_word_K N) :=
 Blk.chunkAt hb 3 (X := (ref10_word_K N .normal)) (NxOk.end (by kernel_rfl)) rfl (fun x => by kernel_rfl)
def ref10_word_ctr (N : Nat) : Ctr := ⟨ref10_word_S0, ref10_word_S1.un [false], 0, (fun y => ref10_word N y.1.1 y.1.2.1)⟩
theorem ref10_word_ctrs (N : Nat) : CtrsOk Tryd.prog (ref10_word_C N) := ctrs_nil G_ifs_ok rfl
theorem ref10_word_ok (N : Nat) : Ctr.ok Tryd.prog G_globs 217 (ref10_word_ctr N) :=
 ctr_fn (Γ := ref10_word_C N) (rfit := ref10_word_S1) (bs := [false]) (res := [4]) (by kernel_rfl) (tys_ok G_tys_ok) (ref10_word_ctrs N) Tryd.func217 (by kernel_rfl) (by kernel_rfl) Tryd.ntmps217 (by kernel_rfl) (by kernel_rfl) (by kernel_rfl) (by kernel_rfl) (fun E hb => ref10_word_b N hb)
/-! ipsecgate/ipsecgateref10.turn -/
abbrev ref10_turn_R : Type := ((UInt32 × Unit) × (Unit))
def ref10_turn (N : Nat) (x_0 : UInt32) (n_1 : UInt64) : Option ref10_turn_R :=
 some ((((shl32 x_0 n_1.toNat) ||| (shr32 x_0 ((32 : UInt64) - n_1).toNat)), ()), (()))
def ref10_turn_C (N : Nat) : Ctx := ⟨13, G_tys, [], G_globs, G_ifs⟩
def ref10_turn_S0 : Spec := ⟨[.val .u32, .val .u64], []⟩
def ref10_turn_S1 : Spec := ⟨[.val .u32], []⟩
def ref10_turn_K (_N : Nat) : XE → GS → Option ref10_turn_R := retK 0 [4] [false] ref10_turn_S1
def ref10_turn_L : List Code := (bodyOf (some Tryd.f229))
theorem ref10_turn_b {E : Env} (N : Nat) (hb : Base Tryd.prog (ref10_turn_C N) E 0) : Blk Tryd.prog (ref10_turn_C N) E (List.range ref10_turn_S0.ks.length) ref10_turn_S0 (ref10_turn_L.drop 0) (fun y => ref10_turn N y.1.1 y.1.2.1) (ref10_turn_K N) :=
 Blk.chunkAt hb 3 (X := (ref10_turn_K N .normal)) (NxOk.end (by kernel_rfl)) rfl (fun x => by kernel_rfl)
def ref10_turn_ctr (N : Nat) : Ctr := ⟨ref10_turn_S0, ref10_turn_S1.un [false], 0, (fun y => ref10_turn N y.1.1 y.1.2.1)⟩
theorem ref10_turn_ctrs (N : Nat) : CtrsOk Tryd.prog (ref10_turn_C N) := ctrs_nil G_ifs_ok rfl
theorem ref10_turn_ok (N : Nat) : Ctr.ok Tryd.prog G_globs 229 (ref10_turn_ctr N) :=
 ctr_fn (Γ := ref10_turn_C N) (rfit := ref10_turn_S1) (bs := [false]) (res := [4]) (by kernel_rfl) (tys_ok G_tys_ok) (ref10_turn_ctrs N) Tryd.func229 (by kernel_rfl) (by kernel_rfl) Tryd.ntmps229 (by kernel_rfl) (by kernel_rfl) (by kernel_rfl) (by kernel_rfl) (fun E hb => ref10_turn_b N hb)
/-! ipsecgate/ipsecgateref10.Quarter -/
abbrev ref10_Quarter_R : Type := ((UInt32 × UInt32 × UInt32 × UInt32 × Unit) × (Unit))
def ref10_Quarter (N : Nat) (a_0 : UInt32) (b_1 : UInt32) (c_2 : UInt32) (d_3 : UInt32) : Option ref10_Quarter_R :=
 Option.bind (ref10_turn N (d_3 ^^^ (a_0 + b_1)) (16 : UInt64)) fun y3 =>
 Option.bind (ref10_turn N (b_1 ^^^ (c_2 + y3.1.1)) (12 : UInt64)) fun y6 =>
 Option.bind (ref10_turn N (y3.1.1 ^^^ ((a_0 + b_1) + y6.1.1)) (8 : UInt64)) fun y9 =>
 Option.bind (ref10_turn N (y6.1.1 ^^^ ((c_2 + y3.1.1) + y9.1.1)) (7 : UInt64)) fun y12 =>
 some ((((a_0 + b_1) + y6.1.1), y12.1.1, ((c_2 + y3.1.1) + y9.1.1), y9.1.1, ()), (()))
def ref10_Quarter_C (N : Nat) : Ctx := ⟨44, G_tys, [(229, ref10_turn_ctr N)], G_globs, G_ifs⟩
def ref10_Quarter_S0 : Spec := ⟨[.val .u32, .val .u32, .val .u32, .val .u32], []⟩
def ref10_Quarter_K (_N : Nat) : XE → GS → Option ref10_Quarter_R := retK 0 [8, 9, 10, 11] [false, false, false, false] ref10_Quarter_S0
def ref10_Quarter_L : List Code := (bodyOf (some Tryd.f228))
theorem ref10_Quarter_b {E : Env} (N : Nat) (hb : Base Tryd.prog (ref10_Quarter_C N) E 0) : Blk Tryd.prog (ref10_Quarter_C N) E (List.range ref10_Quarter_S0.ks.length) ref10_Quarter_S0 (ref10_Quarter_L.drop 0) (fun y => ref10_Quarter N y.1.1 y.1.2.1 y.1.2.2.1 y.1.2.2.2.1) (ref10_Quarter_K N) :=
 Blk.chunkAt hb 11 (X := (ref10_Quarter_K N .normal)) (NxOk.end (by kernel_rfl)) rfl (fun x => by kernel_rfl)
def ref10_Quarter_ctr (N : Nat) : Ctr := ⟨ref10_Quarter_S0, ref10_Quarter_S0.un [false, false, false, false], 0, (fun y => ref10_Quarter N y.1.1 y.1.2.1 y.1.2.2.1 y.1.2.2.2.1)⟩
theorem ref10_Quarter_ctrs (N : Nat) : CtrsOk Tryd.prog (ref10_Quarter_C N) := ctrs_of (Γ := ref10_Quarter_C N) G_ifs_ok (by
 intro p hp
 simp only [ref10_Quarter_C, List.mem_cons, List.not_mem_nil, or_false] at hp
 rcases hp with rfl
 · exact ref10_turn_ok N)
theorem ref10_Quarter_ok (N : Nat) : Ctr.ok Tryd.prog G_globs 228 (ref10_Quarter_ctr N) :=
 ctr_fn (Γ := ref10_Quarter_C N) (rfit := ref10_Quarter_S0) (bs := [false, false, false, false]) (res := [8, 9, 10, 11]) (by kernel_rfl) (tys_ok G_tys_ok) (ref10_Quarter_ctrs N) Tryd.func228 (by kernel_rfl) (by kernel_rfl) Tryd.ntmps228 (by kernel_rfl) (by kernel_rfl) (by kernel_rfl) (by kernel_rfl) (fun E hb => ref10_Quarter_b N hb)
/-! ipsecgate/ipsecgateref10.mix -/
abbrev ref10_mix_R : Type := (((List UInt32) × Unit) × (Unit))
def ref10_mix (N : Nat) (s_0 : (List UInt32)) (i_1 : Int) (j_2 : Int) (k_3 : Int) (l_4 : Int) : Option ref10_mix_R :=
 bif inR i_1 16 then
 bif inR j_2 16 then
 bif inR k_3 16 then
 bif inR l_4 16 then
 Option.bind (ref10_Quarter N (s_0.getD i_1.toNat (0 : UInt32)) (s_0.getD j_2.toNat (0 : UInt32)) (s_0.getD k_3.toNat (0 : UInt32)) (s_0.getD l_4.toNat (0 : UInt32))) fun y5 =>
 bif inR i_1 16 then
 bif inR j_2 16 then
 bif inR k_3 16 then
 bif inR l_4 16 then
 some ((((((s_0.set i_1.toNat y5.1.1).set j_2.toNat y5.1.2.1).set k_3.toNat y5.1.2.2.1).set l_4.toNat y5.1.2.2.2.1), ()), (()))
 else none
 else none
 else none
 else none
 else none
 else none
 else none
 else none
def ref10_mix_C (N : Nat) : Ctx := ⟨46, G_tys, [(228, ref10_Quarter_ctr N)], G_globs, G_ifs⟩
def ref10_mix_S0 : Spec := ⟨[.val (.arr 16 .u32), .val .i64, .val .i64, .val .i64, .val .i64], []⟩
def ref10_mix_S1 : Spec := ⟨[.fp (.arr 16 .u32)], []⟩
def ref10_mix_K (_N : Nat) : XE → GS → Option ref10_mix_R := retK 0 [10] [true] ref10_mix_S1
def ref10_mix_L : List Code := (bodyOf (some Tryd.f218))
theorem ref10_mix_b {E : Env} (N : Nat) (hb : Base Tryd.prog (ref10_mix_C N) E 0) : Blk Tryd.prog (ref10_mix_C N) E (List.range ref10_mix_S0.ks.length) ref10_mix_S0 (ref10_mix_L.drop 0) (fun y => ref10_mix N y.1.1 y.1.2.1 y.1.2.2.1 y.1.2.2.2.1 y.1.2.2.2.2.1) (ref10_mix_K N) :=
 Blk.chunkAt hb 8 (X := (ref10_mix_K N .normal)) (NxOk.end (by kernel_rfl)) rfl (fun x => by kernel_rfl)
def ref10_mix_ctr (N : Nat) : Ctr := ⟨ref10_mix_S0, ref10_mix_S1.un [true], 0, (fun y => ref10_mix N y.1.1 y.1.2.1 y.1.2.2.1 y.1.2.2.2.1 y.1.2.2.2.2.1)⟩
theorem ref10_mix_ctrs (N : Nat) : CtrsOk Tryd.prog (ref10_mix_C N) := ctrs_of (Γ := ref10_mix_C N) G_ifs_ok (by
 intro p hp
 simp only [ref10_mix_C, List.mem_cons, List.not_mem_nil, or_false] at hp
 rcases hp with rfl
 · exact ref10_Quarter_ok N)
theorem ref10_mix_ok (N : Nat) : Ctr.ok Tryd.prog G_globs 218 (ref10_mix_ctr N) :=
 ctr_fn (Γ := ref10_mix_C N) (rfit := ref10_mix_S1) (bs := [true]) (res := [10]) (by kernel_rfl) (tys_ok G_tys_ok) (ref10_mix_ctrs N) Tryd.func218 (by kernel_rfl) (by kernel_rfl) Tryd.ntmps218 (by kernel_rfl) (by kernel_rfl) (by kernel_rfl) (by kernel_rfl) (fun E hb => ref10_mix_b N hb)
/-! ipsecgate/ipsecgateref10.Block -/
abbrev ref10_Block_R : Type := ((Bool × Unit) × ((List UInt8) × Unit))
def ref10_Block_s3 (N : Nat) (key_0 : (List UInt8)) (counter_1 : UInt32) (nonce_2 : (List UInt8)) (i_9 : Int) (first_8 : (List UInt32)) : Option (Lo (((List UInt8) × UInt32 × (List UInt8) × Int × Unit) × ((List UInt32) × Unit)) ((UInt32 × (List UInt8) × Unit) × ((List UInt32) × Unit)) ref10_Block_R) :=
 bif (decide (i_9 < (8 : Int))) then
 let x5 := w64 ((4 : Int) + i_9)
 Option.bind (ref10_word N key_0 i_9) fun y6 =>
 bif inR x5 16 then
 some (.go ((key_0, counter_1, nonce_2, (w64 (i_9 + (1 : Int))), ()), ((first_8.set x5.toNat y6.1.1), ())))
 else none
 else
 some (.br ((counter_1, nonce_2, ()), (first_8, ())))
def ref10_Block_s6 (N : Nat) (nonce_2 : (List UInt8)) (i_10 : Int) (first_8 : (List UInt32)) : Option (Lo (((List UInt8) × Int × Unit) × ((List UInt32) × Unit)) ((Unit) × ((List UInt32) × Unit)) ref10_Block_R) :=
 bif (decide (i_10 < (3 : Int))) then
 let x11 := w64 ((13 : Int) + i_10)
 Option.bind (ref10_word N nonce_2 i_10) fun y12 =>
 bif inR x11 16 then
 some (.go ((nonce_2, (w64 (i_10 + (1 : Int))), ()), ((first_8.set x11.toNat y12.1.1), ())))
 else none
 else
 some (.br ((()), (first_8, ())))
def ref10_Block_s14 (N : Nat) (round_12 : Int) (i_13 : Int) (first_8 : (List UInt32)) (s_11 : (List UInt32)) : Option (Lo ((Int × Int × Unit) × ((List UInt32) × (List UInt32) × Unit)) ((Int × Unit) × ((List UInt32) × (List UInt32) × Unit)) (Lo ((Int × Unit) × ((List UInt32) × (List UInt32) × Unit)) ((Unit) × ((List UInt32) × (List UInt32) × Unit)) ref10_Block_R)) :=
 bif (decide (i_13 < (4 : Int))) then
 Option.bind (ref10_mix N s_11 i_13 (w64 ((4 : Int) + i_13)) (w64 ((8 : Int) + i_13)) (w64 ((12 : Int) + i_13))) fun y20 =>
 some (.go ((round_12, (w64 (i_13 + (1 : Int))), ()), (first_8, y20.1.1, ())))
 else
 some (.br ((round_12, ()), (first_8, s_11, ())))
def ref10_Block_s17 (N : Nat) (round_12 : Int) (i_14 : Int) (first_8 : (List UInt32)) (s_11 : (List UInt32)) : Option (Lo ((Int × Int × Unit) × ((List UInt32) × (List UInt32) × Unit)) ((Int × Unit) × ((List UInt32) × (List UInt32) × Unit)) (Lo ((Int × Unit) × ((List UInt32) × (List UInt32) × Unit)) ((Unit) × ((List UInt32) × (List UInt32) × Unit)) ref10_Block_R)) :=
 bif (decide (i_14 < (4 : Int))) then
 Option.bind (ref10_mix N s_11 i_14 (w64 ((4 : Int) + ((w64 (i_14 + (1 : Int))).tmod (4 : Int)))) (w64 ((8 : Int) + ((w64 (i_14 + (2 : Int))).tmod (4 : Int)))) (w64 ((12 : Int) + ((w64 (i_14 + (3 : Int))).tmod (4 : Int))))) fun y32 =>
 some (.go ((round_12, (w64 (i_14 + (1 : Int))), ()), (first_8, y32.1.1, ())))
 else
 some (.br ((round_12, ()), (first_8, s_11, ())))
def ref10_Block_18 (N : Nat) (round_12 : Int) (first_8 : (List UInt32)) (s_11 : (List UInt32)) : Option (Lo ((Int × Unit) × ((List UInt32) × (List UInt32) × Unit)) ((Unit) × ((List UInt32) × (List UInt32) × Unit)) ref10_Block_R) :=
 some (.go (((w64 (round_12 + (1 : Int))), ()), (first_8, s_11, ())))
def ref10_Block_16 (N : Nat) (round_12 : Int) (i_14 : Int) (first_8 : (List UInt32)) (s_11 : (List UInt32)) : Option (Lo ((Int × Unit) × ((List UInt32) × (List UInt32) × Unit)) ((Unit) × ((List UInt32) × (List UInt32) × Unit)) ref10_Block_R) :=
 loopK N (fun y => ref10_Block_s17 N y.1.1 y.1.2.1 y.2.1 y.2.2.1) (fun (e : ((Int × Unit) × ((List UInt32) × (List UInt32) × Unit))) => ref10_Block_18 N e.1.1 e.2.1 e.2.2.1) ((round_12, i_14, ()), (first_8, s_11, ()))
def ref10_Block_15 (N : Nat) (round_12 : Int) (first_8 : (List UInt32)) (s_11 : (List UInt32)) : Option (Lo ((Int × Unit) × ((List UInt32) × (List UInt32) × Unit)) ((Unit) × ((List UInt32) × (List UInt32) × Unit)) ref10_Block_R) :=
 ref10_Block_16 N round_12 (0 : Int) first_8 s_11
def ref10_Block_13 (N : Nat) (round_12 : Int) (i_13 : Int) (first_8 : (List UInt32)) (s_11 : (List UInt32)) : Option (Lo ((Int × Unit) × ((List UInt32) × (List UInt32) × Unit)) ((Unit) × ((List UInt32) × (List UInt32) × Unit)) ref10_Block_R) :=
 loopK N (fun y => ref10_Block_s14 N y.1.1 y.1.2.1 y.2.1 y.2.2.1) (fun (e : ((Int × Unit) × ((List UInt32) × (List UInt32) × Unit))) => ref10_Block_15 N e.1.1 e.2.1 e.2.2.1) ((round_12, i_13, ()), (first_8, s_11, ()))
def ref10_Block_12 (N : Nat) (round_12 : Int) (first_8 : (List UInt32)) (s_11 : (List UInt32)) : Option (Lo ((Int × Unit) × ((List UInt32) × (List UInt32) × Unit)) ((Unit) × ((List UInt32) × (List UInt32) × Unit)) ref10_Block_R) :=
 ref10_Block_13 N round_12 (0 : Int) first_8 s_11
def ref10_Block_10 (N : Nat) (round_12 : Int) (first_8 : (List UInt32)) (s_11 : (List UInt32)) : Option (Lo ((Int × Unit) × ((List UInt32) × (List UInt32) × Unit)) ((Unit) × ((List UInt32) × (List UInt32) × Unit)) ref10_Block_R) :=
 ref10_Block_12 N round_12 first_8 s_11
def ref10_Block_s9 (N : Nat) (round_12 : Int) (first_8 : (List UInt32)) (s_11 : (List UInt32)) : Option (Lo ((Int × Unit) × ((List UInt32) × (List UInt32) × Unit)) ((Unit) × ((List UInt32) × (List UInt32) × Unit)) ref10_Block_R) :=
 bif (decide (round_12 < (10 : Int))) then
 ref10_Block_10 N round_12 first_8 s_11
 else
 some (.br ((()), (first_8, s_11, ())))
def ref10_Block_s21 (N : Nat) (i_16 : Int) (first_8 : (List UInt32)) (s_11 : (List UInt32)) (out_15 : (List UInt8)) : Option (Lo ((Int × Unit) × ((List UInt32) × (List UInt32) × (List UInt8) × Unit)) ((Unit) × ((List UInt8) × Unit)) ref10_Block_R) :=
 bif (decide (i_16 < (16 : Int))) then
 bif inR i_16 16 then
 let x36 := (s_11.getD i_16.toNat (0 : UInt32))
 bif inR i_16 16 then
 let x37 := (first_8.getD i_16.toNat (0 : UInt32))
 bif room (out_15.length + ([(x36 + x37).toUInt8, (shr32 (x36 + x37) 8).toUInt8, (shr32 (x36 + x37) 16).toUInt8, (shr32 (x36 + x37) 24).toUInt8] : List UInt8).length) 1 then
 some (.go (((w64 (i_16 + (1 : Int))), ()), (first_8, s_11, (out_15 ++ ([(x36 + x37).toUInt8, (shr32 (x36 + x37) 8).toUInt8, (shr32 (x36 + x37) 16).toUInt8, (shr32 (x36 + x37) 24).toUInt8] : List UInt8)), ())))
 else none
 else none
 else none
 else
 some (.br ((()), (out_15, ())))
def ref10_Block_22 (N : Nat) (out_15 : (List UInt8)) : Option ref10_Block_R :=
 some ((true, ()), (out_15, ()))
def ref10_Block_20 (N : Nat) (i_16 : Int) (first_8 : (List UInt32)) (s_11 : (List UInt32)) (out_15 : (List UInt8)) : Option ref10_Block_R :=
 loopK N (fun y => ref10_Block_s21 N y.1.1 y.2.1 y.2.2.1 y.2.2.2.1) (fun (e : ((Unit) × ((List UInt8) × Unit))) => ref10_Block_22 N e.2.1) ((i_16, ()), (first_8, s_11, out_15, ()))
def ref10_Block_19 (N : Nat) (first_8 : (List UInt32)) (s_11 : (List UInt32)) : Option ref10_Block_R :=
 ref10_Block_20 N (0 : Int) first_8 s_11 ([] : List UInt8)
def ref10_Block_8 (N : Nat) (round_12 : Int) (first_8 : (List UInt32)) (s_11 : (List UInt32)) : Option ref10_Block_R :=
 loopK N (fun y => ref10_Block_s9 N y.1.1 y.2.1 y.2.2.1) (fun (e : ((Unit) × ((List UInt32) × (List UInt32) × Unit))) => ref10_Block_19 N e.2.1 e.2.2.1) ((round_12, ()), (first_8, s_11, ()))
def ref10_Block_7 (N : Nat) (first_8 : (List UInt32)) : Option ref10_Block_R :=
 ref10_Block_8 N (0 : Int) first_8 first_8
def ref10_Block_5 (N : Nat) (nonce_2 : (List UInt8)) (i_10 : Int) (first_8 : (List UInt32)) : Option ref10_Block_R :=
 loopK N (fun y => ref10_Block_s6 N y.1.1 y.1.2.1 y.2.1) (fun (e : ((Unit) × ((List UInt32) × Unit))) => ref10_Block_7 N e.2.1) ((nonce_2, i_10, ()), (first_8, ()))
def ref10_Block_4 (N : Nat) (counter_1 : UInt32) (nonce_2 : (List UInt8)) (first_8 : (List UInt32)) : Option ref10_Block_R :=
 ref10_Block_5 N nonce_2 (0 : Int) (first_8.set 12 counter_1)
def ref10_Block_2 (N : Nat) (key_0 : (List UInt8)) (counter_1 : UInt32) (nonce_2 : (List UInt8)) (i_9 : Int) (first_8 : (List UInt32)) : Option ref10_Block_R :=
 loopK N (fun y => ref10_Block_s3 N y.1.1 y.1.2.1 y.1.2.2.1 y.1.2.2.2.1 y.2.1) (fun (e : ((UInt32 × (List UInt8) × Unit) × ((List UInt32) × Unit))) => ref10_Block_4 N e.1.1 e.1.2.1 e.2.1) ((key_0, counter_1, nonce_2, i_9, ()), (first_8, ()))
def ref10_Block_1 (N : Nat) (key_0 : (List UInt8)) (counter_1 : UInt32) (nonce_2 : (List UInt8)) (t_25 : Bool) : Option ref10_Block_R :=
 bif t_25 then
 some ((false, ()), (([] : List UInt8), ()))
 else
 ref10_Block_2 N key_0 counter_1 nonce_2 (0 : Int) (((((List.replicate 16 (0 : UInt32)).set 0 (1634760805 : UInt32)).set 1 (857760878 : UInt32)).set 2 (2036477234 : UInt32)).set 3 (1797285236 : UInt32))
def ref10_Block (N : Nat) (key_0 : (List UInt8)) (counter_1 : UInt32) (nonce_2 : (List UInt8)) : Option ref10_Block_R :=
 bif (!(decide ((key_0.length : Int) = (32 : Int)))) then
 ref10_Block_1 N key_0 counter_1 nonce_2 true
 else
 ref10_Block_1 N key_0 counter_1 nonce_2 (!(decide ((nonce_2.length : Int) = (12 : Int))))
def ref10_Block_C (N : Nat) : Ctx := ⟨112, G_tys, [(217, ref10_word_ctr N), (218, ref10_mix_ctr N)], G_globs, G_ifs⟩
def ref10_Block_S0 : Spec := ⟨[.val (.sl .u8), .val .u32, .val (.sl .u8), .ref 0 (.arr 16 .u32), .val .i64], [(.box 184 (.arr 16 .u32), .pos 3)]⟩
def ref10_Block_S1 : Spec := ⟨[.val (.sl .u8), .ref 0 (.arr 16 .u32), .val .i64], [(.box 184 (.arr 16 .u32), .pos 1)]⟩
def ref10_Block_S2 : Spec := ⟨[.ref 0 (.arr 16 .u32), .ref 1 (.arr 16 .u32), .val .i64, .val .i64], [(.box 184 (.arr 16 .u32), .pos 0), (.box 184 (.arr 16 .u32), .pos 1)]⟩
def ref10_Block_S3 : Spec := ⟨[.ref 0 (.arr 16 .u32), .ref 1 (.arr 16 .u32), .val .i64], [(.box 184 (.arr 16 .u32), .pos 0), (.box 184 (.arr 16 .u32), .pos 1)]⟩
def ref10_Block_S4 : Spec := ⟨[.ref 0 (.arr 16 .u32), .ref 1 (.arr 16 .u32), .row 2, .val .i64], [(.box 184 (.arr 16 .u32), .pos 0), (.box 184 (.arr 16 .u32), .pos 1), (.row 5 .u8, .pos 2)]⟩
def ref10_Block_S5 : Spec := ⟨[.row 0], [(.row 5 .u8, .pos 0)]⟩
def ref10_Block_S6 : Spec := ⟨[.ref 0 (.arr 16 .u32), .ref 1 (.arr 16 .u32)], [(.box 184 (.arr 16 .u32), .pos 0), (.box 184 (.arr 16 .u32), .pos 1)]⟩
def ref10_Block_S7 : Spec := ⟨[.ref 0 (.arr 16 .u32)], [(.box 184 (.arr 16 .u32), .pos 0)]⟩
def ref10_Block_S8 : Spec := ⟨[.val .u32, .val (.sl .u8), .ref 0 (.arr 16 .u32)], [(.box 184 (.arr 16 .u32), .pos 2)]⟩
def ref10_Block_S9 : Spec := ⟨[.val (.sl .u8), .val .u32, .val (.sl .u8), .val .bool], []⟩
def ref10_Block_S10 : Spec := ⟨[.val (.sl .u8), .val .u32, .val (.sl .u8)], []⟩
def ref10_Block_S11 : Spec := ⟨[.row 0, .val .bool], [(.row 5 .u8, .pos 0)]⟩
def ref10_Block_K (_N : Nat) : XE → GS → Option ref10_Block_R := retK 0 [6, 7] [false, false] ref10_Block_S11
def ref10_Block_L : List Code := (bodyOf (some Tryd.f194))
def ref10_Block_L3 : List Code := (loopOf (ref10_Block_L[5]?))
def ref10_Block_L6 : List Code := (loopOf (ref10_Block_L[8]?))
def ref10_Block_L9 : List Code := (loopOf (ref10_Block_L[11]?))
def ref10_Block_L11b : List Code := (blockOf (ref10_Block_L9[2]?))
def ref10_Block_L14 : List Code := (loopOf (ref10_Block_L11b[1]?))
def ref10_Block_L17 : List Code := (loopOf (ref10_Block_L11b[3]?))
def ref10_Block_L21 : List Code := (loopOf (ref10_Block_L[14]?))
def ref10_Block_K3 (N : Nat) : XE → GS → Option (Lo (((List UInt8) × UInt32 × (List UInt8) × Int × Unit) × ((List UInt32) × Unit)) ((UInt32 × (List UInt8) × Unit) × ((List UInt32) × Unit)) ref10_Block_R) := roundK (some 0) (fit 0 [0, 1, 2, 8, 9] ref10_Block_S0) (fit 0 [1, 2, 8] ref10_Block_S8) (ref10_Block_K N)
def ref10_Block_K6 (N : Nat) : XE → GS → Option (Lo (((List UInt8) × Int × Unit) × ((List UInt32) × Unit)) ((Unit) × ((List UInt32) × Unit)) ref10_Block_R) := roundK (some 2) (fit 0 [2, 8, 10] ref10_Block_S1) (fit 0 [8] ref10_Block_S7) (ref10_Block_K N)
def ref10_Block_K9 (N : Nat) : XE → GS → Option (Lo ((Int × Unit) × ((List UInt32) × (List UInt32) × Unit)) ((Unit) × ((List UInt32) × (List UInt32) × Unit)) ref10_Block_R) := roundK (some 4) (fit 0 [8, 11, 12] ref10_Block_S3) (fit 0 [8, 11] ref10_Block_S6) (ref10_Block_K N)
def ref10_Block_K21 (N : Nat) : XE → GS → Option (Lo ((Int × Unit) × ((List UInt32) × (List UInt32) × (List UInt8) × Unit)) ((Unit) × ((List UInt8) × Unit)) ref10_Block_R) := roundK (some 10) (fit 0 [8, 11, 15, 16] ref10_Block_S4) (fit 0 [15] ref10_Block_S5) (ref10_Block_K N)
def ref10_Block_K11 (N : Nat) : XE → GS → Option (Lo ((Int × Unit) × ((List UInt32) × (List UInt32) × Unit)) ((Unit) × ((List UInt32) × (List UInt32) × Unit)) ref10_Block_R) := blockK 5 (goK 0 [8, 11, 12] ref10_Block_S3 (fun y => ref10_Block_18 N y.1.1 y.2.1 y.2.2.1)) (ref10_Block_K9 N)
def ref10_Block_K14 (N : Nat) : XE → GS → Option (Lo ((Int × Int × Unit) × ((List UInt32) × (List UInt32) × Unit)) ((Int × Unit) × ((List UInt32) × (List UInt32) × Unit)) (Lo ((Int × Unit) × ((List UInt32) × (List UInt32) × Unit)) ((Unit) × ((List UInt32) × (List UInt32) × Unit)) ref10_Block_R)) := roundK (some 6) (fit 0 [8, 11, 12, 13] ref10_Block_S2) (fit 0 [8, 11, 12] ref10_Block_S3) (ref10_Block_K11 N)
def ref10_Block_K17 (N : Nat) : XE → GS → Option (Lo ((Int × Int × Unit) × ((List UInt32) × (List UInt32) × Unit)) ((Int × Unit) × ((List UInt32) × (List UInt32) × Unit)) (Lo ((Int × Unit) × ((List UInt32) × (List UInt32) × Unit)) ((Unit) × ((List UInt32) × (List UInt32) × Unit)) ref10_Block_R)) := roundK (some 8) (fit 0 [8, 11, 12, 14] ref10_Block_S2) (fit 0 [8, 11, 12] ref10_Block_S3) (ref10_Block_K11 N)
theorem ref10_Block_s3_b {E : Env} (N : Nat) (hb : Base Tryd.prog (ref10_Block_C N) E 0) : Blk Tryd.prog (ref10_Block_C N) E [0, 1, 2, 8, 9] ref10_Block_S0 (ref10_Block_L3.drop 0) (fun y => ref10_Block_s3 N y.1.1 y.1.2.1 y.1.2.2.1 y.1.2.2.2.1 y.2.1) (ref10_Block_K3 N) :=
 Blk.chunkAt hb 4 (X := (ref10_Block_K3 N .normal)) (NxOk.end (by kernel_rfl)) rfl (fun x => by kernel_rfl)
theorem ref10_Block_s6_b {E : Env} (N : Nat) (hb : Base Tryd.prog (ref10_Block_C N) E 0) : Blk Tryd.prog (ref10_Block_C N) E [2, 8, 10] ref10_Block_S1 (ref10_Block_L6.drop 0) (fun y => ref10_Block_s6 N y.1.1 y.1.2.1 y.2.1) (ref10_Block_K6 N) :=
 Blk.chunkAt hb 4 (X := (ref10_Block_K6 N .normal)) (NxOk.end (by kernel_rfl)) rfl (fun x => by kernel_rfl)
theorem ref10_Block_s14_b {E : Env} (N : Nat) (hb : Base Tryd.prog (ref10_Block_C N) E 0) : Blk Tryd.prog (ref10_Block_C N) E [8, 11, 12, 13] ref10_Block_S2 (ref10_Block_L14.drop 0) (fun y => ref10_Block_s14 N y.1.1 y.1.2.1 y.2.1 y.2.2.1) (ref10_Block_K14 N) :=
 Blk.chunkAt hb 4 (X := (ref10_Block_K14 N .normal)) (NxOk.end (by kernel_rfl)) rfl (fun x => by kernel_rfl)
theorem ref10_Block_s17_b {E : Env} (N : Nat) (hb : Base Tryd.prog (ref10_Block_C N) E 0) : Blk Tryd.prog (ref10_Block_C N) E [8, 11, 12, 14] ref10_Block_S2 (ref10_Block_L17.drop 0) (fun y => ref10_Block_s17 N y.1.1 y.1.2.1 y.2.1 y.2.2.1) (ref10_Block_K17 N) :=
 Blk.chunkAt hb 4 (X := (ref10_Block_K17 N .normal)) (NxOk.end (by kernel_rfl)) rfl (fun x => by kernel_rfl)
theorem ref10_Block_18_b {E : Env} (N : Nat) (hb : Base Tryd.prog (ref10_Block_C N) E 0) : Blk Tryd.prog (ref10_Block_C N) E [8, 11, 12] ref10_Block_S3 (ref10_Block_L9.drop 3) (fun y => ref10_Block_18 N y.1.1 y.2.1 y.2.2.1) (ref10_Block_K9 N) :=
 Blk.chunkAt hb 1 (X := (ref10_Block_K9 N .normal)) (NxOk.end (by kernel_rfl)) rfl (fun x => by kernel_rfl)
theorem ref10_Block_16_b {E : Env} (N : Nat) (hb : Base Tryd.prog (ref10_Block_C N) E 0) : Blk Tryd.prog (ref10_Block_C N) E [8, 11, 12, 14] ref10_Block_S2 (ref10_Block_L11b.drop 3) (fun y => ref10_Block_16 N y.1.1 y.1.2.1 y.2.1 y.2.2.1) (ref10_Block_K11 N) :=
 Blk.loopAt (Nf := N) (hns := [8, 11, 12, 14]) (ans := [8, 11, 12]) (hc := ref10_Block_S2) (ac := ref10_Block_S3) (bid := 8) (step := (fun y => ref10_Block_s17 N y.1.1 y.1.2.1 y.2.1 y.2.2.1)) (J := (fun e => (ref10_Block_K11 N .normal) (ref10_Block_S3.st [8, 11, 12] e))) hb (by kernel_rfl) (Blk.into (X := (ref10_Block_K11 N .normal)) (NxOk.end (by kernel_rfl)) (fun x => by kernel_rfl)) (ref10_Block_s17_b N hb) (fun x => by kernel_rfl)
theorem ref10_Block_15_b {E : Env} (N : Nat) (hb : Base Tryd.prog (ref10_Block_C N) E 0) : Blk Tryd.prog (ref10_Block_C N) E [8, 11, 12] ref10_Block_S3 (ref10_Block_L11b.drop 2) (fun y => ref10_Block_15 N y.1.1 y.2.1 y.2.2.1) (ref10_Block_K11 N) :=
 Blk.chunkAt hb 1 (X := (goK 0 [8, 11, 12, 14] ref10_Block_S2 (fun y => ref10_Block_16 N y.1.1 y.1.2.1 y.2.1 y.2.2.1))) (NxOk.go hb (ref10_Block_16_b N hb)) rfl (fun x => by kernel_rfl)
theorem ref10_Block_13_b {E : Env} (N : Nat) (hb : Base Tryd.prog (ref10_Block_C N) E 0) : Blk Tryd.prog (ref10_Block_C N) E [8, 11, 12, 13] ref10_Block_S2 (ref10_Block_L11b.drop 1) (fun y => ref10_Block_13 N y.1.1 y.1.2.1 y.2.1 y.2.2.1) (ref10_Block_K11 N) :=
 Blk.loopAt (Nf := N) (hns := [8, 11, 12, 13]) (ans := [8, 11, 12]) (hc := ref10_Block_S2) (ac := ref10_Block_S3) (bid := 6) (step := (fun y => ref10_Block_s14 N y.1.1 y.1.2.1 y.2.1 y.2.2.1)) (J := (fun e => (goK 0 [8, 11, 12] ref10_Block_S3 (fun y => ref10_Block_15 N y.1.1 y.2.1 y.2.2.1)) (ref10_Block_S3.st [8, 11, 12] e))) hb (by kernel_rfl) (Blk.into (X := (goK 0 [8, 11, 12] ref10_Block_S3 (fun y => ref10_Block_15 N y.1.1 y.2.1 y.2.2.1))) (NxOk.go hb (ref10_Block_15_b N hb)) (fun x => by kernel_rfl)) (ref10_Block_s14_b N hb) (fun x => by kernel_rfl)
theorem ref10_Block_12_b {E : Env} (N : Nat) (hb : Base Tryd.prog (ref10_Block_C N) E 0) : Blk Tryd.prog (ref10_Block_C N) E [8, 11, 12] ref10_Block_S3 (ref10_Block_L11b.drop 0) (fun y => ref10_Block_12 N y.1.1 y.2.1 y.2.2.1) (ref10_Block_K11 N) :=
 Blk.chunkAt hb 1 (X := (goK 0 [8, 11, 12, 13] ref10_Block_S2 (fun y => ref10_Block_13 N y.1.1 y.1.2.1 y.2.1 y.2.2.1))) (NxOk.go hb (ref10_Block_13_b N hb)) rfl (fun x => by kernel_rfl)
theorem ref10_Block_10_b {E : Env} (N : Nat) (hb : Base Tryd.prog (ref10_Block_C N) E 0) : Blk Tryd.prog (ref10_Block_C N) E [8, 11, 12] ref10_Block_S3 (ref10_Block_L9.drop 2) (fun y => ref10_Block_10 N y.1.1 y.2.1 y.2.2.1) (ref10_Block_K9 N) :=
 Blk.blockAt (bid := 5) (X := (goK 0 [8, 11, 12] ref10_Block_S3 (fun y => ref10_Block_18 N y.1.1 y.2.1 y.2.2.1))) (Y := (goK 0 [8, 11, 12] ref10_Block_S3 (fun y => ref10_Block_12 N y.1.1 y.2.1 y.2.2.1))) (by kernel_rfl) (NxOk.go hb (ref10_Block_18_b N hb)) (NxOk.go hb (ref10_Block_12_b N hb)) (fun x => by kernel_rfl)
theorem ref10_Block_s9_b {E : Env} (N : Nat) (hb : Base Tryd.prog (ref10_Block_C N) E 0) : Blk Tryd.prog (ref10_Block_C N) E [8, 11, 12] ref10_Block_S3 (ref10_Block_L9.drop 0) (fun y => ref10_Block_s9 N y.1.1 y.2.1 y.2.2.1) (ref10_Block_K9 N) :=
 Blk.chunkAt hb 2 (X := (goK 0 [8, 11, 12] ref10_Block_S3 (fun y => ref10_Block_10 N y.1.1 y.2.1 y.2.2.1))) (NxOk.go hb (ref10_Block_10_b N hb)) rfl (fun x => by kernel_rfl)
theorem ref10_Block_s21_b {E : Env} (N : Nat) (hb : Base Tryd.prog (ref10_Block_C N) E 0) : Blk Tryd.prog (ref10_Block_C N) E [8, 11, 15, 16] ref10_Block_S4 (ref10_Block_L21.drop 0) (fun y => ref10_Block_s21 N y.1.1 y.2.1 y.2.2.1 y.2.2.2.1) (ref10_Block_K21 N) :=
 Blk.chunkAt hb 4 (X := (ref10_Block_K21 N .normal)) (NxOk.end (by kernel_rfl)) rfl (fun x => by kernel_rfl)
theorem ref10_Block_22_b {E : Env} (N : Nat) (hb : Base Tryd.prog (ref10_Block_C N) E 0) : Blk Tryd.prog (ref10_Block_C N) E [15] ref10_Block_S5 (ref10_Block_L.drop 15) (fun y => ref10_Block_22 N y.2.1) (ref10_Block_K N) :=
 Blk.chunkAt hb 2 (X := (ref10_Block_K N .normal)) (NxOk.end (by kernel_rfl)) rfl (fun x => by kernel_rfl)
theorem ref10_Block_20_b {E : Env} (N : Nat) (hb : Base Tryd.prog (ref10_Block_C N) E 0) : Blk Tryd.prog (ref10_Block_C N) E [8, 11, 15, 16] ref10_Block_S4 (ref10_Block_L.drop 14) (fun y => ref10_Block_20 N y.1.1 y.2.1 y.2.2.1 y.2.2.2.1) (ref10_Block_K N) :=
 Blk.loopAt (Nf := N) (hns := [8, 11, 15, 16]) (ans := [15]) (hc := ref10_Block_S4) (ac := ref10_Block_S5) (bid := 10) (step := (fun y => ref10_Block_s21 N y.1.1 y.2.1 y.2.2.1 y.2.2.2.1)) (J := (fun e => (goK 0 [15] ref10_Block_S5 (fun y => ref10_Block_22 N y.2.1)) (ref10_Block_S5.st [15] e))) hb (by kernel_rfl) (Blk.into (X := (goK 0 [15] ref10_Block_S5 (fun y => ref10_Block_22 N y.2.1))) (NxOk.go hb (ref10_Block_22_b N hb)) (fun x => by kernel_rfl)) (ref10_Block_s21_b N hb) (fun x => by kernel_rfl)
theorem ref10_Block_19_b {E : Env} (N : Nat) (hb : Base Tryd.prog (ref10_Block_C N) E 0) : Blk Tryd.prog (ref10_Block_C N) E [8, 11] ref10_Block_S6 (ref10_Block_L.drop 12) (fun y => ref10_Block_19 N y.2.1 y.2.2.1) (ref10_Block_K N) :=
 Blk.chunkAt hb 2 (X := (goK 0 [8, 11, 15, 16] ref10_Block_S4 (fun y => ref10_Block_20 N y.1.1 y.2.1 y.2.2.1 y.2.2.2.1))) (NxOk.go hb (ref10_Block_20_b N hb)) rfl (fun x => by kernel_rfl)
theorem ref10_Block_8_b {E : Env} (N : Nat) (hb : Base Tryd.prog (ref10_Block_C N) E 0) : Blk Tryd.prog (ref10_Block_C N) E [8, 11, 12] ref10_Block_S3 (ref10_Block_L.drop 11) (fun y => ref10_Block_8 N y.1.1 y.2.1 y.2.2.1) (ref10_Block_K N) :=
 Blk.loopAt (Nf := N) (hns := [8, 11, 12]) (ans := [8, 11]) (hc := ref10_Block_S3) (ac := ref10_Block_S6) (bid := 4) (step := (fun y => ref10_Block_s9 N y.1.1 y.2.1 y.2.2.1)) (J := (fun e => (goK 0 [8, 11] ref10_Block_S6 (fun y => ref10_Block_19 N y.2.1 y.2.2.1)) (ref10_Block_S6.st [8, 11] e))) hb (by kernel_rfl) (Blk.into (X := (goK 0 [8, 11] ref10_Block_S6 (fun y => ref10_Block_19 N y.2.1 y.2.2.1))) (NxOk.go hb (ref10_Block_19_b N hb)) (fun x => by kernel_rfl)) (ref10_Block_s9_b N hb) (fun x => by kernel_rfl)
theorem ref10_Block_7_b {E : Env} (N : Nat) (hb : Base Tryd.prog (ref10_Block_C N) E 0) : Blk Tryd.prog (ref10_Block_C N) E [8] ref10_Block_S7 (ref10_Block_L.drop 9) (fun y => ref10_Block_7 N y.2.1) (ref10_Block_K N) :=
 Blk.chunkAt hb 2 (X := (goK 0 [8, 11, 12] ref10_Block_S3 (fun y => ref10_Block_8 N y.1.1 y.2.1 y.2.2.1))) (NxOk.go hb (ref10_Block_8_b N hb)) rfl (fun x => by kernel_rfl)
theorem ref10_Block_5_b {E : Env} (N : Nat) (hb : Base Tryd.prog (ref10_Block_C N) E 0) : Blk Tryd.prog (ref10_Block_C N) E [2, 8, 10] ref10_Block_S1 (ref10_Block_L.drop 8) (fun y => ref10_Block_5 N y.1.1 y.1.2.1 y.2.1) (ref10_Block_K N) :=
 Blk.loopAt (Nf := N) (hns := [2, 8, 10]) (ans := [8]) (hc := ref10_Block_S1) (ac := ref10_Block_S7) (bid := 2) (step := (fun y => ref10_Block_s6 N y.1.1 y.1.2.1 y.2.1)) (J := (fun e => (goK 0 [8] ref10_Block_S7 (fun y => ref10_Block_7 N y.2.1)) (ref10_Block_S7.st [8] e))) hb (by kernel_rfl) (Blk.into (X := (goK 0 [8] ref10_Block_S7 (fun y => ref10_Block_7 N y.2.1))) (NxOk.go hb (ref10_Block_7_b N hb)) (fun x => by kernel_rfl)) (ref10_Block_s6_b N hb) (fun x => by kernel_rfl)
theorem ref10_Block_4_b {E : Env} (N : Nat) (hb : Base Tryd.prog (ref10_Block_C N) E 0) : Blk Tryd.prog (ref10_Block_C N) E [1, 2, 8] ref10_Block_S8 (ref10_Block_L.drop 6) (fun y => ref10_Block_4 N y.1.1 y.1.2.1 y.2.1) (ref10_Block_K N) :=
 Blk.chunkAt hb 2 (X := (goK 0 [2, 8, 10] ref10_Block_S1 (fun y => ref10_Block_5 N y.1.1 y.1.2.1 y.2.1))) (NxOk.go hb (ref10_Block_5_b N hb)) rfl (fun x => by kernel_rfl)
theorem ref10_Block_2_b {E : Env} (N : Nat) (hb : Base Tryd.prog (ref10_Block_C N) E 0) : Blk Tryd.prog (ref10_Block_C N) E [0, 1, 2, 8, 9] ref10_Block_S0 (ref10_Block_L.drop 5) (fun y => ref10_Block_2 N y.1.1 y.1.2.1 y.1.2.2.1 y.1.2.2.2.1 y.2.1) (ref10_Block_K N) :=
 Blk.loopAt (Nf := N) (hns := [0, 1, 2, 8, 9]) (ans := [1, 2, 8]) (hc := ref10_Block_S0) (ac := ref10_Block_S8) (bid := 0) (step := (fun y => ref10_Block_s3 N y.1.1 y.1.2.1 y.1.2.2.1 y.1.2.2.2.1 y.2.1)) (J := (fun e => (goK 0 [1, 2, 8] ref10_Block_S8 (fun y => ref10_Block_4 N y.1.1 y.1.2.1 y.2.1)) (ref10_Block_S8.st [1, 2, 8] e))) hb (by kernel_rfl) (Blk.into (X := (goK 0 [1, 2, 8] ref10_Block_S8 (fun y => ref10_Block_4 N y.1.1 y.1.2.1 y.2.1))) (NxOk.go hb (ref10_Block_4_b N hb)) (fun x => by kernel_rfl)) (ref10_Block_s3_b N hb) (fun x => by kernel_rfl)
theorem ref10_Block_1_b {E : Env} (N : Nat) (hb : Base Tryd.prog (ref10_Block_C N) E 0) : Blk Tryd.prog (ref10_Block_C N) E [0, 1, 2, 25] ref10_Block_S9 (ref10_Block_L.drop 2) (fun y => ref10_Block_1 N y.1.1 y.1.2.1 y.1.2.2.1 y.1.2.2.2.1) (ref10_Block_K N) :=
 Blk.chunkAt hb 3 (X := (goK 0 [0, 1, 2, 8, 9] ref10_Block_S0 (fun y => ref10_Block_2 N y.1.1 y.1.2.1 y.1.2.2.1 y.1.2.2.2.1 y.2.1))) (NxOk.go hb (ref10_Block_2_b N hb)) rfl (fun x => by kernel_rfl)
theorem ref10_Block_b {E : Env} (N : Nat) (hb : Base Tryd.prog (ref10_Block_C N) E 0) : Blk Tryd.prog (ref10_Block_C N) E (List.range ref10_Block_S10.ks.length) ref10_Block_S10 (ref10_Block_L.drop 0) (fun y => ref10_Block N y.1.1 y.1.2.1 y.1.2.2.1) (ref10_Block_K N) :=
 Blk.chunkAt hb 2 (X := (goK 0 [0, 1, 2, 25] ref10_Block_S9 (fun y => ref10_Block_1 N y.1.1 y.1.2.1 y.1.2.2.1 y.1.2.2.2.1))) (NxOk.go hb (ref10_Block_1_b N hb)) rfl (fun x => by kernel_rfl)
def ref10_Block_ctr (N : Nat) : Ctr := ⟨ref10_Block_S10, ref10_Block_S11.un [false, false], 0, (fun y => ref10_Block N y.1.1 y.1.2.1 y.1.2.2.1)⟩
theorem ref10_Block_ctrs (N : Nat) : CtrsOk Tryd.prog (ref10_Block_C N) := ctrs_of (Γ := ref10_Block_C N) G_ifs_ok (by
 intro p hp
 simp only [ref10_Block_C, List.mem_cons, List.not_mem_nil, or_false] at hp
 rcases hp with rfl | rfl
 · exact ref10_word_ok N
 · exact ref10_mix_ok N)
theorem ref10_Block_ok (N : Nat) : Ctr.ok Tryd.prog G_globs 194 (ref10_Block_ctr N) :=
 ctr_fn (Γ := ref10_Block_C N) (rfit := ref10_Block_S11) (bs := [false, false]) (res := [6, 7]) (by kernel_rfl) (tys_ok G_tys_ok) (ref10_Block_ctrs N) Tryd.func194 (by kernel_rfl) (by kernel_rfl) Tryd.ntmps194 (by kernel_rfl) (by kernel_rfl) (by kernel_rfl) (by kernel_rfl) (fun E hb => ref10_Block_b N hb)
/-! ipsecgate/ipsecgateref10.Xor -/
abbrev ref10_Xor_R : Type := ((Bool × Unit) × ((List UInt8) × Unit))
def ref10_Xor_9 (N : Nat) (key_0 : (List UInt8)) (counter_1 : UInt32) (nonce_2 : (List UInt8)) (b_3 : (List UInt8)) (at_11 : Int) (i_14 : Int) (t_52 : Bool) (out_10 : (List UInt8)) (s_12 : (List UInt8)) : Option (Lo (((List UInt8) × UInt32 × (List UInt8) × (List UInt8) × Int × Int × Unit) × ((List UInt8) × (List UInt8) × Unit)) (((List UInt8) × UInt32 × (List UInt8) × (List UInt8) × Int × Unit) × ((List UInt8) × Unit)) (Lo (((List UInt8) × UInt32 × (List UInt8) × (List UInt8) × Int × Unit) × ((List UInt8) × Unit)) ((Unit) × ((List UInt8) × Unit)) ref10_Xor_R)) :=
 bif t_52 then
 bif inR i_14 out_10.length then
 let x14 := w64 (i_14 - at_11)
 bif inR x14 s_12.length then
 bif inR i_14 out_10.length then
 some (.go ((key_0, counter_1, nonce_2, b_3, at_11, (w64 (i_14 + (1 : Int))), ()), ((out_10.set i_14.toNat ((out_10.getD i_14.toNat (0 : UInt8)) ^^^ (s_12.getD x14.toNat (0 : UInt8)))), s_12, ())))
 else none
 else none
 else none
 else
 some (.br ((key_0, counter_1, nonce_2, b_3, at_11, ()), (out_10, ())))
def ref10_Xor_s8 (N : Nat) (key_0 : (List UInt8)) (counter_1 : UInt32) (nonce_2 : (List UInt8)) (b_3 : (List UInt8)) (at_11 : Int) (i_14 : Int) (out_10 : (List UInt8)) (s_12 : (List UInt8)) : Option (Lo (((List UInt8) × UInt32 × (List UInt8) × (List UInt8) × Int × Int × Unit) × ((List UInt8) × (List UInt8) × Unit)) (((List UInt8) × UInt32 × (List UInt8) × (List UInt8) × Int × Unit) × ((List UInt8) × Unit)) (Lo (((List UInt8) × UInt32 × (List UInt8) × (List UInt8) × Int × Unit) × ((List UInt8) × Unit)) ((Unit) × ((List UInt8) × Unit)) ref10_Xor_R)) :=
 bif (decide (i_14 < (b_3.length : Int))) then
 ref10_Xor_9 N key_0 counter_1 nonce_2 b_3 at_11 i_14 (decide (i_14 < (w64 (at_11 + (64 : Int))))) out_10 s_12
 else
 ref10_Xor_9 N key_0 counter_1 nonce_2 b_3 at_11 i_14 false out_10 s_12
def ref10_Xor_10 (N : Nat) (key_0 : (List UInt8)) (counter_1 : UInt32) (nonce_2 : (List UInt8)) (b_3 : (List UInt8)) (at_11 : Int) (out_10 : (List UInt8)) : Option (Lo (((List UInt8) × UInt32 × (List UInt8) × (List UInt8) × Int × Unit) × ((List UInt8) × Unit)) ((Unit) × ((List UInt8) × Unit)) ref10_Xor_R) :=
 some (.go ((key_0, counter_1, nonce_2, b_3, (w64 (at_11 + (64 : Int))), ()), (out_10, ())))
def ref10_Xor_7 (N : Nat) (key_0 : (List UInt8)) (counter_1 : UInt32) (nonce_2 : (List UInt8)) (b_3 : (List UInt8)) (at_11 : Int) (i_14 : Int) (out_10 : (List UInt8)) (s_12 : (List UInt8)) : Option (Lo (((List UInt8) × UInt32 × (List UInt8) × (List UInt8) × Int × Unit) × ((List UInt8) × Unit)) ((Unit) × ((List UInt8) × Unit)) ref10_Xor_R) :=
 loopK N (fun y => ref10_Xor_s8 N y.1.1 y.1.2.1 y.1.2.2.1 y.1.2.2.2.1 y.1.2.2.2.2.1 y.1.2.2.2.2.2.1 y.2.1 y.2.2.1) (fun (e : (((List UInt8) × UInt32 × (List UInt8) × (List UInt8) × Int × Unit) × ((List UInt8) × Unit))) => ref10_Xor_10 N e.1.1 e.1.2.1 e.1.2.2.1 e.1.2.2.2.1 e.1.2.2.2.2.1 e.2.1) ((key_0, counter_1, nonce_2, b_3, at_11, i_14, ()), (out_10, s_12, ()))
def ref10_Xor_6 (N : Nat) (key_0 : (List UInt8)) (counter_1 : UInt32) (nonce_2 : (List UInt8)) (b_3 : (List UInt8)) (at_11 : Int) (out_10 : (List UInt8)) : Option (Lo (((List UInt8) × UInt32 × (List UInt8) × (List UInt8) × Int × Unit) × ((List UInt8) × Unit)) ((Unit) × ((List UInt8) × Unit)) ref10_Xor_R) :=
 Option.bind (ref10_Block N key_0 (counter_1 + (iu32 (w64 (at_11.tdiv (64 : Int))))) nonce_2) fun y8 =>
 ref10_Xor_7 N key_0 counter_1 nonce_2 b_3 at_11 at_11 out_10 y8.2.1
def ref10_Xor_4 (N : Nat) (key_0 : (List UInt8)) (counter_1 : UInt32) (nonce_2 : (List UInt8)) (b_3 : (List UInt8)) (at_11 : Int) (out_10 : (List UInt8)) : Option (Lo (((List UInt8) × UInt32 × (List UInt8) × (List UInt8) × Int × Unit) × ((List UInt8) × Unit)) ((Unit) × ((List UInt8) × Unit)) ref10_Xor_R) :=
 ref10_Xor_6 N key_0 counter_1 nonce_2 b_3 at_11 out_10
def ref10_Xor_s3 (N : Nat) (key_0 : (List UInt8)) (counter_1 : UInt32) (nonce_2 : (List UInt8)) (b_3 : (List UInt8)) (at_11 : Int) (out_10 : (List UInt8)) : Option (Lo (((List UInt8) × UInt32 × (List UInt8) × (List UInt8) × Int × Unit) × ((List UInt8) × Unit)) ((Unit) × ((List UInt8) × Unit)) ref10_Xor_R) :=
 bif (decide (at_11 < (b_3.length : Int))) then
 ref10_Xor_4 N key_0 counter_1 nonce_2 b_3 at_11 out_10
 else
 some (.br ((()), (out_10, ())))
def ref10_Xor_11 (N : Nat) (out_10 : (List UInt8)) : Option ref10_Xor_R :=
 some ((true, ()), (out_10, ()))
def ref10_Xor_2 (N : Nat) (key_0 : (List UInt8)) (counter_1 : UInt32) (nonce_2 : (List UInt8)) (b_3 : (List UInt8)) (at_11 : Int) (out_10 : (List UInt8)) : Option ref10_Xor_R :=
 loopK N (fun y => ref10_Xor_s3 N y.1.1 y.1.2.1 y.1.2.2.1 y.1.2.2.2.1 y.1.2.2.2.2.1 y.2.1) (fun (e : ((Unit) × ((List UInt8) × Unit))) => ref10_Xor_11 N e.2.1) ((key_0, counter_1, nonce_2, b_3, at_11, ()), (out_10, ()))
def ref10_Xor_1 (N : Nat) (key_0 : (List UInt8)) (counter_1 : UInt32) (nonce_2 : (List UInt8)) (b_3 : (List UInt8)) (t_22 : Bool) : Option ref10_Xor_R :=
 bif t_22 then
 some ((false, ()), (([] : List UInt8), ()))
 else
 bif room (0 + b_3.length) 1 then
 ref10_Xor_2 N key_0 counter_1 nonce_2 b_3 (0 : Int) b_3
 else none
def ref10_Xor (N : Nat) (key_0 : (List UInt8)) (counter_1 : UInt32) (nonce_2 : (List UInt8)) (b_3 : (List UInt8)) : Option ref10_Xor_R :=
 bif (!(decide ((key_0.length : Int) = (32 : Int)))) then
 ref10_Xor_1 N key_0 counter_1 nonce_2 b_3 true
 else
 ref10_Xor_1 N key_0 counter_1 nonce_2 b_3 (!(decide ((nonce_2.length : Int) = (12 : Int))))
def ref10_Xor_C (N : Nat) : Ctx := ⟨68, G_tys, [(194, ref10_Block_ctr N)], G_globs, G_ifs⟩
def ref10_Xor_S0 : Spec := ⟨[.val (.sl .u8), .val .u32, .val (.sl .u8), .val (.sl .u8), .row 0, .val .i64, .row 1, .val .i64, .val .bool], [(.row 5 .u8, .pos 4), (.row 5 .u8, .pos 6)]⟩
def ref10_Xor_S1 : Spec := ⟨[.val (.sl .u8), .val .u32, .val (.sl .u8), .val (.sl .u8), .row 0, .val .i64, .row 1, .val .i64], [(.row 5 .u8, .pos 4), (.row 5 .u8, .pos 6)]⟩
def ref10_Xor_S2 : Spec := ⟨[.val (.sl .u8), .val .u32, .val (.sl .u8), .val (.sl .u8), .row 0, .val .i64], [(.row 5 .u8, .pos 4)]⟩
def ref10_Xor_S3 : Spec := ⟨[.row 0], [(.row 5 .u8, .pos 0)]⟩
def ref10_Xor_S4 : Spec := ⟨[.val (.sl .u8), .val .u32, .val (.sl .u8), .val (.sl .u8), .val .bool], []⟩
def ref10_Xor_S5 : Spec := ⟨[.val (.sl .u8), .val .u32, .val (.sl .u8), .val (.sl .u8)], []⟩
def ref10_Xor_S6 : Spec := ⟨[.row 0, .val .bool], [(.row 5 .u8, .pos 0)]⟩
def ref10_Xor_K (_N : Nat) : XE → GS → Option ref10_Xor_R := retK 0 [8, 9] [false, false] ref10_Xor_S6
def ref10_Xor_L : List Code := (bodyOf (some Tryd.f159))
def ref10_Xor_L3 : List Code := (loopOf (ref10_Xor_L[5]?))
def ref10_Xor_L5b : List Code := (blockOf (ref10_Xor_L3[2]?))
def ref10_Xor_L8 : List Code := (loopOf (ref10_Xor_L5b[2]?))
def ref10_Xor_K3 (N : Nat) : XE → GS → Option (Lo (((List UInt8) × UInt32 × (List UInt8) × (List UInt8) × Int × Unit) × ((List UInt8) × Unit)) ((Unit) × ((List UInt8) × Unit)) ref10_Xor_R) := roundK (some 0) (fit 0 [0, 1, 2, 3, 10, 11] ref10_Xor_S2) (fit 0 [10] ref10_Xor_S3) (ref10_Xor_K N)
def ref10_Xor_K5 (N : Nat) : XE → GS → Option (Lo (((List UInt8) × UInt32 × (List UInt8) × (List UInt8) × Int × Unit) × ((List UInt8) × Unit)) ((Unit) × ((List UInt8) × Unit)) ref10_Xor_R) := blockK 1 (goK 0 [0, 1, 2, 3, 10, 11] ref10_Xor_S2 (fun y => ref10_Xor_10 N y.1.1 y.1.2.1 y.1.2.2.1 y.1.2.2.2.1 y.1.2.2.2.2.1 y.2.1)) (ref10_Xor_K3 N)
def ref10_Xor_K8 (N : Nat) : XE → GS → Option (Lo (((List UInt8) × UInt32 × (List UInt8) × (List UInt8) × Int × Int × Unit) × ((List UInt8) × (List UInt8) × Unit)) (((List UInt8) × UInt32 × (List UInt8) × (List UInt8) × Int × Unit) × ((List UInt8) × Unit)) (Lo (((List UInt8) × UInt32 × (List UInt8) × (List UInt8) × Int × Unit) × ((List UInt8) × Unit)) ((Unit) × ((List UInt8) × Unit)) ref10_Xor_R)) := roundK (some 2) (fit 0 [0, 1, 2, 3, 10, 11, 12, 14] ref10_Xor_S1) (fit 0 [0, 1, 2, 3, 10, 11] ref10_Xor_S2) (ref10_Xor_K5 N)
theorem ref10_Xor_9_b {E : Env} (N : Nat) (hb : Base Tryd.prog (ref10_Xor_C N) E 0) : Blk Tryd.prog (ref10_Xor_C N) E [0, 1, 2, 3, 10, 11, 12, 14, 52] ref10_Xor_S0 (ref10_Xor_L8.drop 1) (fun y => ref10_Xor_9 N y.1.1 y.1.2.1 y.1.2.2.1 y.1.2.2.2.1 y.1.2.2.2.2.1 y.1.2.2.2.2.2.1 y.1.2.2.2.2.2.2.1 y.2.1 y.2.2.1) (ref10_Xor_K8 N) :=
 Blk.chunkAt hb 3 (X := (ref10_Xor_K8 N .normal)) (NxOk.end (by kernel_rfl)) rfl (fun x => by kernel_rfl)
theorem ref10_Xor_s8_b {E : Env} (N : Nat) (hb : Base Tryd.prog (ref10_Xor_C N) E 0) : Blk Tryd.prog (ref10_Xor_C N) E [0, 1, 2, 3, 10, 11, 12, 14] ref10_Xor_S1 (ref10_Xor_L8.drop 0) (fun y => ref10_Xor_s8 N y.1.1 y.1.2.1 y.1.2.2.1 y.1.2.2.2.1 y.1.2.2.2.2.1 y.1.2.2.2.2.2.1 y.2.1 y.2.2.1) (ref10_Xor_K8 N) :=
 Blk.chunkAt hb 1 (X := (goK 0 [0, 1, 2, 3, 10, 11, 12, 14, 52] ref10_Xor_S0 (fun y => ref10_Xor_9 N y.1.1 y.1.2.1 y.1.2.2.1 y.1.2.2.2.1 y.1.2.2.2.2.1 y.1.2.2.2.2.2.1 y.1.2.2.2.2.2.2.1 y.2.1 y.2.2.1))) (NxOk.go hb (ref10_Xor_9_b N hb)) rfl (fun x => by kernel_rfl)
theorem ref10_Xor_10_b {E : Env} (N : Nat) (hb : Base Tryd.prog (ref10_Xor_C N) E 0) : Blk Tryd.prog (ref10_Xor_C N) E [0, 1, 2, 3, 10, 11] ref10_Xor_S2 (ref10_Xor_L3.drop 3) (fun y => ref10_Xor_10 N y.1.1 y.1.2.1 y.1.2.2.1 y.1.2.2.2.1 y.1.2.2.2.2.1 y.2.1) (ref10_Xor_K3 N) :=
 Blk.chunkAt hb 1 (X := (ref10_Xor_K3 N .normal)) (NxOk.end (by kernel_rfl)) rfl (fun x => by kernel_rfl)
theorem ref10_Xor_7_b {E : Env} (N : Nat) (hb : Base Tryd.prog (ref10_Xor_C N) E 0) : Blk Tryd.prog (ref10_Xor_C N) E [0, 1, 2, 3, 10, 11, 12, 14] ref10_Xor_S1 (ref10_Xor_L5b.drop 2) (fun y => ref10_Xor_7 N y.1.1 y.1.2.1 y.1.2.2.1 y.1.2.2.2.1 y.1.2.2.2.2.1 y.1.2.2.2.2.2.1 y.2.1 y.2.2.1) (ref10_Xor_K5 N) :=
 Blk.loopAt (Nf := N) (hns := [0, 1, 2, 3, 10, 11, 12, 14]) (ans := [0, 1, 2, 3, 10, 11]) (hc := ref10_Xor_S1) (ac := ref10_Xor_S2) (bid := 2) (step := (fun y => ref10_Xor_s8 N y.1.1 y.1.2.1 y.1.2.2.1 y.1.2.2.2.1 y.1.2.2.2.2.1 y.1.2.2.2.2.2.1 y.2.1 y.2.2.1)) (J := (fun e => (ref10_Xor_K5 N .normal) (ref10_Xor_S2.st [0, 1, 2, 3, 10, 11] e))) hb (by kernel_rfl) (Blk.into (X := (ref10_Xor_K5 N .normal)) (NxOk.end (by kernel_rfl)) (fun x => by kernel_rfl)) (ref10_Xor_s8_b N hb) (fun x => by kernel_rfl)
theorem ref10_Xor_6_b {E : Env} (N : Nat) (hb : Base Tryd.prog (ref10_Xor_C N) E 0) : Blk Tryd.prog (ref10_Xor_C N) E [0, 1, 2, 3, 10, 11] ref10_Xor_S2 (ref10_Xor_L5b.drop 0) (fun y => ref10_Xor_6 N y.1.1 y.1.2.1 y.1.2.2.1 y.1.2.2.2.1 y.1.2.2.2.2.1 y.2.1) (ref10_Xor_K5 N) :=
 Blk.chunkAt hb 2 (X := (goK 0 [0, 1, 2, 3, 10, 11, 12, 14] ref10_Xor_S1 (fun y => ref10_Xor_7 N y.1.1 y.1.2.1 y.1.2.2.1 y.1.2.2.2.1 y.1.2.2.2.2.1 y.1.2.2.2.2.2.1 y.2.1 y.2.2.1))) (NxOk.go hb (ref10_Xor_7_b N hb)) rfl (fun x => by kernel_rfl)
theorem ref10_Xor_4_b {E : Env} (N : Nat) (hb : Base Tryd.prog (ref10_Xor_C N) E 0) : Blk Tryd.prog (ref10_Xor_C N) E [0, 1, 2, 3, 10, 11] ref10_Xor_S2 (ref10_Xor_L3.drop 2) (fun y => ref10_Xor_4 N y.1.1 y.1.2.1 y.1.2.2.1 y.1.2.2.2.1 y.1.2.2.2.2.1 y.2.1) (ref10_Xor_K3 N) :=
 Blk.blockAt (bid := 1) (X := (goK 0 [0, 1, 2, 3, 10, 11] ref10_Xor_S2 (fun y => ref10_Xor_10 N y.1.1 y.1.2.1 y.1.2.2.1 y.1.2.2.2.1 y.1.2.2.2.2.1 y.2.1))) (Y := (goK 0 [0, 1, 2, 3, 10, 11] ref10_Xor_S2 (fun y => ref10_Xor_6 N y.1.1 y.1.2.1 y.1.2.2.1 y.1.2.2.2.1 y.1.2.2.2.2.1 y.2.1))) (by kernel_rfl) (NxOk.go hb (ref10_Xor_10_b N hb)) (NxOk.go hb (ref10_Xor_6_b N hb)) (fun x => by kernel_rfl)
theorem ref10_Xor_s3_b {E : Env} (N : Nat) (hb : Base Tryd.prog (ref10_Xor_C N) E 0) : Blk Tryd.prog (ref10_Xor_C N) E [0, 1, 2, 3, 10, 11] ref10_Xor_S2 (ref10_Xor_L3.drop 0) (fun y => ref10_Xor_s3 N y.1.1 y.1.2.1 y.1.2.2.1 y.1.2.2.2.1 y.1.2.2.2.2.1 y.2.1) (ref10_Xor_K3 N) :=
 Blk.chunkAt hb 2 (X := (goK 0 [0, 1, 2, 3, 10, 11] ref10_Xor_S2 (fun y => ref10_Xor_4 N y.1.1 y.1.2.1 y.1.2.2.1 y.1.2.2.2.1 y.1.2.2.2.2.1 y.2.1))) (NxOk.go hb (ref10_Xor_4_b N hb)) rfl (fun x => by kernel_rfl)
theorem ref10_Xor_11_b {E : Env} (N : Nat) (hb : Base Tryd.prog (ref10_Xor_C N) E 0) : Blk Tryd.prog (ref10_Xor_C N) E [10] ref10_Xor_S3 (ref10_Xor_L.drop 6) (fun y => ref10_Xor_11 N y.2.1) (ref10_Xor_K N) :=
 Blk.chunkAt hb 2 (X := (ref10_Xor_K N .normal)) (NxOk.end (by kernel_rfl)) rfl (fun x => by kernel_rfl)
theorem ref10_Xor_2_b {E : Env} (N : Nat) (hb : Base Tryd.prog (ref10_Xor_C N) E 0) : Blk Tryd.prog (ref10_Xor_C N) E [0, 1, 2, 3, 10, 11] ref10_Xor_S2 (ref10_Xor_L.drop 5) (fun y => ref10_Xor_2 N y.1.1 y.1.2.1 y.1.2.2.1 y.1.2.2.2.1 y.1.2.2.2.2.1 y.2.1) (ref10_Xor_K N) :=
 Blk.loopAt (Nf := N) (hns := [0, 1, 2, 3, 10, 11]) (ans := [10]) (hc := ref10_Xor_S2) (ac := ref10_Xor_S3) (bid := 0) (step := (fun y => ref10_Xor_s3 N y.1.1 y.1.2.1 y.1.2.2.1 y.1.2.2.2.1 y.1.2.2.2.2.1 y.2.1)) (J := (fun e => (goK 0 [10] ref10_Xor_S3 (fun y => ref10_Xor_11 N y.2.1)) (ref10_Xor_S3.st [10] e))) hb (by kernel_rfl) (Blk.into (X := (goK 0 [10] ref10_Xor_S3 (fun y => ref10_Xor_11 N y.2.1))) (NxOk.go hb (ref10_Xor_11_b N hb)) (fun x => by kernel_rfl)) (ref10_Xor_s3_b N hb) (fun x => by kernel_rfl)
theorem ref10_Xor_1_b {E : Env} (N : Nat) (hb : Base Tryd.prog (ref10_Xor_C N) E 0) : Blk Tryd.prog (ref10_Xor_C N) E [0, 1, 2, 3, 22] ref10_Xor_S4 (ref10_Xor_L.drop 2) (fun y => ref10_Xor_1 N y.1.1 y.1.2.1 y.1.2.2.1 y.1.2.2.2.1 y.1.2.2.2.2.1) (ref10_Xor_K N) :=
 Blk.chunkAt hb 3 (X := (goK 0 [0, 1, 2, 3, 10, 11] ref10_Xor_S2 (fun y => ref10_Xor_2 N y.1.1 y.1.2.1 y.1.2.2.1 y.1.2.2.2.1 y.1.2.2.2.2.1 y.2.1))) (NxOk.go hb (ref10_Xor_2_b N hb)) rfl (fun x => by kernel_rfl)
theorem ref10_Xor_b {E : Env} (N : Nat) (hb : Base Tryd.prog (ref10_Xor_C N) E 0) : Blk Tryd.prog (ref10_Xor_C N) E (List.range ref10_Xor_S5.ks.length) ref10_Xor_S5 (ref10_Xor_L.drop 0) (fun y => ref10_Xor N y.1.1 y.1.2.1 y.1.2.2.1 y.1.2.2.2.1) (ref10_Xor_K N) :=
 Blk.chunkAt hb 2 (X := (goK 0 [0, 1, 2, 3, 22] ref10_Xor_S4 (fun y => ref10_Xor_1 N y.1.1 y.1.2.1 y.1.2.2.1 y.1.2.2.2.1 y.1.2.2.2.2.1))) (NxOk.go hb (ref10_Xor_1_b N hb)) rfl (fun x => by kernel_rfl)
def ref10_Xor_ctr (N : Nat) : Ctr := ⟨ref10_Xor_S5, ref10_Xor_S6.un [false, false], 0, (fun y => ref10_Xor N y.1.1 y.1.2.1 y.1.2.2.1 y.1.2.2.2.1)⟩
theorem ref10_Xor_ctrs (N : Nat) : CtrsOk Tryd.prog (ref10_Xor_C N) := ctrs_of (Γ := ref10_Xor_C N) G_ifs_ok (by
 intro p hp
 simp only [ref10_Xor_C, List.mem_cons, List.not_mem_nil, or_false] at hp
 rcases hp with rfl
 · exact ref10_Block_ok N)
theorem ref10_Xor_ok (N : Nat) : Ctr.ok Tryd.prog G_globs 159 (ref10_Xor_ctr N) :=
 ctr_fn (Γ := ref10_Xor_C N) (rfit := ref10_Xor_S6) (bs := [false, false]) (res := [8, 9]) (by kernel_rfl) (tys_ok G_tys_ok) (ref10_Xor_ctrs N) Tryd.func159 (by kernel_rfl) (by kernel_rfl) Tryd.ntmps159 (by kernel_rfl) (by kernel_rfl) (by kernel_rfl) (by kernel_rfl) (fun E hb => ref10_Xor_b N hb)
/-! ipsecgate/ipsecgateref12.pad -/
abbrev ref12_pad_R : Type := ((Unit) × ((List UInt8) × Unit))
def ref12_pad_s2 (N : Nat) (out_3 : (List UInt8)) : Option (Lo ((Unit) × ((List UInt8) × Unit)) ((Unit) × ((List UInt8) × Unit)) ref12_pad_R) :=
 bif (!(decide (((out_3.length : Int).tmod (16 : Int)) = (0 : Int)))) then
 bif room (out_3.length + ([(0 : UInt8)] : List UInt8).length) 1 then
 some (.go ((()), ((out_3 ++ ([(0 : UInt8)] : List UInt8)), ())))
 else none
 else
 some (.br ((()), (out_3, ())))
def ref12_pad_3 (N : Nat) (out_3 : (List UInt8)) : Option ref12_pad_R :=
 some ((()), (out_3, ()))
def ref12_pad_1 (N : Nat) (out_3 : (List UInt8)) : Option ref12_pad_R :=
 loopK N (fun y => ref12_pad_s2 N y.2.1) (fun (e : ((Unit) × ((List UInt8) × Unit))) => ref12_pad_3 N e.2.1) ((()), (out_3, ()))
def ref12_pad (N : Nat) (b_0 : (List UInt8)) : Option ref12_pad_R :=
 bif room (0 + b_0.length) 1 then
 ref12_pad_1 N b_0
 else none
def ref12_pad_C (N : Nat) : Ctx := ⟨14, G_tys, [], G_globs, G_ifs⟩
def ref12_pad_S0 : Spec := ⟨[.row 0], [(.row 5 .u8, .pos 0)]⟩
def ref12_pad_S1 : Spec := ⟨[.val (.sl .u8)], []⟩
def ref12_pad_K (_N : Nat) : XE → GS → Option ref12_pad_R := retK 0 [2] [false] ref12_pad_S0
def ref12_pad_L : List Code := (bodyOf (some Tryd.f195))
def ref12_pad_L2 : List Code := (loopOf (ref12_pad_L[2]?))
def ref12_pad_K2 (N : Nat) : XE → GS → Option (Lo ((Unit) × ((List UInt8) × Unit)) ((Unit) × ((List UInt8) × Unit)) ref12_pad_R) := roundK (some 0) (fit 0 [3] ref12_pad_S0) (fit 0 [3] ref12_pad_S0) (ref12_pad_K N)
theorem ref12_pad_s2_b {E : Env} (N : Nat) (hb : Base Tryd.prog (ref12_pad_C N) E 0) : Blk Tryd.prog (ref12_pad_C N) E [3] ref12_pad_S0 (ref12_pad_L2.drop 0) (fun y => ref12_pad_s2 N y.2.1) (ref12_pad_K2 N) :=
 Blk.chunkAt hb 3 (X := (ref12_pad_K2 N .normal)) (NxOk.end (by kernel_rfl)) rfl (fun x => by kernel_rfl)
theorem ref12_pad_3_b {E : Env} (N : Nat) (hb : Base Tryd.prog (ref12_pad_C N) E 0) : Blk Tryd.prog (ref12_pad_C N) E [3] ref12_pad_S0 (ref12_pad_L.drop 3) (fun y => ref12_pad_3 N y.2.1) (ref12_pad_K N) :=
 Blk.chunkAt hb 2 (X := (ref12_pad_K N .normal)) (NxOk.end (by kernel_rfl)) rfl (fun x => by kernel_rfl)
theorem ref12_pad_1_b {E : Env} (N : Nat) (hb : Base Tryd.prog (ref12_pad_C N) E 0) : Blk Tryd.prog (ref12_pad_C N) E [3] ref12_pad_S0 (ref12_pad_L.drop 2) (fun y => ref12_pad_1 N y.2.1) (ref12_pad_K N) :=
 Blk.loopAt (Nf := N) (hns := [3]) (ans := [3]) (hc := ref12_pad_S0) (ac := ref12_pad_S0) (bid := 0) (step := (fun y => ref12_pad_s2 N y.2.1)) (J := (fun e => (goK 0 [3] ref12_pad_S0 (fun y => ref12_pad_3 N y.2.1)) (ref12_pad_S0.st [3] e))) hb (by kernel_rfl) (Blk.into (X := (goK 0 [3] ref12_pad_S0 (fun y => ref12_pad_3 N y.2.1))) (NxOk.go hb (ref12_pad_3_b N hb)) (fun x => by kernel_rfl)) (ref12_pad_s2_b N hb) (fun x => by kernel_rfl)
theorem ref12_pad_b {E : Env} (N : Nat) (hb : Base Tryd.prog (ref12_pad_C N) E 0) : Blk Tryd.prog (ref12_pad_C N) E (List.range ref12_pad_S1.ks.length) ref12_pad_S1 (ref12_pad_L.drop 0) (fun y => ref12_pad N y.1.1) (ref12_pad_K N) :=
 Blk.chunkAt hb 2 (X := (goK 0 [3] ref12_pad_S0 (fun y => ref12_pad_1 N y.2.1))) (NxOk.go hb (ref12_pad_1_b N hb)) rfl (fun x => by kernel_rfl)
def ref12_pad_ctr (N : Nat) : Ctr := ⟨ref12_pad_S1, ref12_pad_S0.un [false], 0, (fun y => ref12_pad N y.1.1)⟩
theorem ref12_pad_ctrs (N : Nat) : CtrsOk Tryd.prog (ref12_pad_C N) := ctrs_nil G_ifs_ok rfl
theorem ref12_pad_ok (N : Nat) : Ctr.ok Tryd.prog G_globs 195 (ref12_pad_ctr N) :=
 ctr_fn (Γ := ref12_pad_C N) (rfit := ref12_pad_S0) (bs := [false]) (res := [2]) (by kernel_rfl) (tys_ok G_tys_ok) (ref12_pad_ctrs N) Tryd.func195 (by kernel_rfl) (by kernel_rfl) Tryd.ntmps195 (by kernel_rfl) (by kernel_rfl) (by kernel_rfl) (by kernel_rfl) (fun E hb => ref12_pad_b N hb)
/-! ipsecgate/ipsecgateref12.little -/
abbrev ref12_little_R : Type := ((Unit) × ((List UInt8) × Unit))
def ref12_little_s2 (N : Nat) (v_1 : UInt64) (i_5 : Int) (b_0 : (List UInt8)) : Option (Lo ((UInt64 × Int × Unit) × ((List UInt8) × Unit)) ((Unit) × ((List UInt8) × Unit)) ref12_little_R) :=
 bif (decide (i_5 < (8 : Int))) then
 let x4 := shr64 v_1 (iu64 (w64 ((8 : Int) * i_5))).toNat
 bif room (b_0.length + ([x4.toUInt8] : List UInt8).length) 1 then
 some (.go ((v_1, (w64 (i_5 + (1 : Int))), ()), ((b_0 ++ ([x4.toUInt8] : List UInt8)), ())))
 else none
 else
 some (.br ((()), (b_0, ())))
def ref12_little_3 (N : Nat) (b_0 : (List UInt8)) : Option ref12_little_R :=
 some ((()), (b_0, ()))
def ref12_little_1 (N : Nat) (v_1 : UInt64) (i_5 : Int) (b_0 : (List UInt8)) : Option ref12_little_R :=
 loopK N (fun y => ref12_little_s2 N y.1.1 y.1.2.1 y.2.1) (fun (e : ((Unit) × ((List UInt8) × Unit))) => ref12_little_3 N e.2.1) ((v_1, i_5, ()), (b_0, ()))
def ref12_little (N : Nat) (v_1 : UInt64) (b_0 : (List UInt8)) : Option ref12_little_R :=
 ref12_little_1 N v_1 (0 : Int) b_0
def ref12_little_C (N : Nat) : Ctx := ⟨20, G_tys, [], G_globs, G_ifs⟩
def ref12_little_S0 : Spec := ⟨[.row 0, .val .u64, .val .i64], [(.row 5 .u8, .pos 0)]⟩
def ref12_little_S1 : Spec := ⟨[.row 0], [(.row 5 .u8, .pos 0)]⟩
def ref12_little_S2 : Spec := ⟨[.row 0, .val .u64], [(.row 5 .u8, .pos 0)]⟩
def ref12_little_K (_N : Nat) : XE → GS → Option ref12_little_R := retK 0 [4] [false] ref12_little_S1
def ref12_little_L : List Code := (bodyOf (some Tryd.f196))
def ref12_little_L2 : List Code := (loopOf (ref12_little_L[2]?))
def ref12_little_K2 (N : Nat) : XE → GS → Option (Lo ((UInt64 × Int × Unit) × ((List UInt8) × Unit)) ((Unit) × ((List UInt8) × Unit)) ref12_little_R) := roundK (some 0) (fit 0 [0, 1, 5] ref12_little_S0) (fit 0 [0] ref12_little_S1) (ref12_little_K N)
theorem ref12_little_s2_b {E : Env} (N : Nat) (hb : Base Tryd.prog (ref12_little_C N) E 0) : Blk Tryd.prog (ref12_little_C N) E [0, 1, 5] ref12_little_S0 (ref12_little_L2.drop 0) (fun y => ref12_little_s2 N y.1.1 y.1.2.1 y.2.1) (ref12_little_K2 N) :=
 Blk.chunkAt hb 4 (X := (ref12_little_K2 N .normal)) (NxOk.end (by kernel_rfl)) rfl (fun x => by kernel_rfl)
theorem ref12_little_3_b {E : Env} (N : Nat) (hb : Base Tryd.prog (ref12_little_C N) E 0) : Blk Tryd.prog (ref12_little_C N) E [0] ref12_little_S1 (ref12_little_L.drop 3) (fun y => ref12_little_3 N y.2.1) (ref12_little_K N) :=
 Blk.chunkAt hb 2 (X := (ref12_little_K N .normal)) (NxOk.end (by kernel_rfl)) rfl (fun x => by kernel_rfl)
theorem ref12_little_1_b {E : Env} (N : Nat) (hb : Base Tryd.prog (ref12_little_C N) E 0) : Blk Tryd.prog (ref12_little_C N) E [0, 1, 5] ref12_little_S0 (ref12_little_L.drop 2) (fun y => ref12_little_1 N y.1.1 y.1.2.1 y.2.1) (ref12_little_K N) :=
 Blk.loopAt (Nf := N) (hns := [0, 1, 5]) (ans := [0]) (hc := ref12_little_S0) (ac := ref12_little_S1) (bid := 0) (step := (fun y => ref12_little_s2 N y.1.1 y.1.2.1 y.2.1)) (J := (fun e => (goK 0 [0] ref12_little_S1 (fun y => ref12_little_3 N y.2.1)) (ref12_little_S1.st [0] e))) hb (by kernel_rfl) (Blk.into (X := (goK 0 [0] ref12_little_S1 (fun y => ref12_little_3 N y.2.1))) (NxOk.go hb (ref12_little_3_b N hb)) (fun x => by kernel_rfl)) (ref12_little_s2_b N hb) (fun x => by kernel_rfl)
theorem ref12_little_b {E : Env} (N : Nat) (hb : Base Tryd.prog (ref12_little_C N) E 0) : Blk Tryd.prog (ref12_little_C N) E (List.range ref12_little_S2.ks.length) ref12_little_S2 (ref12_little_L.drop 0) (fun y => ref12_little N y.1.1 y.2.1) (ref12_little_K N) :=
 Blk.chunkAt hb 2 (X := (goK 0 [0, 1, 5] ref12_little_S0 (fun y => ref12_little_1 N y.1.1 y.1.2.1 y.2.1))) (NxOk.go hb (ref12_little_1_b N hb)) rfl (fun x => by kernel_rfl)
def ref12_little_ctr (N : Nat) : Ctr := ⟨ref12_little_S2, ref12_little_S1.un [false], 0, (fun y => ref12_little N y.1.1 y.2.1)⟩
theorem ref12_little_ctrs (N : Nat) : CtrsOk Tryd.prog (ref12_little_C N) := ctrs_nil G_ifs_ok rfl
theorem ref12_little_ok (N : Nat) : Ctr.ok Tryd.prog G_globs 196 (ref12_little_ctr N) :=
 ctr_fn (Γ := ref12_little_C N) (rfit := ref12_little_S1) (bs := [false]) (res := [4]) (by kernel_rfl) (tys_ok G_tys_ok) (ref12_little_ctrs N) Tryd.func196 (by kernel_rfl) (by kernel_rfl) Tryd.ntmps196 (by kernel_rfl) (by kernel_rfl) (by kernel_rfl) (by kernel_rfl) (fun E hb => ref12_little_b N hb)
/-! ipsecgate/ipsecgateref11.clamp -/
abbrev ref11_clamp_R : Type := (((List UInt32) × Unit) × (Unit))
def ref11_clamp_s2 (N : Nat) (key_0 : (List UInt8)) (i_4 : Int) (t_2 : (List UInt32)) (r_3 : (List UInt32)) : Option (Lo (((List UInt8) × Int × Unit) × ((List UInt32) × (List UInt32) × Unit)) ((Unit) × ((List UInt32) × (List UInt32) × Unit)) ref11_clamp_R) :=
 bif (decide (i_4 < (16 : Int))) then
 bif inR i_4 key_0.length then
 bif inR i_4 17 then
 let x3 := (r_3.set i_4.toNat (key_0.getD i_4.toNat (0 : UInt8)).toUInt32)
 bif (decide ((i_4.tmod (4 : Int)) = (3 : Int))) then
 bif inR i_4 17 then
 bif inR i_4 17 then
 let x8 := (x3.set i_4.toNat ((x3.getD i_4.toNat (0 : UInt32)) &&& (15 : UInt32)))
 bif (decide ((i_4.tmod (4 : Int)) = (0 : Int))) then
 bif (decide ((0 : Int) < i_4)) then
 bif inR i_4 17 then
 bif inR i_4 17 then
 some (.go ((key_0, (w64 (i_4 + (1 : Int))), ()), (t_2, (x8.set i_4.toNat ((x8.getD i_4.toNat (0 : UInt32)) &&& (252 : UInt32))), ())))
 else none
 else none
 else
 some (.go ((key_0, (w64 (i_4 + (1 : Int))), ()), (t_2, x8, ())))
 else
 some (.go ((key_0, (w64 (i_4 + (1 : Int))), ()), (t_2, x8, ())))
 else none
 else none
 else
 bif (decide ((i_4.tmod (4 : Int)) = (0 : Int))) then
 bif (decide ((0 : Int) < i_4)) then
 bif inR i_4 17 then
 bif inR i_4 17 then
 some (.go ((key_0, (w64 (i_4 + (1 : Int))), ()), (t_2, (x3.set i_4.toNat ((x3.getD i_4.toNat (0 : UInt32)) &&& (252 : UInt32))), ())))
 else none
 else none
 else
 some (.go ((key_0, (w64 (i_4 + (1 : Int))), ()), (t_2, x3, ())))
 else
 some (.go ((key_0, (w64 (i_4 + (1 : Int))), ()), (t_2, x3, ())))
 else none
 else none
 else
 some (.br ((()), (t_2, r_3, ())))
def ref11_clamp_3 (N : Nat) (t_2 : (List UInt32)) (r_3 : (List UInt32)) : Option ref11_clamp_R :=
 some ((r_3, ()), (()))
def ref11_clamp_1 (N : Nat) (key_0 : (List UInt8)) (i_4 : Int) (t_2 : (List UInt32)) (r_3 : (List UInt32)) : Option ref11_clamp_R :=
 loopK N (fun y => ref11_clamp_s2 N y.1.1 y.1.2.1 y.2.1 y.2.2.1) (fun (e : ((Unit) × ((List UInt32) × (List UInt32) × Unit))) => ref11_clamp_3 N e.2.1 e.2.2.1) ((key_0, i_4, ()), (t_2, r_3, ()))
def ref11_clamp (N : Nat) (key_0 : (List UInt8)) : Option ref11_clamp_R :=
 ref11_clamp_1 N key_0 (0 : Int) (List.replicate 17 (0 : UInt32)) (List.replicate 17 (0 : UInt32))
def ref11_clamp_C (N : Nat) : Ctx := ⟨37, G_tys, [], G_globs, G_ifs⟩
def ref11_clamp_S0 : Spec := ⟨[.val (.sl .u8), .ref 0 (.arr 17 .u32), .ref 1 (.arr 17 .u32), .val .i64], [(.box 250 (.arr 17 .u32), .pos 1), (.box 250 (.arr 17 .u32), .pos 2)]⟩
def ref11_clamp_S1 : Spec := ⟨[.ref 0 (.arr 17 .u32), .ref 1 (.arr 17 .u32)], [(.box 250 (.arr 17 .u32), .pos 0), (.box 250 (.arr 17 .u32), .pos 1)]⟩
def ref11_clamp_S2 : Spec := ⟨[.val (.sl .u8)], []⟩
def ref11_clamp_S3 : Spec := ⟨[.fp (.arr 17 .u32)], []⟩
def ref11_clamp_K (_N : Nat) : XE → GS → Option ref11_clamp_R := retK 0 [2] [true] ref11_clamp_S3
def ref11_clamp_L : List Code := (bodyOf (some Tryd.f219))
def ref11_clamp_L2 : List Code := (loopOf (ref11_clamp_L[3]?))
def ref11_clamp_K2 (N : Nat) : XE → GS → Option (Lo (((List UInt8) × Int × Unit) × ((List UInt32) × (List UInt32) × Unit)) ((Unit) × ((List UInt32) × (List UInt32) × Unit)) ref11_clamp_R) := roundK (some 0) (fit 0 [0, 2, 3, 4] ref11_clamp_S0) (fit 0 [2, 3] ref11_clamp_S1) (ref11_clamp_K N)
theorem ref11_clamp_s2_b {E : Env} (N : Nat) (hb : Base Tryd.prog (ref11_clamp_C N) E 0) : Blk Tryd.prog (ref11_clamp_C N) E [0, 2, 3, 4] ref11_clamp_S0 (ref11_clamp_L2.drop 0) (fun y => ref11_clamp_s2 N y.1.1 y.1.2.1 y.2.1 y.2.2.1) (ref11_clamp_K2 N) :=
 Blk.chunkAt hb 4 (X := (ref11_clamp_K2 N .normal)) (NxOk.end (by kernel_rfl)) rfl (fun x => by kernel_rfl)
theorem ref11_clamp_3_b {E : Env} (N : Nat) (hb : Base Tryd.prog (ref11_clamp_C N) E 0) : Blk Tryd.prog (ref11_clamp_C N) E [2, 3] ref11_clamp_S1 (ref11_clamp_L.drop 4) (fun y => ref11_clamp_3 N y.2.1 y.2.2.1) (ref11_clamp_K N) :=
 Blk.chunkAt hb 2 (X := (ref11_clamp_K N .normal)) (NxOk.end (by kernel_rfl)) rfl (fun x => by kernel_rfl)
theorem ref11_clamp_1_b {E : Env} (N : Nat) (hb : Base Tryd.prog (ref11_clamp_C N) E 0) : Blk Tryd.prog (ref11_clamp_C N) E [0, 2, 3, 4] ref11_clamp_S0 (ref11_clamp_L.drop 3) (fun y => ref11_clamp_1 N y.1.1 y.1.2.1 y.2.1 y.2.2.1) (ref11_clamp_K N) :=
 Blk.loopAt (Nf := N) (hns := [0, 2, 3, 4]) (ans := [2, 3]) (hc := ref11_clamp_S0) (ac := ref11_clamp_S1) (bid := 0) (step := (fun y => ref11_clamp_s2 N y.1.1 y.1.2.1 y.2.1 y.2.2.1)) (J := (fun e => (goK 0 [2, 3] ref11_clamp_S1 (fun y => ref11_clamp_3 N y.2.1 y.2.2.1)) (ref11_clamp_S1.st [2, 3] e))) hb (by kernel_rfl) (Blk.into (X := (goK 0 [2, 3] ref11_clamp_S1 (fun y => ref11_clamp_3 N y.2.1 y.2.2.1))) (NxOk.go hb (ref11_clamp_3_b N hb)) (fun x => by kernel_rfl)) (ref11_clamp_s2_b N hb) (fun x => by kernel_rfl)
theorem ref11_clamp_b {E : Env} (N : Nat) (hb : Base Tryd.prog (ref11_clamp_C N) E 0) : Blk Tryd.prog (ref11_clamp_C N) E (List.range ref11_clamp_S2.ks.length) ref11_clamp_S2 (ref11_clamp_L.drop 0) (fun y => ref11_clamp N y.1.1) (ref11_clamp_K N) :=
 Blk.chunkAt hb 3 (X := (goK 0 [0, 2, 3, 4] ref11_clamp_S0 (fun y => ref11_clamp_1 N y.1.1 y.1.2.1 y.2.1 y.2.2.1))) (NxOk.go hb (ref11_clamp_1_b N hb)) rfl (fun x => by kernel_rfl)
def ref11_clamp_ctr (N : Nat) : Ctr := ⟨ref11_clamp_S2, ref11_clamp_S3.un [true], 0, (fun y => ref11_clamp N y.1.1)⟩
theorem ref11_clamp_ctrs (N : Nat) : CtrsOk Tryd.prog (ref11_clamp_C N) := ctrs_nil G_ifs_ok rfl
theorem ref11_clamp_ok (N : Nat) : Ctr.ok Tryd.prog G_globs 219 (ref11_clamp_ctr N) :=
 ctr_fn (Γ := ref11_clamp_C N) (rfit := ref11_clamp_S3) (bs := [true]) (res := [2]) (by kernel_rfl) (tys_ok G_tys_ok) (ref11_clamp_ctrs N) Tryd.func219 (by kernel_rfl) (by kernel_rfl) Tryd.ntmps219 (by kernel_rfl) (by kernel_rfl) (by kernel_rfl) (by kernel_rfl) (fun E hb => ref11_clamp_b N hb)
/-! ipsecgate/ipsecgateref11.carry -/
abbrev ref11_carry_R : Type := (((List UInt32) × Unit) × (Unit))
def ref11_carry_s7 (N : Nat) (round_3 : Int) (u_4 : UInt32) (i_5 : Int) (h_1 : (List UInt32)) (t_2 : (List UInt32)) : Option (Lo ((Int × UInt32 × Int × Unit) × ((List UInt32) × (List UInt32) × Unit)) ((Int × UInt32 × Unit) × ((List UInt32) × (List UInt32) × Unit)) (Lo ((Int × Unit) × ((List UInt32) × (List UInt32) × Unit)) ((Unit) × ((List UInt32) × (List UInt32) × Unit)) ref11_carry_R)) :=
 bif (decide (i_5 < (17 : Int))) then
 bif inR i_5 17 then
 let x3 := (h_1.getD i_5.toNat (0 : UInt32))
 bif inR i_5 17 then
 let x6 := (h_1.set i_5.toNat ((u_4 + x3) &&& (255 : UInt32)))
 bif (decide (i_5 = (16 : Int))) then
 bif inR i_5 17 then
 some (.go ((round_3, ((5 : UInt32) * (shr32 (u_4 + x3) 2)), (w64 (i_5 + (1 : Int))), ()), ((x6.set i_5.toNat ((u_4 + x3) &&& (3 : UInt32))), t_2, ())))
 else none
 else
 some (.go ((round_3, (shr32 (u_4 + x3) 8), (w64 (i_5 + (1 : Int))), ()), (x6, t_2, ())))
 else none
 else none
 else
 some (.br ((round_3, u_4, ()), (h_1, t_2, ())))
def ref11_carry_9 (N : Nat) (round_3 : Int) (h_1 : (List UInt32)) (t_2 : (List UInt32)) : Option (Lo ((Int × Unit) × ((List UInt32) × (List UInt32) × Unit)) ((Unit) × ((List UInt32) × (List UInt32) × Unit)) ref11_carry_R) :=
 some (.go (((w64 (round_3 + (1 : Int))), ()), (h_1, t_2, ())))
def ref11_carry_8 (N : Nat) (round_3 : Int) (u_4 : UInt32) (h_1 : (List UInt32)) (t_2 : (List UInt32)) : Option (Lo ((Int × Unit) × ((List UInt32) × (List UInt32) × Unit)) ((Unit) × ((List UInt32) × (List UInt32) × Unit)) ref11_carry_R) :=
 ref11_carry_9 N round_3 (h_1.set 0 ((h_1.getD 0 (0 : UInt32)) + u_4)) t_2
def ref11_carry_6 (N : Nat) (round_3 : Int) (u_4 : UInt32) (i_5 : Int) (h_1 : (List UInt32)) (t_2 : (List UInt32)) : Option (Lo ((Int × Unit) × ((List UInt32) × (List UInt32) × Unit)) ((Unit) × ((List UInt32) × (List UInt32) × Unit)) ref11_carry_R) :=
 loopK N (fun y => ref11_carry_s7 N y.1.1 y.1.2.1 y.1.2.2.1 y.2.1 y.2.2.1) (fun (e : ((Int × UInt32 × Unit) × ((List UInt32) × (List UInt32) × Unit))) => ref11_carry_8 N e.1.1 e.1.2.1 e.2.1 e.2.2.1) ((round_3, u_4, i_5, ()), (h_1, t_2, ()))
def ref11_carry_5 (N : Nat) (round_3 : Int) (h_1 : (List UInt32)) (t_2 : (List UInt32)) : Option (Lo ((Int × Unit) × ((List UInt32) × (List UInt32) × Unit)) ((Unit) × ((List UInt32) × (List UInt32) × Unit)) ref11_carry_R) :=
 ref11_carry_6 N round_3 (0 : UInt32) (0 : Int) h_1 t_2
def ref11_carry_3 (N : Nat) (round_3 : Int) (h_1 : (List UInt32)) (t_2 : (List UInt32)) : Option (Lo ((Int × Unit) × ((List UInt32) × (List UInt32) × Unit)) ((Unit) × ((List UInt32) × (List UInt32) × Unit)) ref11_carry_R) :=
 ref11_carry_5 N round_3 h_1 t_2
def ref11_carry_s2 (N : Nat) (round_3 : Int) (h_1 : (List UInt32)) (t_2 : (List UInt32)) : Option (Lo ((Int × Unit) × ((List UInt32) × (List UInt32) × Unit)) ((Unit) × ((List UInt32) × (List UInt32) × Unit)) ref11_carry_R) :=
 bif (decide (round_3 < (3 : Int))) then
 ref11_carry_3 N round_3 h_1 t_2
 else
 some (.br ((()), (h_1, t_2, ())))
def ref11_carry_10 (N : Nat) (h_1 : (List UInt32)) (t_2 : (List UInt32)) : Option ref11_carry_R :=
 some ((h_1, ()), (()))
def ref11_carry_1 (N : Nat) (round_3 : Int) (h_1 : (List UInt32)) (t_2 : (List UInt32)) : Option ref11_carry_R :=
 loopK N (fun y => ref11_carry_s2 N y.1.1 y.2.1 y.2.2.1) (fun (e : ((Unit) × ((List UInt32) × (List UInt32) × Unit))) => ref11_carry_10 N e.2.1 e.2.2.1) ((round_3, ()), (h_1, t_2, ()))
def ref11_carry (N : Nat) (h_0 : (List UInt32)) : Option ref11_carry_R :=
 ref11_carry_1 N (0 : Int) h_0 (List.replicate 17 (0 : UInt32))
def ref11_carry_C (N : Nat) : Ctx := ⟨40, G_tys, [], G_globs, G_ifs⟩
def ref11_carry_S0 : Spec := ⟨[.ref 0 (.arr 17 .u32), .ref 1 (.arr 17 .u32), .val .i64, .val .u32, .val .i64], [(.box 250 (.arr 17 .u32), .pos 0), (.box 250 (.arr 17 .u32), .pos 1)]⟩
def ref11_carry_S1 : Spec := ⟨[.ref 0 (.arr 17 .u32), .ref 1 (.arr 17 .u32), .val .i64], [(.box 250 (.arr 17 .u32), .pos 0), (.box 250 (.arr 17 .u32), .pos 1)]⟩
def ref11_carry_S2 : Spec := ⟨[.ref 0 (.arr 17 .u32), .ref 1 (.arr 17 .u32), .val .i64, .val .u32], [(.box 250 (.arr 17 .u32), .pos 0), (.box 250 (.arr 17 .u32), .pos 1)]⟩
def ref11_carry_S3 : Spec := ⟨[.ref 0 (.arr 17 .u32), .ref 1 (.arr 17 .u32)], [(.box 250 (.arr 17 .u32), .pos 0), (.box 250 (.arr 17 .u32), .pos 1)]⟩
def ref11_carry_S4 : Spec := ⟨[.val (.arr 17 .u32)], []⟩
def ref11_carry_S5 : Spec := ⟨[.fp (.arr 17 .u32)], []⟩
def ref11_carry_K (_N : Nat) : XE → GS → Option ref11_carry_R := retK 0 [2] [true] ref11_carry_S5
def ref11_carry_L : List Code := (bodyOf (some Tryd.f221))
def ref11_carry_L2 : List Code := (loopOf (ref11_carry_L[2]?))
def ref11_carry_L4b : List Code := (blockOf (ref11_carry_L2[2]?))
def ref11_carry_L7 : List Code := (loopOf (ref11_carry_L4b[2]?))
def ref11_carry_K2 (N : Nat) : XE → GS → Option (Lo ((Int × Unit) × ((List UInt32) × (List UInt32) × Unit)) ((Unit) × ((List UInt32) × (List UInt32) × Unit)) ref11_carry_R) := roundK (some 0) (fit 0 [1, 2, 3] ref11_carry_S1) (fit 0 [1, 2] ref11_carry_S3) (ref11_carry_K N)
def ref11_carry_K4 (N : Nat) : XE → GS → Option (Lo ((Int × Unit) × ((List UInt32) × (List UInt32) × Unit)) ((Unit) × ((List UInt32) × (List UInt32) × Unit)) ref11_carry_R) := blockK 1 (goK 0 [1, 2, 3] ref11_carry_S1 (fun y => ref11_carry_9 N y.1.1 y.2.1 y.2.2.1)) (ref11_carry_K2 N)
def ref11_carry_K7 (N : Nat) : XE → GS → Option (Lo ((Int × UInt32 × Int × Unit) × ((List UInt32) × (List UInt32) × Unit)) ((Int × UInt32 × Unit) × ((List UInt32) × (List UInt32) × Unit)) (Lo ((Int × Unit) × ((List UInt32) × (List UInt32) × Unit)) ((Unit) × ((List UInt32) × (List UInt32) × Unit)) ref11_carry_R)) := roundK (some 2) (fit 0 [1, 2, 3, 4, 5] ref11_carry_S0) (fit 0 [1, 2, 3, 4] ref11_carry_S2) (ref11_carry_K4 N)
theorem ref11_carry_s7_b {E : Env} (N : Nat) (hb : Base Tryd.prog (ref11_carry_C N) E 0) : Blk Tryd.prog (ref11_carry_C N) E [1, 2, 3, 4, 5] ref11_carry_S0 (ref11_carry_L7.drop 0) (fun y => ref11_carry_s7 N y.1.1 y.1.2.1 y.1.2.2.1 y.2.1 y.2.2.1) (ref11_carry_K7 N) :=
 Blk.chunkAt hb 4 (X := (ref11_carry_K7 N .normal)) (NxOk.end (by kernel_rfl)) rfl (fun x => by kernel_rfl)
theorem ref11_carry_9_b {E : Env} (N : Nat) (hb : Base Tryd.prog (ref11_carry_C N) E 0) : Blk Tryd.prog (ref11_carry_C N) E [1, 2, 3] ref11_carry_S1 (ref11_carry_L2.drop 3) (fun y => ref11_carry_9 N y.1.1 y.2.1 y.2.2.1) (ref11_carry_K2 N) :=
 Blk.chunkAt hb 1 (X := (ref11_carry_K2 N .normal)) (NxOk.end (by kernel_rfl)) rfl (fun x => by kernel_rfl)
theorem ref11_carry_8_b {E : Env} (N : Nat) (hb : Base Tryd.prog (ref11_carry_C N) E 0) : Blk Tryd.prog (ref11_carry_C N) E [1, 2, 3, 4] ref11_carry_S2 (ref11_carry_L4b.drop 3) (fun y => ref11_carry_8 N y.1.1 y.1.2.1 y.2.1 y.2.2.1) (ref11_carry_K4 N) :=
 Blk.chunkAt hb 1 (X := (ref11_carry_K4 N .normal)) (NxOk.end (by kernel_rfl)) rfl (fun x => by kernel_rfl)
theorem ref11_carry_6_b {E : Env} (N : Nat) (hb : Base Tryd.prog (ref11_carry_C N) E 0) : Blk Tryd.prog (ref11_carry_C N) E [1, 2, 3, 4, 5] ref11_carry_S0 (ref11_carry_L4b.drop 2) (fun y => ref11_carry_6 N y.1.1 y.1.2.1 y.1.2.2.1 y.2.1 y.2.2.1) (ref11_carry_K4 N) :=
 Blk.loopAt (Nf := N) (hns := [1, 2, 3, 4, 5]) (ans := [1, 2, 3, 4]) (hc := ref11_carry_S0) (ac := ref11_carry_S2) (bid := 2) (step := (fun y => ref11_carry_s7 N y.1.1 y.1.2.1 y.1.2.2.1 y.2.1 y.2.2.1)) (J := (fun e => (goK 0 [1, 2, 3, 4] ref11_carry_S2 (fun y => ref11_carry_8 N y.1.1 y.1.2.1 y.2.1 y.2.2.1)) (ref11_carry_S2.st [1, 2, 3, 4] e))) hb (by kernel_rfl) (Blk.into (X := (goK 0 [1, 2, 3, 4] ref11_carry_S2 (fun y => ref11_carry_8 N y.1.1 y.1.2.1 y.2.1 y.2.2.1))) (NxOk.go hb (ref11_carry_8_b N hb)) (fun x => by kernel_rfl)) (ref11_carry_s7_b N hb) (fun x => by kernel_rfl)
theorem ref11_carry_5_b {E : Env} (N : Nat) (hb : Base Tryd.prog (ref11_carry_C N) E 0) : Blk Tryd.prog (ref11_carry_C N) E [1, 2, 3] ref11_carry_S1 (ref11_carry_L4b.drop 0) (fun y => ref11_carry_5 N y.1.1 y.2.1 y.2.2.1) (ref11_carry_K4 N) :=
 Blk.chunkAt hb 2 (X := (goK 0 [1, 2, 3, 4, 5] ref11_carry_S0 (fun y => ref11_carry_6 N y.1.1 y.1.2.1 y.1.2.2.1 y.2.1 y.2.2.1))) (NxOk.go hb (ref11_carry_6_b N hb)) rfl (fun x => by kernel_rfl)
theorem ref11_carry_3_b {E : Env} (N : Nat) (hb : Base Tryd.prog (ref11_carry_C N) E 0) : Blk Tryd.prog (ref11_carry_C N) E [1, 2, 3] ref11_carry_S1 (ref11_carry_L2.drop 2) (fun y => ref11_carry_3 N y.1.1 y.2.1 y.2.2.1) (ref11_carry_K2 N) :=
 Blk.blockAt (bid := 1) (X := (goK 0 [1, 2, 3] ref11_carry_S1 (fun y => ref11_carry_9 N y.1.1 y.2.1 y.2.2.1))) (Y := (goK 0 [1, 2, 3] ref11_carry_S1 (fun y => ref11_carry_5 N y.1.1 y.2.1 y.2.2.1))) (by kernel_rfl) (NxOk.go hb (ref11_carry_9_b N hb)) (NxOk.go hb (ref11_carry_5_b N hb)) (fun x => by kernel_rfl)
theorem ref11_carry_s2_b {E : Env} (N : Nat) (hb : Base Tryd.prog (ref11_carry_C N) E 0) : Blk Tryd.prog (ref11_carry_C N) E [1, 2, 3] ref11_carry_S1 (ref11_carry_L2.drop 0) (fun y => ref11_carry_s2 N y.1.1 y.2.1 y.2.2.1) (ref11_carry_K2 N) :=
 Blk.chunkAt hb 2 (X := (goK 0 [1, 2, 3] ref11_carry_S1 (fun y => ref11_carry_3 N y.1.1 y.2.1 y.2.2.1))) (NxOk.go hb (ref11_carry_3_b N hb)) rfl (fun x => by kernel_rfl)
theorem ref11_carry_10_b {E : Env} (N : Nat) (hb : Base Tryd.prog (ref11_carry_C N) E 0) : Blk Tryd.prog (ref11_carry_C N) E [1, 2] ref11_carry_S3 (ref11_carry_L.drop 3) (fun y => ref11_carry_10 N y.2.1 y.2.2.1) (ref11_carry_K N) :=
 Blk.chunkAt hb 2 (X := (ref11_carry_K N .normal)) (NxOk.end (by kernel_rfl)) rfl (fun x => by kernel_rfl)
theorem ref11_carry_1_b {E : Env} (N : Nat) (hb : Base Tryd.prog (ref11_carry_C N) E 0) : Blk Tryd.prog (ref11_carry_C N) E [1, 2, 3] ref11_carry_S1 (ref11_carry_L.drop 2) (fun y => ref11_carry_1 N y.1.1 y.2.1 y.2.2.1) (ref11_carry_K N) :=
 Blk.loopAt (Nf := N) (hns := [1, 2, 3]) (ans := [1, 2]) (hc := ref11_carry_S1) (ac := ref11_carry_S3) (bid := 0) (step := (fun y => ref11_carry_s2 N y.1.1 y.2.1 y.2.2.1)) (J := (fun e => (goK 0 [1, 2] ref11_carry_S3 (fun y => ref11_carry_10 N y.2.1 y.2.2.1)) (ref11_carry_S3.st [1, 2] e))) hb (by kernel_rfl) (Blk.into (X := (goK 0 [1, 2] ref11_carry_S3 (fun y => ref11_carry_10 N y.2.1 y.2.2.1))) (NxOk.go hb (ref11_carry_10_b N hb)) (fun x => by kernel_rfl)) (ref11_carry_s2_b N hb) (fun x => by kernel_rfl)
theorem ref11_carry_b {E : Env} (N : Nat) (hb : Base Tryd.prog (ref11_carry_C N) E 0) : Blk Tryd.prog (ref11_carry_C N) E (List.range ref11_carry_S4.ks.length) ref11_carry_S4 (ref11_carry_L.drop 0) (fun y => ref11_carry N y.1.1) (ref11_carry_K N) :=
 Blk.chunkAt hb 2 (X := (goK 0 [1, 2, 3] ref11_carry_S1 (fun y => ref11_carry_1 N y.1.1 y.2.1 y.2.2.1))) (NxOk.go hb (ref11_carry_1_b N hb)) rfl (fun x => by kernel_rfl)
def ref11_carry_ctr (N : Nat) : Ctr := ⟨ref11_carry_S4, ref11_carry_S5.un [true], 0, (fun y => ref11_carry N y.1.1)⟩
theorem ref11_carry_ctrs (N : Nat) : CtrsOk Tryd.prog (ref11_carry_C N) := ctrs_nil G_ifs_ok rfl
theorem ref11_carry_ok (N : Nat) : Ctr.ok Tryd.prog G_globs 221 (ref11_carry_ctr N) :=
 ctr_fn (Γ := ref11_carry_C N) (rfit := ref11_carry_S5) (bs := [true]) (res := [2]) (by kernel_rfl) (tys_ok G_tys_ok) (ref11_carry_ctrs N) Tryd.func221 (by kernel_rfl) (by kernel_rfl) Tryd.ntmps221 (by kernel_rfl) (by kernel_rfl) (by kernel_rfl) (by kernel_rfl) (fun E hb => ref11_carry_b N hb)
/-! ipsecgate/ipsecgateref11.product -/
abbrev ref11_product_R : Type := (((List UInt32) × Unit) × (Unit))
def ref11_product_s7 (N : Nat) (i_6 : Int) (u_7 : UInt32) (j_8 : Int) (a_2 : (List UInt32)) (b_3 : (List UInt32)) (t_4 : (List UInt32)) (out_5 : (List UInt32)) : Option (Lo ((Int × UInt32 × Int × Unit) × ((List UInt32) × (List UInt32) × (List UInt32) × (List UInt32) × Unit)) ((Int × UInt32 × Unit) × ((List UInt32) × (List UInt32) × (List UInt32) × (List UInt32) × Unit)) (Lo ((Int × Unit) × ((List UInt32) × (List UInt32) × (List UInt32) × (List UInt32) × Unit)) ((Unit) × ((List UInt32) × (List UInt32) × Unit)) ref11_product_R)) :=
 bif (decide (j_8 < (17 : Int))) then
 bif (decide (j_8 ≤ i_6)) then
 bif inR j_8 17 then
 let x5 := w64 (i_6 - j_8)
 bif inR x5 17 then
 some (.go ((i_6, (u_7 + ((a_2.getD j_8.toNat (0 : UInt32)) * (b_3.getD x5.toNat (0 : UInt32)))), (w64 (j_8 + (1 : Int))), ()), (a_2, b_3, t_4, out_5, ())))
 else none
 else none
 else
 bif inR j_8 17 then
 let x13 := w64 ((w64 ((17 : Int) + i_6)) - j_8)
 bif inR x13 17 then
 some (.go ((i_6, (u_7 + (((320 : UInt32) * (a_2.getD j_8.toNat (0 : UInt32))) * (b_3.getD x13.toNat (0 : UInt32)))), (w64 (j_8 + (1 : Int))), ()), (a_2, b_3, t_4, out_5, ())))
 else none
 else none
 else
 some (.br ((i_6, u_7, ()), (a_2, b_3, t_4, out_5, ())))
def ref11_product_9 (N : Nat) (i_6 : Int) (a_2 : (List UInt32)) (b_3 : (List UInt32)) (t_4 : (List UInt32)) (out_5 : (List UInt32)) : Option (Lo ((Int × Unit) × ((List UInt32) × (List UInt32) × (List UInt32) × (List UInt32) × Unit)) ((Unit) × ((List UInt32) × (List UInt32) × Unit)) ref11_product_R) :=
 some (.go (((w64 (i_6 + (1 : Int))), ()), (a_2, b_3, t_4, out_5, ())))
def ref11_product_8 (N : Nat) (i_6 : Int) (u_7 : UInt32) (a_2 : (List UInt32)) (b_3 : (List UInt32)) (t_4 : (List UInt32)) (out_5 : (List UInt32)) : Option (Lo ((Int × Unit) × ((List UInt32) × (List UInt32) × (List UInt32) × (List UInt32) × Unit)) ((Unit) × ((List UInt32) × (List UInt32) × Unit)) ref11_product_R) :=
 bif inR i_6 17 then
 ref11_product_9 N i_6 a_2 b_3 t_4 (out_5.set i_6.toNat u_7)
 else none
def ref11_product_6 (N : Nat) (i_6 : Int) (u_7 : UInt32) (j_8 : Int) (a_2 : (List UInt32)) (b_3 : (List UInt32)) (t_4 : (List UInt32)) (out_5 : (List UInt32)) : Option (Lo ((Int × Unit) × ((List UInt32) × (List UInt32) × (List UInt32) × (List UInt32) × Unit)) ((Unit) × ((List UInt32) × (List UInt32) × Unit)) ref11_product_R) :=
 loopK N (fun y => ref11_product_s7 N y.1.1 y.1.2.1 y.1.2.2.1 y.2.1 y.2.2.1 y.2.2.2.1 y.2.2.2.2.1) (fun (e : ((Int × UInt32 × Unit) × ((List UInt32) × (List UInt32) × (List UInt32) × (List UInt32) × Unit))) => ref11_product_8 N e.1.1 e.1.2.1 e.2.1 e.2.2.1 e.2.2.2.1 e.2.2.2.2.1) ((i_6, u_7, j_8, ()), (a_2, b_3, t_4, out_5, ()))
def ref11_product_5 (N : Nat) (i_6 : Int) (a_2 : (List UInt32)) (b_3 : (List UInt32)) (t_4 : (List UInt32)) (out_5 : (List UInt32)) : Option (Lo ((Int × Unit) × ((List UInt32) × (List UInt32) × (List UInt32) × (List UInt32) × Unit)) ((Unit) × ((List UInt32) × (List UInt32) × Unit)) ref11_product_R) :=
 ref11_product_6 N i_6 (0 : UInt32) (0 : Int) a_2 b_3 t_4 out_5
def ref11_product_3 (N : Nat) (i_6 : Int) (a_2 : (List UInt32)) (b_3 : (List UInt32)) (t_4 : (List UInt32)) (out_5 : (List UInt32)) : Option (Lo ((Int × Unit) × ((List UInt32) × (List UInt32) × (List UInt32) × (List UInt32) × Unit)) ((Unit) × ((List UInt32) × (List UInt32) × Unit)) ref11_product_R) :=
 ref11_product_5 N i_6 a_2 b_3 t_4 out_5
def ref11_product_s2 (N : Nat) (i_6 : Int) (a_2 : (List UInt32)) (b_3 : (List UInt32)) (t_4 : (List UInt32)) (out_5 : (List UInt32)) : Option (Lo ((Int × Unit) × ((List UInt32) × (List UInt32) × (List UInt32) × (List UInt32) × Unit)) ((Unit) × ((List UInt32) × (List UInt32) × Unit)) ref11_product_R) :=
 bif (decide (i_6 < (17 : Int))) then
 ref11_product_3 N i_6 a_2 b_3 t_4 out_5
 else
 some (.br ((()), (t_4, out_5, ())))
def ref11_product_10 (N : Nat) (t_4 : (List UInt32)) (out_5 : (List UInt32)) : Option ref11_product_R :=
 Option.bind (ref11_carry N out_5) fun y20 =>
 some ((y20.1.1, ()), (()))
def ref11_product_1 (N : Nat) (i_6 : Int) (a_2 : (List UInt32)) (b_3 : (List UInt32)) (t_4 : (List UInt32)) (out_5 : (List UInt32)) : Option ref11_product_R :=
 loopK N (fun y => ref11_product_s2 N y.1.1 y.2.1 y.2.2.1 y.2.2.2.1 y.2.2.2.2.1) (fun (e : ((Unit) × ((List UInt32) × (List UInt32) × Unit))) => ref11_product_10 N e.2.1 e.2.2.1) ((i_6, ()), (a_2, b_3, t_4, out_5, ()))
def ref11_product (N : Nat) (a_0 : (List UInt32)) (b_1 : (List UInt32)) : Option ref11_product_R :=
 ref11_product_1 N (0 : Int) a_0 b_1 (List.replicate 17 (0 : UInt32)) (List.replicate 17 (0 : UInt32))
def ref11_product_C (N : Nat) : Ctx := ⟨49, G_tys, [(221, ref11_carry_ctr N)], G_globs, G_ifs⟩
def ref11_product_S0 : Spec := ⟨[.ref 0 (.arr 17 .u32), .ref 1 (.arr 17 .u32), .ref 2 (.arr 17 .u32), .ref 3 (.arr 17 .u32), .val .i64, .val .u32, .val .i64], [(.box 250 (.arr 17 .u32), .pos 0), (.box 250 (.arr 17 .u32), .pos 1), (.box 250 (.arr 17 .u32), .pos 2), (.box 250 (.arr 17 .u32), .pos 3)]⟩
def ref11_product_S1 : Spec := ⟨[.ref 0 (.arr 17 .u32), .ref 1 (.arr 17 .u32), .ref 2 (.arr 17 .u32), .ref 3 (.arr 17 .u32), .val .i64], [(.box 250 (.arr 17 .u32), .pos 0), (.box 250 (.arr 17 .u32), .pos 1), (.box 250 (.arr 17 .u32), .pos 2), (.box 250 (.arr 17 .u32), .pos 3)]⟩
def ref11_product_S2 : Spec := ⟨[.ref 0 (.arr 17 .u32), .ref 1 (.arr 17 .u32), .ref 2 (.arr 17 .u32), .ref 3 (.arr 17 .u32), .val .i64, .val .u32], [(.box 250 (.arr 17 .u32), .pos 0), (.box 250 (.arr 17 .u32), .pos 1), (.box 250 (.arr 17 .u32), .pos 2), (.box 250 (.arr 17 .u32), .pos 3)]⟩
def ref11_product_S3 : Spec := ⟨[.ref 0 (.arr 17 .u32), .ref 1 (.arr 17 .u32)], [(.box 250 (.arr 17 .u32), .pos 0), (.box 250 (.arr 17 .u32), .pos 1)]⟩
def ref11_product_S4 : Spec := ⟨[.val (.arr 17 .u32), .val (.arr 17 .u32)], []⟩
def ref11_product_S5 : Spec := ⟨[.fp (.arr 17 .u32)], []⟩
def ref11_product_K (_N : Nat) : XE → GS → Option ref11_product_R := retK 0 [4] [true] ref11_product_S5
def ref11_product_L : List Code := (bodyOf (some Tryd.f220))
def ref11_product_L2 : List Code := (loopOf (ref11_product_L[3]?))
def ref11_product_L4b : List Code := (blockOf (ref11_product_L2[2]?))
def ref11_product_L7 : List Code := (loopOf (ref11_product_L4b[2]?))
def ref11_product_K2 (N : Nat) : XE → GS → Option (Lo ((Int × Unit) × ((List UInt32) × (List UInt32) × (List UInt32) × (List UInt32) × Unit)) ((Unit) × ((List UInt32) × (List UInt32) × Unit)) ref11_product_R) := roundK (some 0) (fit 0 [2, 3, 4, 5, 6] ref11_product_S1) (fit 0 [4, 5] ref11_product_S3) (ref11_product_K N)
def ref11_product_K4 (N : Nat) : XE → GS → Option (Lo ((Int × Unit) × ((List UInt32) × (List UInt32) × (List UInt32) × (List UInt32) × Unit)) ((Unit) × ((List UInt32) × (List UInt32) × Unit)) ref11_product_R) := blockK 1 (goK 0 [2, 3, 4, 5, 6] ref11_product_S1 (fun y => ref11_product_9 N y.1.1 y.2.1 y.2.2.1 y.2.2.2.1 y.2.2.2.2.1)) (ref11_product_K2 N)
def ref11_product_K7 (N : Nat) : XE → GS → Option (Lo ((Int × UInt32 × Int × Unit) × ((List UInt32) × (List UInt32) × (List UInt32) × (List UInt32) × Unit)) ((Int × UInt32 × Unit) × ((List UInt32) × (List UInt32) × (List UInt32) × (List UInt32) × Unit)) (Lo ((Int × Unit) × ((List UInt32) × (List UInt32) × (List UInt32) × (List UInt32) × Unit)) ((Unit) × ((List UInt32) × (List UInt32) × Unit)) ref11_product_R)) := roundK (some 2) (fit 0 [2, 3, 4, 5, 6, 7, 8] ref11_product_S0) (fit 0 [2, 3, 4, 5, 6, 7] ref11_product_S2) (ref11_product_K4 N)
theorem ref11_product_s7_b {E : Env} (N : Nat) (hb : Base Tryd.prog (ref11_product_C N) E 0) : Blk Tryd.prog (ref11_product_C N) E [2, 3, 4, 5, 6, 7, 8] ref11_product_S0 (ref11_product_L7.drop 0) (fun y => ref11_product_s7 N y.1.1 y.1.2.1 y.1.2.2.1 y.2.1 y.2.2.1 y.2.2.2.1 y.2.2.2.2.1) (ref11_product_K7 N) :=
 Blk.chunkAt hb 4 (X := (ref11_product_K7 N .normal)) (NxOk.end (by kernel_rfl)) rfl (fun x => by kernel_rfl)
theorem ref11_product_9_b {E : Env} (N : Nat) (hb : Base Tryd.prog (ref11_product_C N) E 0) : Blk Tryd.prog (ref11_product_C N) E [2, 3, 4, 5, 6] ref11_product_S1 (ref11_product_L2.drop 3) (fun y => ref11_product_9 N y.1.1 y.2.1 y.2.2.1 y.2.2.2.1 y.2.2.2.2.1) (ref11_product_K2 N) :=
 Blk.chunkAt hb 1 (X := (ref11_product_K2 N .normal)) (NxOk.end (by kernel_rfl)) rfl (fun x => by kernel_rfl)
theorem ref11_product_8_b {E : Env} (N : Nat) (hb : Base Tryd.prog (ref11_product_C N) E 0) : Blk Tryd.prog (ref11_product_C N) E [2, 3, 4, 5, 6, 7] ref11_product_S2 (ref11_product_L4b.drop 3) (fun y => ref11_product_8 N y.1.1 y.1.2.1 y.2.1 y.2.2.1 y.2.2.2.1 y.2.2.2.2.1) (ref11_product_K4 N) :=
 Blk.chunkAt hb 1 (X := (ref11_product_K4 N .normal)) (NxOk.end (by kernel_rfl)) rfl (fun x => by kernel_rfl)
theorem ref11_product_6_b {E : Env} (N : Nat) (hb : Base Tryd.prog (ref11_product_C N) E 0) : Blk Tryd.prog (ref11_product_C N) E [2, 3, 4, 5, 6, 7, 8] ref11_product_S0 (ref11_product_L4b.drop 2) (fun y => ref11_product_6 N y.1.1 y.1.2.1 y.1.2.2.1 y.2.1 y.2.2.1 y.2.2.2.1 y.2.2.2.2.1) (ref11_product_K4 N) :=
 Blk.loopAt (Nf := N) (hns := [2, 3, 4, 5, 6, 7, 8]) (ans := [2, 3, 4, 5, 6, 7]) (hc := ref11_product_S0) (ac := ref11_product_S2) (bid := 2) (step := (fun y => ref11_product_s7 N y.1.1 y.1.2.1 y.1.2.2.1 y.2.1 y.2.2.1 y.2.2.2.1 y.2.2.2.2.1)) (J := (fun e => (goK 0 [2, 3, 4, 5, 6, 7] ref11_product_S2 (fun y => ref11_product_8 N y.1.1 y.1.2.1 y.2.1 y.2.2.1 y.2.2.2.1 y.2.2.2.2.1)) (ref11_product_S2.st [2, 3, 4, 5, 6, 7] e))) hb (by kernel_rfl) (Blk.into (X := (goK 0 [2, 3, 4, 5, 6, 7] ref11_product_S2 (fun y => ref11_product_8 N y.1.1 y.1.2.1 y.2.1 y.2.2.1 y.2.2.2.1 y.2.2.2.2.1))) (NxOk.go hb (ref11_product_8_b N hb)) (fun x => by kernel_rfl)) (ref11_product_s7_b N hb) (fun x => by kernel_rfl)
theorem ref11_product_5_b {E : Env} (N : Nat) (hb : Base Tryd.prog (ref11_product_C N) E 0) : Blk Tryd.prog (ref11_product_C N) E [2, 3, 4, 5, 6] ref11_product_S1 (ref11_product_L4b.drop 0) (fun y => ref11_product_5 N y.1.1 y.2.1 y.2.2.1 y.2.2.2.1 y.2.2.2.2.1) (ref11_product_K4 N) :=
 Blk.chunkAt hb 2 (X := (goK 0 [2, 3, 4, 5, 6, 7, 8] ref11_product_S0 (fun y => ref11_product_6 N y.1.1 y.1.2.1 y.1.2.2.1 y.2.1 y.2.2.1 y.2.2.2.1 y.2.2.2.2.1))) (NxOk.go hb (ref11_product_6_b N hb)) rfl (fun x => by kernel_rfl)
theorem ref11_product_3_b {E : Env} (N : Nat) (hb : Base Tryd.prog (ref11_product_C N) E 0) : Blk Tryd.prog (ref11_product_C N) E [2, 3, 4, 5, 6] ref11_product_S1 (ref11_product_L2.drop 2) (fun y => ref11_product_3 N y.1.1 y.2.1 y.2.2.1 y.2.2.2.1 y.2.2.2.2.1) (ref11_product_K2 N) :=
 Blk.blockAt (bid := 1) (X := (goK 0 [2, 3, 4, 5, 6] ref11_product_S1 (fun y => ref11_product_9 N y.1.1 y.2.1 y.2.2.1 y.2.2.2.1 y.2.2.2.2.1))) (Y := (goK 0 [2, 3, 4, 5, 6] ref11_product_S1 (fun y => ref11_product_5 N y.1.1 y.2.1 y.2.2.1 y.2.2.2.1 y.2.2.2.2.1))) (by kernel_rfl) (NxOk.go hb (ref11_product_9_b N hb)) (NxOk.go hb (ref11_product_5_b N hb)) (fun x => by kernel_rfl)
theorem ref11_product_s2_b {E : Env} (N : Nat) (hb : Base Tryd.prog (ref11_product_C N) E 0) : Blk Tryd.prog (ref11_product_C N) E [2, 3, 4, 5, 6] ref11_product_S1 (ref11_product_L2.drop 0) (fun y => ref11_product_s2 N y.1.1 y.2.1 y.2.2.1 y.2.2.2.1 y.2.2.2.2.1) (ref11_product_K2 N) :=
 Blk.chunkAt hb 2 (X := (goK 0 [2, 3, 4, 5, 6] ref11_product_S1 (fun y => ref11_product_3 N y.1.1 y.2.1 y.2.2.1 y.2.2.2.1 y.2.2.2.2.1))) (NxOk.go hb (ref11_product_3_b N hb)) rfl (fun x => by kernel_rfl)
theorem ref11_product_10_b {E : Env} (N : Nat) (hb : Base Tryd.prog (ref11_product_C N) E 0) : Blk Tryd.prog (ref11_product_C N) E [4, 5] ref11_product_S3 (ref11_product_L.drop 4) (fun y => ref11_product_10 N y.2.1 y.2.2.1) (ref11_product_K N) :=
 Blk.chunkAt hb 2 (X := (ref11_product_K N .normal)) (NxOk.end (by kernel_rfl)) rfl (fun x => by kernel_rfl)
theorem ref11_product_1_b {E : Env} (N : Nat) (hb : Base Tryd.prog (ref11_product_C N) E 0) : Blk Tryd.prog (ref11_product_C N) E [2, 3, 4, 5, 6] ref11_product_S1 (ref11_product_L.drop 3) (fun y => ref11_product_1 N y.1.1 y.2.1 y.2.2.1 y.2.2.2.1 y.2.2.2.2.1) (ref11_product_K N) :=
 Blk.loopAt (Nf := N) (hns := [2, 3, 4, 5, 6]) (ans := [4, 5]) (hc := ref11_product_S1) (ac := ref11_product_S3) (bid := 0) (step := (fun y => ref11_product_s2 N y.1.1 y.2.1 y.2.2.1 y.2.2.2.1 y.2.2.2.2.1)) (J := (fun e => (goK 0 [4, 5] ref11_product_S3 (fun y => ref11_product_10 N y.2.1 y.2.2.1)) (ref11_product_S3.st [4, 5] e))) hb (by kernel_rfl) (Blk.into (X := (goK 0 [4, 5] ref11_product_S3 (fun y => ref11_product_10 N y.2.1 y.2.2.1))) (NxOk.go hb (ref11_product_10_b N hb)) (fun x => by kernel_rfl)) (ref11_product_s2_b N hb) (fun x => by kernel_rfl)
theorem ref11_product_b {E : Env} (N : Nat) (hb : Base Tryd.prog (ref11_product_C N) E 0) : Blk Tryd.prog (ref11_product_C N) E (List.range ref11_product_S4.ks.length) ref11_product_S4 (ref11_product_L.drop 0) (fun y => ref11_product N y.1.1 y.1.2.1) (ref11_product_K N) :=
 Blk.chunkAt hb 3 (X := (goK 0 [2, 3, 4, 5, 6] ref11_product_S1 (fun y => ref11_product_1 N y.1.1 y.2.1 y.2.2.1 y.2.2.2.1 y.2.2.2.2.1))) (NxOk.go hb (ref11_product_1_b N hb)) rfl (fun x => by kernel_rfl)
def ref11_product_ctr (N : Nat) : Ctr := ⟨ref11_product_S4, ref11_product_S5.un [true], 0, (fun y => ref11_product N y.1.1 y.1.2.1)⟩
theorem ref11_product_ctrs (N : Nat) : CtrsOk Tryd.prog (ref11_product_C N) := ctrs_of (Γ := ref11_product_C N) G_ifs_ok (by
 intro p hp
 simp only [ref11_product_C, List.mem_cons, List.not_mem_nil, or_false] at hp
 rcases hp with rfl
 · exact ref11_carry_ok N)
theorem ref11_product_ok (N : Nat) : Ctr.ok Tryd.prog G_globs 220 (ref11_product_ctr N) :=
 ctr_fn (Γ := ref11_product_C N) (rfit := ref11_product_S5) (bs := [true]) (res := [4]) (by kernel_rfl) (tys_ok G_tys_ok) (ref11_product_ctrs N) Tryd.func220 (by kernel_rfl) (by kernel_rfl) Tryd.ntmps220 (by kernel_rfl) (by kernel_rfl) (by kernel_rfl) (by kernel_rfl) (fun E hb => ref11_product_b N hb)
/-! ipsecgate/ipsecgateref11.Sum -/
abbrev ref11_Sum_R : Type := ((Bool × Unit) × ((List UInt8) × Unit))
def ref11_Sum_s7 (N : Nat) (key_0 : (List UInt8)) (b_1 : (List UInt8)) (at_8 : Int) (n_9 : Int) (i_10 : Int) (r_6 : (List UInt32)) (h_7 : (List UInt32)) : Option (Lo (((List UInt8) × (List UInt8) × Int × Int × Int × Unit) × ((List UInt32) × (List UInt32) × Unit)) (((List UInt8) × (List UInt8) × Int × Int × Unit) × ((List UInt32) × (List UInt32) × Unit)) (Lo (((List UInt8) × (List UInt8) × Int × Unit) × ((List UInt32) × (List UInt32) × Unit)) (((List UInt8) × Unit) × ((List UInt32) × Unit)) ref11_Sum_R)) :=
 bif (decide (i_10 < n_9)) then
 bif inR i_10 17 then
 let x11 := w64 (at_8 + i_10)
 bif inR x11 b_1.length then
 bif inR i_10 17 then
 some (.go ((key_0, b_1, at_8, n_9, (w64 (i_10 + (1 : Int))), ()), (r_6, (h_7.set i_10.toNat ((h_7.getD i_10.toNat (0 : UInt32)) + (b_1.getD x11.toNat (0 : UInt8)).toUInt32)), ())))
 else none
 else none
 else none
 else
 some (.br ((key_0, b_1, at_8, n_9, ()), (r_6, h_7, ())))
def ref11_Sum_9 (N : Nat) (key_0 : (List UInt8)) (b_1 : (List UInt8)) (at_8 : Int) (r_6 : (List UInt32)) (h_7 : (List UInt32)) : Option (Lo (((List UInt8) × (List UInt8) × Int × Unit) × ((List UInt32) × (List UInt32) × Unit)) (((List UInt8) × Unit) × ((List UInt32) × Unit)) ref11_Sum_R) :=
 some (.go ((key_0, b_1, (w64 (at_8 + (16 : Int))), ()), (r_6, h_7, ())))
def ref11_Sum_8 (N : Nat) (key_0 : (List UInt8)) (b_1 : (List UInt8)) (at_8 : Int) (n_9 : Int) (r_6 : (List UInt32)) (h_7 : (List UInt32)) : Option (Lo (((List UInt8) × (List UInt8) × Int × Unit) × ((List UInt32) × (List UInt32) × Unit)) (((List UInt8) × Unit) × ((List UInt32) × Unit)) ref11_Sum_R) :=
 bif inR n_9 17 then
 bif inR n_9 17 then
 Option.bind (ref11_carry N (h_7.set n_9.toNat ((h_7.getD n_9.toNat (0 : UInt32)) + (1 : UInt32)))) fun y19 =>
 Option.bind (ref11_product N y19.1.1 r_6) fun y20 =>
 ref11_Sum_9 N key_0 b_1 at_8 r_6 y20.1.1
 else none
 else none
def ref11_Sum_6 (N : Nat) (key_0 : (List UInt8)) (b_1 : (List UInt8)) (at_8 : Int) (n_9 : Int) (i_10 : Int) (r_6 : (List UInt32)) (h_7 : (List UInt32)) : Option (Lo (((List UInt8) × (List UInt8) × Int × Unit) × ((List UInt32) × (List UInt32) × Unit)) (((List UInt8) × Unit) × ((List UInt32) × Unit)) ref11_Sum_R) :=
 loopK N (fun y => ref11_Sum_s7 N y.1.1 y.1.2.1 y.1.2.2.1 y.1.2.2.2.1 y.1.2.2.2.2.1 y.2.1 y.2.2.1) (fun (e : (((List UInt8) × (List UInt8) × Int × Int × Unit) × ((List UInt32) × (List UInt32) × Unit))) => ref11_Sum_8 N e.1.1 e.1.2.1 e.1.2.2.1 e.1.2.2.2.1 e.2.1 e.2.2.1) ((key_0, b_1, at_8, n_9, i_10, ()), (r_6, h_7, ()))
def ref11_Sum_5 (N : Nat) (key_0 : (List UInt8)) (b_1 : (List UInt8)) (at_8 : Int) (r_6 : (List UInt32)) (h_7 : (List UInt32)) : Option (Lo (((List UInt8) × (List UInt8) × Int × Unit) × ((List UInt32) × (List UInt32) × Unit)) (((List UInt8) × Unit) × ((List UInt32) × Unit)) ref11_Sum_R) :=
 let x7 := w64 ((b_1.length : Int) - at_8)
 ref11_Sum_6 N key_0 b_1 at_8 (bif decide (x7 < (16 : Int)) then x7 else (16 : Int)) (0 : Int) r_6 h_7
def ref11_Sum_3 (N : Nat) (key_0 : (List UInt8)) (b_1 : (List UInt8)) (at_8 : Int) (r_6 : (List UInt32)) (h_7 : (List UInt32)) : Option (Lo (((List UInt8) × (List UInt8) × Int × Unit) × ((List UInt32) × (List UInt32) × Unit)) (((List UInt8) × Unit) × ((List UInt32) × Unit)) ref11_Sum_R) :=
 ref11_Sum_5 N key_0 b_1 at_8 r_6 h_7
def ref11_Sum_s2 (N : Nat) (key_0 : (List UInt8)) (b_1 : (List UInt8)) (at_8 : Int) (r_6 : (List UInt32)) (h_7 : (List UInt32)) : Option (Lo (((List UInt8) × (List UInt8) × Int × Unit) × ((List UInt32) × (List UInt32) × Unit)) (((List UInt8) × Unit) × ((List UInt32) × Unit)) ref11_Sum_R) :=
 bif (decide (at_8 < (b_1.length : Int))) then
 ref11_Sum_3 N key_0 b_1 at_8 r_6 h_7
 else
 some (.br ((key_0, ()), (h_7, ())))
def ref11_Sum_s12 (N : Nat) (key_0 : (List UInt8)) (u_12 : UInt32) (i_13 : Int) (h_7 : (List UInt32)) (g_11 : (List UInt32)) : Option (Lo (((List UInt8) × UInt32 × Int × Unit) × ((List UInt32) × (List UInt32) × Unit)) (((List UInt8) × Unit) × ((List UInt32) × (List UInt32) × Unit)) ref11_Sum_R) :=
 bif (decide (i_13 < (17 : Int))) then
 bif inR i_13 17 then
 let x24 := (h_7.getD i_13.toNat (0 : UInt32))
 bif inR i_13 17 then
 some (.go ((key_0, (shr32 (u_12 + x24) 8), (w64 (i_13 + (1 : Int))), ()), (h_7, (g_11.set i_13.toNat ((u_12 + x24) &&& (255 : UInt32))), ())))
 else none
 else none
 else
 some (.br ((key_0, ()), (h_7, g_11, ())))
def ref11_Sum_s16 (N : Nat) (key_0 : (List UInt8)) (u_12 : UInt32) (i_15 : Int) (h_7 : (List UInt32)) (out_14 : (List UInt8)) : Option (Lo (((List UInt8) × UInt32 × Int × Unit) × ((List UInt32) × (List UInt8) × Unit)) ((Unit) × ((List UInt8) × Unit)) ref11_Sum_R) :=
 bif (decide (i_15 < (16 : Int))) then
 bif inR i_15 17 then
 let x34 := w64 ((16 : Int) + i_15)
 bif inR x34 key_0.length then
 let x36 := (h_7.getD i_15.toNat (0 : UInt32)) + (key_0.getD x34.toNat (0 : UInt8)).toUInt32
 bif room (out_14.length + ([(u_12 + x36).toUInt8] : List UInt8).length) 1 then
 some (.go ((key_0, (shr32 (u_12 + x36) 8), (w64 (i_15 + (1 : Int))), ()), (h_7, (out_14 ++ ([(u_12 + x36).toUInt8] : List UInt8)), ())))
 else none
 else none
 else none
 else
 some (.br ((()), (out_14, ())))
def ref11_Sum_17 (N : Nat) (out_14 : (List UInt8)) : Option ref11_Sum_R :=
 some ((true, ()), (out_14, ()))
def ref11_Sum_15 (N : Nat) (key_0 : (List UInt8)) (u_12 : UInt32) (i_15 : Int) (h_7 : (List UInt32)) (out_14 : (List UInt8)) : Option ref11_Sum_R :=
 loopK N (fun y => ref11_Sum_s16 N y.1.1 y.1.2.1 y.1.2.2.1 y.2.1 y.2.2.1) (fun (e : ((Unit) × ((List UInt8) × Unit))) => ref11_Sum_17 N e.2.1) ((key_0, u_12, i_15, ()), (h_7, out_14, ()))
def ref11_Sum_14 (N : Nat) (key_0 : (List UInt8)) (h_7 : (List UInt32)) : Option ref11_Sum_R :=
 ref11_Sum_15 N key_0 (0 : UInt32) (0 : Int) h_7 ([] : List UInt8)
def ref11_Sum_13 (N : Nat) (key_0 : (List UInt8)) (h_7 : (List UInt32)) (g_11 : (List UInt32)) : Option ref11_Sum_R :=
 bif (decide ((4 : UInt32) ≤ (g_11.getD 16 (0 : UInt32)))) then
 ref11_Sum_14 N key_0 g_11
 else
 ref11_Sum_14 N key_0 h_7
def ref11_Sum_11 (N : Nat) (key_0 : (List UInt8)) (u_12 : UInt32) (i_13 : Int) (h_7 : (List UInt32)) (g_11 : (List UInt32)) : Option ref11_Sum_R :=
 loopK N (fun y => ref11_Sum_s12 N y.1.1 y.1.2.1 y.1.2.2.1 y.2.1 y.2.2.1) (fun (e : (((List UInt8) × Unit) × ((List UInt32) × (List UInt32) × Unit))) => ref11_Sum_13 N e.1.1 e.2.1 e.2.2.1) ((key_0, u_12, i_13, ()), (h_7, g_11, ()))
def ref11_Sum_10 (N : Nat) (key_0 : (List UInt8)) (h_7 : (List UInt32)) : Option ref11_Sum_R :=
 Option.bind (ref11_carry N h_7) fun y22 =>
 ref11_Sum_11 N key_0 (5 : UInt32) (0 : Int) y22.1.1 (List.replicate 17 (0 : UInt32))
def ref11_Sum_1 (N : Nat) (key_0 : (List UInt8)) (b_1 : (List UInt8)) (at_8 : Int) (r_6 : (List UInt32)) (h_7 : (List UInt32)) : Option ref11_Sum_R :=
 loopK N (fun y => ref11_Sum_s2 N y.1.1 y.1.2.1 y.1.2.2.1 y.2.1 y.2.2.1) (fun (e : (((List UInt8) × Unit) × ((List UInt32) × Unit))) => ref11_Sum_10 N e.1.1 e.2.1) ((key_0, b_1, at_8, ()), (r_6, h_7, ()))
def ref11_Sum (N : Nat) (key_0 : (List UInt8)) (b_1 : (List UInt8)) : Option ref11_Sum_R :=
 bif (!(decide ((key_0.length : Int) = (32 : Int)))) then
 some ((false, ()), (([] : List UInt8), ()))
 else
 Option.bind (ref11_clamp N key_0) fun y3 =>
 ref11_Sum_1 N key_0 b_1 (0 : Int) y3.1.1 (List.replicate 17 (0 : UInt32))
def ref11_Sum_C (N : Nat) : Ctx := ⟨103, G_tys, [(219, ref11_clamp_ctr N), (221, ref11_carry_ctr N), (220, ref11_product_ctr N)], G_globs, G_ifs⟩
def ref11_Sum_S0 : Spec := ⟨[.val (.sl .u8), .val (.sl .u8), .ref 0 (.arr 17 .u32), .ref 1 (.arr 17 .u32), .val .i64, .val .i64, .val .i64], [(.box 250 (.arr 17 .u32), .pos 2), (.box 250 (.arr 17 .u32), .pos 3)]⟩
def ref11_Sum_S1 : Spec := ⟨[.val (.sl .u8), .val (.sl .u8), .ref 0 (.arr 17 .u32), .ref 1 (.arr 17 .u32), .val .i64], [(.box 250 (.arr 17 .u32), .pos 2), (.box 250 (.arr 17 .u32), .pos 3)]⟩
def ref11_Sum_S2 : Spec := ⟨[.val (.sl .u8), .val (.sl .u8), .ref 0 (.arr 17 .u32), .ref 1 (.arr 17 .u32), .val .i64, .val .i64], [(.box 250 (.arr 17 .u32), .pos 2), (.box 250 (.arr 17 .u32), .pos 3)]⟩
def ref11_Sum_S3 : Spec := ⟨[.val (.sl .u8), .ref 0 (.arr 17 .u32), .ref 1 (.arr 17 .u32), .val .u32, .val .i64], [(.box 250 (.arr 17 .u32), .pos 1), (.box 250 (.arr 17 .u32), .pos 2)]⟩
def ref11_Sum_S4 : Spec := ⟨[.val (.sl .u8), .ref 0 (.arr 17 .u32), .val .u32, .row 1, .val .i64], [(.box 250 (.arr 17 .u32), .pos 1), (.row 5 .u8, .pos 3)]⟩
def ref11_Sum_S5 : Spec := ⟨[.row 0], [(.row 5 .u8, .pos 0)]⟩
def ref11_Sum_S6 : Spec := ⟨[.val (.sl .u8), .ref 0 (.arr 17 .u32)], [(.box 250 (.arr 17 .u32), .pos 1)]⟩
def ref11_Sum_S7 : Spec := ⟨[.val (.sl .u8), .ref 0 (.arr 17 .u32), .ref 1 (.arr 17 .u32)], [(.box 250 (.arr 17 .u32), .pos 1), (.box 250 (.arr 17 .u32), .pos 2)]⟩
def ref11_Sum_S8 : Spec := ⟨[.val (.sl .u8), .val (.sl .u8)], []⟩
def ref11_Sum_S9 : Spec := ⟨[.row 0, .val .bool], [(.row 5 .u8, .pos 0)]⟩
def ref11_Sum_K (_N : Nat) : XE → GS → Option ref11_Sum_R := retK 0 [4, 5] [false, false] ref11_Sum_S9
def ref11_Sum_L : List Code := (bodyOf (some Tryd.f197))
def ref11_Sum_L2 : List Code := (loopOf (ref11_Sum_L[6]?))
def ref11_Sum_L4b : List Code := (blockOf (ref11_Sum_L2[2]?))
def ref11_Sum_L7 : List Code := (loopOf (ref11_Sum_L4b[2]?))
def ref11_Sum_L12 : List Code := (loopOf (ref11_Sum_L[11]?))
def ref11_Sum_L16 : List Code := (loopOf (ref11_Sum_L[17]?))
def ref11_Sum_K2 (N : Nat) : XE → GS → Option (Lo (((List UInt8) × (List UInt8) × Int × Unit) × ((List UInt32) × (List UInt32) × Unit)) (((List UInt8) × Unit) × ((List UInt32) × Unit)) ref11_Sum_R) := roundK (some 0) (fit 0 [0, 1, 6, 7, 8] ref11_Sum_S1) (fit 0 [0, 7] ref11_Sum_S6) (ref11_Sum_K N)
def ref11_Sum_K12 (N : Nat) : XE → GS → Option (Lo (((List UInt8) × UInt32 × Int × Unit) × ((List UInt32) × (List UInt32) × Unit)) (((List UInt8) × Unit) × ((List UInt32) × (List UInt32) × Unit)) ref11_Sum_R) := roundK (some 4) (fit 0 [0, 7, 11, 12, 13] ref11_Sum_S3) (fit 0 [0, 7, 11] ref11_Sum_S7) (ref11_Sum_K N)
def ref11_Sum_K16 (N : Nat) : XE → GS → Option (Lo (((List UInt8) × UInt32 × Int × Unit) × ((List UInt32) × (List UInt8) × Unit)) ((Unit) × ((List UInt8) × Unit)) ref11_Sum_R) := roundK (some 6) (fit 0 [0, 7, 12, 14, 15] ref11_Sum_S4) (fit 0 [14] ref11_Sum_S5) (ref11_Sum_K N)
def ref11_Sum_K4 (N : Nat) : XE → GS → Option (Lo (((List UInt8) × (List UInt8) × Int × Unit) × ((List UInt32) × (List UInt32) × Unit)) (((List UInt8) × Unit) × ((List UInt32) × Unit)) ref11_Sum_R) := blockK 1 (goK 0 [0, 1, 6, 7, 8] ref11_Sum_S1 (fun y => ref11_Sum_9 N y.1.1 y.1.2.1 y.1.2.2.1 y.2.1 y.2.2.1)) (ref11_Sum_K2 N)
def ref11_Sum_K7 (N : Nat) : XE → GS → Option (Lo (((List UInt8) × (List UInt8) × Int × Int × Int × Unit) × ((List UInt32) × (List UInt32) × Unit)) (((List UInt8) × (List UInt8) × Int × Int × Unit) × ((List UInt32) × (List UInt32) × Unit)) (Lo (((List UInt8) × (List UInt8) × Int × Unit) × ((List UInt32) × (List UInt32) × Unit)) (((List UInt8) × Unit) × ((List UInt32) × Unit)) ref11_Sum_R)) := roundK (some 2) (fit 0 [0, 1, 6, 7, 8, 9, 10] ref11_Sum_S0) (fit 0 [0, 1, 6, 7, 8, 9] ref11_Sum_S2) (ref11_Sum_K4 N)
theorem ref11_Sum_s7_b {E : Env} (N : Nat) (hb : Base Tryd.prog (ref11_Sum_C N) E 0) : Blk Tryd.prog (ref11_Sum_C N) E [0, 1, 6, 7, 8, 9, 10] ref11_Sum_S0 (ref11_Sum_L7.drop 0) (fun y => ref11_Sum_s7 N y.1.1 y.1.2.1 y.1.2.2.1 y.1.2.2.2.1 y.1.2.2.2.2.1 y.2.1 y.2.2.1) (ref11_Sum_K7 N) :=
 Blk.chunkAt hb 4 (X := (ref11_Sum_K7 N .normal)) (NxOk.end (by kernel_rfl)) rfl (fun x => by kernel_rfl)
theorem ref11_Sum_9_b {E : Env} (N : Nat) (hb : Base Tryd.prog (ref11_Sum_C N) E 0) : Blk Tryd.prog (ref11_Sum_C N) E [0, 1, 6, 7, 8] ref11_Sum_S1 (ref11_Sum_L2.drop 3) (fun y => ref11_Sum_9 N y.1.1 y.1.2.1 y.1.2.2.1 y.2.1 y.2.2.1) (ref11_Sum_K2 N) :=
 Blk.chunkAt hb 1 (X := (ref11_Sum_K2 N .normal)) (NxOk.end (by kernel_rfl)) rfl (fun x => by kernel_rfl)
theorem ref11_Sum_8_b {E : Env} (N : Nat) (hb : Base Tryd.prog (ref11_Sum_C N) E 0) : Blk Tryd.prog (ref11_Sum_C N) E [0, 1, 6, 7, 8, 9] ref11_Sum_S2 (ref11_Sum_L4b.drop 3) (fun y => ref11_Sum_8 N y.1.1 y.1.2.1 y.1.2.2.1 y.1.2.2.2.1 y.2.1 y.2.2.1) (ref11_Sum_K4 N) :=
 Blk.chunkAt hb 2 (X := (ref11_Sum_K4 N .normal)) (NxOk.end (by kernel_rfl)) rfl (fun x => by kernel_rfl)
theorem ref11_Sum_6_b {E : Env} (N : Nat) (hb : Base Tryd.prog (ref11_Sum_C N) E 0) : Blk Tryd.prog (ref11_Sum_C N) E [0, 1, 6, 7, 8, 9, 10] ref11_Sum_S0 (ref11_Sum_L4b.drop 2) (fun y => ref11_Sum_6 N y.1.1 y.1.2.1 y.1.2.2.1 y.1.2.2.2.1 y.1.2.2.2.2.1 y.2.1 y.2.2.1) (ref11_Sum_K4 N) :=
 Blk.loopAt (Nf := N) (hns := [0, 1, 6, 7, 8, 9, 10]) (ans := [0, 1, 6, 7, 8, 9]) (hc := ref11_Sum_S0) (ac := ref11_Sum_S2) (bid := 2) (step := (fun y => ref11_Sum_s7 N y.1.1 y.1.2.1 y.1.2.2.1 y.1.2.2.2.1 y.1.2.2.2.2.1 y.2.1 y.2.2.1)) (J := (fun e => (goK 0 [0, 1, 6, 7, 8, 9] ref11_Sum_S2 (fun y => ref11_Sum_8 N y.1.1 y.1.2.1 y.1.2.2.1 y.1.2.2.2.1 y.2.1 y.2.2.1)) (ref11_Sum_S2.st [0, 1, 6, 7, 8, 9] e))) hb (by kernel_rfl) (Blk.into (X := (goK 0 [0, 1, 6, 7, 8, 9] ref11_Sum_S2 (fun y => ref11_Sum_8 N y.1.1 y.1.2.1 y.1.2.2.1 y.1.2.2.2.1 y.2.1 y.2.2.1))) (NxOk.go hb (ref11_Sum_8_b N hb)) (fun x => by kernel_rfl)) (ref11_Sum_s7_b N hb) (fun x => by kernel_rfl)
theorem ref11_Sum_5_b {E : Env} (N : Nat) (hb : Base Tryd.prog (ref11_Sum_C N) E 0) : Blk Tryd.prog (ref11_Sum_C N) E [0, 1, 6, 7, 8] ref11_Sum_S1 (ref11_Sum_L4b.drop 0) (fun y => ref11_Sum_5 N y.1.1 y.1.2.1 y.1.2.2.1 y.2.1 y.2.2.1) (ref11_Sum_K4 N) :=
 Blk.chunkAt hb 2 (X := (goK 0 [0, 1, 6, 7, 8, 9, 10] ref11_Sum_S0 (fun y => ref11_Sum_6 N y.1.1 y.1.2.1 y.1.2.2.1 y.1.2.2.2.1 y.1.2.2.2.2.1 y.2.1 y.2.2.1))) (NxOk.go hb (ref11_Sum_6_b N hb)) rfl (fun x => by kernel_rfl)
theorem ref11_Sum_3_b {E : Env} (N : Nat) (hb : Base Tryd.prog (ref11_Sum_C N) E 0) : Blk Tryd.prog (ref11_Sum_C N) E [0, 1, 6, 7, 8] ref11_Sum_S1 (ref11_Sum_L2.drop 2) (fun y => ref11_Sum_3 N y.1.1 y.1.2.1 y.1.2.2.1 y.2.1 y.2.2.1) (ref11_Sum_K2 N) :=
 Blk.blockAt (bid := 1) (X := (goK 0 [0, 1, 6, 7, 8] ref11_Sum_S1 (fun y => ref11_Sum_9 N y.1.1 y.1.2.1 y.1.2.2.1 y.2.1 y.2.2.1))) (Y := (goK 0 [0, 1, 6, 7, 8] ref11_Sum_S1 (fun y => ref11_Sum_5 N y.1.1 y.1.2.1 y.1.2.2.1 y.2.1 y.2.2.1))) (by kernel_rfl) (NxOk.go hb (ref11_Sum_9_b N hb)) (NxOk.go hb (ref11_Sum_5_b N hb)) (fun x => by kernel_rfl)
theorem ref11_Sum_s2_b {E : Env} (N : Nat) (hb : Base Tryd.prog (ref11_Sum_C N) E 0) : Blk Tryd.prog (ref11_Sum_C N) E [0, 1, 6, 7, 8] ref11_Sum_S1 (ref11_Sum_L2.drop 0) (fun y => ref11_Sum_s2 N y.1.1 y.1.2.1 y.1.2.2.1 y.2.1 y.2.2.1) (ref11_Sum_K2 N) :=
 Blk.chunkAt hb 2 (X := (goK 0 [0, 1, 6, 7, 8] ref11_Sum_S1 (fun y => ref11_Sum_3 N y.1.1 y.1.2.1 y.1.2.2.1 y.2.1 y.2.2.1))) (NxOk.go hb (ref11_Sum_3_b N hb)) rfl (fun x => by kernel_rfl)
theorem ref11_Sum_s12_b {E : Env} (N : Nat) (hb : Base Tryd.prog (ref11_Sum_C N) E 0) : Blk Tryd.prog (ref11_Sum_C N) E [0, 7, 11, 12, 13] ref11_Sum_S3 (ref11_Sum_L12.drop 0) (fun y => ref11_Sum_s12 N y.1.1 y.1.2.1 y.1.2.2.1 y.2.1 y.2.2.1) (ref11_Sum_K12 N) :=
 Blk.chunkAt hb 4 (X := (ref11_Sum_K12 N .normal)) (NxOk.end (by kernel_rfl)) rfl (fun x => by kernel_rfl)
theorem ref11_Sum_s16_b {E : Env} (N : Nat) (hb : Base Tryd.prog (ref11_Sum_C N) E 0) : Blk Tryd.prog (ref11_Sum_C N) E [0, 7, 12, 14, 15] ref11_Sum_S4 (ref11_Sum_L16.drop 0) (fun y => ref11_Sum_s16 N y.1.1 y.1.2.1 y.1.2.2.1 y.2.1 y.2.2.1) (ref11_Sum_K16 N) :=
 Blk.chunkAt hb 4 (X := (ref11_Sum_K16 N .normal)) (NxOk.end (by kernel_rfl)) rfl (fun x => by kernel_rfl)
theorem ref11_Sum_17_b {E : Env} (N : Nat) (hb : Base Tryd.prog (ref11_Sum_C N) E 0) : Blk Tryd.prog (ref11_Sum_C N) E [14] ref11_Sum_S5 (ref11_Sum_L.drop 18) (fun y => ref11_Sum_17 N y.2.1) (ref11_Sum_K N) :=
 Blk.chunkAt hb 2 (X := (ref11_Sum_K N .normal)) (NxOk.end (by kernel_rfl)) rfl (fun x => by kernel_rfl)
theorem ref11_Sum_15_b {E : Env} (N : Nat) (hb : Base Tryd.prog (ref11_Sum_C N) E 0) : Blk Tryd.prog (ref11_Sum_C N) E [0, 7, 12, 14, 15] ref11_Sum_S4 (ref11_Sum_L.drop 17) (fun y => ref11_Sum_15 N y.1.1 y.1.2.1 y.1.2.2.1 y.2.1 y.2.2.1) (ref11_Sum_K N) :=
 Blk.loopAt (Nf := N) (hns := [0, 7, 12, 14, 15]) (ans := [14]) (hc := ref11_Sum_S4) (ac := ref11_Sum_S5) (bid := 6) (step := (fun y => ref11_Sum_s16 N y.1.1 y.1.2.1 y.1.2.2.1 y.2.1 y.2.2.1)) (J := (fun e => (goK 0 [14] ref11_Sum_S5 (fun y => ref11_Sum_17 N y.2.1)) (ref11_Sum_S5.st [14] e))) hb (by kernel_rfl) (Blk.into (X := (goK 0 [14] ref11_Sum_S5 (fun y => ref11_Sum_17 N y.2.1))) (NxOk.go hb (ref11_Sum_17_b N hb)) (fun x => by kernel_rfl)) (ref11_Sum_s16_b N hb) (fun x => by kernel_rfl)
theorem ref11_Sum_14_b {E : Env} (N : Nat) (hb : Base Tryd.prog (ref11_Sum_C N) E 0) : Blk Tryd.prog (ref11_Sum_C N) E [0, 7] ref11_Sum_S6 (ref11_Sum_L.drop 14) (fun y => ref11_Sum_14 N y.1.1 y.2.1) (ref11_Sum_K N) :=
 Blk.chunkAt hb 3 (X := (goK 0 [0, 7, 12, 14, 15] ref11_Sum_S4 (fun y => ref11_Sum_15 N y.1.1 y.1.2.1 y.1.2.2.1 y.2.1 y.2.2.1))) (NxOk.go hb (ref11_Sum_15_b N hb)) rfl (fun x => by kernel_rfl)
theorem ref11_Sum_13_b {E : Env} (N : Nat) (hb : Base Tryd.prog (ref11_Sum_C N) E 0) : Blk Tryd.prog (ref11_Sum_C N) E [0, 7, 11] ref11_Sum_S7 (ref11_Sum_L.drop 12) (fun y => ref11_Sum_13 N y.1.1 y.2.1 y.2.2.1) (ref11_Sum_K N) :=
 Blk.chunkAt hb 2 (X := (goK 0 [0, 7] ref11_Sum_S6 (fun y => ref11_Sum_14 N y.1.1 y.2.1))) (NxOk.go hb (ref11_Sum_14_b N hb)) rfl (fun x => by kernel_rfl)
theorem ref11_Sum_11_b {E : Env} (N : Nat) (hb : Base Tryd.prog (ref11_Sum_C N) E 0) : Blk Tryd.prog (ref11_Sum_C N) E [0, 7, 11, 12, 13] ref11_Sum_S3 (ref11_Sum_L.drop 11) (fun y => ref11_Sum_11 N y.1.1 y.1.2.1 y.1.2.2.1 y.2.1 y.2.2.1) (ref11_Sum_K N) :=
 Blk.loopAt (Nf := N) (hns := [0, 7, 11, 12, 13]) (ans := [0, 7, 11]) (hc := ref11_Sum_S3) (ac := ref11_Sum_S7) (bid := 4) (step := (fun y => ref11_Sum_s12 N y.1.1 y.1.2.1 y.1.2.2.1 y.2.1 y.2.2.1)) (J := (fun e => (goK 0 [0, 7, 11] ref11_Sum_S7 (fun y => ref11_Sum_13 N y.1.1 y.2.1 y.2.2.1)) (ref11_Sum_S7.st [0, 7, 11] e))) hb (by kernel_rfl) (Blk.into (X := (goK 0 [0, 7, 11] ref11_Sum_S7 (fun y => ref11_Sum_13 N y.1.1 y.2.1 y.2.2.1))) (NxOk.go hb (ref11_Sum_13_b N hb)) (fun x => by kernel_rfl)) (ref11_Sum_s12_b N hb) (fun x => by kernel_rfl)
theorem ref11_Sum_10_b {E : Env} (N : Nat) (hb : Base Tryd.prog (ref11_Sum_C N) E 0) : Blk Tryd.prog (ref11_Sum_C N) E [0, 7] ref11_Sum_S6 (ref11_Sum_L.drop 7) (fun y => ref11_Sum_10 N y.1.1 y.2.1) (ref11_Sum_K N) :=
 Blk.chunkAt hb 4 (X := (goK 0 [0, 7, 11, 12, 13] ref11_Sum_S3 (fun y => ref11_Sum_11 N y.1.1 y.1.2.1 y.1.2.2.1 y.2.1 y.2.2.1))) (NxOk.go hb (ref11_Sum_11_b N hb)) rfl (fun x => by kernel_rfl)
theorem ref11_Sum_1_b {E : Env} (N : Nat) (hb : Base Tryd.prog (ref11_Sum_C N) E 0) : Blk Tryd.prog (ref11_Sum_C N) E [0, 1, 6, 7, 8] ref11_Sum_S1 (ref11_Sum_L.drop 6) (fun y => ref11_Sum_1 N y.1.1 y.1.2.1 y.1.2.2.1 y.2.1 y.2.2.1) (ref11_Sum_K N) :=
 Blk.loopAt (Nf := N) (hns := [0, 1, 6, 7, 8]) (ans := [0, 7]) (hc := ref11_Sum_S1) (ac := ref11_Sum_S6) (bid := 0) (step := (fun y => ref11_Sum_s2 N y.1.1 y.1.2.1 y.1.2.2.1 y.2.1 y.2.2.1)) (J := (fun e => (goK 0 [0, 7] ref11_Sum_S6 (fun y => ref11_Sum_10 N y.1.1 y.2.1)) (ref11_Sum_S6.st [0, 7] e))) hb (by kernel_rfl) (Blk.into (X := (goK 0 [0, 7] ref11_Sum_S6 (fun y => ref11_Sum_10 N y.1.1 y.2.1))) (NxOk.go hb (ref11_Sum_10_b N hb)) (fun x => by kernel_rfl)) (ref11_Sum_s2_b N hb) (fun x => by kernel_rfl)
theorem ref11_Sum_b {E : Env} (N : Nat) (hb : Base Tryd.prog (ref11_Sum_C N) E 0) : Blk Tryd.prog (ref11_Sum_C N) E (List.range ref11_Sum_S8.ks.length) ref11_Sum_S8 (ref11_Sum_L.drop 0) (fun y => ref11_Sum N y.1.1 y.1.2.1) (ref11_Sum_K N) :=
 Blk.chunkAt hb 6 (X := (goK 0 [0, 1, 6, 7, 8] ref11_Sum_S1 (fun y => ref11_Sum_1 N y.1.1 y.1.2.1 y.1.2.2.1 y.2.1 y.2.2.1))) (NxOk.go hb (ref11_Sum_1_b N hb)) rfl (fun x => by kernel_rfl)
def ref11_Sum_ctr (N : Nat) : Ctr := ⟨ref11_Sum_S8, ref11_Sum_S9.un [false, false], 0, (fun y => ref11_Sum N y.1.1 y.1.2.1)⟩
theorem ref11_Sum_ctrs (N : Nat) : CtrsOk Tryd.prog (ref11_Sum_C N) := ctrs_of (Γ := ref11_Sum_C N) G_ifs_ok (by
 intro p hp
 simp only [ref11_Sum_C, List.mem_cons, List.not_mem_nil, or_false] at hp
 rcases hp with rfl | rfl | rfl
 · exact ref11_clamp_ok N
 · exact ref11_carry_ok N
 · exact ref11_product_ok N)
theorem ref11_Sum_ok (N : Nat) : Ctr.ok Tryd.prog G_globs 197 (ref11_Sum_ctr N) :=
 ctr_fn (Γ := ref11_Sum_C N) (rfit := ref11_Sum_S9) (bs := [false, false]) (res := [4, 5]) (by kernel_rfl) (tys_ok G_tys_ok) (ref11_Sum_ctrs N) Tryd.func197 (by kernel_rfl) (by kernel_rfl) Tryd.ntmps197 (by kernel_rfl) (by kernel_rfl) (by kernel_rfl) (by kernel_rfl) (fun E hb => ref11_Sum_b N hb)
/-! ipsecgate/ipsecgateref12.Tag -/
abbrev ref12_Tag_R : Type := ((Bool × Unit) × ((List UInt8) × Unit))
def ref12_Tag (N : Nat) (key_0 : (List UInt8)) (nonce_1 : (List UInt8)) (data_2 : (List UInt8)) (cipher_3 : (List UInt8)) : Option ref12_Tag_R :=
 Option.bind (ref10_Block N key_0 (0 : UInt32) nonce_1) fun y1 =>
 bif (!y1.1.1) then
 some ((false, ()), (([] : List UInt8), ()))
 else
 Option.bind (ref12_pad N data_2) fun y3 =>
 Option.bind (ref12_pad N cipher_3) fun y4 =>
 bif room (y3.2.1.length + y4.2.1.length) 1 then
 Option.bind (ref12_little N (iu64 (data_2.length : Int)) (y3.2.1 ++ y4.2.1)) fun y8 =>
 Option.bind (ref12_little N (iu64 (cipher_3.length : Int)) y8.2.1) fun y11 =>
 bif decide (0 ≤ (0 : Int)) && decide ((0 : Int) ≤ (32 : Int)) && decide ((32 : Int) ≤ (y1.2.1.length : Int)) && true then
 Option.bind (ref11_Sum N (cut y1.2.1 0 32) y11.2.1) fun y13 =>
 some ((y13.1.1, ()), (y13.2.1, ()))
 else none
 else none
def ref12_Tag_C (N : Nat) : Ctx := ⟨41, G_tys, [(194, ref10_Block_ctr N), (195, ref12_pad_ctr N), (196, ref12_little_ctr N), (197, ref11_Sum_ctr N)], G_globs, G_ifs⟩
def ref12_Tag_S0 : Spec := ⟨[.val (.sl .u8), .val (.sl .u8), .val (.sl .u8), .val (.sl .u8)], []⟩
def ref12_Tag_S1 : Spec := ⟨[.row 0, .val .bool], [(.row 5 .u8, .pos 0)]⟩
def ref12_Tag_K (_N : Nat) : XE → GS → Option ref12_Tag_R := retK 0 [8, 9] [false, false] ref12_Tag_S1
def ref12_Tag_L : List Code := (bodyOf (some Tryd.f160))
theorem ref12_Tag_b {E : Env} (N : Nat) (hb : Base Tryd.prog (ref12_Tag_C N) E 0) : Blk Tryd.prog (ref12_Tag_C N) E (List.range ref12_Tag_S0.ks.length) ref12_Tag_S0 (ref12_Tag_L.drop 0) (fun y => ref12_Tag N y.1.1 y.1.2.1 y.1.2.2.1 y.1.2.2.2.1) (ref12_Tag_K N) :=
 Blk.chunkAt hb 8 (X := (ref12_Tag_K N .normal)) (NxOk.end (by kernel_rfl)) rfl (fun x => by kernel_rfl)
def ref12_Tag_ctr (N : Nat) : Ctr := ⟨ref12_Tag_S0, ref12_Tag_S1.un [false, false], 0, (fun y => ref12_Tag N y.1.1 y.1.2.1 y.1.2.2.1 y.1.2.2.2.1)⟩
theorem ref12_Tag_ctrs (N : Nat) : CtrsOk Tryd.prog (ref12_Tag_C N) := ctrs_of (Γ := ref12_Tag_C N) G_ifs_ok (by
 intro p hp
 simp only [ref12_Tag_C, List.mem_cons, List.not_mem_nil, or_false] at hp
 rcases hp with rfl | rfl | rfl | rfl
 · exact ref10_Block_ok N
 · exact ref12_pad_ok N
 · exact ref12_little_ok N
 · exact ref11_Sum_ok N)
theorem ref12_Tag_ok (N : Nat) : Ctr.ok Tryd.prog G_globs 160 (ref12_Tag_ctr N) :=
 ctr_fn (Γ := ref12_Tag_C N) (rfit := ref12_Tag_S1) (bs := [false, false]) (res := [8, 9]) (by kernel_rfl) (tys_ok G_tys_ok) (ref12_Tag_ctrs N) Tryd.func160 (by kernel_rfl) (by kernel_rfl) Tryd.ntmps160 (by kernel_rfl) (by kernel_rfl) (by kernel_rfl) (by kernel_rfl) (fun E hb => ref12_Tag_b N hb)
/-! ipsecgate/ipsecgateref12.Seal -/
abbrev ref12_Seal_R : Type := ((Int × Unit) × ((List UInt8) × Unit))
def ref12_Seal (N : Nat) (key_0 : (List UInt8)) (nonce_1 : (List UInt8)) (data_2 : (List UInt8)) (plain_3 : (List UInt8)) : Option ref12_Seal_R :=
 Option.bind (ref10_Xor N key_0 (1 : UInt32) nonce_1 plain_3) fun y1 =>
 bif (!y1.1.1) then
 some (((13 : Int), ()), (([] : List UInt8), ()))
 else
 Option.bind (ref12_Tag N key_0 nonce_1 data_2 y1.2.1) fun y3 =>
 bif room (y1.2.1.length + y3.2.1.length) 1 then
 some (((0 : Int), ()), ((y1.2.1 ++ y3.2.1), ()))
 else none
def ref12_Seal_C (N : Nat) : Ctx := ⟨34, G_tys, [(159, ref10_Xor_ctr N), (160, ref12_Tag_ctr N)], G_globs, G_ifs⟩
def ref12_Seal_S0 : Spec := ⟨[.val (.sl .u8), .val (.sl .u8), .val (.sl .u8), .val (.sl .u8)], []⟩
def ref12_Seal_S1 : Spec := ⟨[.row 0, .val .i64], [(.row 5 .u8, .pos 0)]⟩
def ref12_Seal_K (_N : Nat) : XE → GS → Option ref12_Seal_R := retK 0 [8, 9] [false, false] ref12_Seal_S1
def ref12_Seal_L : List Code := (bodyOf (some Tryd.f102))
theorem ref12_Seal_b {E : Env} (N : Nat) (hb : Base Tryd.prog (ref12_Seal_C N) E 0) : Blk Tryd.prog (ref12_Seal_C N) E (List.range ref12_Seal_S0.ks.length) ref12_Seal_S0 (ref12_Seal_L.drop 0) (fun y => ref12_Seal N y.1.1 y.1.2.1 y.1.2.2.1 y.1.2.2.2.1) (ref12_Seal_K N) :=
 Blk.chunkAt hb 7 (X := (ref12_Seal_K N .normal)) (NxOk.end (by kernel_rfl)) rfl (fun x => by kernel_rfl)
def ref12_Seal_ctr (N : Nat) : Ctr := ⟨ref12_Seal_S0, ref12_Seal_S1.un [false, false], 0, (fun y => ref12_Seal N y.1.1 y.1.2.1 y.1.2.2.1 y.1.2.2.2.1)⟩
theorem ref12_Seal_ctrs (N : Nat) : CtrsOk Tryd.prog (ref12_Seal_C N) := ctrs_of (Γ := ref12_Seal_C N) G_ifs_ok (by
 intro p hp
 simp only [ref12_Seal_C, List.mem_cons, List.not_mem_nil, or_false] at hp
 rcases hp with rfl | rfl
 · exact ref10_Xor_ok N
 · exact ref12_Tag_ok N)
theorem ref12_Seal_ok (N : Nat) : Ctr.ok Tryd.prog G_globs 102 (ref12_Seal_ctr N) :=
 ctr_fn (Γ := ref12_Seal_C N) (rfit := ref12_Seal_S1) (bs := [false, false]) (res := [8, 9]) (by kernel_rfl) (tys_ok G_tys_ok) (ref12_Seal_ctrs N) Tryd.func102 (by kernel_rfl) (by kernel_rfl) Tryd.ntmps102 (by kernel_rfl) (by kernel_rfl) (by kernel_rfl) (by kernel_rfl) (fun E hb => ref12_Seal_b N hb)
/-! ipsecgate/ipsecgateref17.write -/
abbrev ref17_write_R : Type := ((Int × Unit) × ((List UInt8) × Unit))
def ref17_write (N : Nat) (h_0 : D75) (kind_1 : Int) (first_2 : Int) (middle_3 : (List UInt8)) (inner_4 : (List UInt8)) (key_5 : (List UInt8)) (iv_6 : UInt64) : Option ref17_write_R :=
 let x7 := w64 ((w64 ((w64 ((w64 ((w64 ((32 : Int) + (middle_3.length : Int))) + (8 : Int))) + (inner_4.length : Int))) + (1 : Int))) + (16 : Int))
 bif (decide ((8192 : Int) < x7)) then
 some (((11 : Int), ()), (([] : List UInt8), ()))
 else
 Option.bind (ref02_Build N (h_0.1, h_0.2.1, kind_1, h_0.2.2.2.1, h_0.2.2.2.2.1, h_0.2.2.2.2.2.1, ()) x7) fun y9 =>
 bif (!(decide (y9.1.1 = (0 : Int)))) then
 some ((y9.1.1, ()), (([] : List UInt8), ()))
 else
 bif room (y9.2.1.length + ([(iu8 first_2), (0 : UInt8)] : List UInt8).length) 1 then
 Option.bind (ref01_Put N (y9.2.1 ++ ([(iu8 first_2), (0 : UInt8)] : List UInt8)) (iu64 (w64 (x7 - (28 : Int)))) (2 : Int)) fun y15 =>
 bif room (y15.2.1.length + middle_3.length) 1 then
 let x16 := y15.2.1 ++ middle_3
 bif decide (0 ≤ (0 : Int)) && decide ((0 : Int) ≤ (32 : Int)) && decide ((32 : Int) ≤ (key_5.length : Int)) && true then
 Option.bind (ref17_nonce N key_5 iv_6) fun y18 =>
 bif room (0 + inner_4.length) 1 then
 bif room (inner_4.length + ([(0 : UInt8)] : List UInt8).length) 1 then
 Option.bind (ref12_Seal N (cut key_5 0 32) y18.2.1 x16 (inner_4 ++ ([(0 : UInt8)] : List UInt8))) fun y20 =>
 Option.bind (ref01_Put N x16 iv_6 (8 : Int)) fun y21 =>
 bif room (y21.2.1.length + y20.2.1.length) 1 then
 some (((0 : Int), ()), ((y21.2.1 ++ y20.2.1), ()))
 else none
 else none
 else none
 else none
 else none
 else none
def ref17_write_C (N : Nat) : Ctx := ⟨74, G_tys, [(125, ref02_Build_ctr N), (113, ref01_Put_ctr N), (170, ref17_nonce_ctr N), (102, ref12_Seal_ctr N)], G_globs, G_ifs⟩
def ref17_write_S0 : Spec := ⟨[.val T75, .val .i64, .val .i64, .val (.sl .u8), .val (.sl .u8), .val (.sl .u8), .val .u64], []⟩
def ref17_write_S1 : Spec := ⟨[.row 0, .val .i64], [(.row 5 .u8, .pos 0)]⟩
def ref17_write_K (_N : Nat) : XE → GS → Option ref17_write_R := retK 0 [14, 15] [false, false] ref17_write_S1
def ref17_write_L : List Code := (bodyOf (some Tryd.f123))
theorem ref17_write_b {E : Env} (N : Nat) (hb : Base Tryd.prog (ref17_write_C N) E 0) : Blk Tryd.prog (ref17_write_C N) E (List.range ref17_write_S0.ks.length) ref17_write_S0 (ref17_write_L.drop 0) (fun y => ref17_write N y.1.1 y.1.2.1 y.1.2.2.1 y.1.2.2.2.1 y.1.2.2.2.2.1 y.1.2.2.2.2.2.1 y.1.2.2.2.2.2.2.1) (ref17_write_K N) :=
 Blk.chunkAt hb 13 (X := (ref17_write_K N .normal)) (NxOk.end (by kernel_rfl)) rfl (fun x => by kernel_rfl)
def ref17_write_ctr (N : Nat) : Ctr := ⟨ref17_write_S0, ref17_write_S1.un [false, false], 0, (fun y => ref17_write N y.1.1 y.1.2.1 y.1.2.2.1 y.1.2.2.2.1 y.1.2.2.2.2.1 y.1.2.2.2.2.2.1 y.1.2.2.2.2.2.2.1)⟩
theorem ref17_write_ctrs (N : Nat) : CtrsOk Tryd.prog (ref17_write_C N) := ctrs_of (Γ := ref17_write_C N) G_ifs_ok (by
 intro p hp
 simp only [ref17_write_C, List.mem_cons, List.not_mem_nil, or_false] at hp
 rcases hp with rfl | rfl | rfl | rfl
 · exact ref02_Build_ok N
 · exact ref01_Put_ok N
 · exact ref17_nonce_ok N
 · exact ref12_Seal_ok N)
theorem ref17_write_ok (N : Nat) : Ctr.ok Tryd.prog G_globs 123 (ref17_write_ctr N) :=
 ctr_fn (Γ := ref17_write_C N) (rfit := ref17_write_S1) (bs := [false, false]) (res := [14, 15]) (by kernel_rfl) (tys_ok G_tys_ok) (ref17_write_ctrs N) Tryd.func123 (by kernel_rfl) (by kernel_rfl) Tryd.ntmps123 (by kernel_rfl) (by kernel_rfl) (by kernel_rfl) (by kernel_rfl) (fun E hb => ref17_write_b N hb)
/-! ipsecgate/ipsecgateref17.Seal -/
abbrev ref17_Seal_R : Type := ((Int × Unit) × ((List UInt8) × Unit))
def ref17_Seal (N : Nat) (h_0 : D75) (first_1 : Int) (inner_2 : (List UInt8)) (key_3 : (List UInt8)) (iv_4 : UInt64) : Option ref17_Seal_R :=
 Option.bind (ref17_begin N h_0 first_1 key_3) fun y1 =>
 bif (!(decide (y1.1.1 = (0 : Int)))) then
 some ((y1.1.1, ()), (([] : List UInt8), ()))
 else
 Option.bind (ref17_write N h_0 (46 : Int) first_1 ([] : List UInt8) inner_2 key_3 iv_4) fun y3 =>
 some ((y3.1.1, ()), (y3.2.1, ()))
def ref17_Seal_C (N : Nat) : Ctx := ⟨28, G_tys, [(122, ref17_begin_ctr N), (123, ref17_write_ctr N)], G_globs, G_ifs⟩
def ref17_Seal_S0 : Spec := ⟨[.val T75, .val .i64, .val (.sl .u8), .val (.sl .u8), .val .u64], []⟩
def ref17_Seal_S1 : Spec := ⟨[.row 0, .val .i64], [(.row 5 .u8, .pos 0)]⟩
def ref17_Seal_K (_N : Nat) : XE → GS → Option ref17_Seal_R := retK 0 [10, 11] [false, false] ref17_Seal_S1
def ref17_Seal_L : List Code := (bodyOf (some Tryd.f59))
theorem ref17_Seal_b {E : Env} (N : Nat) (hb : Base Tryd.prog (ref17_Seal_C N) E 0) : Blk Tryd.prog (ref17_Seal_C N) E (List.range ref17_Seal_S0.ks.length) ref17_Seal_S0 (ref17_Seal_L.drop 0) (fun y => ref17_Seal N y.1.1 y.1.2.1 y.1.2.2.1 y.1.2.2.2.1 y.1.2.2.2.2.1) (ref17_Seal_K N) :=
 Blk.chunkAt hb 6 (X := (ref17_Seal_K N .normal)) (NxOk.end (by kernel_rfl)) rfl (fun x => by kernel_rfl)
def ref17_Seal_ctr (N : Nat) : Ctr := ⟨ref17_Seal_S0, ref17_Seal_S1.un [false, false], 0, (fun y => ref17_Seal N y.1.1 y.1.2.1 y.1.2.2.1 y.1.2.2.2.1 y.1.2.2.2.2.1)⟩
theorem ref17_Seal_ctrs (N : Nat) : CtrsOk Tryd.prog (ref17_Seal_C N) := ctrs_of (Γ := ref17_Seal_C N) G_ifs_ok (by
 intro p hp
 simp only [ref17_Seal_C, List.mem_cons, List.not_mem_nil, or_false] at hp
 rcases hp with rfl | rfl
 · exact ref17_begin_ok N
 · exact ref17_write_ok N)
theorem ref17_Seal_ok (N : Nat) : Ctr.ok Tryd.prog G_globs 59 (ref17_Seal_ctr N) :=
 ctr_fn (Γ := ref17_Seal_C N) (rfit := ref17_Seal_S1) (bs := [false, false]) (res := [10, 11]) (by kernel_rfl) (tys_ok G_tys_ok) (ref17_Seal_ctrs N) Tryd.func59 (by kernel_rfl) (by kernel_rfl) Tryd.ntmps59 (by kernel_rfl) (by kernel_rfl) (by kernel_rfl) (by kernel_rfl) (fun E hb => ref17_Seal_b N hb)
/-! ipsecgate/sealed.Split -/
abbrev sealed_Split_R : Type := ((Int × Unit) × ((List (List UInt8)) × Unit))
def sealed_Split_s6 (N : Nat) (first_1 : Int) (key_3 : (List UInt8)) (iv_4 : UInt64) (pieces_15 : (List (List UInt8))) (t_46 : (List (List UInt8))) (t_47 : Int) (t_48 : Int) (h_6 : D75) (l_16 : (List (List UInt8))) : Option (Lo ((Int × (List UInt8) × UInt64 × (List (List UInt8)) × (List (List UInt8)) × Int × Int × Unit) × (D75 × (List (List UInt8)) × Unit)) ((Unit) × ((List (List UInt8)) × Unit)) sealed_Split_R) :=
 bif (decide (t_48 < t_47)) then
 bif inR t_48 t_46.length then
 Option.bind (wire_Put N (iu64 (w64 (t_48 + (1 : Int)))) (2 : Int) ([] : List UInt8)) fun y14 =>
 Option.bind (wire_Put N (iu64 (pieces_15.length : Int)) (2 : Int) y14.2.1) fun y17 =>
 Option.bind (sealed_write N h_6 (53 : Int) first_1 y17.2.1 (t_46.getD t_48.toNat ([] : List UInt8)) key_3 (iv_4 + (iu64 t_48))) fun y20 =>
 bif (!(decide (y20.1.1 = (0 : Int)))) then
 some (.rt ((y20.1.1, ()), (([] : List (List UInt8)), ())))
 else
 bif room (l_16.length + ([y20.2.1] : List (List UInt8)).length) 24 then
 some (.go (((0 : Int), key_3, iv_4, pieces_15, t_46, t_47, (w64 (t_48 + (1 : Int))), ()), (h_6, (l_16 ++ ([y20.2.1] : List (List UInt8))), ())))
 else none
 else none
 else
 some (.br ((()), (l_16, ())))
def sealed_Split_7 (N : Nat) (l_16 : (List (List UInt8))) : Option sealed_Split_R :=
 some (((0 : Int), ()), (l_16, ()))
def sealed_Split_5 (N : Nat) (first_1 : Int) (key_3 : (List UInt8)) (iv_4 : UInt64) (pieces_15 : (List (List UInt8))) (t_46 : (List (List UInt8))) (t_47 : Int) (t_48 : Int) (h_6 : D75) (l_16 : (List (List UInt8))) : Option sealed_Split_R :=
 loopK N (fun y => sealed_Split_s6 N y.1.1 y.1.2.1 y.1.2.2.1 y.1.2.2.2.1 y.1.2.2.2.2.1 y.1.2.2.2.2.2.1 y.1.2.2.2.2.2.2.1 y.2.1 y.2.2.1) (fun (e : ((Unit) × ((List (List UInt8)) × Unit))) => sealed_Split_7 N e.2.1) ((first_1, key_3, iv_4, pieces_15, t_46, t_47, t_48, ()), (h_6, l_16, ()))
def sealed_Split_4 (N : Nat) (first_1 : Int) (key_3 : (List UInt8)) (iv_4 : UInt64) (pieces_15 : (List (List UInt8))) (h_6 : D75) : Option sealed_Split_R :=
 bif (decide ((16 : Int) < (pieces_15.length : Int))) then
 some (((10 : Int), ()), (([] : List (List UInt8)), ()))
 else
 sealed_Split_5 N first_1 key_3 iv_4 pieces_15 pieces_15 (pieces_15.length : Int) (0 : Int) h_6 ([] : List (List UInt8))
def sealed_Split_3 (N : Nat) (first_1 : Int) (key_3 : (List UInt8)) (iv_4 : UInt64) (pieces_15 : (List (List UInt8))) (h_6 : D75) : Option sealed_Split_R :=
 bif (decide ((pieces_15.length : Int) = (0 : Int))) then
 sealed_Split_4 N first_1 key_3 iv_4 ([([] : List UInt8)] : List (List UInt8)) h_6
 else
 sealed_Split_4 N first_1 key_3 iv_4 pieces_15 h_6
def sealed_Split_2 (N : Nat) (first_1 : Int) (inner_2 : (List UInt8)) (key_3 : (List UInt8)) (iv_4 : UInt64) (size_5 : Int) (h_6 : D75) : Option sealed_Split_R :=
 bif decide (1 ≤ size_5) && (decide (size_5 ≤ 4096) && decide (inner_2.length ≤ 1000000)) then
 sealed_Split_3 N first_1 key_3 iv_4 (chunks inner_2 size_5.toNat) h_6
 else none
def sealed_Split_1 (N : Nat) (first_1 : Int) (inner_2 : (List UInt8)) (key_3 : (List UInt8)) (iv_4 : UInt64) (size_5 : Int) (t_34 : Bool) (h_6 : D75) : Option sealed_Split_R :=
 bif t_34 then
 some (((5 : Int), ()), (([] : List (List UInt8)), ()))
 else
 sealed_Split_2 N first_1 inner_2 key_3 iv_4 size_5 h_6
def sealed_Split (N : Nat) (h_0 : D75) (first_1 : Int) (inner_2 : (List UInt8)) (key_3 : (List UInt8)) (iv_4 : UInt64) (size_5 : Int) : Option sealed_Split_R :=
 Option.bind (sealed_check N h_0 key_3 first_1) fun y1 =>
 bif (!(decide (y1.1.1 = (0 : Int)))) then
 some ((y1.1.1, ()), (([] : List (List UInt8)), ()))
 else
 bif (decide (size_5 < (1 : Int))) then
 sealed_Split_1 N first_1 inner_2 key_3 iv_4 size_5 true h_0
 else
 sealed_Split_1 N first_1 inner_2 key_3 iv_4 size_5 (decide ((4096 : Int) < size_5)) h_0
def sealed_Split_C (N : Nat) : Ctx := ⟨83, G_tys, [(116, sealed_check_ctr N), (91, wire_Put_ctr N), (117, sealed_write_ctr N)], G_globs, G_ifs⟩
def sealed_Split_S0 : Spec := ⟨[.val .i64, .val (.sl .u8), .val .u64, .ref 0 T75, .val (.sl (.sl .u8)), .row 1, .val (.sl (.sl .u8)), .val .i64, .val .i64], [(.box 76 T75, .pos 3), (.row 22 (.sl .u8), .pos 5)]⟩
def sealed_Split_S1 : Spec := ⟨[.row 0], [(.row 22 (.sl .u8), .pos 0)]⟩
def sealed_Split_S2 : Spec := ⟨[.val .i64, .val (.sl .u8), .val .u64, .ref 0 T75, .val (.sl (.sl .u8))], [(.box 76 T75, .pos 3)]⟩
def sealed_Split_S3 : Spec := ⟨[.val .i64, .val (.sl .u8), .val (.sl .u8), .val .u64, .val .i64, .ref 0 T75], [(.box 76 T75, .pos 5)]⟩
def sealed_Split_S4 : Spec := ⟨[.val .i64, .val (.sl .u8), .val (.sl .u8), .val .u64, .val .i64, .ref 0 T75, .val .bool], [(.box 76 T75, .pos 5)]⟩
def sealed_Split_S5 : Spec := ⟨[.val T75, .val .i64, .val (.sl .u8), .val (.sl .u8), .val .u64, .val .i64], []⟩
def sealed_Split_S6 : Spec := ⟨[.row 0, .val .i64], [(.row 22 (.sl .u8), .pos 0)]⟩
def sealed_Split_K (_N : Nat) : XE → GS → Option sealed_Split_R := retK 0 [12, 13] [false, false] sealed_Split_S6
def sealed_Split_L : List Code := (bodyOf (some Tryd.f70))
def sealed_Split_L6 : List Code := (loopOf (sealed_Split_L[13]?))
def sealed_Split_K6 (N : Nat) : XE → GS → Option (Lo ((Int × (List UInt8) × UInt64 × (List (List UInt8)) × (List (List UInt8)) × Int × Int × Unit) × (D75 × (List (List UInt8)) × Unit)) ((Unit) × ((List (List UInt8)) × Unit)) sealed_Split_R) := roundK (some 0) (fit 0 [1, 3, 4, 6, 15, 16, 46, 47, 48] sealed_Split_S0) (fit 0 [16] sealed_Split_S1) (sealed_Split_K N)
theorem sealed_Split_s6_b {E : Env} (N : Nat) (hb : Base Tryd.prog (sealed_Split_C N) E 0) : Blk Tryd.prog (sealed_Split_C N) E [1, 3, 4, 6, 15, 16, 46, 47, 48] sealed_Split_S0 (sealed_Split_L6.drop 0) (fun y => sealed_Split_s6 N y.1.1 y.1.2.1 y.1.2.2.1 y.1.2.2.2.1 y.1.2.2.2.2.1 y.1.2.2.2.2.2.1 y.1.2.2.2.2.2.2.1 y.2.1 y.2.2.1) (sealed_Split_K6 N) :=
 Blk.chunkAt hb 4 (X := (sealed_Split_K6 N .normal)) (NxOk.end (by kernel_rfl)) rfl (fun x => by kernel_rfl)
theorem sealed_Split_7_b {E : Env} (N : Nat) (hb : Base Tryd.prog (sealed_Split_C N) E 0) : Blk Tryd.prog (sealed_Split_C N) E [16] sealed_Split_S1 (sealed_Split_L.drop 14) (fun y => sealed_Split_7 N y.2.1) (sealed_Split_K N) :=
 Blk.chunkAt hb 2 (X := (sealed_Split_K N .normal)) (NxOk.end (by kernel_rfl)) rfl (fun x => by kernel_rfl)
theorem sealed_Split_5_b {E : Env} (N : Nat) (hb : Base Tryd.prog (sealed_Split_C N) E 0) : Blk Tryd.prog (sealed_Split_C N) E [1, 3, 4, 6, 15, 16, 46, 47, 48] sealed_Split_S0 (sealed_Split_L.drop 13) (fun y => sealed_Split_5 N y.1.1 y.1.2.1 y.1.2.2.1 y.1.2.2.2.1 y.1.2.2.2.2.1 y.1.2.2.2.2.2.1 y.1.2.2.2.2.2.2.1 y.2.1 y.2.2.1) (sealed_Split_K N) :=
 Blk.loopAt (Nf := N) (hns := [1, 3, 4, 6, 15, 16, 46, 47, 48]) (ans := [16]) (hc := sealed_Split_S0) (ac := sealed_Split_S1) (bid := 0) (step := (fun y => sealed_Split_s6 N y.1.1 y.1.2.1 y.1.2.2.1 y.1.2.2.2.1 y.1.2.2.2.2.1 y.1.2.2.2.2.2.1 y.1.2.2.2.2.2.2.1 y.2.1 y.2.2.1)) (J := (fun e => (goK 0 [16] sealed_Split_S1 (fun y => sealed_Split_7 N y.2.1)) (sealed_Split_S1.st [16] e))) hb (by kernel_rfl) (Blk.into (X := (goK 0 [16] sealed_Split_S1 (fun y => sealed_Split_7 N y.2.1))) (NxOk.go hb (sealed_Split_7_b N hb)) (fun x => by kernel_rfl)) (sealed_Split_s6_b N hb) (fun x => by kernel_rfl)
theorem sealed_Split_4_b {E : Env} (N : Nat) (hb : Base Tryd.prog (sealed_Split_C N) E 0) : Blk Tryd.prog (sealed_Split_C N) E [1, 3, 4, 6, 15] sealed_Split_S2 (sealed_Split_L.drop 9) (fun y => sealed_Split_4 N y.1.1 y.1.2.1 y.1.2.2.1 y.1.2.2.2.1 y.2.1) (sealed_Split_K N) :=
 Blk.chunkAt hb 4 (X := (goK 0 [1, 3, 4, 6, 15, 16, 46, 47, 48] sealed_Split_S0 (fun y => sealed_Split_5 N y.1.1 y.1.2.1 y.1.2.2.1 y.1.2.2.2.1 y.1.2.2.2.2.1 y.1.2.2.2.2.2.1 y.1.2.2.2.2.2.2.1 y.2.1 y.2.2.1))) (NxOk.go hb (sealed_Split_5_b N hb)) rfl (fun x => by kernel_rfl)
theorem sealed_Split_3_b {E : Env} (N : Nat) (hb : Base Tryd.prog (sealed_Split_C N) E 0) : Blk Tryd.prog (sealed_Split_C N) E [1, 3, 4, 6, 15] sealed_Split_S2 (sealed_Split_L.drop 7) (fun y => sealed_Split_3 N y.1.1 y.1.2.1 y.1.2.2.1 y.1.2.2.2.1 y.2.1) (sealed_Split_K N) :=
 Blk.chunkAt hb 2 (X := (goK 0 [1, 3, 4, 6, 15] sealed_Split_S2 (fun y => sealed_Split_4 N y.1.1 y.1.2.1 y.1.2.2.1 y.1.2.2.2.1 y.2.1))) (NxOk.go hb (sealed_Split_4_b N hb)) rfl (fun x => by kernel_rfl)
theorem sealed_Split_2_b {E : Env} (N : Nat) (hb : Base Tryd.prog (sealed_Split_C N) E 0) : Blk Tryd.prog (sealed_Split_C N) E [1, 2, 3, 4, 5, 6] sealed_Split_S3 (sealed_Split_L.drop 6) (fun y => sealed_Split_2 N y.1.1 y.1.2.1 y.1.2.2.1 y.1.2.2.2.1 y.1.2.2.2.2.1 y.2.1) (sealed_Split_K N) :=
 Blk_chunks (l := sealed_Split_L) (i := 6) hb (hl := (by kernel_rfl : sealed_Split_L[6]? = some (.region 6 #[⟨some 35, .move (.tmp 2), 22, "sealed.go:142", #[], none⟩, ⟨some 36, .move (.tmp 5), 3, "sealed.go:142", #[], none⟩, ⟨some 37, .call ⟨.value (.func 133), #[.tmp 35, .tmp 36], #[22, 3]⟩, 163, "sealed.go:142", #[⟨0, .data⟩, ⟨1, .data⟩], none⟩, ⟨some 38, .call ⟨.value (.func 132), #[.tmp 37], #[163]⟩, 50, "sealed.go:142", #[⟨2, .data⟩, ⟨2, .chain⟩], none⟩, ⟨some 15, .assign (.tmp 38), 50, "sealed.go:142", #[⟨3, .data⟩, ⟨3, .chain⟩, ⟨0, .phase⟩, ⟨1, .phase⟩, ⟨2, .phase⟩, ⟨3, .phase⟩], none⟩] false))) (by kernel_rfl) (X := (goK 0 [1, 3, 4, 6, 15] sealed_Split_S2 (fun y => sealed_Split_3 N y.1.1 y.1.2.1 y.1.2.2.1 y.1.2.2.2.1 y.2.1))) (NxOk.go hb (sealed_Split_3_b N hb)) (fun z => z.1.2.1) (fun z => z.1.2.2.2.2.1) (fun z => rfl) (fun z => rfl) (fun z => by kernel_rfl)
theorem sealed_Split_1_b {E : Env} (N : Nat) (hb : Base Tryd.prog (sealed_Split_C N) E 0) : Blk Tryd.prog (sealed_Split_C N) E [1, 2, 3, 4, 5, 6, 34] sealed_Split_S4 (sealed_Split_L.drop 5) (fun y => sealed_Split_1 N y.1.1 y.1.2.1 y.1.2.2.1 y.1.2.2.2.1 y.1.2.2.2.2.1 y.1.2.2.2.2.2.1 y.2.1) (sealed_Split_K N) :=
 Blk.chunkAt hb 1 (X := (goK 0 [1, 2, 3, 4, 5, 6] sealed_Split_S3 (fun y => sealed_Split_2 N y.1.1 y.1.2.1 y.1.2.2.1 y.1.2.2.2.1 y.1.2.2.2.2.1 y.2.1))) (NxOk.go hb (sealed_Split_2_b N hb)) rfl (fun x => by kernel_rfl)
theorem sealed_Split_b {E : Env} (N : Nat) (hb : Base Tryd.prog (sealed_Split_C N) E 0) : Blk Tryd.prog (sealed_Split_C N) E (List.range sealed_Split_S5.ks.length) sealed_Split_S5 (sealed_Split_L.drop 0) (fun y => sealed_Split N y.1.1 y.1.2.1 y.1.2.2.1 y.1.2.2.2.1 y.1.2.2.2.2.1 y.1.2.2.2.2.2.1) (sealed_Split_K N) :=
 Blk.chunkAt hb 5 (X := (goK 0 [1, 2, 3, 4, 5, 6, 34] sealed_Split_S4 (fun y => sealed_Split_1 N y.1.1 y.1.2.1 y.1.2.2.1 y.1.2.2.2.1 y.1.2.2.2.2.1 y.1.2.2.2.2.2.1 y.2.1))) (NxOk.go hb (sealed_Split_1_b N hb)) rfl (fun x => by kernel_rfl)
def sealed_Split_ctr (N : Nat) : Ctr := ⟨sealed_Split_S5, sealed_Split_S6.un [false, false], 0, (fun y => sealed_Split N y.1.1 y.1.2.1 y.1.2.2.1 y.1.2.2.2.1 y.1.2.2.2.2.1 y.1.2.2.2.2.2.1)⟩
theorem sealed_Split_ctrs (N : Nat) : CtrsOk Tryd.prog (sealed_Split_C N) := ctrs_of (Γ := sealed_Split_C N) G_ifs_ok (by
 intro p hp
 simp only [sealed_Split_C, List.mem_cons, List.not_mem_nil, or_false] at hp
 rcases hp with rfl | rfl | rfl
 · exact sealed_check_ok N
 · exact wire_Put_ok N
 · exact sealed_write_ok N)
theorem sealed_Split_ok (N : Nat) : Ctr.ok Tryd.prog G_globs 70 (sealed_Split_ctr N) :=
 ctr_fn (Γ := sealed_Split_C N) (rfit := sealed_Split_S6) (bs := [false, false]) (res := [12, 13]) (by kernel_rfl) (tys_ok G_tys_ok) (sealed_Split_ctrs N) Tryd.func70 (by kernel_rfl) (by kernel_rfl) Tryd.ntmps70 (by kernel_rfl) (by kernel_rfl) (by kernel_rfl) (by kernel_rfl) (fun E hb => sealed_Split_b N hb)
/-! ipsecgate/ipsecgateref17.Split -/
abbrev ref17_Split_R : Type := ((Int × Unit) × ((List (List UInt8)) × Unit))
def ref17_Split_s3 (N : Nat) (first_1 : Int) (inner_2 : (List UInt8)) (key_3 : (List UInt8)) (iv_4 : UInt64) (size_5 : Int) (total_15 : Int) (i_17 : Int) (h_6 : D75) (out_16 : (List (List UInt8))) : Option (Lo ((Int × (List UInt8) × (List UInt8) × UInt64 × Int × Int × Int × Unit) × (D75 × (List (List UInt8)) × Unit)) ((Unit) × ((List (List UInt8)) × Unit)) ref17_Split_R) :=
 bif (decide (i_17 < total_15)) then
 bif (decide (i_17 = (0 : Int))) then
 Option.bind (ref01_Put N ([] : List UInt8) (iu64 (w64 (i_17 + (1 : Int)))) (2 : Int)) fun y14 =>
 Option.bind (ref01_Put N y14.2.1 (iu64 total_15) (2 : Int)) fun y16 =>
 let x17 := w64 (i_17 * size_5)
 let x18 := (inner_2.length : Int)
 let x20 := w64 ((w64 (i_17 + (1 : Int))) * size_5)
 let x21 := bif decide (x20 < x18) then x20 else x18
 bif decide (0 ≤ x17) && decide (x17 ≤ x21) && decide (x21 ≤ (inner_2.length : Int)) && true then
 Option.bind (ref17_write N h_6 (53 : Int) first_1 y16.2.1 (cut inner_2 x17.toNat x21.toNat) key_3 (iv_4 + (iu64 i_17))) fun y25 =>
 bif (!(decide (y25.1.1 = (0 : Int)))) then
 some (.rt ((y25.1.1, ()), (([] : List (List UInt8)), ())))
 else
 bif room (out_16.length + ([y25.2.1] : List (List UInt8)).length) 24 then
 some (.go ((first_1, inner_2, key_3, iv_4, size_5, total_15, (w64 (i_17 + (1 : Int))), ()), (h_6, (out_16 ++ ([y25.2.1] : List (List UInt8))), ())))
 else none
 else none
 else
 Option.bind (ref01_Put N ([] : List UInt8) (iu64 (w64 (i_17 + (1 : Int)))) (2 : Int)) fun y31 =>
 Option.bind (ref01_Put N y31.2.1 (iu64 total_15) (2 : Int)) fun y33 =>
 let x34 := w64 (i_17 * size_5)
 let x35 := (inner_2.length : Int)
 let x37 := w64 ((w64 (i_17 + (1 : Int))) * size_5)
 let x38 := bif decide (x37 < x35) then x37 else x35
 bif decide (0 ≤ x34) && decide (x34 ≤ x38) && decide (x38 ≤ (inner_2.length : Int)) && true then
 Option.bind (ref17_write N h_6 (53 : Int) (0 : Int) y33.2.1 (cut inner_2 x34.toNat x38.toNat) key_3 (iv_4 + (iu64 i_17))) fun y42 =>
 bif (!(decide (y42.1.1 = (0 : Int)))) then
 some (.rt ((y42.1.1, ()), (([] : List (List UInt8)), ())))
 else
 bif room (out_16.length + ([y42.2.1] : List (List UInt8)).length) 24 then
 some (.go ((first_1, inner_2, key_3, iv_4, size_5, total_15, (w64 (i_17 + (1 : Int))), ()), (h_6, (out_16 ++ ([y42.2.1] : List (List UInt8))), ())))
 else none
 else none
 else
 some (.br ((()), (out_16, ())))
def ref17_Split_4 (N : Nat) (out_16 : (List (List UInt8))) : Option ref17_Split_R :=
 some (((0 : Int), ()), (out_16, ()))
def ref17_Split_2 (N : Nat) (first_1 : Int) (inner_2 : (List UInt8)) (key_3 : (List UInt8)) (iv_4 : UInt64) (size_5 : Int) (total_15 : Int) (i_17 : Int) (h_6 : D75) (out_16 : (List (List UInt8))) : Option ref17_Split_R :=
 loopK N (fun y => ref17_Split_s3 N y.1.1 y.1.2.1 y.1.2.2.1 y.1.2.2.2.1 y.1.2.2.2.2.1 y.1.2.2.2.2.2.1 y.1.2.2.2.2.2.2.1 y.2.1 y.2.2.1) (fun (e : ((Unit) × ((List (List UInt8)) × Unit))) => ref17_Split_4 N e.2.1) ((first_1, inner_2, key_3, iv_4, size_5, total_15, i_17, ()), (h_6, out_16, ()))
def ref17_Split_1 (N : Nat) (first_1 : Int) (inner_2 : (List UInt8)) (key_3 : (List UInt8)) (iv_4 : UInt64) (size_5 : Int) (t_34 : Bool) (h_6 : D75) : Option ref17_Split_R :=
 bif t_34 then
 some (((5 : Int), ()), (([] : List (List UInt8)), ()))
 else
 bif !(decide (size_5 = 0)) then
 let x7 := w64 ((w64 ((w64 ((inner_2.length : Int) + size_5)) - (1 : Int))).tdiv size_5)
 let x8 := bif decide ((1 : Int) < x7) then x7 else (1 : Int)
 bif (decide ((16 : Int) < x8)) then
 some (((10 : Int), ()), (([] : List (List UInt8)), ()))
 else
 ref17_Split_2 N first_1 inner_2 key_3 iv_4 size_5 x8 (0 : Int) h_6 ([] : List (List UInt8))
 else none
def ref17_Split (N : Nat) (h_0 : D75) (first_1 : Int) (inner_2 : (List UInt8)) (key_3 : (List UInt8)) (iv_4 : UInt64) (size_5 : Int) : Option ref17_Split_R :=
 Option.bind (ref17_begin N h_0 first_1 key_3) fun y1 =>
 bif (!(decide (y1.1.1 = (0 : Int)))) then
 some ((y1.1.1, ()), (([] : List (List UInt8)), ()))
 else
 bif (decide (size_5 < (1 : Int))) then
 ref17_Split_1 N first_1 inner_2 key_3 iv_4 size_5 true h_0
 else
 ref17_Split_1 N first_1 inner_2 key_3 iv_4 size_5 (decide ((4096 : Int) < size_5)) h_0
def ref17_Split_C (N : Nat) : Ctx := ⟨92, G_tys, [(122, ref17_begin_ctr N), (113, ref01_Put_ctr N), (123, ref17_write_ctr N)], G_globs, G_ifs⟩
def ref17_Split_S0 : Spec := ⟨[.val .i64, .val (.sl .u8), .val (.sl .u8), .val .u64, .val .i64, .ref 0 T75, .val .i64, .row 1, .val .i64], [(.box 76 T75, .pos 5), (.row 22 (.sl .u8), .pos 7)]⟩
def ref17_Split_S1 : Spec := ⟨[.row 0], [(.row 22 (.sl .u8), .pos 0)]⟩
def ref17_Split_S2 : Spec := ⟨[.val .i64, .val (.sl .u8), .val (.sl .u8), .val .u64, .val .i64, .ref 0 T75, .val .bool], [(.box 76 T75, .pos 5)]⟩
def ref17_Split_S3 : Spec := ⟨[.val T75, .val .i64, .val (.sl .u8), .val (.sl .u8), .val .u64, .val .i64], []⟩
def ref17_Split_S4 : Spec := ⟨[.row 0, .val .i64], [(.row 22 (.sl .u8), .pos 0)]⟩
def ref17_Split_K (_N : Nat) : XE → GS → Option ref17_Split_R := retK 0 [12, 13] [false, false] ref17_Split_S4
def ref17_Split_L : List Code := (bodyOf (some Tryd.f60))
def ref17_Split_L3 : List Code := (loopOf (ref17_Split_L[11]?))
def ref17_Split_K3 (N : Nat) : XE → GS → Option (Lo ((Int × (List UInt8) × (List UInt8) × UInt64 × Int × Int × Int × Unit) × (D75 × (List (List UInt8)) × Unit)) ((Unit) × ((List (List UInt8)) × Unit)) ref17_Split_R) := roundK (some 0) (fit 0 [1, 2, 3, 4, 5, 6, 15, 16, 17] ref17_Split_S0) (fit 0 [16] ref17_Split_S1) (ref17_Split_K N)
theorem ref17_Split_s3_b {E : Env} (N : Nat) (hb : Base Tryd.prog (ref17_Split_C N) E 0) : Blk Tryd.prog (ref17_Split_C N) E [1, 2, 3, 4, 5, 6, 15, 16, 17] ref17_Split_S0 (ref17_Split_L3.drop 0) (fun y => ref17_Split_s3 N y.1.1 y.1.2.1 y.1.2.2.1 y.1.2.2.2.1 y.1.2.2.2.2.1 y.1.2.2.2.2.2.1 y.1.2.2.2.2.2.2.1 y.2.1 y.2.2.1) (ref17_Split_K3 N) :=
 Blk.chunkAt hb 4 (X := (ref17_Split_K3 N .normal)) (NxOk.end (by kernel_rfl)) rfl (fun x => by kernel_rfl)
theorem ref17_Split_4_b {E : Env} (N : Nat) (hb : Base Tryd.prog (ref17_Split_C N) E 0) : Blk Tryd.prog (ref17_Split_C N) E [16] ref17_Split_S1 (ref17_Split_L.drop 12) (fun y => ref17_Split_4 N y.2.1) (ref17_Split_K N) :=
 Blk.chunkAt hb 2 (X := (ref17_Split_K N .normal)) (NxOk.end (by kernel_rfl)) rfl (fun x => by kernel_rfl)
theorem ref17_Split_2_b {E : Env} (N : Nat) (hb : Base Tryd.prog (ref17_Split_C N) E 0) : Blk Tryd.prog (ref17_Split_C N) E [1, 2, 3, 4, 5, 6, 15, 16, 17] ref17_Split_S0 (ref17_Split_L.drop 11) (fun y => ref17_Split_2 N y.1.1 y.1.2.1 y.1.2.2.1 y.1.2.2.2.1 y.1.2.2.2.2.1 y.1.2.2.2.2.2.1 y.1.2.2.2.2.2.2.1 y.2.1 y.2.2.1) (ref17_Split_K N) :=
 Blk.loopAt (Nf := N) (hns := [1, 2, 3, 4, 5, 6, 15, 16, 17]) (ans := [16]) (hc := ref17_Split_S0) (ac := ref17_Split_S1) (bid := 0) (step := (fun y => ref17_Split_s3 N y.1.1 y.1.2.1 y.1.2.2.1 y.1.2.2.2.1 y.1.2.2.2.2.1 y.1.2.2.2.2.2.1 y.1.2.2.2.2.2.2.1 y.2.1 y.2.2.1)) (J := (fun e => (goK 0 [16] ref17_Split_S1 (fun y => ref17_Split_4 N y.2.1)) (ref17_Split_S1.st [16] e))) hb (by kernel_rfl) (Blk.into (X := (goK 0 [16] ref17_Split_S1 (fun y => ref17_Split_4 N y.2.1))) (NxOk.go hb (ref17_Split_4_b N hb)) (fun x => by kernel_rfl)) (ref17_Split_s3_b N hb) (fun x => by kernel_rfl)
theorem ref17_Split_1_b {E : Env} (N : Nat) (hb : Base Tryd.prog (ref17_Split_C N) E 0) : Blk Tryd.prog (ref17_Split_C N) E [1, 2, 3, 4, 5, 6, 34] ref17_Split_S2 (ref17_Split_L.drop 5) (fun y => ref17_Split_1 N y.1.1 y.1.2.1 y.1.2.2.1 y.1.2.2.2.1 y.1.2.2.2.2.1 y.1.2.2.2.2.2.1 y.2.1) (ref17_Split_K N) :=
 Blk.chunkAt hb 6 (X := (goK 0 [1, 2, 3, 4, 5, 6, 15, 16, 17] ref17_Split_S0 (fun y => ref17_Split_2 N y.1.1 y.1.2.1 y.1.2.2.1 y.1.2.2.2.1 y.1.2.2.2.2.1 y.1.2.2.2.2.2.1 y.1.2.2.2.2.2.2.1 y.2.1 y.2.2.1))) (NxOk.go hb (ref17_Split_2_b N hb)) rfl (fun x => by kernel_rfl)
theorem ref17_Split_b {E : Env} (N : Nat) (hb : Base Tryd.prog (ref17_Split_C N) E 0) : Blk Tryd.prog (ref17_Split_C N) E (List.range ref17_Split_S3.ks.length) ref17_Split_S3 (ref17_Split_L.drop 0) (fun y => ref17_Split N y.1.1 y.1.2.1 y.1.2.2.1 y.1.2.2.2.1 y.1.2.2.2.2.1 y.1.2.2.2.2.2.1) (ref17_Split_K N) :=
 Blk.chunkAt hb 5 (X := (goK 0 [1, 2, 3, 4, 5, 6, 34] ref17_Split_S2 (fun y => ref17_Split_1 N y.1.1 y.1.2.1 y.1.2.2.1 y.1.2.2.2.1 y.1.2.2.2.2.1 y.1.2.2.2.2.2.1 y.2.1))) (NxOk.go hb (ref17_Split_1_b N hb)) rfl (fun x => by kernel_rfl)
def ref17_Split_ctr (N : Nat) : Ctr := ⟨ref17_Split_S3, ref17_Split_S4.un [false, false], 0, (fun y => ref17_Split N y.1.1 y.1.2.1 y.1.2.2.1 y.1.2.2.2.1 y.1.2.2.2.2.1 y.1.2.2.2.2.2.1)⟩
theorem ref17_Split_ctrs (N : Nat) : CtrsOk Tryd.prog (ref17_Split_C N) := ctrs_of (Γ := ref17_Split_C N) G_ifs_ok (by
 intro p hp
 simp only [ref17_Split_C, List.mem_cons, List.not_mem_nil, or_false] at hp
 rcases hp with rfl | rfl | rfl
 · exact ref17_begin_ok N
 · exact ref01_Put_ok N
 · exact ref17_write_ok N)
theorem ref17_Split_ok (N : Nat) : Ctr.ok Tryd.prog G_globs 60 (ref17_Split_ctr N) :=
 ctr_fn (Γ := ref17_Split_C N) (rfit := ref17_Split_S4) (bs := [false, false]) (res := [12, 13]) (by kernel_rfl) (tys_ok G_tys_ok) (ref17_Split_ctrs N) Tryd.func60 (by kernel_rfl) (by kernel_rfl) Tryd.ntmps60 (by kernel_rfl) (by kernel_rfl) (by kernel_rfl) (by kernel_rfl) (fun E hb => ref17_Split_b N hb)
/-! ipsecgate/ipsecgateref01.Compare -/
abbrev ref01_Compare_R : Type := ((Int × Unit) × (Unit))
def ref01_Compare_3 (N : Nat) (a_0 : (List UInt8)) (b_1 : (List UInt8)) (i_5 : Int) (t_15 : Bool) : Option (Lo (((List UInt8) × (List UInt8) × Int × Unit) × (Unit)) (((List UInt8) × (List UInt8) × Unit) × (Unit)) ref01_Compare_R) :=
 bif t_15 then
 bif inR i_5 a_0.length then
 bif inR i_5 b_1.length then
 bif (decide ((a_0.getD i_5.toNat (0 : UInt8)) < (b_1.getD i_5.toNat (0 : UInt8)))) then
 some (.rt (((-1 : Int), ()), (())))
 else
 bif inR i_5 a_0.length then
 bif inR i_5 b_1.length then
 bif (decide ((b_1.getD i_5.toNat (0 : UInt8)) < (a_0.getD i_5.toNat (0 : UInt8)))) then
 some (.rt (((1 : Int), ()), (())))
 else
 some (.go ((a_0, b_1, (w64 (i_5 + (1 : Int))), ()), (())))
 else none
 else none
 else none
 else none
 else
 some (.br ((a_0, b_1, ()), (())))
def ref01_Compare_s2 (N : Nat) (a_0 : (List UInt8)) (b_1 : (List UInt8)) (i_5 : Int) : Option (Lo (((List UInt8) × (List UInt8) × Int × Unit) × (Unit)) (((List UInt8) × (List UInt8) × Unit) × (Unit)) ref01_Compare_R) :=
 bif (decide (i_5 < (a_0.length : Int))) then
 ref01_Compare_3 N a_0 b_1 i_5 (decide (i_5 < (b_1.length : Int)))
 else
 ref01_Compare_3 N a_0 b_1 i_5 false
def ref01_Compare_4 (N : Nat) (a_0 : (List UInt8)) (b_1 : (List UInt8)) : Option ref01_Compare_R :=
 bif (decide ((a_0.length : Int) < (b_1.length : Int))) then
 some (((-1 : Int), ()), (()))
 else
 bif (decide ((b_1.length : Int) < (a_0.length : Int))) then
 some (((1 : Int), ()), (()))
 else
 some (((0 : Int), ()), (()))
def ref01_Compare_1 (N : Nat) (a_0 : (List UInt8)) (b_1 : (List UInt8)) (i_5 : Int) : Option ref01_Compare_R :=
 loopK N (fun y => ref01_Compare_s2 N y.1.1 y.1.2.1 y.1.2.2.1) (fun (e : (((List UInt8) × (List UInt8) × Unit) × (Unit))) => ref01_Compare_4 N e.1.1 e.1.2.1) ((a_0, b_1, i_5, ()), (()))
def ref01_Compare (N : Nat) (a_0 : (List UInt8)) (b_1 : (List UInt8)) : Option ref01_Compare_R :=
 ref01_Compare_1 N a_0 b_1 (0 : Int)
def ref01_Compare_C (N : Nat) : Ctx := ⟨48, G_tys, [], G_globs, G_ifs⟩
def ref01_Compare_S0 : Spec := ⟨[.val (.sl .u8), .val (.sl .u8), .val .i64, .val .bool], []⟩
def ref01_Compare_S1 : Spec := ⟨[.val (.sl .u8), .val (.sl .u8), .val .i64], []⟩
def ref01_Compare_S2 : Spec := ⟨[.val (.sl .u8), .val (.sl .u8)], []⟩
def ref01_Compare_S3 : Spec := ⟨[.val .i64], []⟩
def ref01_Compare_K (_N : Nat) : XE → GS → Option ref01_Compare_R := retK 0 [4] [false] ref01_Compare_S3
def ref01_Compare_L : List Code := (bodyOf (some Tryd.f95))
def ref01_Compare_L2 : List Code := (loopOf (ref01_Compare_L[2]?))
def ref01_Compare_K2 (N : Nat) : XE → GS → Option (Lo (((List UInt8) × (List UInt8) × Int × Unit) × (Unit)) (((List UInt8) × (List UInt8) × Unit) × (Unit)) ref01_Compare_R) := roundK (some 0) (fit 0 [0, 1, 5] ref01_Compare_S1) (fit 0 [0, 1] ref01_Compare_S2) (ref01_Compare_K N)
theorem ref01_Compare_3_b {E : Env} (N : Nat) (hb : Base Tryd.prog (ref01_Compare_C N) E 0) : Blk Tryd.prog (ref01_Compare_C N) E [0, 1, 5, 15] ref01_Compare_S0 (ref01_Compare_L2.drop 1) (fun y => ref01_Compare_3 N y.1.1 y.1.2.1 y.1.2.2.1 y.1.2.2.2.1) (ref01_Compare_K2 N) :=
 Blk.chunkAt hb 3 (X := (ref01_Compare_K2 N .normal)) (NxOk.end (by kernel_rfl)) rfl (fun x => by kernel_rfl)
theorem ref01_Compare_s2_b {E : Env} (N : Nat) (hb : Base Tryd.prog (ref01_Compare_C N) E 0) : Blk Tryd.prog (ref01_Compare_C N) E [0, 1, 5] ref01_Compare_S1 (ref01_Compare_L2.drop 0) (fun y => ref01_Compare_s2 N y.1.1 y.1.2.1 y.1.2.2.1) (ref01_Compare_K2 N) :=
 Blk.chunkAt hb 1 (X := (goK 0 [0, 1, 5, 15] ref01_Compare_S0 (fun y => ref01_Compare_3 N y.1.1 y.1.2.1 y.1.2.2.1 y.1.2.2.2.1))) (NxOk.go hb (ref01_Compare_3_b N hb)) rfl (fun x => by kernel_rfl)
theorem ref01_Compare_4_b {E : Env} (N : Nat) (hb : Base Tryd.prog (ref01_Compare_C N) E 0) : Blk Tryd.prog (ref01_Compare_C N) E [0, 1] ref01_Compare_S2 (ref01_Compare_L.drop 3) (fun y => ref01_Compare_4 N y.1.1 y.1.2.1) (ref01_Compare_K N) :=
 Blk.chunkAt hb 3 (X := (ref01_Compare_K N .normal)) (NxOk.end (by kernel_rfl)) rfl (fun x => by kernel_rfl)
theorem ref01_Compare_1_b {E : Env} (N : Nat) (hb : Base Tryd.prog (ref01_Compare_C N) E 0) : Blk Tryd.prog (ref01_Compare_C N) E [0, 1, 5] ref01_Compare_S1 (ref01_Compare_L.drop 2) (fun y => ref01_Compare_1 N y.1.1 y.1.2.1 y.1.2.2.1) (ref01_Compare_K N) :=
 Blk.loopAt (Nf := N) (hns := [0, 1, 5]) (ans := [0, 1]) (hc := ref01_Compare_S1) (ac := ref01_Compare_S2) (bid := 0) (step := (fun y => ref01_Compare_s2 N y.1.1 y.1.2.1 y.1.2.2.1)) (J := (fun e => (goK 0 [0, 1] ref01_Compare_S2 (fun y => ref01_Compare_4 N y.1.1 y.1.2.1)) (ref01_Compare_S2.st [0, 1] e))) hb (by kernel_rfl) (Blk.into (X := (goK 0 [0, 1] ref01_Compare_S2 (fun y => ref01_Compare_4 N y.1.1 y.1.2.1))) (NxOk.go hb (ref01_Compare_4_b N hb)) (fun x => by kernel_rfl)) (ref01_Compare_s2_b N hb) (fun x => by kernel_rfl)
theorem ref01_Compare_b {E : Env} (N : Nat) (hb : Base Tryd.prog (ref01_Compare_C N) E 0) : Blk Tryd.prog (ref01_Compare_C N) E (List.range ref01_Compare_S2.ks.length) ref01_Compare_S2 (ref01_Compare_L.drop 0) (fun y => ref01_Compare N y.1.1 y.1.2.1) (ref01_Compare_K N) :=
 Blk.chunkAt hb 2 (X := (goK 0 [0, 1, 5] ref01_Compare_S1 (fun y => ref01_Compare_1 N y.1.1 y.1.2.1 y.1.2.2.1))) (NxOk.go hb (ref01_Compare_1_b N hb)) rfl (fun x => by kernel_rfl)
def ref01_Compare_ctr (N : Nat) : Ctr := ⟨ref01_Compare_S2, ref01_Compare_S3.un [false], 0, (fun y => ref01_Compare N y.1.1 y.1.2.1)⟩
theorem ref01_Compare_ctrs (N : Nat) : CtrsOk Tryd.prog (ref01_Compare_C N) := ctrs_nil G_ifs_ok rfl
theorem ref01_Compare_ok (N : Nat) : Ctr.ok Tryd.prog G_globs 95 (ref01_Compare_ctr N) :=
 ctr_fn (Γ := ref01_Compare_C N) (rfit := ref01_Compare_S3) (bs := [false]) (res := [4]) (by kernel_rfl) (tys_ok G_tys_ok) (ref01_Compare_ctrs N) Tryd.func95 (by kernel_rfl) (by kernel_rfl) Tryd.ntmps95 (by kernel_rfl) (by kernel_rfl) (by kernel_rfl) (by kernel_rfl) (fun E hb => ref01_Compare_b N hb)
/-! ipsecgate/ipsecgateref01.Equal -/
abbrev ref01_Equal_R : Type := ((Bool × Unit) × (Unit))
def ref01_Equal (N : Nat) (a_0 : (List UInt8)) (b_1 : (List UInt8)) : Option ref01_Equal_R :=
 Option.bind (ref01_Compare N a_0 b_1) fun y1 =>
 some (((decide (y1.1.1 = (0 : Int))), ()), (()))
def ref01_Equal_C (N : Nat) : Ctx := ⟨9, G_tys, [(95, ref01_Compare_ctr N)], G_globs, G_ifs⟩
def ref01_Equal_S0 : Spec := ⟨[.val (.sl .u8), .val (.sl .u8)], []⟩
def ref01_Equal_S1 : Spec := ⟨[.val .bool], []⟩
def ref01_Equal_K (_N : Nat) : XE → GS → Option ref01_Equal_R := retK 0 [4] [false] ref01_Equal_S1
def ref01_Equal_L : List Code := (bodyOf (some Tryd.f21))
theorem ref01_Equal_b {E : Env} (N : Nat) (hb : Base Tryd.prog (ref01_Equal_C N) E 0) : Blk Tryd.prog (ref01_Equal_C N) E (List.range ref01_Equal_S0.ks.length) ref01_Equal_S0 (ref01_Equal_L.drop 0) (fun y => ref01_Equal N y.1.1 y.1.2.1) (ref01_Equal_K N) :=
 Blk.chunkAt hb 3 (X := (ref01_Equal_K N .normal)) (NxOk.end (by kernel_rfl)) rfl (fun x => by kernel_rfl)
def ref01_Equal_ctr (N : Nat) : Ctr := ⟨ref01_Equal_S0, ref01_Equal_S1.un [false], 0, (fun y => ref01_Equal N y.1.1 y.1.2.1)⟩
theorem ref01_Equal_ctrs (N : Nat) : CtrsOk Tryd.prog (ref01_Equal_C N) := ctrs_of (Γ := ref01_Equal_C N) G_ifs_ok (by
 intro p hp
 simp only [ref01_Equal_C, List.mem_cons, List.not_mem_nil, or_false] at hp
 rcases hp with rfl
 · exact ref01_Compare_ok N)
theorem ref01_Equal_ok (N : Nat) : Ctr.ok Tryd.prog G_globs 21 (ref01_Equal_ctr N) :=
 ctr_fn (Γ := ref01_Equal_C N) (rfit := ref01_Equal_S1) (bs := [false]) (res := [4]) (by kernel_rfl) (tys_ok G_tys_ok) (ref01_Equal_ctrs N) Tryd.func21 (by kernel_rfl) (by kernel_rfl) Tryd.ntmps21 (by kernel_rfl) (by kernel_rfl) (by kernel_rfl) (by kernel_rfl) (fun E hb => ref01_Equal_b N hb)
/-! ipsecgate/ipsecgateref17.SameBytes -/
abbrev ref17_SameBytes_R : Type := ((Bool × Unit) × (Unit))
def ref17_SameBytes_s2 (N : Nat) (a_0 : (List (List UInt8))) (b_1 : (List (List UInt8))) (i_5 : Int) : Option (Lo (((List (List UInt8)) × (List (List UInt8)) × Int × Unit) × (Unit)) ((Unit) × (Unit)) ref17_SameBytes_R) :=
 bif (decide (i_5 < (a_0.length : Int))) then
 bif inR i_5 a_0.length then
 bif inR i_5 b_1.length then
 Option.bind (ref01_Equal N (a_0.getD i_5.toNat ([] : List UInt8)) (b_1.getD i_5.toNat ([] : List UInt8))) fun y8 =>
 bif (!y8.1.1) then
 some (.rt ((false, ()), (())))
 else
 some (.go ((a_0, b_1, (w64 (i_5 + (1 : Int))), ()), (())))
 else none
 else none
 else
 some (.br ((()), (())))
def ref17_SameBytes_3 (N : Nat) : Option ref17_SameBytes_R :=
 some ((true, ()), (()))
def ref17_SameBytes_1 (N : Nat) (a_0 : (List (List UInt8))) (b_1 : (List (List UInt8))) (i_5 : Int) : Option ref17_SameBytes_R :=
 loopK N (fun y => ref17_SameBytes_s2 N y.1.1 y.1.2.1 y.1.2.2.1) (fun (e : ((Unit) × (Unit))) => ref17_SameBytes_3 N) ((a_0, b_1, i_5, ()), (()))
def ref17_SameBytes (N : Nat) (a_0 : (List (List UInt8))) (b_1 : (List (List UInt8))) : Option ref17_SameBytes_R :=
 bif (!(decide ((a_0.length : Int) = (b_1.length : Int)))) then
 some ((false, ()), (()))
 else
 ref17_SameBytes_1 N a_0 b_1 (0 : Int)
def ref17_SameBytes_C (N : Nat) : Ctx := ⟨27, G_tys, [(21, ref01_Equal_ctr N)], G_globs, G_ifs⟩
def ref17_SameBytes_S0 : Spec := ⟨[.val (.sl (.sl .u8)), .val (.sl (.sl .u8)), .val .i64], []⟩
def ref17_SameBytes_S1 : Spec := ⟨[], []⟩
def ref17_SameBytes_S2 : Spec := ⟨[.val (.sl (.sl .u8)), .val (.sl (.sl .u8))], []⟩
def ref17_SameBytes_S3 : Spec := ⟨[.val .bool], []⟩
def ref17_SameBytes_K (_N : Nat) : XE → GS → Option ref17_SameBytes_R := retK 0 [4] [false] ref17_SameBytes_S3
def ref17_SameBytes_L : List Code := (bodyOf (some Tryd.f71))
def ref17_SameBytes_L2 : List Code := (loopOf (ref17_SameBytes_L[4]?))
def ref17_SameBytes_K2 (N : Nat) : XE → GS → Option (Lo (((List (List UInt8)) × (List (List UInt8)) × Int × Unit) × (Unit)) ((Unit) × (Unit)) ref17_SameBytes_R) := roundK (some 0) (fit 0 [0, 1, 5] ref17_SameBytes_S0) (fit 0 [] ref17_SameBytes_S1) (ref17_SameBytes_K N)
theorem ref17_SameBytes_s2_b {E : Env} (N : Nat) (hb : Base Tryd.prog (ref17_SameBytes_C N) E 0) : Blk Tryd.prog (ref17_SameBytes_C N) E [0, 1, 5] ref17_SameBytes_S0 (ref17_SameBytes_L2.drop 0) (fun y => ref17_SameBytes_s2 N y.1.1 y.1.2.1 y.1.2.2.1) (ref17_SameBytes_K2 N) :=
 Blk.chunkAt hb 4 (X := (ref17_SameBytes_K2 N .normal)) (NxOk.end (by kernel_rfl)) rfl (fun x => by kernel_rfl)
theorem ref17_SameBytes_3_b {E : Env} (N : Nat) (hb : Base Tryd.prog (ref17_SameBytes_C N) E 0) : Blk Tryd.prog (ref17_SameBytes_C N) E [] ref17_SameBytes_S1 (ref17_SameBytes_L.drop 5) (fun y => ref17_SameBytes_3 N) (ref17_SameBytes_K N) :=
 Blk.chunkAt hb 2 (X := (ref17_SameBytes_K N .normal)) (NxOk.end (by kernel_rfl)) rfl (fun x => by kernel_rfl)
theorem ref17_SameBytes_1_b {E : Env} (N : Nat) (hb : Base Tryd.prog (ref17_SameBytes_C N) E 0) : Blk Tryd.prog (ref17_SameBytes_C N) E [0, 1, 5] ref17_SameBytes_S0 (ref17_SameBytes_L.drop 4) (fun y => ref17_SameBytes_1 N y.1.1 y.1.2.1 y.1.2.2.1) (ref17_SameBytes_K N) :=
 Blk.loopAt (Nf := N) (hns := [0, 1, 5]) (ans := []) (hc := ref17_SameBytes_S0) (ac := ref17_SameBytes_S1) (bid := 0) (step := (fun y => ref17_SameBytes_s2 N y.1.1 y.1.2.1 y.1.2.2.1)) (J := (fun e => (goK 0 [] ref17_SameBytes_S1 (fun y => ref17_SameBytes_3 N)) (ref17_SameBytes_S1.st [] e))) hb (by kernel_rfl) (Blk.into (X := (goK 0 [] ref17_SameBytes_S1 (fun y => ref17_SameBytes_3 N))) (NxOk.go hb (ref17_SameBytes_3_b N hb)) (fun x => by kernel_rfl)) (ref17_SameBytes_s2_b N hb) (fun x => by kernel_rfl)
theorem ref17_SameBytes_b {E : Env} (N : Nat) (hb : Base Tryd.prog (ref17_SameBytes_C N) E 0) : Blk Tryd.prog (ref17_SameBytes_C N) E (List.range ref17_SameBytes_S2.ks.length) ref17_SameBytes_S2 (ref17_SameBytes_L.drop 0) (fun y => ref17_SameBytes N y.1.1 y.1.2.1) (ref17_SameBytes_K N) :=
 Blk.chunkAt hb 4 (X := (goK 0 [0, 1, 5] ref17_SameBytes_S0 (fun y => ref17_SameBytes_1 N y.1.1 y.1.2.1 y.1.2.2.1))) (NxOk.go hb (ref17_SameBytes_1_b N hb)) rfl (fun x => by kernel_rfl)
def ref17_SameBytes_ctr (N : Nat) : Ctr := ⟨ref17_SameBytes_S2, ref17_SameBytes_S3.un [false], 0, (fun y => ref17_SameBytes N y.1.1 y.1.2.1)⟩
theorem ref17_SameBytes_ctrs (N : Nat) : CtrsOk Tryd.prog (ref17_SameBytes_C N) := ctrs_of (Γ := ref17_SameBytes_C N) G_ifs_ok (by
 intro p hp
 simp only [ref17_SameBytes_C, List.mem_cons, List.not_mem_nil, or_false] at hp
 rcases hp with rfl
 · exact ref01_Equal_ok N)
theorem ref17_SameBytes_ok (N : Nat) : Ctr.ok Tryd.prog G_globs 71 (ref17_SameBytes_ctr N) :=
 ctr_fn (Γ := ref17_SameBytes_C N) (rfit := ref17_SameBytes_S3) (bs := [false]) (res := [4]) (by kernel_rfl) (tys_ok G_tys_ok) (ref17_SameBytes_ctrs N) Tryd.func71 (by kernel_rfl) (by kernel_rfl) Tryd.ntmps71 (by kernel_rfl) (by kernel_rfl) (by kernel_rfl) (by kernel_rfl) (fun E hb => ref17_SameBytes_b N hb)
end
end Go.Proofs.YtofajgidjkjnpaaDoor