/- Functions of the program as plain functions, each with the proof that the text computes it. -/
import Derived.Test.YtofajgidjkjnpaaDoorFnsSealedJoinsA
import Derived.Test.YtofajgidjkjnpaaDoorRngSealedJoins
set_option linter.unusedVariables false
set_option linter.unusedSimpArgs false
namespace Go.Proofs.YtofajgidjkjnpaaDoor
open Go
set_option maxRecDepth 100000
set_option linter.unusedVariables false
noncomputable section
/-! ipsecgate/sealed.parse -/
abbrev sealed_parse_R : Type := ((D154 × Int × Unit) × (Unit))
def sealed_parse (N : Nat) (b_0 : (List UInt8)) (key_1 : (List UInt8)) (kind_2 : Int) (least_3 : Int) : Option sealed_parse_R :=
 bif (!(decide ((key_1.length : Int) = (36 : Int)))) then
 some (((((0 : UInt64), (0 : UInt64), (0 : Int), (0 : Int), (0 : Int), (0 : UInt32), ()), (0 : Int), ([] : List UInt8), ()), (13 : Int), ()), (()))
 else
 Option.bind (header_Parse N b_0) fun y3 =>
 bif (!(decide (y3.1.2.1 = (0 : Int)))) then
 some (((((0 : UInt64), (0 : UInt64), (0 : Int), (0 : Int), (0 : Int), (0 : UInt32), ()), (0 : Int), ([] : List UInt8), ()), y3.1.2.1, ()), (()))
 else
 bif (!(decide (y3.1.1.2.2.1 = kind_2))) then
 some (((((0 : UInt64), (0 : UInt64), (0 : Int), (0 : Int), (0 : Int), (0 : UInt32), ()), (0 : Int), ([] : List UInt8), ()), (7 : Int), ()), (()))
 else
 bif decide (0 ≤ (28 : Int)) && decide ((28 : Int) ≤ (b_0.length : Int)) && decide ((b_0.length : Int) ≤ (b_0.length : Int)) && true then
 Option.bind (chain_Parse N y3.1.1.2.2.1 (cut b_0 28 b_0.length)) fun y7 =>
 bif (!(decide (y7.1.2.2.1 = (0 : Int)))) then
 some (((((0 : UInt64), (0 : UInt64), (0 : Int), (0 : Int), (0 : Int), (0 : UInt32), ()), (0 : Int), ([] : List UInt8), ()), y7.1.2.2.1, ()), (()))
 else
 bif (!(decide ((y7.1.1.length : Int) = (1 : Int)))) then
 some (((((0 : UInt64), (0 : UInt64), (0 : Int), (0 : Int), (0 : Int), (0 : UInt32), ()), (0 : Int), ([] : List UInt8), ()), (7 : Int), ()), (()))
 else
 bif inR (0 : Int) y7.1.1.length then
 bif (decide (((y7.1.1.getD 0 ((0 : Int), false, ([] : List UInt8), ())).2.2.1.length : Int) < least_3)) then
 some (((((0 : UInt64), (0 : UInt64), (0 : Int), (0 : Int), (0 : Int), (0 : UInt32), ()), (0 : Int), ([] : List UInt8), ()), (1 : Int), ()), (()))
 else
 bif inR (0 : Int) y7.1.1.length then
 some (((y3.1.1, y7.1.2.1, (y7.1.1.getD 0 ((0 : Int), false, ([] : List UInt8), ())).2.2.1, ()), (0 : Int), ()), (()))
 else none
 else none
 else none
def sealed_parse_C (N : Nat) : Ctx := ⟨64, G_tys, [(171, header_Parse_ctr N), (172, chain_Parse_ctr N)], G_globs, G_ifs⟩
def sealed_parse_S0 : Spec := ⟨[.val (.sl .u8), .val (.sl .u8), .val .i64, .val .i64], []⟩
def sealed_parse_S1 : Spec := ⟨[.fp T154, .val .i64], []⟩
def sealed_parse_K (_N : Nat) : XE → GS → Option sealed_parse_R := retK 0 [8, 9] [true, false] sealed_parse_S1
def sealed_parse_L : List Code := (bodyOf (some Tryd.f126))
theorem sealed_parse_b {E : Env} (N : Nat) (hb : Base Tryd.prog (sealed_parse_C N) E 0) : Blk Tryd.prog (sealed_parse_C N) E (List.range sealed_parse_S0.ks.length) sealed_parse_S0 (sealed_parse_L.drop 0) (fun y => sealed_parse N y.1.1 y.1.2.1 y.1.2.2.1 y.1.2.2.2.1) (sealed_parse_K N) :=
 Blk.chunkAt hb 17 (X := (sealed_parse_K N .normal)) (NxOk.end (by kernel_rfl)) rfl (fun x => by kernel_rfl)
def sealed_parse_ctr (N : Nat) : Ctr := ⟨sealed_parse_S0, sealed_parse_S1.un [true, false], 0, (fun y => sealed_parse N y.1.1 y.1.2.1 y.1.2.2.1 y.1.2.2.2.1)⟩
theorem sealed_parse_ctrs (N : Nat) : CtrsOk Tryd.prog (sealed_parse_C N) := ctrs_of (Γ := sealed_parse_C N) G_ifs_ok (by
 intro p hp
 simp only [sealed_parse_C, List.mem_cons, List.not_mem_nil, or_false] at hp
 rcases hp with rfl | rfl
 · exact header_Parse_ok N
 · exact chain_Parse_ok N)
theorem sealed_parse_ok (N : Nat) : Ctr.ok Tryd.prog G_globs 126 (sealed_parse_ctr N) :=
 ctr_fn (Γ := sealed_parse_C N) (rfit := sealed_parse_S1) (bs := [true, false]) (res := [8, 9]) (by kernel_rfl) (tys_ok G_tys_ok) (sealed_parse_ctrs N) Tryd.func126 (by kernel_rfl) (by kernel_rfl) Tryd.ntmps126 (by kernel_rfl) (by kernel_rfl) (by kernel_rfl) (by kernel_rfl) (fun E hb => sealed_parse_b N hb)
/-! ipsecgate/aead.different -/
abbrev aead_different_R : Type := ((UInt8 × Unit) × (Unit))
def aead_different_s2 (N : Nat) (a_0 : (List UInt8)) (b_1 : (List UInt8)) (d_5 : UInt8) (t_8 : Int) (t_9 : Int) : Option (Lo (((List UInt8) × (List UInt8) × UInt8 × Int × Int × Unit) × (Unit)) ((UInt8 × Unit) × (Unit)) aead_different_R) :=
 bif (decide (t_9 < t_8)) then
 bif inR t_9 a_0.length then
 bif inR t_9 b_1.length then
 some (.go ((a_0, b_1, (d_5 ||| ((a_0.getD t_9.toNat (0 : UInt8)) ^^^ (b_1.getD t_9.toNat (0 : UInt8)))), t_8, (w64 (t_9 + (1 : Int))), ()), (())))
 else none
 else none
 else
 some (.br ((d_5, ()), (())))
def aead_different_3 (N : Nat) (d_5 : UInt8) : Option aead_different_R :=
 some ((d_5, ()), (()))
def aead_different_1 (N : Nat) (a_0 : (List UInt8)) (b_1 : (List UInt8)) (d_5 : UInt8) (t_8 : Int) (t_9 : Int) : Option aead_different_R :=
 loopK N (fun y => aead_different_s2 N y.1.1 y.1.2.1 y.1.2.2.1 y.1.2.2.2.1 y.1.2.2.2.2.1) (fun (e : ((UInt8 × Unit) × (Unit))) => aead_different_3 N e.1.1) ((a_0, b_1, d_5, t_8, t_9, ()), (()))
def aead_different (N : Nat) (a_0 : (List UInt8)) (b_1 : (List UInt8)) : Option aead_different_R :=
 aead_different_1 N a_0 b_1 (0 : UInt8) (a_0.length : Int) (0 : Int)
def aead_different_C (N : Nat) : Ctx := ⟨25, G_tys, [], G_globs, G_ifs⟩
def aead_different_S0 : Spec := ⟨[.val (.sl .u8), .val (.sl .u8), .val .u8, .val .i64, .val .i64], []⟩
def aead_different_S1 : Spec := ⟨[.val .u8], []⟩
def aead_different_S2 : Spec := ⟨[.val (.sl .u8), .val (.sl .u8)], []⟩
def aead_different_K (_N : Nat) : XE → GS → Option aead_different_R := retK 0 [4] [false] aead_different_S1
def aead_different_L : List Code := (bodyOf (some Tryd.f161))
def aead_different_L2 : List Code := (loopOf (aead_different_L[3]?))
def aead_different_K2 (N : Nat) : XE → GS → Option (Lo (((List UInt8) × (List UInt8) × UInt8 × Int × Int × Unit) × (Unit)) ((UInt8 × Unit) × (Unit)) aead_different_R) := roundK (some 0) (fit 0 [0, 1, 5, 8, 9] aead_different_S0) (fit 0 [5] aead_different_S1) (aead_different_K N)
theorem aead_different_s2_b {E : Env} (N : Nat) (hb : Base Tryd.prog (aead_different_C N) E 0) : Blk Tryd.prog (aead_different_C N) E [0, 1, 5, 8, 9] aead_different_S0 (aead_different_L2.drop 0) (fun y => aead_different_s2 N y.1.1 y.1.2.1 y.1.2.2.1 y.1.2.2.2.1 y.1.2.2.2.2.1) (aead_different_K2 N) :=
 Blk.chunkAt hb 4 (X := (aead_different_K2 N .normal)) (NxOk.end (by kernel_rfl)) rfl (fun x => by kernel_rfl)
theorem aead_different_3_b {E : Env} (N : Nat) (hb : Base Tryd.prog (aead_different_C N) E 0) : Blk Tryd.prog (aead_different_C N) E [5] aead_different_S1 (aead_different_L.drop 4) (fun y => aead_different_3 N y.1.1) (aead_different_K N) :=
 Blk.chunkAt hb 2 (X := (aead_different_K N .normal)) (NxOk.end (by kernel_rfl)) rfl (fun x => by kernel_rfl)
theorem aead_different_1_b {E : Env} (N : Nat) (hb : Base Tryd.prog (aead_different_C N) E 0) : Blk Tryd.prog (aead_different_C N) E [0, 1, 5, 8, 9] aead_different_S0 (aead_different_L.drop 3) (fun y => aead_different_1 N y.1.1 y.1.2.1 y.1.2.2.1 y.1.2.2.2.1 y.1.2.2.2.2.1) (aead_different_K N) :=
 Blk.loopAt (Nf := N) (hns := [0, 1, 5, 8, 9]) (ans := [5]) (hc := aead_different_S0) (ac := aead_different_S1) (bid := 0) (step := (fun y => aead_different_s2 N y.1.1 y.1.2.1 y.1.2.2.1 y.1.2.2.2.1 y.1.2.2.2.2.1)) (J := (fun e => (goK 0 [5] aead_different_S1 (fun y => aead_different_3 N y.1.1)) (aead_different_S1.st [5] e))) hb (by kernel_rfl) (Blk.into (X := (goK 0 [5] aead_different_S1 (fun y => aead_different_3 N y.1.1))) (NxOk.go hb (aead_different_3_b N hb)) (fun x => by kernel_rfl)) (aead_different_s2_b N hb) (fun x => by kernel_rfl)
theorem aead_different_b {E : Env} (N : Nat) (hb : Base Tryd.prog (aead_different_C N) E 0) : Blk Tryd.prog (aead_different_C N) E (List.range aead_different_S2.ks.length) aead_different_S2 (aead_different_L.drop 0) (fun y => aead_different N y.1.1 y.1.2.1) (aead_different_K N) :=
 Blk.chunkAt hb 3 (X := (goK 0 [0, 1, 5, 8, 9] aead_different_S0 (fun y => aead_different_1 N y.1.1 y.1.2.1 y.1.2.2.1 y.1.2.2.2.1 y.1.2.2.2.2.1))) (NxOk.go hb (aead_different_1_b N hb)) rfl (fun x => by kernel_rfl)
def aead_different_ctr (N : Nat) : Ctr := ⟨aead_different_S2, aead_different_S1.un [false], 0, (fun y => aead_different N y.1.1 y.1.2.1)⟩
theorem aead_different_ctrs (N : Nat) : CtrsOk Tryd.prog (aead_different_C N) := ctrs_nil G_ifs_ok rfl
theorem aead_different_ok (N : Nat) : Ctr.ok Tryd.prog G_globs 161 (aead_different_ctr N) :=
 ctr_fn (Γ := aead_different_C N) (rfit := aead_different_S1) (bs := [false]) (res := [4]) (by kernel_rfl) (tys_ok G_tys_ok) (aead_different_ctrs N) Tryd.func161 (by kernel_rfl) (by kernel_rfl) Tryd.ntmps161 (by kernel_rfl) (by kernel_rfl) (by kernel_rfl) (by kernel_rfl) (fun E hb => aead_different_b N hb)
/-! ipsecgate/aead.Open -/
abbrev aead_Open_R : Type := ((Int × Unit) × ((List UInt8) × Unit))
def aead_Open (N : Nat) (key_0 : (List UInt8)) (nonce_1 : (List UInt8)) (data_2 : (List UInt8)) (sealed_3 : (List UInt8)) : Option aead_Open_R :=
 Option.bind (aead_keyed N key_0 nonce_1) fun y1 =>
 bif (!y1.1.1) then
 some (((13 : Int), ()), (([] : List UInt8), ()))
 else
 let x4 := w64 ((sealed_3.length : Int) - (16 : Int))
 bif (decide (x4 < (0 : Int))) then
 some (((1 : Int), ()), (([] : List UInt8), ()))
 else
 bif decide (0 ≤ (0 : Int)) && decide ((0 : Int) ≤ x4) && decide (x4 ≤ (sealed_3.length : Int)) && true then
 Option.bind (aead_Tag N key_0 nonce_1 data_2 (cut sealed_3 0 x4.toNat)) fun y7 =>
 bif decide (0 ≤ x4) && decide (x4 ≤ (sealed_3.length : Int)) && decide ((sealed_3.length : Int) ≤ (sealed_3.length : Int)) && true then
 Option.bind (aead_different N y7.2.1 (cut sealed_3 x4.toNat sealed_3.length)) fun y9 =>
 bif (!(decide (y9.1.1 = (0 : UInt8)))) then
 some (((12 : Int), ()), (([] : List UInt8), ()))
 else
 bif decide (0 ≤ (0 : Int)) && decide ((0 : Int) ≤ x4) && decide (x4 ≤ (sealed_3.length : Int)) && true then
 Option.bind (chacha_Xor N key_0 (1 : UInt32) nonce_1 (cut sealed_3 0 x4.toNat)) fun y12 =>
 some (((0 : Int), ()), (y12.2.1, ()))
 else none
 else none
 else none
def aead_Open_C (N : Nat) : Ctx := ⟨50, G_tys, [(119, aead_keyed_ctr N), (121, aead_Tag_ctr N), (161, aead_different_ctr N), (120, chacha_Xor_ctr N)], G_globs, G_ifs⟩
def aead_Open_S0 : Spec := ⟨[.val (.sl .u8), .val (.sl .u8), .val (.sl .u8), .val (.sl .u8)], []⟩
def aead_Open_S1 : Spec := ⟨[.row 0, .val .i64], [(.row 5 .u8, .pos 0)]⟩
def aead_Open_K (_N : Nat) : XE → GS → Option aead_Open_R := retK 0 [8, 9] [false, false] aead_Open_S1
def aead_Open_L : List Code := (bodyOf (some Tryd.f104))
theorem aead_Open_b {E : Env} (N : Nat) (hb : Base Tryd.prog (aead_Open_C N) E 0) : Blk Tryd.prog (aead_Open_C N) E (List.range aead_Open_S0.ks.length) aead_Open_S0 (aead_Open_L.drop 0) (fun y => aead_Open N y.1.1 y.1.2.1 y.1.2.2.1 y.1.2.2.2.1) (aead_Open_K N) :=
 Blk.chunkAt hb 12 (X := (aead_Open_K N .normal)) (NxOk.end (by kernel_rfl)) rfl (fun x => by kernel_rfl)
def aead_Open_ctr (N : Nat) : Ctr := ⟨aead_Open_S0, aead_Open_S1.un [false, false], 0, (fun y => aead_Open N y.1.1 y.1.2.1 y.1.2.2.1 y.1.2.2.2.1)⟩
theorem aead_Open_ctrs (N : Nat) : CtrsOk Tryd.prog (aead_Open_C N) := ctrs_of (Γ := aead_Open_C N) G_ifs_ok (by
 intro p hp
 simp only [aead_Open_C, List.mem_cons, List.not_mem_nil, or_false] at hp
 rcases hp with rfl | rfl | rfl | rfl
 · exact aead_keyed_ok N
 · exact aead_Tag_ok N
 · exact aead_different_ok N
 · exact chacha_Xor_ok N)
theorem aead_Open_ok (N : Nat) : Ctr.ok Tryd.prog G_globs 104 (aead_Open_ctr N) :=
 ctr_fn (Γ := aead_Open_C N) (rfit := aead_Open_S1) (bs := [false, false]) (res := [8, 9]) (by kernel_rfl) (tys_ok G_tys_ok) (aead_Open_ctrs N) Tryd.func104 (by kernel_rfl) (by kernel_rfl) Tryd.ntmps104 (by kernel_rfl) (by kernel_rfl) (by kernel_rfl) (by kernel_rfl) (fun E hb => aead_Open_b N hb)
/-! (ipsecgate/sealed.read).open -/
abbrev sealed_read_open_R : Type := ((Int × Unit) × ((List UInt8) × Unit))
def sealed_read_open (N : Nat) (r_0 : D154) (b_1 : (List UInt8)) (key_2 : (List UInt8)) (behind_3 : Int) : Option sealed_read_open_R :=
 let x1 := w64 ((32 : Int) + behind_3)
 bif decide (0 ≤ (0 : Int)) && decide ((0 : Int) ≤ (32 : Int)) && decide ((32 : Int) ≤ (key_2.length : Int)) && true then
 let x3 := w64 (x1 + (8 : Int))
 bif decide (0 ≤ x1) && decide (x1 ≤ x3) && decide (x3 ≤ (b_1.length : Int)) && true then
 Option.bind (sealed_nonce N key_2 (cut b_1 x1.toNat x3.toNat)) fun y5 =>
 bif decide (0 ≤ (0 : Int)) && decide ((0 : Int) ≤ x1) && decide (x1 ≤ (b_1.length : Int)) && true then
 let x7 := w64 (x1 + (8 : Int))
 bif decide (0 ≤ x7) && decide (x7 ≤ (b_1.length : Int)) && decide ((b_1.length : Int) ≤ (b_1.length : Int)) && true then
 Option.bind (aead_Open N (cut key_2 0 32) y5.2.1 (cut b_1 0 x1.toNat) (cut b_1 x7.toNat b_1.length)) fun y9 =>
 some ((y9.1.1, ()), (y9.2.1, ()))
 else none
 else none
 else none
 else none
def sealed_read_open_C (N : Nat) : Ctx := ⟨32, G_tys, [(163, sealed_nonce_ctr N), (104, aead_Open_ctr N)], G_globs, G_ifs⟩
def sealed_read_open_S0 : Spec := ⟨[.val T154, .val (.sl .u8), .val (.sl .u8), .val .i64], []⟩
def sealed_read_open_S1 : Spec := ⟨[.row 0, .val .i64], [(.row 5 .u8, .pos 0)]⟩
def sealed_read_open_K (_N : Nat) : XE → GS → Option sealed_read_open_R := retK 0 [8, 9] [false, false] sealed_read_open_S1
def sealed_read_open_L : List Code := (bodyOf (some Tryd.f127))
theorem sealed_read_open_b {E : Env} (N : Nat) (hb : Base Tryd.prog (sealed_read_open_C N) E 0) : Blk Tryd.prog (sealed_read_open_C N) E (List.range sealed_read_open_S0.ks.length) sealed_read_open_S0 (sealed_read_open_L.drop 0) (fun y => sealed_read_open N y.1.1 y.1.2.1 y.1.2.2.1 y.1.2.2.2.1) (sealed_read_open_K N) :=
 Blk.chunkAt hb 4 (X := (sealed_read_open_K N .normal)) (NxOk.end (by kernel_rfl)) rfl (fun x => by kernel_rfl)
def sealed_read_open_ctr (N : Nat) : Ctr := ⟨sealed_read_open_S0, sealed_read_open_S1.un [false, false], 0, (fun y => sealed_read_open N y.1.1 y.1.2.1 y.1.2.2.1 y.1.2.2.2.1)⟩
theorem sealed_read_open_ctrs (N : Nat) : CtrsOk Tryd.prog (sealed_read_open_C N) := ctrs_of (Γ := sealed_read_open_C N) G_ifs_ok (by
 intro p hp
 simp only [sealed_read_open_C, List.mem_cons, List.not_mem_nil, or_false] at hp
 rcases hp with rfl | rfl
 · exact sealed_nonce_ok N
 · exact aead_Open_ok N)
theorem sealed_read_open_ok (N : Nat) : Ctr.ok Tryd.prog G_globs 127 (sealed_read_open_ctr N) :=
 ctr_fn (Γ := sealed_read_open_C N) (rfit := sealed_read_open_S1) (bs := [false, false]) (res := [8, 9]) (by kernel_rfl) (tys_ok G_tys_ok) (sealed_read_open_ctrs N) Tryd.func127 (by kernel_rfl) (by kernel_rfl) Tryd.ntmps127 (by kernel_rfl) (by kernel_rfl) (by kernel_rfl) (by kernel_rfl) (fun E hb => sealed_read_open_b N hb)
/-! ipsecgate/sealed.unpad -/
abbrev sealed_unpad_R : Type := (((List UInt8) × Int × Unit) × (Unit))
def sealed_unpad (N : Nat) (plain_0 : (List UInt8)) : Option sealed_unpad_R :=
 let x2 := w64 ((plain_0.length : Int) - (1 : Int))
 bif inR x2 plain_0.length then
 let x4 := ((plain_0.getD x2.toNat (0 : UInt8)).toNat : Int)
 bif (decide (x2 < x4)) then
 some ((([] : List UInt8), (4 : Int), ()), (()))
 else
 bif decide (0 ≤ (0 : Int)) && decide ((0 : Int) ≤ (w64 (x2 - x4))) && decide ((w64 (x2 - x4)) ≤ (plain_0.length : Int)) && true then
 some (((cut plain_0 0 (w64 (x2 - x4)).toNat), (0 : Int), ()), (()))
 else none
 else none
def sealed_unpad_C (N : Nat) : Ctx := ⟨22, G_tys, [], G_globs, G_ifs⟩
def sealed_unpad_S0 : Spec := ⟨[.val (.sl .u8)], []⟩
def sealed_unpad_S1 : Spec := ⟨[.val (.sl .u8), .val .i64], []⟩
def sealed_unpad_K (_N : Nat) : XE → GS → Option sealed_unpad_R := retK 0 [2, 3] [false, false] sealed_unpad_S1
def sealed_unpad_L : List Code := (bodyOf (some Tryd.f128))
theorem sealed_unpad_b {E : Env} (N : Nat) (hb : Base Tryd.prog (sealed_unpad_C N) E 0) : Blk Tryd.prog (sealed_unpad_C N) E (List.range sealed_unpad_S0.ks.length) sealed_unpad_S0 (sealed_unpad_L.drop 0) (fun y => sealed_unpad N y.1.1) (sealed_unpad_K N) :=
 Blk.chunkAt hb 7 (X := (sealed_unpad_K N .normal)) (NxOk.end (by kernel_rfl)) rfl (fun x => by kernel_rfl)
def sealed_unpad_ctr (N : Nat) : Ctr := ⟨sealed_unpad_S0, sealed_unpad_S1.un [false, false], 0, (fun y => sealed_unpad N y.1.1)⟩
theorem sealed_unpad_ctrs (N : Nat) : CtrsOk Tryd.prog (sealed_unpad_C N) := ctrs_nil G_ifs_ok rfl
theorem sealed_unpad_ok (N : Nat) : Ctr.ok Tryd.prog G_globs 128 (sealed_unpad_ctr N) :=
 ctr_fn (Γ := sealed_unpad_C N) (rfit := sealed_unpad_S1) (bs := [false, false]) (res := [2, 3]) (by kernel_rfl) (tys_ok G_tys_ok) (sealed_unpad_ctrs N) Tryd.func128 (by kernel_rfl) (by kernel_rfl) Tryd.ntmps128 (by kernel_rfl) (by kernel_rfl) (by kernel_rfl) (by kernel_rfl) (fun E hb => sealed_unpad_b N hb)
/-! ipsecgate/sealed.Open -/
abbrev sealed_Open_R : Type := ((D75 × Int × (List UInt8) × Int × Unit) × (Unit))
def sealed_Open_1 (N : Nat) (e_9 : Int) (plain_10 : (List UInt8)) (t_4 : D75) (r_8 : D154) : Option sealed_Open_R :=
 bif (!(decide (e_9 = (0 : Int)))) then
 some ((((0 : UInt64), (0 : UInt64), (0 : Int), (0 : Int), (0 : Int), (0 : UInt32), ()), (0 : Int), ([] : List UInt8), e_9, ()), (()))
 else
 some ((r_8.1, r_8.2.1, plain_10, (0 : Int), ()), (()))
def sealed_Open (N : Nat) (b_0 : (List UInt8)) (key_1 : (List UInt8)) : Option sealed_Open_R :=
 Option.bind (sealed_parse N b_0 key_1 (46 : Int) (25 : Int)) fun y1 =>
 bif (!(decide (y1.1.2.1 = (0 : Int)))) then
 some ((((0 : UInt64), (0 : UInt64), (0 : Int), (0 : Int), (0 : Int), (0 : UInt32), ()), (0 : Int), ([] : List UInt8), y1.1.2.1, ()), (()))
 else
 Option.bind (sealed_read_open N y1.1.1 b_0 key_1 (0 : Int)) fun y3 =>
 bif (decide (y3.1.1 = (0 : Int))) then
 Option.bind (sealed_unpad N y3.2.1) fun y5 =>
 sealed_Open_1 N y5.1.2.1 y5.1.1 ((0 : UInt64), (0 : UInt64), (0 : Int), (0 : Int), (0 : Int), (0 : UInt32), ()) y1.1.1
 else
 sealed_Open_1 N y3.1.1 y3.2.1 ((0 : UInt64), (0 : UInt64), (0 : Int), (0 : Int), (0 : Int), (0 : UInt32), ()) y1.1.1
def sealed_Open_C (N : Nat) : Ctx := ⟨44, G_tys, [(126, sealed_parse_ctr N), (127, sealed_read_open_ctr N), (128, sealed_unpad_ctr N)], G_globs, G_ifs⟩
def sealed_Open_S0 : Spec := ⟨[.ref 0 T75, .ref 1 T154, .val .i64, .val (.sl .u8)], [(.box 76 T75, .pos 0), (.box 155 T154, .pos 1)]⟩
def sealed_Open_S1 : Spec := ⟨[.val (.sl .u8), .val (.sl .u8)], []⟩
def sealed_Open_S2 : Spec := ⟨[.fp T75, .val .i64, .val (.sl .u8), .val .i64], []⟩
def sealed_Open_K (_N : Nat) : XE → GS → Option sealed_Open_R := retK 0 [4, 5, 6, 7] [true, false, false, false] sealed_Open_S2
def sealed_Open_L : List Code := (bodyOf (some Tryd.f64))
theorem sealed_Open_1_b {E : Env} (N : Nat) (hb : Base Tryd.prog (sealed_Open_C N) E 0) : Blk Tryd.prog (sealed_Open_C N) E [4, 8, 9, 10] sealed_Open_S0 (sealed_Open_L.drop 7) (fun y => sealed_Open_1 N y.1.1 y.1.2.1 y.2.1 y.2.2.1) (sealed_Open_K N) :=
 Blk.chunkAt hb 4 (X := (sealed_Open_K N .normal)) (NxOk.end (by kernel_rfl)) rfl (fun x => by kernel_rfl)
theorem sealed_Open_b {E : Env} (N : Nat) (hb : Base Tryd.prog (sealed_Open_C N) E 0) : Blk Tryd.prog (sealed_Open_C N) E (List.range sealed_Open_S1.ks.length) sealed_Open_S1 (sealed_Open_L.drop 0) (fun y => sealed_Open N y.1.1 y.1.2.1) (sealed_Open_K N) :=
 Blk.chunkAt hb 7 (X := (goK 0 [4, 8, 9, 10] sealed_Open_S0 (fun y => sealed_Open_1 N y.1.1 y.1.2.1 y.2.1 y.2.2.1))) (NxOk.go hb (sealed_Open_1_b N hb)) rfl (fun x => by kernel_rfl)
def sealed_Open_ctr (N : Nat) : Ctr := ⟨sealed_Open_S1, sealed_Open_S2.un [true, false, false, false], 0, (fun y => sealed_Open N y.1.1 y.1.2.1)⟩
theorem sealed_Open_ctrs (N : Nat) : CtrsOk Tryd.prog (sealed_Open_C N) := ctrs_of (Γ := sealed_Open_C N) G_ifs_ok (by
 intro p hp
 simp only [sealed_Open_C, List.mem_cons, List.not_mem_nil, or_false] at hp
 rcases hp with rfl | rfl | rfl
 · exact sealed_parse_ok N
 · exact sealed_read_open_ok N
 · exact sealed_unpad_ok N)
theorem sealed_Open_ok (N : Nat) : Ctr.ok Tryd.prog G_globs 64 (sealed_Open_ctr N) :=
 ctr_fn (Γ := sealed_Open_C N) (rfit := sealed_Open_S2) (bs := [true, false, false, false]) (res := [4, 5, 6, 7]) (by kernel_rfl) (tys_ok G_tys_ok) (sealed_Open_ctrs N) Tryd.func64 (by kernel_rfl) (by kernel_rfl) Tryd.ntmps64 (by kernel_rfl) (by kernel_rfl) (by kernel_rfl) (by kernel_rfl) (fun E hb => sealed_Open_b N hb)
/-! ipsecgate/ipsecgatelaw17.awake -/
abbrev law17_awake_R : Type := ((Bool × Unit) × (Unit))
def law17_awake (N : Nat) : Option law17_awake_R :=
 Option.bind (sealed_Seal N ((1 : UInt64), (2 : UInt64), (0 : Int), (37 : Int), (0 : Int), (3 : UInt32), ()) (0 : Int) ([] : List UInt8) (List.replicate 36 (0 : UInt8)) (5 : UInt64)) fun y1 =>
 Option.bind (sealed_Open N y1.2.1 (List.replicate 36 (0 : UInt8))) fun y2 =>
 bif (decide (y1.1.1 = (0 : Int))) then
 bif (decide (y2.1.2.2.2.1 = (0 : Int))) then
 bif (decide ((y1.2.1.length : Int) = (57 : Int))) then
 some (((decide ((y2.1.2.2.1.length : Int) = (0 : Int))), ()), (()))
 else
 some ((false, ()), (()))
 else
 some ((false, ()), (()))
 else
 some ((false, ()), (()))
def law17_awake_C (N : Nat) : Ctx := ⟨39, G_tys, [(55, sealed_Seal_ctr N), (64, sealed_Open_ctr N)], G_globs, G_ifs⟩
def law17_awake_S0 : Spec := ⟨[], []⟩
def law17_awake_S1 : Spec := ⟨[.val .bool], []⟩
def law17_awake_K (_N : Nat) : XE → GS → Option law17_awake_R := retK 0 [0] [false] law17_awake_S1
def law17_awake_L : List Code := (bodyOf (some Tryd.f53))
theorem law17_awake_b {E : Env} (N : Nat) (hb : Base Tryd.prog (law17_awake_C N) E 0) : Blk Tryd.prog (law17_awake_C N) E (List.range law17_awake_S0.ks.length) law17_awake_S0 (law17_awake_L.drop 0) (fun y => law17_awake N) (law17_awake_K N) :=
 Blk.chunkAt hb 6 (X := (law17_awake_K N .normal)) (NxOk.end (by kernel_rfl)) rfl (fun x => by kernel_rfl)
def law17_awake_ctr (N : Nat) : Ctr := ⟨law17_awake_S0, law17_awake_S1.un [false], 0, (fun y => law17_awake N)⟩
theorem law17_awake_ctrs (N : Nat) : CtrsOk Tryd.prog (law17_awake_C N) := ctrs_of (Γ := law17_awake_C N) G_ifs_ok (by
 intro p hp
 simp only [law17_awake_C, List.mem_cons, List.not_mem_nil, or_false] at hp
 rcases hp with rfl | rfl
 · exact sealed_Seal_ok N
 · exact sealed_Open_ok N)
theorem law17_awake_ok (N : Nat) : Ctr.ok Tryd.prog G_globs 53 (law17_awake_ctr N) :=
 ctr_fn (Γ := law17_awake_C N) (rfit := law17_awake_S1) (bs := [false]) (res := [0]) (by kernel_rfl) (tys_ok G_tys_ok) (law17_awake_ctrs N) Tryd.func53 (by kernel_rfl) (by kernel_rfl) Tryd.ntmps53 (by kernel_rfl) (by kernel_rfl) (by kernel_rfl) (by kernel_rfl) (fun E hb => law17_awake_b N hb)
/-! ipsecgate/ipsecgatemake.New -/
abbrev make_New_R : Type := ((Unit) × (((List UInt8) × (Int × Unit)) × Unit))
def make_New_1 (N : Nat) (list_0 : (List UInt8)) : Option make_New_R :=
 some ((()), ((list_0, (0 : Int), ()), ()))
def make_New (N : Nat) (list_0 : (List UInt8)) (most_1 : Int) : Option make_New_R :=
 bif (decide (most_1 < (list_0.length : Int))) then
 bif decide (0 ≤ (0 : Int)) && decide ((0 : Int) ≤ most_1) && decide (most_1 ≤ (list_0.length : Int)) && true then
 make_New_1 N (cut list_0 0 most_1.toNat)
 else none
 else
 make_New_1 N list_0
def make_New_C (N : Nat) : Ctx := ⟨15, G_tys, [], G_globs, G_ifs⟩
def make_New_S0 : Spec := ⟨[.val (.sl .u8)], []⟩
def make_New_S1 : Spec := ⟨[.val (.sl .u8), .val .i64], []⟩
def make_New_S2 : Spec := ⟨[.ref 0 (.pair (.sl .u8) (.pair .i64 .unit))], [(.box 122 (.pair (.sl .u8) (.pair .i64 .unit)), .pos 0)]⟩
def make_New_K (_N : Nat) : XE → GS → Option make_New_R := retK 0 [4] [false] make_New_S2
def make_New_L : List Code := (bodyOf (some Tryd.f16))
theorem make_New_1_b {E : Env} (N : Nat) (hb : Base Tryd.prog (make_New_C N) E 0) : Blk Tryd.prog (make_New_C N) E [0] make_New_S0 (make_New_L.drop 3) (fun y => make_New_1 N y.1.1) (make_New_K N) :=
 Blk.chunkAt hb 2 (X := (make_New_K N .normal)) (NxOk.end (by kernel_rfl)) rfl (fun x => by kernel_rfl)
theorem make_New_b {E : Env} (N : Nat) (hb : Base Tryd.prog (make_New_C N) E 0) : Blk Tryd.prog (make_New_C N) E (List.range make_New_S1.ks.length) make_New_S1 (make_New_L.drop 0) (fun y => make_New N y.1.1 y.1.2.1) (make_New_K N) :=
 Blk.chunkAt hb 3 (X := (goK 0 [0] make_New_S0 (fun y => make_New_1 N y.1.1))) (NxOk.go hb (make_New_1_b N hb)) rfl (fun x => by kernel_rfl)
def make_New_ctr (N : Nat) : Ctr := ⟨make_New_S1, make_New_S2.un [false], 0, (fun y => make_New N y.1.1 y.1.2.1)⟩
theorem make_New_ctrs (N : Nat) : CtrsOk Tryd.prog (make_New_C N) := ctrs_nil G_ifs_ok rfl
theorem make_New_ok (N : Nat) : Ctr.ok Tryd.prog G_globs 16 (make_New_ctr N) :=
 ctr_fn (Γ := make_New_C N) (rfit := make_New_S2) (bs := [false]) (res := [4]) (by kernel_rfl) (tys_ok G_tys_ok) (make_New_ctrs N) Tryd.func16 (by kernel_rfl) (by kernel_rfl) Tryd.ntmps16 (by kernel_rfl) (by kernel_rfl) (by kernel_rfl) (by kernel_rfl) (fun E hb => make_New_b N hb)
/-! (*ipsecgate/ipsecgatemake.Codes).Left -/
abbrev make_Codes_Left_R : Type := ((Bool × Unit) × (Unit))
def make_Codes_Left (N : Nat) (c_0 : ((List UInt8) × (Int × Unit))) : Option make_Codes_Left_R :=
 some (((decide (c_0.2.1 < (c_0.1.length : Int))), ()), (()))
def make_Codes_Left_C (N : Nat) : Ctx := ⟨13, G_tys, [], G_globs, G_ifs⟩
def make_Codes_Left_S0 : Spec := ⟨[.fp (.pair (.sl .u8) (.pair .i64 .unit))], []⟩
def make_Codes_Left_S1 : Spec := ⟨[.val .bool], []⟩
def make_Codes_Left_K (_N : Nat) : XE → GS → Option make_Codes_Left_R := retK 0 [2] [false] make_Codes_Left_S1
def make_Codes_Left_L : List Code := (bodyOf (some Tryd.f124))
theorem make_Codes_Left_b {E : Env} (N : Nat) (hb : Base Tryd.prog (make_Codes_Left_C N) E 0) : Blk Tryd.prog (make_Codes_Left_C N) E (List.range make_Codes_Left_S0.ks.length) make_Codes_Left_S0 (make_Codes_Left_L.drop 0) (fun y => make_Codes_Left N y.1.1) (make_Codes_Left_K N) :=
 Blk.chunkAt hb 3 (X := (make_Codes_Left_K N .normal)) (NxOk.end (by kernel_rfl)) rfl (fun x => by kernel_rfl)
def make_Codes_Left_ctr (N : Nat) : Ctr := ⟨make_Codes_Left_S0, make_Codes_Left_S1.un [false], 0, (fun y => make_Codes_Left N y.1.1)⟩
theorem make_Codes_Left_ctrs (N : Nat) : CtrsOk Tryd.prog (make_Codes_Left_C N) := ctrs_nil G_ifs_ok rfl
theorem make_Codes_Left_ok (N : Nat) : Ctr.ok Tryd.prog G_globs 124 (make_Codes_Left_ctr N) :=
 ctr_fn (Γ := make_Codes_Left_C N) (rfit := make_Codes_Left_S1) (bs := [false]) (res := [2]) (by kernel_rfl) (tys_ok G_tys_ok) (make_Codes_Left_ctrs N) Tryd.func124 (by kernel_rfl) (by kernel_rfl) Tryd.ntmps124 (by kernel_rfl) (by kernel_rfl) (by kernel_rfl) (by kernel_rfl) (fun E hb => make_Codes_Left_b N hb)
/-! (*ipsecgate/ipsecgatemake.Codes).Next -/
abbrev make_Codes_Next_R : Type := ((Int × Unit) × (((List UInt8) × (Int × Unit)) × Unit))
def make_Codes_Next (N : Nat) (n_1 : Int) (c_0 : ((List UInt8) × (Int × Unit))) : Option make_Codes_Next_R :=
 Option.bind (make_Codes_Left N c_0) fun y1 =>
 bif (!y1.1.1) then
 some (((0 : Int), ()), (c_0, ()))
 else
 let x3 := w64 (c_0.2.1 + (1 : Int))
 let x4 := w64 (x3 - (1 : Int))
 bif inR x4 c_0.1.length then
 bif !(decide (n_1 = 0)) then
 some (((((c_0.1.getD x4.toNat (0 : UInt8)).toNat : Int).tmod n_1), ()), ((c_0.1, x3, ()), ()))
 else none
 else none
def make_Codes_Next_C (N : Nat) : Ctx := ⟨29, G_tys, [(124, make_Codes_Left_ctr N)], G_globs, G_ifs⟩
def make_Codes_Next_S0 : Spec := ⟨[.ref 0 (.pair (.sl .u8) (.pair .i64 .unit)), .val .i64], [(.box 122 (.pair (.sl .u8) (.pair .i64 .unit)), .pos 0)]⟩
def make_Codes_Next_S1 : Spec := ⟨[.val .i64], [(.box 122 (.pair (.sl .u8) (.pair .i64 .unit)), .fix 0)]⟩
def make_Codes_Next_K (_N : Nat) : XE → GS → Option make_Codes_Next_R := retK 1 [4] [false] make_Codes_Next_S1
def make_Codes_Next_L : List Code := (bodyOf (some Tryd.f61))
theorem make_Codes_Next_b {E : Env} (N : Nat) (hb : Base Tryd.prog (make_Codes_Next_C N) E 1) : Blk Tryd.prog (make_Codes_Next_C N) E (List.range make_Codes_Next_S0.ks.length) make_Codes_Next_S0 (make_Codes_Next_L.drop 0) (fun y => make_Codes_Next N y.1.1 y.2.1) (make_Codes_Next_K N) :=
 Blk.chunkAt hb 6 (X := (make_Codes_Next_K N .normal)) (NxOk.end (by kernel_rfl)) rfl (fun x => by kernel_rfl)
def make_Codes_Next_ctr (N : Nat) : Ctr := ⟨make_Codes_Next_S0, make_Codes_Next_S1.un [false], 1, (fun y => make_Codes_Next N y.1.1 y.2.1)⟩
theorem make_Codes_Next_ctrs (N : Nat) : CtrsOk Tryd.prog (make_Codes_Next_C N) := ctrs_of (Γ := make_Codes_Next_C N) G_ifs_ok (by
 intro p hp
 simp only [make_Codes_Next_C, List.mem_cons, List.not_mem_nil, or_false] at hp
 rcases hp with rfl
 · exact make_Codes_Left_ok N)
theorem make_Codes_Next_ok (N : Nat) : Ctr.ok Tryd.prog G_globs 61 (make_Codes_Next_ctr N) :=
 ctr_fn (Γ := make_Codes_Next_C N) (rfit := make_Codes_Next_S1) (bs := [false]) (res := [4]) (by kernel_rfl) (tys_ok G_tys_ok) (make_Codes_Next_ctrs N) Tryd.func61 (by kernel_rfl) (by kernel_rfl) Tryd.ntmps61 (by kernel_rfl) (by kernel_rfl) (by kernel_rfl) (by kernel_rfl) (fun E hb => make_Codes_Next_b N hb)
/-! (*ipsecgate/ipsecgatemake.Codes).Word -/
abbrev make_Codes_Word_R : Type := ((UInt64 × Unit) × (((List UInt8) × (Int × Unit)) × Unit))
def make_Codes_Word_s2 (N : Nat) (v_3 : UInt64) (i_4 : Int) (p0 : ((List UInt8) × (Int × Unit))) : Option (Lo ((UInt64 × Int × Unit) × (((List UInt8) × (Int × Unit)) × Unit)) ((UInt64 × Unit) × (((List UInt8) × (Int × Unit)) × Unit)) make_Codes_Word_R) :=
 bif (decide (i_4 < (8 : Int))) then
 Option.bind (make_Codes_Next N (256 : Int) p0) fun y11 =>
 some (.go ((((shl64 v_3 8) ||| (iu64 y11.1.1)), (w64 (i_4 + (1 : Int))), ()), (y11.2.1, ())))
 else
 some (.br ((v_3, ()), (p0, ())))
def make_Codes_Word_3 (N : Nat) (v_3 : UInt64) (p0 : ((List UInt8) × (Int × Unit))) : Option make_Codes_Word_R :=
 some ((v_3, ()), (p0, ()))
def make_Codes_Word_1 (N : Nat) (v_3 : UInt64) (i_4 : Int) (p0 : ((List UInt8) × (Int × Unit))) : Option make_Codes_Word_R :=
 loopK N (fun y => make_Codes_Word_s2 N y.1.1 y.1.2.1 y.2.1) (fun (e : ((UInt64 × Unit) × (((List UInt8) × (Int × Unit)) × Unit))) => make_Codes_Word_3 N e.1.1 e.2.1) ((v_3, i_4, ()), (p0, ()))
def make_Codes_Word (N : Nat) (c_0 : ((List UInt8) × (Int × Unit))) : Option make_Codes_Word_R :=
 Option.bind (make_Codes_Next N (6 : Int) c_0) fun y1 =>
 bif (decide (y1.1.1 = (0 : Int))) then
 Option.bind (make_Codes_Next N (4 : Int) y1.2.1) fun y3 =>
 some (((iu64 y3.1.1), ()), (y3.2.1, ()))
 else
 bif (decide (y1.1.1 = (1 : Int))) then
 Option.bind (make_Codes_Next N (3 : Int) y1.2.1) fun y6 =>
 some ((((18446744073709551615 : UInt64) - (iu64 y6.1.1)), ()), (y6.2.1, ()))
 else
 make_Codes_Word_1 N (0 : UInt64) (0 : Int) y1.2.1
def make_Codes_Word_C (N : Nat) : Ctx := ⟨29, G_tys, [(61, make_Codes_Next_ctr N)], G_globs, G_ifs⟩
def make_Codes_Word_S0 : Spec := ⟨[.ref 0 (.pair (.sl .u8) (.pair .i64 .unit)), .val .u64, .val .i64], [(.box 122 (.pair (.sl .u8) (.pair .i64 .unit)), .fix 0)]⟩
def make_Codes_Word_S1 : Spec := ⟨[.val .u64], [(.box 122 (.pair (.sl .u8) (.pair .i64 .unit)), .fix 0)]⟩
def make_Codes_Word_S2 : Spec := ⟨[.ref 0 (.pair (.sl .u8) (.pair .i64 .unit))], [(.box 122 (.pair (.sl .u8) (.pair .i64 .unit)), .pos 0)]⟩
def make_Codes_Word_K (_N : Nat) : XE → GS → Option make_Codes_Word_R := retK 1 [2] [false] make_Codes_Word_S1
def make_Codes_Word_L : List Code := (bodyOf (some Tryd.f44))
def make_Codes_Word_L2 : List Code := (loopOf (make_Codes_Word_L[5]?))
def make_Codes_Word_K2 (N : Nat) : XE → GS → Option (Lo ((UInt64 × Int × Unit) × (((List UInt8) × (Int × Unit)) × Unit)) ((UInt64 × Unit) × (((List UInt8) × (Int × Unit)) × Unit)) make_Codes_Word_R) := roundK (some 1) (fit 1 [0, 3, 4] make_Codes_Word_S0) (fit 1 [3] make_Codes_Word_S1) (make_Codes_Word_K N)
theorem make_Codes_Word_s2_b {E : Env} (N : Nat) (hb : Base Tryd.prog (make_Codes_Word_C N) E 1) : Blk Tryd.prog (make_Codes_Word_C N) E [0, 3, 4] make_Codes_Word_S0 (make_Codes_Word_L2.drop 0) (fun y => make_Codes_Word_s2 N y.1.1 y.1.2.1 y.2.1) (make_Codes_Word_K2 N) :=
 Blk.chunkAt hb 4 (X := (make_Codes_Word_K2 N .normal)) (NxOk.end (by kernel_rfl)) rfl (fun x => by kernel_rfl)
theorem make_Codes_Word_3_b {E : Env} (N : Nat) (hb : Base Tryd.prog (make_Codes_Word_C N) E 1) : Blk Tryd.prog (make_Codes_Word_C N) E [3] make_Codes_Word_S1 (make_Codes_Word_L.drop 6) (fun y => make_Codes_Word_3 N y.1.1 y.2.1) (make_Codes_Word_K N) :=
 Blk.chunkAt hb 2 (X := (make_Codes_Word_K N .normal)) (NxOk.end (by kernel_rfl)) rfl (fun x => by kernel_rfl)
theorem make_Codes_Word_1_b {E : Env} (N : Nat) (hb : Base Tryd.prog (make_Codes_Word_C N) E 1) : Blk Tryd.prog (make_Codes_Word_C N) E [0, 3, 4] make_Codes_Word_S0 (make_Codes_Word_L.drop 5) (fun y => make_Codes_Word_1 N y.1.1 y.1.2.1 y.2.1) (make_Codes_Word_K N) :=
 Blk.loopAt (Nf := N) (hns := [0, 3, 4]) (ans := [3]) (hc := make_Codes_Word_S0) (ac := make_Codes_Word_S1) (bid := 1) (step := (fun y => make_Codes_Word_s2 N y.1.1 y.1.2.1 y.2.1)) (J := (fun e => (goK 1 [3] make_Codes_Word_S1 (fun y => make_Codes_Word_3 N y.1.1 y.2.1)) (make_Codes_Word_S1.st [3] e))) hb (by kernel_rfl) (Blk.into (X := (goK 1 [3] make_Codes_Word_S1 (fun y => make_Codes_Word_3 N y.1.1 y.2.1))) (NxOk.go hb (make_Codes_Word_3_b N hb)) (fun x => by kernel_rfl)) (make_Codes_Word_s2_b N hb) (fun x => by kernel_rfl)
theorem make_Codes_Word_b {E : Env} (N : Nat) (hb : Base Tryd.prog (make_Codes_Word_C N) E 1) : Blk Tryd.prog (make_Codes_Word_C N) E (List.range make_Codes_Word_S2.ks.length) make_Codes_Word_S2 (make_Codes_Word_L.drop 0) (fun y => make_Codes_Word N y.2.1) (make_Codes_Word_K N) :=
 Blk.chunkAt hb 5 (X := (goK 1 [0, 3, 4] make_Codes_Word_S0 (fun y => make_Codes_Word_1 N y.1.1 y.1.2.1 y.2.1))) (NxOk.go hb (make_Codes_Word_1_b N hb)) rfl (fun x => by kernel_rfl)
def make_Codes_Word_ctr (N : Nat) : Ctr := ⟨make_Codes_Word_S2, make_Codes_Word_S1.un [false], 1, (fun y => make_Codes_Word N y.2.1)⟩
theorem make_Codes_Word_ctrs (N : Nat) : CtrsOk Tryd.prog (make_Codes_Word_C N) := ctrs_of (Γ := make_Codes_Word_C N) G_ifs_ok (by
 intro p hp
 simp only [make_Codes_Word_C, List.mem_cons, List.not_mem_nil, or_false] at hp
 rcases hp with rfl
 · exact make_Codes_Next_ok N)
theorem make_Codes_Word_ok (N : Nat) : Ctr.ok Tryd.prog G_globs 44 (make_Codes_Word_ctr N) :=
 ctr_fn (Γ := make_Codes_Word_C N) (rfit := make_Codes_Word_S1) (bs := [false]) (res := [2]) (by kernel_rfl) (tys_ok G_tys_ok) (make_Codes_Word_ctrs N) Tryd.func44 (by kernel_rfl) (by kernel_rfl) Tryd.ntmps44 (by kernel_rfl) (by kernel_rfl) (by kernel_rfl) (by kernel_rfl) (fun E hb => make_Codes_Word_b N hb)
/-! (*ipsecgate/ipsecgatemake.Codes).Header -/
abbrev make_Codes_Header_R : Type := ((D75 × Unit) × (((List UInt8) × (Int × Unit)) × Unit))
def make_Codes_Header_3 (N : Nat) (t_35 : Bool) (p0 : ((List UInt8) × (Int × Unit))) (t_2 : D75) (h_3 : D75) : Option make_Codes_Header_R :=
 bif t_35 then
 some (((h_3.1, (2 : UInt64), h_3.2.2.1, h_3.2.2.2.1, h_3.2.2.2.2.1, h_3.2.2.2.2.2.1, ()), ()), (p0, ()))
 else
 some ((h_3, ()), (p0, ()))
def make_Codes_Header_2 (N : Nat) (p0 : ((List UInt8) × (Int × Unit))) (t_2 : D75) (h_3 : D75) : Option make_Codes_Header_R :=
 bif (decide (h_3.2.1 = (0 : UInt64))) then
 make_Codes_Header_3 N (!(decide (h_3.2.2.2.1 = (34 : Int)))) p0 t_2 h_3
 else
 make_Codes_Header_3 N false p0 t_2 h_3
def make_Codes_Header_1 (N : Nat) (p0 : ((List UInt8) × (Int × Unit))) (t_2 : D75) (h_3 : D75) : Option make_Codes_Header_R :=
 bif (decide (h_3.1 = (0 : UInt64))) then
 make_Codes_Header_2 N p0 t_2 ((1 : UInt64), h_3.2.1, h_3.2.2.1, h_3.2.2.2.1, h_3.2.2.2.2.1, h_3.2.2.2.2.2.1, ())
 else
 make_Codes_Header_2 N p0 t_2 h_3
def make_Codes_Header (N : Nat) (c_0 : ((List UInt8) × (Int × Unit))) : Option make_Codes_Header_R :=
 Option.bind (make_Codes_Word N c_0) fun y1 =>
 Option.bind (make_Codes_Word N y1.2.1) fun y2 =>
 Option.bind (make_Codes_Next N (4 : Int) y2.2.1) fun y3 =>
 let x4 := w64 ((34 : Int) + y3.1.1)
 Option.bind (make_Codes_Next N (4 : Int) y3.2.1) fun y5 =>
 bif inR y5.1.1 (([(8 : Int), (32 : Int), (40 : Int), (0 : Int)] : List Int).length) then
 let x6 := (([(8 : Int), (32 : Int), (40 : Int), (0 : Int)] : List Int).getD y5.1.1.toNat (0 : Int))
 bif (!(decide (x4 = (34 : Int)))) then
 Option.bind (make_Codes_Next N (256 : Int) y5.2.1) fun y8 =>
 make_Codes_Header_1 N y8.2.1 ((0 : UInt64), (0 : UInt64), (0 : Int), (0 : Int), (0 : Int), (0 : UInt32), ()) (y1.1.1, y2.1.1, (0 : Int), x4, x6, (iu32 y8.1.1), ())
 else
 make_Codes_Header_1 N y5.2.1 ((0 : UInt64), (0 : UInt64), (0 : Int), (0 : Int), (0 : Int), (0 : UInt32), ()) (y1.1.1, y2.1.1, (0 : Int), x4, x6, (0 : UInt32), ())
 else none
def make_Codes_Header_C (N : Nat) : Ctx := ⟨38, G_tys, [(44, make_Codes_Word_ctr N), (61, make_Codes_Next_ctr N)], G_globs, G_ifs⟩
def make_Codes_Header_S0 : Spec := ⟨[.ref 1 T75, .ref 2 T75, .val .bool], [(.box 122 (.pair (.sl .u8) (.pair .i64 .unit)), .fix 0), (.box 76 T75, .pos 0), (.box 76 T75, .pos 1)]⟩
def make_Codes_Header_S1 : Spec := ⟨[.ref 1 T75, .ref 2 T75], [(.box 122 (.pair (.sl .u8) (.pair .i64 .unit)), .fix 0), (.box 76 T75, .pos 0), (.box 76 T75, .pos 1)]⟩
def make_Codes_Header_S2 : Spec := ⟨[.ref 0 (.pair (.sl .u8) (.pair .i64 .unit))], [(.box 122 (.pair (.sl .u8) (.pair .i64 .unit)), .pos 0)]⟩
def make_Codes_Header_S3 : Spec := ⟨[.fp T75], [(.box 122 (.pair (.sl .u8) (.pair .i64 .unit)), .fix 0)]⟩
def make_Codes_Header_K (_N : Nat) : XE → GS → Option make_Codes_Header_R := retK 1 [2] [true] make_Codes_Header_S3
def make_Codes_Header_L : List Code := (bodyOf (some Tryd.f114))
theorem make_Codes_Header_3_b {E : Env} (N : Nat) (hb : Base Tryd.prog (make_Codes_Header_C N) E 1) : Blk Tryd.prog (make_Codes_Header_C N) E [2, 3, 35] make_Codes_Header_S0 (make_Codes_Header_L.drop 7) (fun y => make_Codes_Header_3 N y.1.1 y.2.1 y.2.2.1 y.2.2.2.1) (make_Codes_Header_K N) :=
 Blk.chunkAt hb 3 (X := (make_Codes_Header_K N .normal)) (NxOk.end (by kernel_rfl)) rfl (fun x => by kernel_rfl)
theorem make_Codes_Header_2_b {E : Env} (N : Nat) (hb : Base Tryd.prog (make_Codes_Header_C N) E 1) : Blk Tryd.prog (make_Codes_Header_C N) E [2, 3] make_Codes_Header_S1 (make_Codes_Header_L.drop 6) (fun y => make_Codes_Header_2 N y.2.1 y.2.2.1 y.2.2.2.1) (make_Codes_Header_K N) :=
 Blk.chunkAt hb 1 (X := (goK 1 [2, 3, 35] make_Codes_Header_S0 (fun y => make_Codes_Header_3 N y.1.1 y.2.1 y.2.2.1 y.2.2.2.1))) (NxOk.go hb (make_Codes_Header_3_b N hb)) rfl (fun x => by kernel_rfl)
theorem make_Codes_Header_1_b {E : Env} (N : Nat) (hb : Base Tryd.prog (make_Codes_Header_C N) E 1) : Blk Tryd.prog (make_Codes_Header_C N) E [2, 3] make_Codes_Header_S1 (make_Codes_Header_L.drop 4) (fun y => make_Codes_Header_1 N y.2.1 y.2.2.1 y.2.2.2.1) (make_Codes_Header_K N) :=
 Blk.chunkAt hb 2 (X := (goK 1 [2, 3] make_Codes_Header_S1 (fun y => make_Codes_Header_2 N y.2.1 y.2.2.1 y.2.2.2.1))) (NxOk.go hb (make_Codes_Header_2_b N hb)) rfl (fun x => by kernel_rfl)
theorem make_Codes_Header_b {E : Env} (N : Nat) (hb : Base Tryd.prog (make_Codes_Header_C N) E 1) : Blk Tryd.prog (make_Codes_Header_C N) E (List.range make_Codes_Header_S2.ks.length) make_Codes_Header_S2 (make_Codes_Header_L.drop 0) (fun y => make_Codes_Header N y.2.1) (make_Codes_Header_K N) :=
 Blk.chunkAt hb 4 (X := (goK 1 [2, 3] make_Codes_Header_S1 (fun y => make_Codes_Header_1 N y.2.1 y.2.2.1 y.2.2.2.1))) (NxOk.go hb (make_Codes_Header_1_b N hb)) rfl (fun x => by kernel_rfl)
def make_Codes_Header_ctr (N : Nat) : Ctr := ⟨make_Codes_Header_S2, make_Codes_Header_S3.un [true], 1, (fun y => make_Codes_Header N y.2.1)⟩
theorem make_Codes_Header_ctrs (N : Nat) : CtrsOk Tryd.prog (make_Codes_Header_C N) := ctrs_of (Γ := make_Codes_Header_C N) G_ifs_ok (by
 intro p hp
 simp only [make_Codes_Header_C, List.mem_cons, List.not_mem_nil, or_false] at hp
 rcases hp with rfl | rfl
 · exact make_Codes_Word_ok N
 · exact make_Codes_Next_ok N)
theorem make_Codes_Header_ok (N : Nat) : Ctr.ok Tryd.prog G_globs 114 (make_Codes_Header_ctr N) :=
 ctr_fn (Γ := make_Codes_Header_C N) (rfit := make_Codes_Header_S3) (bs := [true]) (res := [2]) (by kernel_rfl) (tys_ok G_tys_ok) (make_Codes_Header_ctrs N) Tryd.func114 (by kernel_rfl) (by kernel_rfl) Tryd.ntmps114 (by kernel_rfl) (by kernel_rfl) (by kernel_rfl) (by kernel_rfl) (fun E hb => make_Codes_Header_b N hb)
/-! (*ipsecgate/ipsecgatemake.Codes).Bytes -/
abbrev make_Codes_Bytes_R : Type := ((Unit) × (((List UInt8) × (Int × Unit)) × (List UInt8) × Unit))
def make_Codes_Bytes_s2 (N : Nat) (n_1 : Int) (i_6 : Int) (p0 : ((List UInt8) × (Int × Unit))) (out_5 : (List UInt8)) : Option (Lo ((Int × Int × Unit) × (((List UInt8) × (Int × Unit)) × (List UInt8) × Unit)) ((Unit) × (((List UInt8) × (Int × Unit)) × (List UInt8) × Unit)) make_Codes_Bytes_R) :=
 bif (decide (i_6 < n_1)) then
 Option.bind (make_Codes_Next N (256 : Int) p0) fun y2 =>
 let x4 := w64 (y2.1.1 + (w64 (i_6 * (7 : Int))))
 bif room (out_5.length + ([iu8 x4] : List UInt8).length) 1 then
 some (.go ((n_1, (w64 (i_6 + (1 : Int))), ()), (y2.2.1, (out_5 ++ ([iu8 x4] : List UInt8)), ())))
 else none
 else
 some (.br ((()), (p0, out_5, ())))
def make_Codes_Bytes_3 (N : Nat) (p0 : ((List UInt8) × (Int × Unit))) (out_5 : (List UInt8)) : Option make_Codes_Bytes_R :=
 some ((()), (p0, out_5, ()))
def make_Codes_Bytes_1 (N : Nat) (n_1 : Int) (i_6 : Int) (p0 : ((List UInt8) × (Int × Unit))) (out_5 : (List UInt8)) : Option make_Codes_Bytes_R :=
 loopK N (fun y => make_Codes_Bytes_s2 N y.1.1 y.1.2.1 y.2.1 y.2.2.1) (fun (e : ((Unit) × (((List UInt8) × (Int × Unit)) × (List UInt8) × Unit))) => make_Codes_Bytes_3 N e.2.1 e.2.2.1) ((n_1, i_6, ()), (p0, out_5, ()))
def make_Codes_Bytes (N : Nat) (n_1 : Int) (c_0 : ((List UInt8) × (Int × Unit))) : Option make_Codes_Bytes_R :=
 make_Codes_Bytes_1 N n_1 (0 : Int) c_0 ([] : List UInt8)
def make_Codes_Bytes_C (N : Nat) : Ctx := ⟨22, G_tys, [(61, make_Codes_Next_ctr N)], G_globs, G_ifs⟩
def make_Codes_Bytes_S0 : Spec := ⟨[.ref 0 (.pair (.sl .u8) (.pair .i64 .unit)), .val .i64, .row 1, .val .i64], [(.box 122 (.pair (.sl .u8) (.pair .i64 .unit)), .fix 0), (.row 5 .u8, .pos 2)]⟩
def make_Codes_Bytes_S1 : Spec := ⟨[.row 1], [(.box 122 (.pair (.sl .u8) (.pair .i64 .unit)), .fix 0), (.row 5 .u8, .pos 0)]⟩
def make_Codes_Bytes_S2 : Spec := ⟨[.ref 0 (.pair (.sl .u8) (.pair .i64 .unit)), .val .i64], [(.box 122 (.pair (.sl .u8) (.pair .i64 .unit)), .pos 0)]⟩
def make_Codes_Bytes_K (_N : Nat) : XE → GS → Option make_Codes_Bytes_R := retK 1 [4] [false] make_Codes_Bytes_S1
def make_Codes_Bytes_L : List Code := (bodyOf (some Tryd.f115))
def make_Codes_Bytes_L2 : List Code := (loopOf (make_Codes_Bytes_L[3]?))
def make_Codes_Bytes_K2 (N : Nat) : XE → GS → Option (Lo ((Int × Int × Unit) × (((List UInt8) × (Int × Unit)) × (List UInt8) × Unit)) ((Unit) × (((List UInt8) × (Int × Unit)) × (List UInt8) × Unit)) make_Codes_Bytes_R) := roundK (some 0) (fit 1 [0, 1, 5, 6] make_Codes_Bytes_S0) (fit 1 [5] make_Codes_Bytes_S1) (make_Codes_Bytes_K N)
theorem make_Codes_Bytes_s2_b {E : Env} (N : Nat) (hb : Base Tryd.prog (make_Codes_Bytes_C N) E 1) : Blk Tryd.prog (make_Codes_Bytes_C N) E [0, 1, 5, 6] make_Codes_Bytes_S0 (make_Codes_Bytes_L2.drop 0) (fun y => make_Codes_Bytes_s2 N y.1.1 y.1.2.1 y.2.1 y.2.2.1) (make_Codes_Bytes_K2 N) :=
 Blk.chunkAt hb 4 (X := (make_Codes_Bytes_K2 N .normal)) (NxOk.end (by kernel_rfl)) rfl (fun x => by kernel_rfl)
theorem make_Codes_Bytes_3_b {E : Env} (N : Nat) (hb : Base Tryd.prog (make_Codes_Bytes_C N) E 1) : Blk Tryd.prog (make_Codes_Bytes_C N) E [5] make_Codes_Bytes_S1 (make_Codes_Bytes_L.drop 4) (fun y => make_Codes_Bytes_3 N y.2.1 y.2.2.1) (make_Codes_Bytes_K N) :=
 Blk.chunkAt hb 2 (X := (make_Codes_Bytes_K N .normal)) (NxOk.end (by kernel_rfl)) rfl (fun x => by kernel_rfl)
theorem make_Codes_Bytes_1_b {E : Env} (N : Nat) (hb : Base Tryd.prog (make_Codes_Bytes_C N) E 1) : Blk Tryd.prog (make_Codes_Bytes_C N) E [0, 1, 5, 6] make_Codes_Bytes_S0 (make_Codes_Bytes_L.drop 3) (fun y => make_Codes_Bytes_1 N y.1.1 y.1.2.1 y.2.1 y.2.2.1) (make_Codes_Bytes_K N) :=
 Blk.loopAt (Nf := N) (hns := [0, 1, 5, 6]) (ans := [5]) (hc := make_Codes_Bytes_S0) (ac := make_Codes_Bytes_S1) (bid := 0) (step := (fun y => make_Codes_Bytes_s2 N y.1.1 y.1.2.1 y.2.1 y.2.2.1)) (J := (fun e => (goK 1 [5] make_Codes_Bytes_S1 (fun y => make_Codes_Bytes_3 N y.2.1 y.2.2.1)) (make_Codes_Bytes_S1.st [5] e))) hb (by kernel_rfl) (Blk.into (X := (goK 1 [5] make_Codes_Bytes_S1 (fun y => make_Codes_Bytes_3 N y.2.1 y.2.2.1))) (NxOk.go hb (make_Codes_Bytes_3_b N hb)) (fun x => by kernel_rfl)) (make_Codes_Bytes_s2_b N hb) (fun x => by kernel_rfl)
theorem make_Codes_Bytes_b {E : Env} (N : Nat) (hb : Base Tryd.prog (make_Codes_Bytes_C N) E 1) : Blk Tryd.prog (make_Codes_Bytes_C N) E (List.range make_Codes_Bytes_S2.ks.length) make_Codes_Bytes_S2 (make_Codes_Bytes_L.drop 0) (fun y => make_Codes_Bytes N y.1.1 y.2.1) (make_Codes_Bytes_K N) :=
 Blk.chunkAt hb 3 (X := (goK 1 [0, 1, 5, 6] make_Codes_Bytes_S0 (fun y => make_Codes_Bytes_1 N y.1.1 y.1.2.1 y.2.1 y.2.2.1))) (NxOk.go hb (make_Codes_Bytes_1_b N hb)) rfl (fun x => by kernel_rfl)
def make_Codes_Bytes_ctr (N : Nat) : Ctr := ⟨make_Codes_Bytes_S2, make_Codes_Bytes_S1.un [false], 1, (fun y => make_Codes_Bytes N y.1.1 y.2.1)⟩
theorem make_Codes_Bytes_ctrs (N : Nat) : CtrsOk Tryd.prog (make_Codes_Bytes_C N) := ctrs_of (Γ := make_Codes_Bytes_C N) G_ifs_ok (by
 intro p hp
 simp only [make_Codes_Bytes_C, List.mem_cons, List.not_mem_nil, or_false] at hp
 rcases hp with rfl
 · exact make_Codes_Next_ok N)
theorem make_Codes_Bytes_ok (N : Nat) : Ctr.ok Tryd.prog G_globs 115 (make_Codes_Bytes_ctr N) :=
 ctr_fn (Γ := make_Codes_Bytes_C N) (rfit := make_Codes_Bytes_S1) (bs := [false]) (res := [4]) (by kernel_rfl) (tys_ok G_tys_ok) (make_Codes_Bytes_ctrs N) Tryd.func115 (by kernel_rfl) (by kernel_rfl) Tryd.ntmps115 (by kernel_rfl) (by kernel_rfl) (by kernel_rfl) (by kernel_rfl) (fun E hb => make_Codes_Bytes_b N hb)
/-! ipsecgate/ipsecgatelaw17.draw -/
abbrev law17_draw_R : Type := ((D75 × Unit) × (((List UInt8) × (Int × Unit)) × (List UInt8) × (List UInt8) × Unit))
def law17_draw (N : Nat) (c_0 : ((List UInt8) × (Int × Unit))) : Option law17_draw_R :=
 Option.bind (make_Codes_Header N c_0) fun y1 =>
 Option.bind (make_Codes_Bytes N (36 : Int) y1.2.1) fun y2 =>
 Option.bind (make_Codes_Next N (80 : Int) y2.2.1) fun y3 =>
 Option.bind (make_Codes_Bytes N y3.1.1 y3.2.1) fun y4 =>
 some ((y1.1.1, ()), (y4.2.1, y2.2.2.1, y4.2.2.1, ()))
def law17_draw_C (N : Nat) : Ctx := ⟨13, G_tys, [(114, make_Codes_Header_ctr N), (115, make_Codes_Bytes_ctr N), (61, make_Codes_Next_ctr N)], G_globs, G_ifs⟩
def law17_draw_S0 : Spec := ⟨[.ref 0 (.pair (.sl .u8) (.pair .i64 .unit))], [(.box 122 (.pair (.sl .u8) (.pair .i64 .unit)), .pos 0)]⟩
def law17_draw_S1 : Spec := ⟨[.fp T75, .row 1, .row 2], [(.box 122 (.pair (.sl .u8) (.pair .i64 .unit)), .fix 0), (.row 5 .u8, .pos 1), (.row 5 .u8, .pos 2)]⟩
def law17_draw_K (_N : Nat) : XE → GS → Option law17_draw_R := retK 1 [2, 3, 4] [true, false, false] law17_draw_S1
def law17_draw_L : List Code := (bodyOf (some Tryd.f54))
theorem law17_draw_b {E : Env} (N : Nat) (hb : Base Tryd.prog (law17_draw_C N) E 1) : Blk Tryd.prog (law17_draw_C N) E (List.range law17_draw_S0.ks.length) law17_draw_S0 (law17_draw_L.drop 0) (fun y => law17_draw N y.2.1) (law17_draw_K N) :=
 Blk.chunkAt hb 3 (X := (law17_draw_K N .normal)) (NxOk.end (by kernel_rfl)) rfl (fun x => by kernel_rfl)
def law17_draw_ctr (N : Nat) : Ctr := ⟨law17_draw_S0, law17_draw_S1.un [true, false, false], 1, (fun y => law17_draw N y.2.1)⟩
theorem law17_draw_ctrs (N : Nat) : CtrsOk Tryd.prog (law17_draw_C N) := ctrs_of (Γ := law17_draw_C N) G_ifs_ok (by
 intro p hp
 simp only [law17_draw_C, List.mem_cons, List.not_mem_nil, or_false] at hp
 rcases hp with rfl | rfl | rfl
 · exact make_Codes_Header_ok N
 · exact make_Codes_Bytes_ok N
 · exact make_Codes_Next_ok N)
theorem law17_draw_ok (N : Nat) : Ctr.ok Tryd.prog G_globs 54 (law17_draw_ctr N) :=
 ctr_fn (Γ := law17_draw_C N) (rfit := law17_draw_S1) (bs := [true, false, false]) (res := [2, 3, 4]) (by kernel_rfl) (tys_ok G_tys_ok) (law17_draw_ctrs N) Tryd.func54 (by kernel_rfl) (by kernel_rfl) Tryd.ntmps54 (by kernel_rfl) (by kernel_rfl) (by kernel_rfl) (by kernel_rfl) (fun E hb => law17_draw_b N hb)
/-! ipsecgate/ipsecgateref01.Number -/
abbrev ref01_Number_R : Type := ((UInt64 × Bool × Unit) × (Unit))
def ref01_Number_s3 (N : Nat) (b_0 : (List UInt8)) (at_1 : Int) (width_2 : Int) (v_8 : UInt64) (i_9 : Int) : Option (Lo (((List UInt8) × Int × Int × UInt64 × Int × Unit) × (Unit)) ((UInt64 × Unit) × (Unit)) ref01_Number_R) :=
 bif (decide (i_9 < (w64 (at_1 + width_2)))) then
 bif inR i_9 b_0.length then
 some (.go ((b_0, at_1, width_2, ((shl64 v_8 8) ||| (b_0.getD i_9.toNat (0 : UInt8)).toUInt64), (w64 (i_9 + (1 : Int))), ()), (())))
 else none
 else
 some (.br ((v_8, ()), (())))
def ref01_Number_4 (N : Nat) (v_8 : UInt64) : Option ref01_Number_R :=
 some ((v_8, true, ()), (()))
def ref01_Number_2 (N : Nat) (b_0 : (List UInt8)) (at_1 : Int) (width_2 : Int) (v_8 : UInt64) (i_9 : Int) : Option ref01_Number_R :=
 loopK N (fun y => ref01_Number_s3 N y.1.1 y.1.2.1 y.1.2.2.1 y.1.2.2.2.1 y.1.2.2.2.2.1) (fun (e : ((UInt64 × Unit) × (Unit))) => ref01_Number_4 N e.1.1) ((b_0, at_1, width_2, v_8, i_9, ()), (()))
def ref01_Number_1 (N : Nat) (b_0 : (List UInt8)) (at_1 : Int) (width_2 : Int) (t_33 : Bool) : Option ref01_Number_R :=
 bif t_33 then
 some (((0 : UInt64), false, ()), (()))
 else
 ref01_Number_2 N b_0 at_1 width_2 (0 : UInt64) at_1
def ref01_Number (N : Nat) (b_0 : (List UInt8)) (at_1 : Int) (width_2 : Int) : Option ref01_Number_R :=
 bif (decide (width_2 < (1 : Int))) then
 ref01_Number_1 N b_0 at_1 width_2 true
 else
 bif (decide ((8 : Int) < width_2)) then
 ref01_Number_1 N b_0 at_1 width_2 true
 else
 bif (decide (at_1 < (0 : Int))) then
 ref01_Number_1 N b_0 at_1 width_2 true
 else
 bif (decide ((b_0.length : Int) < at_1)) then
 ref01_Number_1 N b_0 at_1 width_2 true
 else
 ref01_Number_1 N b_0 at_1 width_2 (decide ((w64 ((b_0.length : Int) - at_1)) < width_2))
def ref01_Number_C (N : Nat) : Ctx := ⟨51, G_tys, [], G_globs, G_ifs⟩
def ref01_Number_S0 : Spec := ⟨[.val (.sl .u8), .val .i64, .val .i64, .val .u64, .val .i64], []⟩
def ref01_Number_S1 : Spec := ⟨[.val .u64], []⟩
def ref01_Number_S2 : Spec := ⟨[.val (.sl .u8), .val .i64, .val .i64, .val .bool], []⟩
def ref01_Number_S3 : Spec := ⟨[.val (.sl .u8), .val .i64, .val .i64], []⟩
def ref01_Number_S4 : Spec := ⟨[.val .u64, .val .bool], []⟩
def ref01_Number_K (_N : Nat) : XE → GS → Option ref01_Number_R := retK 0 [6, 7] [false, false] ref01_Number_S4
def ref01_Number_L : List Code := (bodyOf (some Tryd.f58))
def ref01_Number_L3 : List Code := (loopOf (ref01_Number_L[5]?))
def ref01_Number_K3 (N : Nat) : XE → GS → Option (Lo (((List UInt8) × Int × Int × UInt64 × Int × Unit) × (Unit)) ((UInt64 × Unit) × (Unit)) ref01_Number_R) := roundK (some 0) (fit 0 [0, 1, 2, 8, 9] ref01_Number_S0) (fit 0 [8] ref01_Number_S1) (ref01_Number_K N)
theorem ref01_Number_s3_b {E : Env} (N : Nat) (hb : Base Tryd.prog (ref01_Number_C N) E 0) : Blk Tryd.prog (ref01_Number_C N) E [0, 1, 2, 8, 9] ref01_Number_S0 (ref01_Number_L3.drop 0) (fun y => ref01_Number_s3 N y.1.1 y.1.2.1 y.1.2.2.1 y.1.2.2.2.1 y.1.2.2.2.2.1) (ref01_Number_K3 N) :=
 Blk.chunkAt hb 4 (X := (ref01_Number_K3 N .normal)) (NxOk.end (by kernel_rfl)) rfl (fun x => by kernel_rfl)
theorem ref01_Number_4_b {E : Env} (N : Nat) (hb : Base Tryd.prog (ref01_Number_C N) E 0) : Blk Tryd.prog (ref01_Number_C N) E [8] ref01_Number_S1 (ref01_Number_L.drop 6) (fun y => ref01_Number_4 N y.1.1) (ref01_Number_K N) :=
 Blk.chunkAt hb 2 (X := (ref01_Number_K N .normal)) (NxOk.end (by kernel_rfl)) rfl (fun x => by kernel_rfl)
theorem ref01_Number_2_b {E : Env} (N : Nat) (hb : Base Tryd.prog (ref01_Number_C N) E 0) : Blk Tryd.prog (ref01_Number_C N) E [0, 1, 2, 8, 9] ref01_Number_S0 (ref01_Number_L.drop 5) (fun y => ref01_Number_2 N y.1.1 y.1.2.1 y.1.2.2.1 y.1.2.2.2.1 y.1.2.2.2.2.1) (ref01_Number_K N) :=
 Blk.loopAt (Nf := N) (hns := [0, 1, 2, 8, 9]) (ans := [8]) (hc := ref01_Number_S0) (ac := ref01_Number_S1) (bid := 0) (step := (fun y => ref01_Number_s3 N y.1.1 y.1.2.1 y.1.2.2.1 y.1.2.2.2.1 y.1.2.2.2.2.1)) (J := (fun e => (goK 0 [8] ref01_Number_S1 (fun y => ref01_Number_4 N y.1.1)) (ref01_Number_S1.st [8] e))) hb (by kernel_rfl) (Blk.into (X := (goK 0 [8] ref01_Number_S1 (fun y => ref01_Number_4 N y.1.1))) (NxOk.go hb (ref01_Number_4_b N hb)) (fun x => by kernel_rfl)) (ref01_Number_s3_b N hb) (fun x => by kernel_rfl)
theorem ref01_Number_1_b {E : Env} (N : Nat) (hb : Base Tryd.prog (ref01_Number_C N) E 0) : Blk Tryd.prog (ref01_Number_C N) E [0, 1, 2, 33] ref01_Number_S2 (ref01_Number_L.drop 2) (fun y => ref01_Number_1 N y.1.1 y.1.2.1 y.1.2.2.1 y.1.2.2.2.1) (ref01_Number_K N) :=
 Blk.chunkAt hb 3 (X := (goK 0 [0, 1, 2, 8, 9] ref01_Number_S0 (fun y => ref01_Number_2 N y.1.1 y.1.2.1 y.1.2.2.1 y.1.2.2.2.1 y.1.2.2.2.2.1))) (NxOk.go hb (ref01_Number_2_b N hb)) rfl (fun x => by kernel_rfl)
theorem ref01_Number_b {E : Env} (N : Nat) (hb : Base Tryd.prog (ref01_Number_C N) E 0) : Blk Tryd.prog (ref01_Number_C N) E (List.range ref01_Number_S3.ks.length) ref01_Number_S3 (ref01_Number_L.drop 0) (fun y => ref01_Number N y.1.1 y.1.2.1 y.1.2.2.1) (ref01_Number_K N) :=
 Blk.chunkAt hb 2 (X := (goK 0 [0, 1, 2, 33] ref01_Number_S2 (fun y => ref01_Number_1 N y.1.1 y.1.2.1 y.1.2.2.1 y.1.2.2.2.1))) (NxOk.go hb (ref01_Number_1_b N hb)) rfl (fun x => by kernel_rfl)
def ref01_Number_ctr (N : Nat) : Ctr := ⟨ref01_Number_S3, ref01_Number_S4.un [false, false], 0, (fun y => ref01_Number N y.1.1 y.1.2.1 y.1.2.2.1)⟩
theorem ref01_Number_ctrs (N : Nat) : CtrsOk Tryd.prog (ref01_Number_C N) := ctrs_nil G_ifs_ok rfl
theorem ref01_Number_ok (N : Nat) : Ctr.ok Tryd.prog G_globs 58 (ref01_Number_ctr N) :=
 ctr_fn (Γ := ref01_Number_C N) (rfit := ref01_Number_S4) (bs := [false, false]) (res := [6, 7]) (by kernel_rfl) (tys_ok G_tys_ok) (ref01_Number_ctrs N) Tryd.func58 (by kernel_rfl) (by kernel_rfl) Tryd.ntmps58 (by kernel_rfl) (by kernel_rfl) (by kernel_rfl) (by kernel_rfl) (fun E hb => ref01_Number_b N hb)
/-! ipsecgate/ipsecgateref01.Compare -/
abbrev ref01_Compare_R : Type := ((Int × Unit) × (Unit))
def ref01_Compare_3 (N : Nat) (a_0 : (List UInt8)) (b_1 : (List UInt8)) (i_5 : Int) (t_15 : Bool) : Option (Lo (((List UInt8) × (List UInt8) × Int × Unit) × (Unit)) (((List UInt8) × (List UInt8) × Unit) × (Unit)) ref01_Compare_R) :=
 bif t_15 then
 bif inR i_5 a_0.length then
 bif inR i_5 b_1.length then
 bif (decide ((a_0.getD i_5.toNat (0 : UInt8)) < (b_1.getD i_5.toNat (0 : UInt8)))) then
 some (.rt (((-1 : Int), ()), (())))
 else
 bif inR i_5 a_0.length then
 bif inR i_5 b_1.length then
 bif (decide ((b_1.getD i_5.toNat (0 : UInt8)) < (a_0.getD i_5.toNat (0 : UInt8)))) then
 some (.rt (((1 : Int), ()), (())))
 else
 some (.go ((a_0, b_1, (w64 (i_5 + (1 : Int))), ()), (())))
 else none
 else none
 else none
 else none
 else
 some (.br ((a_0, b_1, ()), (())))
def ref01_Compare_s2 (N : Nat) (a_0 : (List UInt8)) (b_1 : (List UInt8)) (i_5 : Int) : Option (Lo (((List UInt8) × (List UInt8) × Int × Unit) × (Unit)) (((List UInt8) × (List UInt8) × Unit) × (Unit)) ref01_Compare_R) :=
 bif (decide (i_5 < (a_0.length : Int))) then
 ref01_Compare_3 N a_0 b_1 i_5 (decide (i_5 < (b_1.length : Int)))
 else
 ref01_Compare_3 N a_0 b_1 i_5 false
def ref01_Compare_4 (N : Nat) (a_0 : (List UInt8)) (b_1 : (List UInt8)) : Option ref01_Compare_R :=
 bif (decide ((a_0.length : Int) < (b_1.length : Int))) then
 some (((-1 : Int), ()), (()))
 else
 bif (decide ((b_1.length : Int) < (a_0.length : Int))) then
 some (((1 : Int), ()), (()))
 else
 some (((0 : Int), ()), (()))
def ref01_Compare_1 (N : Nat) (a_0 : (List UInt8)) (b_1 : (List UInt8)) (i_5 : Int) : Option ref01_Compare_R :=
 loopK N (fun y => ref01_Compare_s2 N y.1.1 y.1.2.1 y.1.2.2.1) (fun (e : (((List UInt8) × (List UInt8) × Unit) × (Unit))) => ref01_Compare_4 N e.1.1 e.1.2.1) ((a_0, b_1, i_5, ()), (()))
def ref01_Compare (N : Nat) (a_0 : (List UInt8)) (b_1 : (List UInt8)) : Option ref01_Compare_R :=
 ref01_Compare_1 N a_0 b_1 (0 : Int)
def ref01_Compare_C (N : Nat) : Ctx := ⟨48, G_tys, [], G_globs, G_ifs⟩
def ref01_Compare_S0 : Spec := ⟨[.val (.sl .u8), .val (.sl .u8), .val .i64, .val .bool], []⟩
def ref01_Compare_S1 : Spec := ⟨[.val (.sl .u8), .val (.sl .u8), .val .i64], []⟩
def ref01_Compare_S2 : Spec := ⟨[.val (.sl .u8), .val (.sl .u8)], []⟩
def ref01_Compare_S3 : Spec := ⟨[.val .i64], []⟩
def ref01_Compare_K (_N : Nat) : XE → GS → Option ref01_Compare_R := retK 0 [4] [false] ref01_Compare_S3
def ref01_Compare_L : List Code := (bodyOf (some Tryd.f95))
def ref01_Compare_L2 : List Code := (loopOf (ref01_Compare_L[2]?))
def ref01_Compare_K2 (N : Nat) : XE → GS → Option (Lo (((List UInt8) × (List UInt8) × Int × Unit) × (Unit)) (((List UInt8) × (List UInt8) × Unit) × (Unit)) ref01_Compare_R) := roundK (some 0) (fit 0 [0, 1, 5] ref01_Compare_S1) (fit 0 [0, 1] ref01_Compare_S2) (ref01_Compare_K N)
theorem ref01_Compare_3_b {E : Env} (N : Nat) (hb : Base Tryd.prog (ref01_Compare_C N) E 0) : Blk Tryd.prog (ref01_Compare_C N) E [0, 1, 5, 15] ref01_Compare_S0 (ref01_Compare_L2.drop 1) (fun y => ref01_Compare_3 N y.1.1 y.1.2.1 y.1.2.2.1 y.1.2.2.2.1) (ref01_Compare_K2 N) :=
 Blk.chunkAt hb 3 (X := (ref01_Compare_K2 N .normal)) (NxOk.end (by kernel_rfl)) rfl (fun x => by kernel_rfl)
theorem ref01_Compare_s2_b {E : Env} (N : Nat) (hb : Base Tryd.prog (ref01_Compare_C N) E 0) : Blk Tryd.prog (ref01_Compare_C N) E [0, 1, 5] ref01_Compare_S1 (ref01_Compare_L2.drop 0) (fun y => ref01_Compare_s2 N y.1.1 y.1.2.1 y.1.2.2.1) (ref01_Compare_K2 N) :=
 Blk.chunkAt hb 1 (X := (goK 0 [0, 1, 5, 15] ref01_Compare_S0 (fun y => ref01_Compare_3 N y.1.1 y.1.2.1 y.1.2.2.1 y.1.2.2.2.1))) (NxOk.go hb (ref01_Compare_3_b N hb)) rfl (fun x => by kernel_rfl)
theorem ref01_Compare_4_b {E : Env} (N : Nat) (hb : Base Tryd.prog (ref01_Compare_C N) E 0) : Blk Tryd.prog (ref01_Compare_C N) E [0, 1] ref01_Compare_S2 (ref01_Compare_L.drop 3) (fun y => ref01_Compare_4 N y.1.1 y.1.2.1) (ref01_Compare_K N) :=
 Blk.chunkAt hb 3 (X := (ref01_Compare_K N .normal)) (NxOk.end (by kernel_rfl)) rfl (fun x => by kernel_rfl)
theorem ref01_Compare_1_b {E : Env} (N : Nat) (hb : Base Tryd.prog (ref01_Compare_C N) E 0) : Blk Tryd.prog (ref01_Compare_C N) E [0, 1, 5] ref01_Compare_S1 (ref01_Compare_L.drop 2) (fun y => ref01_Compare_1 N y.1.1 y.1.2.1 y.1.2.2.1) (ref01_Compare_K N) :=
 Blk.loopAt (Nf := N) (hns := [0, 1, 5]) (ans := [0, 1]) (hc := ref01_Compare_S1) (ac := ref01_Compare_S2) (bid := 0) (step := (fun y => ref01_Compare_s2 N y.1.1 y.1.2.1 y.1.2.2.1)) (J := (fun e => (goK 0 [0, 1] ref01_Compare_S2 (fun y => ref01_Compare_4 N y.1.1 y.1.2.1)) (ref01_Compare_S2.st [0, 1] e))) hb (by kernel_rfl) (Blk.into (X := (goK 0 [0, 1] ref01_Compare_S2 (fun y => ref01_Compare_4 N y.1.1 y.1.2.1))) (NxOk.go hb (ref01_Compare_4_b N hb)) (fun x => by kernel_rfl)) (ref01_Compare_s2_b N hb) (fun x => by kernel_rfl)
theorem ref01_Compare_b {E : Env} (N : Nat) (hb : Base Tryd.prog (ref01_Compare_C N) E 0) : Blk Tryd.prog (ref01_Compare_C N) E (List.range ref01_Compare_S2.ks.length) ref01_Compare_S2 (ref01_Compare_L.drop 0) (fun y => ref01_Compare N y.1.1 y.1.2.1) (ref01_Compare_K N) :=
 Blk.chunkAt hb 2 (X := (goK 0 [0, 1, 5] ref01_Compare_S1 (fun y => ref01_Compare_1 N y.1.1 y.1.2.1 y.1.2.2.1))) (NxOk.go hb (ref01_Compare_1_b N hb)) rfl (fun x => by kernel_rfl)
def ref01_Compare_ctr (N : Nat) : Ctr := ⟨ref01_Compare_S2, ref01_Compare_S3.un [false], 0, (fun y => ref01_Compare N y.1.1 y.1.2.1)⟩
theorem ref01_Compare_ctrs (N : Nat) : CtrsOk Tryd.prog (ref01_Compare_C N) := ctrs_nil G_ifs_ok rfl
theorem ref01_Compare_ok (N : Nat) : Ctr.ok Tryd.prog G_globs 95 (ref01_Compare_ctr N) :=
 ctr_fn (Γ := ref01_Compare_C N) (rfit := ref01_Compare_S3) (bs := [false]) (res := [4]) (by kernel_rfl) (tys_ok G_tys_ok) (ref01_Compare_ctrs N) Tryd.func95 (by kernel_rfl) (by kernel_rfl) Tryd.ntmps95 (by kernel_rfl) (by kernel_rfl) (by kernel_rfl) (by kernel_rfl) (fun E hb => ref01_Compare_b N hb)
/-! ipsecgate/ipsecgateref01.Equal -/
abbrev ref01_Equal_R : Type := ((Bool × Unit) × (Unit))
def ref01_Equal (N : Nat) (a_0 : (List UInt8)) (b_1 : (List UInt8)) : Option ref01_Equal_R :=
 Option.bind (ref01_Compare N a_0 b_1) fun y1 =>
 some (((decide (y1.1.1 = (0 : Int))), ()), (()))
def ref01_Equal_C (N : Nat) : Ctx := ⟨9, G_tys, [(95, ref01_Compare_ctr N)], G_globs, G_ifs⟩
def ref01_Equal_S0 : Spec := ⟨[.val (.sl .u8), .val (.sl .u8)], []⟩
def ref01_Equal_S1 : Spec := ⟨[.val .bool], []⟩
def ref01_Equal_K (_N : Nat) : XE → GS → Option ref01_Equal_R := retK 0 [4] [false] ref01_Equal_S1
def ref01_Equal_L : List Code := (bodyOf (some Tryd.f21))
theorem ref01_Equal_b {E : Env} (N : Nat) (hb : Base Tryd.prog (ref01_Equal_C N) E 0) : Blk Tryd.prog (ref01_Equal_C N) E (List.range ref01_Equal_S0.ks.length) ref01_Equal_S0 (ref01_Equal_L.drop 0) (fun y => ref01_Equal N y.1.1 y.1.2.1) (ref01_Equal_K N) :=
 Blk.chunkAt hb 3 (X := (ref01_Equal_K N .normal)) (NxOk.end (by kernel_rfl)) rfl (fun x => by kernel_rfl)
def ref01_Equal_ctr (N : Nat) : Ctr := ⟨ref01_Equal_S0, ref01_Equal_S1.un [false], 0, (fun y => ref01_Equal N y.1.1 y.1.2.1)⟩
theorem ref01_Equal_ctrs (N : Nat) : CtrsOk Tryd.prog (ref01_Equal_C N) := ctrs_of (Γ := ref01_Equal_C N) G_ifs_ok (by
 intro p hp
 simp only [ref01_Equal_C, List.mem_cons, List.not_mem_nil, or_false] at hp
 rcases hp with rfl
 · exact ref01_Compare_ok N)
theorem ref01_Equal_ok (N : Nat) : Ctr.ok Tryd.prog G_globs 21 (ref01_Equal_ctr N) :=
 ctr_fn (Γ := ref01_Equal_C N) (rfit := ref01_Equal_S1) (bs := [false]) (res := [4]) (by kernel_rfl) (tys_ok G_tys_ok) (ref01_Equal_ctrs N) Tryd.func21 (by kernel_rfl) (by kernel_rfl) Tryd.ntmps21 (by kernel_rfl) (by kernel_rfl) (by kernel_rfl) (by kernel_rfl) (fun E hb => ref01_Equal_b N hb)
/-! ipsecgate/ipsecgatelaw17.SealedJoins -/
abbrev law17_SealedJoins_R : Type := ((Bool × Unit) × (Unit))
def law17_SealedJoins_2 (N : Nat) (x_10 : (List UInt8)) (t_80 : Bool) (k_8 : (List UInt8)) (b_9 : (List UInt8)) : Option law17_SealedJoins_R :=
 bif t_80 then
 some ((false, ()), (()))
 else
 bif decide (0 ≤ (32 : Int)) && decide ((32 : Int) ≤ (k_8.length : Int)) && decide ((k_8.length : Int) ≤ (k_8.length : Int)) && true then
 let x11 := cut k_8 32 k_8.length
 bif room (0 + x11.length) 1 then
 bif decide (0 ≤ (32 : Int)) && decide ((32 : Int) ≤ (40 : Int)) && decide ((40 : Int) ≤ (x_10.length : Int)) && true then
 bif room (x11.length + (cut x_10 32 40).length) 1 then
 bif decide (0 ≤ (0 : Int)) && decide ((0 : Int) ≤ (32 : Int)) && decide ((32 : Int) ≤ (k_8.length : Int)) && true then
 bif decide (0 ≤ (0 : Int)) && decide ((0 : Int) ≤ (32 : Int)) && decide ((32 : Int) ≤ (x_10.length : Int)) && true then
 bif room (0 + b_9.length) 1 then
 bif room (b_9.length + ([(0 : UInt8)] : List UInt8).length) 1 then
 Option.bind (aead_Seal N (cut k_8 0 32) (x11 ++ (cut x_10 32 40)) (cut x_10 0 32) (b_9 ++ ([(0 : UInt8)] : List UInt8))) fun y17 =>
 Option.bind (ref01_Number N x_10 (30 : Int) (2 : Int)) fun y18 =>
 bif (decide (y17.1.1 = (0 : Int))) then
 bif y18.1.2.1 then
 bif (decide ((w64 (y18.1.1.toNat : Int)) = (w64 ((x_10.length : Int) - (28 : Int))))) then
 bif decide (0 ≤ (40 : Int)) && decide ((40 : Int) ≤ (x_10.length : Int)) && decide ((x_10.length : Int) ≤ (x_10.length : Int)) && true then
 Option.bind (ref01_Equal N (cut x_10 40 x_10.length) y17.2.1) fun y25 =>
 some ((y25.1.1, ()), (()))
 else none
 else
 some ((false, ()), (()))
 else
 some ((false, ()), (()))
 else
 some ((false, ()), (()))
 else none
 else none
 else none
 else none
 else none
 else none
 else none
 else none
def law17_SealedJoins_1 (N : Nat) (first_1 : UInt8) (t_47 : Bool) (h_7 : D75) (k_8 : (List UInt8)) (b_9 : (List UInt8)) (x_10 : (List UInt8)) : Option law17_SealedJoins_R :=
 bif t_47 then
 some ((false, ()), (()))
 else
 Option.bind (header_Build N (h_7.1, h_7.2.1, (46 : Int), h_7.2.2.2.1, h_7.2.2.2.2.1, h_7.2.2.2.2.2.1, ()) (x_10.length : Int)) fun y9 =>
 bif (!(decide (y9.1.1 = (0 : Int)))) then
 law17_SealedJoins_2 N x_10 true k_8 b_9
 else
 bif decide (0 ≤ (0 : Int)) && decide ((0 : Int) ≤ (28 : Int)) && decide ((28 : Int) ≤ (x_10.length : Int)) && true then
 Option.bind (ref01_Equal N (cut x_10 0 28) y9.2.1) fun y27 =>
 bif (!y27.1.1) then
 law17_SealedJoins_2 N x_10 true k_8 b_9
 else
 bif inR (28 : Int) x_10.length then
 bif (!(decide (((x_10.getD 28 (0 : UInt8)).toNat : Int) = (first_1.toNat : Int)))) then
 law17_SealedJoins_2 N x_10 true k_8 b_9
 else
 bif inR (29 : Int) x_10.length then
 law17_SealedJoins_2 N x_10 (!(decide ((x_10.getD 29 (0 : UInt8)) = (0 : UInt8)))) k_8 b_9
 else none
 else none
 else none
def law17_SealedJoins (N : Nat) (codes_0 : (List UInt8)) (first_1 : UInt8) (iv_2 : UInt64) : Option law17_SealedJoins_R :=
 Option.bind (law17_awake N) fun y1 =>
 bif (!y1.1.1) then
 some ((false, ()), (()))
 else
 Option.bind (make_New N codes_0 (240 : Int)) fun y3 =>
 Option.bind (law17_draw N y3.2.1) fun y4 =>
 Option.bind (sealed_Seal N y4.1.1 (first_1.toNat : Int) y4.2.2.2.1 y4.2.2.1 iv_2) fun y6 =>
 bif (!(decide (y6.1.1 = (0 : Int)))) then
 law17_SealedJoins_1 N first_1 true y4.1.1 y4.2.2.1 y4.2.2.2.1 y6.2.1
 else
 law17_SealedJoins_1 N first_1 (!(decide ((y6.2.1.length : Int) = (w64 ((57 : Int) + (y4.2.2.2.1.length : Int)))))) y4.1.1 y4.2.2.1 y4.2.2.2.1 y6.2.1
def law17_SealedJoins_C (N : Nat) : Ctx := ⟨124, G_tys, [(53, law17_awake_ctr N), (16, make_New_ctr N), (54, law17_draw_ctr N), (55, sealed_Seal_ctr N), (56, header_Build_ctr N), (57, aead_Seal_ctr N), (58, ref01_Number_ctr N), (21, ref01_Equal_ctr N)], G_globs, G_ifs⟩
def law17_SealedJoins_S0 : Spec := ⟨[.row 0, .row 1, .val (.sl .u8), .val .bool], [(.row 5 .u8, .pos 0), (.row 5 .u8, .pos 1)]⟩
def law17_SealedJoins_S1 : Spec := ⟨[.val .u8, .ref 0 T75, .row 1, .row 2, .row 3, .val .bool], [(.box 76 T75, .pos 1), (.row 5 .u8, .pos 2), (.row 5 .u8, .pos 3), (.row 5 .u8, .pos 4)]⟩
def law17_SealedJoins_S2 : Spec := ⟨[.val (.sl .u8), .val .u8, .val .u64], []⟩
def law17_SealedJoins_S3 : Spec := ⟨[.val .bool], []⟩
def law17_SealedJoins_K (_N : Nat) : XE → GS → Option law17_SealedJoins_R := retK 0 [6] [false] law17_SealedJoins_S3
def law17_SealedJoins_L : List Code := (bodyOf (some Tryd.f9))
theorem law17_SealedJoins_2_b {E : Env} (N : Nat) (hb : Base Tryd.prog (law17_SealedJoins_C N) E 0) : Blk Tryd.prog (law17_SealedJoins_C N) E [8, 9, 10, 80] law17_SealedJoins_S0 (law17_SealedJoins_L.drop 11) (fun y => law17_SealedJoins_2 N y.1.1 y.1.2.1 y.2.1 y.2.2.1) (law17_SealedJoins_K N) :=
 Blk.chunkAt hb 6 (X := (law17_SealedJoins_K N .normal)) (NxOk.end (by kernel_rfl)) rfl (fun x => by kernel_rfl)
theorem law17_SealedJoins_1_b {E : Env} (N : Nat) (hb : Base Tryd.prog (law17_SealedJoins_C N) E 0) : Blk Tryd.prog (law17_SealedJoins_C N) E [1, 7, 8, 9, 10, 47] law17_SealedJoins_S1 (law17_SealedJoins_L.drop 6) (fun y => law17_SealedJoins_1 N y.1.1 y.1.2.1 y.2.1 y.2.2.1 y.2.2.2.1 y.2.2.2.2.1) (law17_SealedJoins_K N) :=
 Blk.chunkAt hb 5 (X := (goK 0 [8, 9, 10, 80] law17_SealedJoins_S0 (fun y => law17_SealedJoins_2 N y.1.1 y.1.2.1 y.2.1 y.2.2.1))) (NxOk.go hb (law17_SealedJoins_2_b N hb)) rfl (fun x => by kernel_rfl)
theorem law17_SealedJoins_b {E : Env} (N : Nat) (hb : Base Tryd.prog (law17_SealedJoins_C N) E 0) : Blk Tryd.prog (law17_SealedJoins_C N) E (List.range law17_SealedJoins_S2.ks.length) law17_SealedJoins_S2 (law17_SealedJoins_L.drop 0) (fun y => law17_SealedJoins N y.1.1 y.1.2.1 y.1.2.2.1) (law17_SealedJoins_K N) :=
 Blk.chunkAt hb 6 (X := (goK 0 [1, 7, 8, 9, 10, 47] law17_SealedJoins_S1 (fun y => law17_SealedJoins_1 N y.1.1 y.1.2.1 y.2.1 y.2.2.1 y.2.2.2.1 y.2.2.2.2.1))) (NxOk.go hb (law17_SealedJoins_1_b N hb)) rfl (fun x => by kernel_rfl)
def law17_SealedJoins_ctr (N : Nat) : Ctr := ⟨law17_SealedJoins_S2, law17_SealedJoins_S3.un [false], 0, (fun y => law17_SealedJoins N y.1.1 y.1.2.1 y.1.2.2.1)⟩
theorem law17_SealedJoins_ctrs (N : Nat) : CtrsOk Tryd.prog (law17_SealedJoins_C N) := ctrs_of (Γ := law17_SealedJoins_C N) G_ifs_ok (by
 intro p hp
 simp only [law17_SealedJoins_C, List.mem_cons, List.not_mem_nil, or_false] at hp
 rcases hp with rfl | rfl | rfl | rfl | rfl | rfl | rfl | rfl
 · exact law17_awake_ok N
 · exact make_New_ok N
 · exact law17_draw_ok N
 · exact sealed_Seal_ok N
 · exact header_Build_ok N
 · exact aead_Seal_ok N
 · exact ref01_Number_ok N
 · exact ref01_Equal_ok N)
theorem law17_SealedJoins_ok (N : Nat) : Ctr.ok Tryd.prog G_globs 9 (law17_SealedJoins_ctr N) :=
 ctr_fn (Γ := law17_SealedJoins_C N) (rfit := law17_SealedJoins_S3) (bs := [false]) (res := [6]) (by kernel_rfl) (tys_ok G_tys_ok) (law17_SealedJoins_ctrs N) Tryd.func9 (by kernel_rfl) (by kernel_rfl) Tryd.ntmps9 (by kernel_rfl) (by kernel_rfl) (by kernel_rfl) (by kernel_rfl) (fun E hb => law17_SealedJoins_b N hb)
/-! ipsecgate/ipsecgateref10.word -/
abbrev ref10_word_R : Type := ((UInt32 × Unit) × (Unit))
def ref10_word (N : Nat) (b_0 : (List UInt8)) (i_1 : Int) : Option ref10_word_R :=
 let x1 := w64 ((4 : Int) * i_1)
 bif inR x1 b_0.length then
 let x4 := w64 ((w64 ((4 : Int) * i_1)) + (1 : Int))
 bif inR x4 b_0.length then
 let x9 := w64 ((w64 ((4 : Int) * i_1)) + (2 : Int))
 bif inR x9 b_0.length then
 let x14 := w64 ((w64 ((4 : Int) * i_1)) + (3 : Int))
 bif inR x14 b_0.length then
 some ((((((b_0.getD x1.toNat (0 : UInt8)).toUInt32 ||| (shl32 (b_0.getD x4.toNat (0 : UInt8)).toUInt32 8)) ||| (shl32 (b_0.getD x9.toNat (0 : UInt8)).toUInt32 16)) ||| (shl32 (b_0.getD x14.toNat (0 : UInt8)).toUInt32 24)), ()), (()))
 else none
 else none
 else none
 else none
def ref10_word_C (N : Nat) : Ctx := ⟨38, G_tys, [], G_globs, G_ifs⟩
def ref10_word_S0 : Spec := ⟨[.val (.sl .u8), .val .i64], []⟩
def ref10_word_S1 : Spec := ⟨[.val .u32], []⟩
def ref10_word_K (_N : Nat) : XE → GS → Option ref10_word_R := retK 0 [4] [false] ref10_word_S1
def ref10_word_L : List Code := (bodyOf (some Tryd.f217))
theorem ref10_word_b {E : Env} (N : Nat) (hb : Base Tryd.prog (ref10_word_C N) E 0) : Blk Tryd.prog (ref10_word_C N) E (List.range ref10_word_S0.ks.length) ref10_word_S0 (ref10_word_L.drop 0) (fun y => ref10_word N y.1.1 y.1.2.1) (ref10_word_K N) :=
 Blk.chunkAt hb 3 (X := (ref10_word_K N .normal)) (NxOk.end (by kernel_rfl)) rfl (fun x => by kernel_rfl)
def ref10_word_ctr (N : Nat) : Ctr := ⟨ref10_word_S0, ref10_word_S1.un [false], 0, (fun y => ref10_word N y.1.1 y.1.2.1)⟩
theorem ref10_word_ctrs (N : Nat) : CtrsOk Tryd.prog (ref10_word_C N) := ctrs_nil G_ifs_ok rfl
theorem ref10_word_ok (N : Nat) : Ctr.ok Tryd.prog G_globs 217 (ref10_word_ctr N) :=
 ctr_fn (Γ := ref10_word_C N) (rfit := ref10_word_S1) (bs := [false]) (res := [4]) (by kernel_rfl) (tys_ok G_tys_ok) (ref10_word_ctrs N) Tryd.func217 (by kernel_rfl) (by kernel_rfl) Tryd.ntmps217 (by kernel_rfl) (by kernel_rfl) (by kernel_rfl) (by kernel_rfl) (fun E hb => ref10_word_b N hb)
/-! ipsecgate/ipsecgateref10.turn -/
abbrev ref10_turn_R : Type := ((UInt32 × Unit) × (Unit))
def ref10_turn (N : Nat) (x_0 : UInt32) (n_1 : UInt64) : Option ref10_turn_R :=
 some ((((shl32 x_0 n_1.toNat) ||| (shr32 x_0 ((32 : UInt64) - n_1).toNat)), ()), (()))
def ref10_turn_C (N : Nat) : Ctx := ⟨13, G_tys, [], G_globs, G_ifs⟩
def ref10_turn_S0 : Spec := ⟨[.val .u32, .val .u64], []⟩
def ref10_turn_S1 : Spec := ⟨[.val .u32], []⟩
def ref10_turn_K (_N : Nat) : XE → GS → Option ref10_turn_R := retK 0 [4] [false] ref10_turn_S1
def ref10_turn_L : List Code := (bodyOf (some Tryd.f229))
theorem ref10_turn_b {E : Env} (N : Nat) (hb : Base Tryd.prog (ref10_turn_C N) E 0) : Blk Tryd.prog (ref10_turn_C N) E (List.range ref10_turn_S0.ks.length) ref10_turn_S0 (ref10_turn_L.drop 0) (fun y => ref10_turn N y.1.1 y.1.2.1) (ref10_turn_K N) :=
 Blk.chunkAt hb 3 (X := (ref10_turn_K N .normal)) (NxOk.end (by kernel_rfl)) rfl (fun x => by kernel_rfl)
def ref10_turn_ctr (N : Nat) : Ctr := ⟨ref10_turn_S0, ref10_turn_S1.un [false], 0, (fun y => ref10_turn N y.1.1 y.1.2.1)⟩
theorem ref10_turn_ctrs (N : Nat) : CtrsOk Tryd.prog (ref10_turn_C N) := ctrs_nil G_ifs_ok rfl
theorem ref10_turn_ok (N : Nat) : Ctr.ok Tryd.prog G_globs 229 (ref10_turn_ctr N) :=
 ctr_fn (Γ := ref10_turn_C N) (rfit := ref10_turn_S1) (bs := [false]) (res := [4]) (by kernel_rfl) (tys_ok G_tys_ok) (ref10_turn_ctrs N) Tryd.func229 (by kernel_rfl) (by kernel_rfl) Tryd.ntmps229 (by kernel_rfl) (by kernel_rfl) (by kernel_rfl) (by kernel_rfl) (fun E hb => ref10_turn_b N hb)
/-! ipsecgate/ipsecgateref10.Quarter -/
abbrev ref10_Quarter_R : Type := ((UInt32 × UInt32 × UInt32 × UInt32 × Unit) × (Unit))
def ref10_Quarter (N : Nat) (a_0 : UInt32) (b_1 : UInt32) (c_2 : UInt32) (d_3 : UInt32) : Option ref10_Quarter_R :=
 Option.bind (ref10_turn N (d_3 ^^^ (a_0 + b_1)) (16 : UInt64)) fun y3 =>
 Option.bind (ref10_turn N (b_1 ^^^ (c_2 + y3.1.1)) (12 : UInt64)) fun y6 =>
 Option.bind (ref10_turn N (y3.1.1 ^^^ ((a_0 + b_1) + y6.1.1)) (8 : UInt64)) fun y9 =>
 Option.bind (ref10_turn N (y6.1.1 ^^^ ((c_2 + y3.1.1) + y9.1.1)) (7 : UInt64)) fun y12 =>
 some ((((a_0 + b_1) + y6.1.1), y12.1.1, ((c_2 + y3.1.1) + y9.1.1), y9.1.1, ()), (()))
def ref10_Quarter_C (N : Nat) : Ctx := ⟨44, G_tys, [(229, ref10_turn_ctr N)], G_globs, G_ifs⟩
def ref10_Quarter_S0 : Spec := ⟨[.val .u32, .val .u32, .val .u32, .val .u32], []⟩
def ref10_Quarter_K (_N : Nat) : XE → GS → Option ref10_Quarter_R := retK 0 [8, 9, 10, 11] [false, false, false, false] ref10_Quarter_S0
def ref10_Quarter_L : List Code := (bodyOf (some Tryd.f228))
theorem ref10_Quarter_b {E : Env} (N : Nat) (hb : Base Tryd.prog (ref10_Quarter_C N) E 0) : Blk Tryd.prog (ref10_Quarter_C N) E (List.range ref10_Quarter_S0.ks.length) ref10_Quarter_S0 (ref10_Quarter_L.drop 0) (fun y => ref10_Quarter N y.1.1 y.1.2.1 y.1.2.2.1 y.1.2.2.2.1) (ref10_Quarter_K N) :=
 Blk.chunkAt hb 11 (X := (ref10_Quarter_K N .normal)) (NxOk.end (by kernel_rfl)) rfl (fun x => by kernel_rfl)
def ref10_Quarter_ctr (N : Nat) : Ctr := ⟨ref10_Quarter_S0, ref10_Quarter_S0.un [false, false, false, false], 0, (fun y => ref10_Quarter N y.1.1 y.1.2.1 y.1.2.2.1 y.1.2.2.2.1)⟩
theorem ref10_Quarter_ctrs (N : Nat) : CtrsOk Tryd.prog (ref10_Quarter_C N) := ctrs_of (Γ := ref10_Quarter_C N) G_ifs_ok (by
 intro p hp
 simp only [ref10_Quarter_C, List.mem_cons, List.not_mem_nil, or_false] at hp
 rcases hp with rfl
 · exact ref10_turn_ok N)
theorem ref10_Quarter_ok (N : Nat) : Ctr.ok Tryd.prog G_globs 228 (ref10_Quarter_ctr N) :=
 ctr_fn (Γ := ref10_Quarter_C N) (rfit := ref10_Quarter_S0) (bs := [false, false, false, false]) (res := [8, 9, 10, 11]) (by kernel_rfl) (tys_ok G_tys_ok) (ref10_Quarter_ctrs N) Tryd.func228 (by kernel_rfl) (by kernel_rfl) Tryd.ntmps228 (by kernel_rfl) (by kernel_rfl) (by kernel_rfl) (by kernel_rfl) (fun E hb => ref10_Quarter_b N hb)
/-! ipsecgate/ipsecgateref10.mix -/
abbrev ref10_mix_R : Type := (((List UInt32) × Unit) × (Unit))
def ref10_mix (N : Nat) (s_0 : (List UInt32)) (i_1 : Int) (j_2 : Int) (k_3 : Int) (l_4 : Int) : Option ref10_mix_R :=
 bif inR i_1 16 then
 bif inR j_2 16 then
 bif inR k_3 16 then
 bif inR l_4 16 then
 Option.bind (ref10_Quarter N (s_0.getD i_1.toNat (0 : UInt32)) (s_0.getD j_2.toNat (0 : UInt32)) (s_0.getD k_3.toNat (0 : UInt32)) (s_0.getD l_4.toNat (0 : UInt32))) fun y5 =>
 bif inR i_1 16 then
 bif inR j_2 16 then
 bif inR k_3 16 then
 bif inR l_4 16 then
 some ((((((s_0.set i_1.toNat y5.1.1).set j_2.toNat y5.1.2.1).set k_3.toNat y5.1.2.2.1).set l_4.toNat y5.1.2.2.2.1), ()), (()))
 else none
 else none
 else none
 else none
 else none
 else none
 else none
 else none
def ref10_mix_C (N : Nat) : Ctx := ⟨46, G_tys, [(228, ref10_Quarter_ctr N)], G_globs, G_ifs⟩
def ref10_mix_S0 : Spec := ⟨[.val (.arr 16 .u32), .val .i64, .val .i64, .val .i64, .val .i64], []⟩
def ref10_mix_S1 : Spec := ⟨[.fp (.arr 16 .u32)], []⟩
def ref10_mix_K (_N : Nat) : XE → GS → Option ref10_mix_R := retK 0 [10] [true] ref10_mix_S1
def ref10_mix_L : List Code := (bodyOf (some Tryd.f218))
theorem ref10_mix_b {E : Env} (N : Nat) (hb : Base Tryd.prog (ref10_mix_C N) E 0) : Blk Tryd.prog (ref10_mix_C N) E (List.range ref10_mix_S0.ks.length) ref10_mix_S0 (ref10_mix_L.drop 0) (fun y => ref10_mix N y.1.1 y.1.2.1 y.1.2.2.1 y.1.2.2.2.1 y.1.2.2.2.2.1) (ref10_mix_K N) :=
 Blk.chunkAt hb 8 (X := (ref10_mix_K N .normal)) (NxOk.end (by kernel_rfl)) rfl (fun x => by kernel_rfl)
def ref10_mix_ctr (N : Nat) : Ctr := ⟨ref10_mix_S0, ref10_mix_S1.un [true], 0, (fun y => ref10_mix N y.1.1 y.1.2.1 y.1.2.2.1 y.1.2.2.2.1 y.1.2.2.2.2.1)⟩
theorem ref10_mix_ctrs (N : Nat) : CtrsOk Tryd.prog (ref10_mix_C N) := ctrs_of (Γ := ref10_mix_C N) G_ifs_ok (by
 intro p hp
 simp only [ref10_mix_C, List.mem_cons, List.not_mem_nil, or_false] at hp
 rcases hp with rfl
 · exact ref10_Quarter_ok N)
theorem ref10_mix_ok (N : Nat) : Ctr.ok Tryd.prog G_globs 218 (ref10_mix_ctr N) :=
 ctr_fn (Γ := ref10_mix_C N) (rfit := ref10_mix_S1) (bs := [true]) (res := [10]) (by kernel_rfl) (tys_ok G_tys_ok) (ref10_mix_ctrs N) Tryd.func218 (by kernel_rfl) (by kernel_rfl) Tryd.ntmps218 (by kernel_rfl) (by kernel_rfl) (by kernel_rfl) (by kernel_rfl) (fun E hb => ref10_mix_b N hb)
/-! ipsecgate/ipsecgateref10.Block -/
abbrev ref10_Block_R : Type := ((Bool × Unit) × ((List UInt8) × Unit))
def ref10_Block_s3 (N : Nat) (key_0 : (List UInt8)) (counter_1 : UInt32) (nonce_2 : (List UInt8)) (i_9 : Int) (first_8 : (List UInt32)) : Option (Lo (((List UInt8) × UInt32 × (List UInt8) × Int × Unit) × ((List UInt32) × Unit)) ((UInt32 × (List UInt8) × Unit) × ((List UInt32) × Unit)) ref10_Block_R) :=
 bif (decide (i_9 < (8 : Int))) then
 let x5 := w64 ((4 : Int) + i_9)
 Option.bind (ref10_word N key_0 i_9) fun y6 =>
 bif inR x5 16 then
 some (.go ((key_0, counter_1, nonce_2, (w64 (i_9 + (1 : Int))), ()), ((first_8.set x5.toNat y6.1.1), ())))
 else none
 else
 some (.br ((counter_1, nonce_2, ()), (first_8, ())))
def ref10_Block_s6 (N : Nat) (nonce_2 : (List UInt8)) (i_10 : Int) (first_8 : (List UInt32)) : Option (Lo (((List UInt8) × Int × Unit) × ((List UInt32) × Unit)) ((Unit) × ((List UInt32) × Unit)) ref10_Block_R) :=
 bif (decide (i_10 < (3 : Int))) then
 let x11 := w64 ((13 : Int) + i_10)
 Option.bind (ref10_word N nonce_2 i_10) fun y12 =>
 bif inR x11 16 then
 some (.go ((nonce_2, (w64 (i_10 + (1 : Int))), ()), ((first_8.set x11.toNat y12.1.1), ())))
 else none
 else
 some (.br ((()), (first_8, ())))
def ref10_Block_s14 (N : Nat) (round_12 : Int) (i_13 : Int) (first_8 : (List UInt32)) (s_11 : (List UInt32)) : Option (Lo ((Int × Int × Unit) × ((List UInt32) × (List UInt32) × Unit)) ((Int × Unit) × ((List UInt32) × (List UInt32) × Unit)) (Lo ((Int × Unit) × ((List UInt32) × (List UInt32) × Unit)) ((Unit) × ((List UInt32) × (List UInt32) × Unit)) ref10_Block_R)) :=
 bif (decide (i_13 < (4 : Int))) then
 Option.bind (ref10_mix N s_11 i_13 (w64 ((4 : Int) + i_13)) (w64 ((8 : Int) + i_13)) (w64 ((12 : Int) + i_13))) fun y20 =>
 some (.go ((round_12, (w64 (i_13 + (1 : Int))), ()), (first_8, y20.1.1, ())))
 else
 some (.br ((round_12, ()), (first_8, s_11, ())))
def ref10_Block_s17 (N : Nat) (round_12 : Int) (i_14 : Int) (first_8 : (List UInt32)) (s_11 : (List UInt32)) : Option (Lo ((Int × Int × Unit) × ((List UInt32) × (List UInt32) × Unit)) ((Int × Unit) × ((List UInt32) × (List UInt32) × Unit)) (Lo ((Int × Unit) × ((List UInt32) × (List UInt32) × Unit)) ((Unit) × ((List UInt32) × (List UInt32) × Unit)) ref10_Block_R)) :=
 bif (decide (i_14 < (4 : Int))) then
 Option.bind (ref10_mix N s_11 i_14 (w64 ((4 : Int) + ((w64 (i_14 + (1 : Int))).tmod (4 : Int)))) (w64 ((8 : Int) + ((w64 (i_14 + (2 : Int))).tmod (4 : Int)))) (w64 ((12 : Int) + ((w64 (i_14 + (3 : Int))).tmod (4 : Int))))) fun y32 =>
 some (.go ((round_12, (w64 (i_14 + (1 : Int))), ()), (first_8, y32.1.1, ())))
 else
 some (.br ((round_12, ()), (first_8, s_11, ())))
def ref10_Block_18 (N : Nat) (round_12 : Int) (first_8 : (List UInt32)) (s_11 : (List UInt32)) : Option (Lo ((Int × Unit) × ((List UInt32) × (List UInt32) × Unit)) ((Unit) × ((List UInt32) × (List UInt32) × Unit)) ref10_Block_R) :=
 some (.go (((w64 (round_12 + (1 : Int))), ()), (first_8, s_11, ())))
def ref10_Block_16 (N : Nat) (round_12 : Int) (i_14 : Int) (first_8 : (List UInt32)) (s_11 : (List UInt32)) : Option (Lo ((Int × Unit) × ((List UInt32) × (List UInt32) × Unit)) ((Unit) × ((List UInt32) × (List UInt32) × Unit)) ref10_Block_R) :=
 loopK N (fun y => ref10_Block_s17 N y.1.1 y.1.2.1 y.2.1 y.2.2.1) (fun (e : ((Int × Unit) × ((List UInt32) × (List UInt32) × Unit))) => ref10_Block_18 N e.1.1 e.2.1 e.2.2.1) ((round_12, i_14, ()), (first_8, s_11, ()))
def ref10_Block_15 (N : Nat) (round_12 : Int) (first_8 : (List UInt32)) (s_11 : (List UInt32)) : Option (Lo ((Int × Unit) × ((List UInt32) × (List UInt32) × Unit)) ((Unit) × ((List UInt32) × (List UInt32) × Unit)) ref10_Block_R) :=
 ref10_Block_16 N round_12 (0 : Int) first_8 s_11
def ref10_Block_13 (N : Nat) (round_12 : Int) (i_13 : Int) (first_8 : (List UInt32)) (s_11 : (List UInt32)) : Option (Lo ((Int × Unit) × ((List UInt32) × (List UInt32) × Unit)) ((Unit) × ((List UInt32) × (List UInt32) × Unit)) ref10_Block_R) :=
 loopK N (fun y => ref10_Block_s14 N y.1.1 y.1.2.1 y.2.1 y.2.2.1) (fun (e : ((Int × Unit) × ((List UInt32) × (List UInt32) × Unit))) => ref10_Block_15 N e.1.1 e.2.1 e.2.2.1) ((round_12, i_13, ()), (first_8, s_11, ()))
def ref10_Block_12 (N : Nat) (round_12 : Int) (first_8 : (List UInt32)) (s_11 : (List UInt32)) : Option (Lo ((Int × Unit) × ((List UInt32) × (List UInt32) × Unit)) ((Unit) × ((List UInt32) × (List UInt32) × Unit)) ref10_Block_R) :=
 ref10_Block_13 N round_12 (0 : Int) first_8 s_11
def ref10_Block_10 (N : Nat) (round_12 : Int) (first_8 : (List UInt32)) (s_11 : (List UInt32)) : Option (Lo ((Int × Unit) × ((List UInt32) × (List UInt32) × Unit)) ((Unit) × ((List UInt32) × (List UInt32) × Unit)) ref10_Block_R) :=
 ref10_Block_12 N round_12 first_8 s_11
def ref10_Block_s9 (N : Nat) (round_12 : Int) (first_8 : (List UInt32)) (s_11 : (List UInt32)) : Option (Lo ((Int × Unit) × ((List UInt32) × (List UInt32) × Unit)) ((Unit) × ((List UInt32) × (List UInt32) × Unit)) ref10_Block_R) :=
 bif (decide (round_12 < (10 : Int))) then
 ref10_Block_10 N round_12 first_8 s_11
 else
 some (.br ((()), (first_8, s_11, ())))
def ref10_Block_s21 (N : Nat) (i_16 : Int) (first_8 : (List UInt32)) (s_11 : (List UInt32)) (out_15 : (List UInt8)) : Option (Lo ((Int × Unit) × ((List UInt32) × (List UInt32) × (List UInt8) × Unit)) ((Unit) × ((List UInt8) × Unit)) ref10_Block_R) :=
 bif (decide (i_16 < (16 : Int))) then
 bif inR i_16 16 then
 let x36 := (s_11.getD i_16.toNat (0 : UInt32))
 bif inR i_16 16 then
 let x37 := (first_8.getD i_16.toNat (0 : UInt32))
 bif room (out_15.length + ([(x36 + x37).toUInt8, (shr32 (x36 + x37) 8).toUInt8, (shr32 (x36 + x37) 16).toUInt8, (shr32 (x36 + x37) 24).toUInt8] : List UInt8).length) 1 then
 some (.go (((w64 (i_16 + (1 : Int))), ()), (first_8, s_11, (out_15 ++ ([(x36 + x37).toUInt8, (shr32 (x36 + x37) 8).toUInt8, (shr32 (x36 + x37) 16).toUInt8, (shr32 (x36 + x37) 24).toUInt8] : List UInt8)), ())))
 else none
 else none
 else none
 else
 some (.br ((()), (out_15, ())))
def ref10_Block_22 (N : Nat) (out_15 : (List UInt8)) : Option ref10_Block_R :=
 some ((true, ()), (out_15, ()))
def ref10_Block_20 (N : Nat) (i_16 : Int) (first_8 : (List UInt32)) (s_11 : (List UInt32)) (out_15 : (List UInt8)) : Option ref10_Block_R :=
 loopK N (fun y => ref10_Block_s21 N y.1.1 y.2.1 y.2.2.1 y.2.2.2.1) (fun (e : ((Unit) × ((List UInt8) × Unit))) => ref10_Block_22 N e.2.1) ((i_16, ()), (first_8, s_11, out_15, ()))
def ref10_Block_19 (N : Nat) (first_8 : (List UInt32)) (s_11 : (List UInt32)) : Option ref10_Block_R :=
 ref10_Block_20 N (0 : Int) first_8 s_11 ([] : List UInt8)
def ref10_Block_8 (N : Nat) (round_12 : Int) (first_8 : (List UInt32)) (s_11 : (List UInt32)) : Option ref10_Block_R :=
 loopK N (fun y => ref10_Block_s9 N y.1.1 y.2.1 y.2.2.1) (fun (e : ((Unit) × ((List UInt32) × (List UInt32) × Unit))) => ref10_Block_19 N e.2.1 e.2.2.1) ((round_12, ()), (first_8, s_11, ()))
def ref10_Block_7 (N : Nat) (first_8 : (List UInt32)) : Option ref10_Block_R :=
 ref10_Block_8 N (0 : Int) first_8 first_8
def ref10_Block_5 (N : Nat) (nonce_2 : (List UInt8)) (i_10 : Int) (first_8 : (List UInt32)) : Option ref10_Block_R :=
 loopK N (fun y => ref10_Block_s6 N y.1.1 y.1.2.1 y.2.1) (fun (e : ((Unit) × ((List UInt32) × Unit))) => ref10_Block_7 N e.2.1) ((nonce_2, i_10, ()), (first_8, ()))
def ref10_Block_4 (N : Nat) (counter_1 : UInt32) (nonce_2 : (List UInt8)) (first_8 : (List UInt32)) : Option ref10_Block_R :=
 ref10_Block_5 N nonce_2 (0 : Int) (first_8.set 12 counter_1)
def ref10_Block_2 (N : Nat) (key_0 : (List UInt8)) (counter_1 : UInt32) (nonce_2 : (List UInt8)) (i_9 : Int) (first_8 : (List UInt32)) : Option ref10_Block_R :=
 loopK N (fun y => ref10_Block_s3 N y.1.1 y.1.2.1 y.1.2.2.1 y.1.2.2.2.1 y.2.1) (fun (e : ((UInt32 × (List UInt8) × Unit) × ((List UInt32) × Unit))) => ref10_Block_4 N e.1.1 e.1.2.1 e.2.1) ((key_0, counter_1, nonce_2, i_9, ()), (first_8, ()))
def ref10_Block_1 (N : Nat) (key_0 : (List UInt8)) (counter_1 : UInt32) (nonce_2 : (List UInt8)) (t_25 : Bool) : Option ref10_Block_R :=
 bif t_25 then
 some ((false, ()), (([] : List UInt8), ()))
 else
 ref10_Block_2 N key_0 counter_1 nonce_2 (0 : Int) (((((List.replicate 16 (0 : UInt32)).set 0 (1634760805 : UInt32)).set 1 (857760878 : UInt32)).set 2 (2036477234 : UInt32)).set 3 (1797285236 : UInt32))
def ref10_Block (N : Nat) (key_0 : (List UInt8)) (counter_1 : UInt32) (nonce_2 : (List UInt8)) : Option ref10_Block_R :=
 bif (!(decide ((key_0.length : Int) = (32 : Int)))) then
 ref10_Block_1 N key_0 counter_1 nonce_2 true
 else
 ref10_Block_1 N key_0 counter_1 nonce_2 (!(decide ((nonce_2.length : Int) = (12 : Int))))
def ref10_Block_C (N : Nat) : Ctx := ⟨112, G_tys, [(217, ref10_word_ctr N), (218, ref10_mix_ctr N)], G_globs, G_ifs⟩
def ref10_Block_S0 : Spec := ⟨[.val (.sl .u8), .val .u32, .val (.sl .u8), .ref 0 (.arr 16 .u32), .val .i64], [(.box 184 (.arr 16 .u32), .pos 3)]⟩
def ref10_Block_S1 : Spec := ⟨[.val (.sl .u8), .ref 0 (.arr 16 .u32), .val .i64], [(.box 184 (.arr 16 .u32), .pos 1)]⟩
def ref10_Block_S2 : Spec := ⟨[.ref 0 (.arr 16 .u32), .ref 1 (.arr 16 .u32), .val .i64, .val .i64], [(.box 184 (.arr 16 .u32), .pos 0), (.box 184 (.arr 16 .u32), .pos 1)]⟩
def ref10_Block_S3 : Spec := ⟨[.ref 0 (.arr 16 .u32), .ref 1 (.arr 16 .u32), .val .i64], [(.box 184 (.arr 16 .u32), .pos 0), (.box 184 (.arr 16 .u32), .pos 1)]⟩
def ref10_Block_S4 : Spec := ⟨[.ref 0 (.arr 16 .u32), .ref 1 (.arr 16 .u32), .row 2, .val .i64], [(.box 184 (.arr 16 .u32), .pos 0), (.box 184 (.arr 16 .u32), .pos 1), (.row 5 .u8, .pos 2)]⟩
def ref10_Block_S5 : Spec := ⟨[.row 0], [(.row 5 .u8, .pos 0)]⟩
def ref10_Block_S6 : Spec := ⟨[.ref 0 (.arr 16 .u32), .ref 1 (.arr 16 .u32)], [(.box 184 (.arr 16 .u32), .pos 0), (.box 184 (.arr 16 .u32), .pos 1)]⟩
def ref10_Block_S7 : Spec := ⟨[.ref 0 (.arr 16 .u32)], [(.box 184 (.arr 16 .u32), .pos 0)]⟩
def ref10_Block_S8 : Spec := ⟨[.val .u32, .val (.sl .u8), .ref 0 (.arr 16 .u32)], [(.box 184 (.arr 16 .u32), .pos 2)]⟩
def ref10_Block_S9 : Spec := ⟨[.val (.sl .u8), .val .u32, .val (.sl .u8), .val .bool], []⟩
def ref10_Block_S10 : Spec := ⟨[.val (.sl .u8), .val .u32, .val (.sl .u8)], []⟩
def ref10_Block_S11 : Spec := ⟨[.row 0, .val .bool], [(.row 5 .u8, .pos 0)]⟩
def ref10_Block_K (_N : Nat) : XE → GS → Option ref10_Block_R := retK 0 [6, 7] [false, false] ref10_Block_S11
def ref10_Block_L : List Code := (bodyOf (some Tryd.f194))
def ref10_Block_L3 : List Code := (loopOf (ref10_Block_L[5]?))
def ref10_Block_L6 : List Code := (loopOf (ref10_Block_L[8]?))
def ref10_Block_L9 : List Code := (loopOf (ref10_Block_L[11]?))
def ref10_Block_L11b : List Code := (blockOf (ref10_Block_L9[2]?))
def ref10_Block_L14 : List Code := (loopOf (ref10_Block_L11b[1]?))
def ref10_Block_L17 : List Code := (loopOf (ref10_Block_L11b[3]?))
def ref10_Block_L21 : List Code := (loopOf (ref10_Block_L[14]?))
def ref10_Block_K3 (N : Nat) : XE → GS → Option (Lo (((List UInt8) × UInt32 × (List UInt8) × Int × Unit) × ((List UInt32) × Unit)) ((UInt32 × (List UInt8) × Unit) × ((List UInt32) × Unit)) ref10_Block_R) := roundK (some 0) (fit 0 [0, 1, 2, 8, 9] ref10_Block_S0) (fit 0 [1, 2, 8] ref10_Block_S8) (ref10_Block_K N)
def ref10_Block_K6 (N : Nat) : XE → GS → Option (Lo (((List UInt8) × Int × Unit) × ((List UInt32) × Unit)) ((Unit) × ((List UInt32) × Unit)) ref10_Block_R) := roundK (some 2) (fit 0 [2, 8, 10] ref10_Block_S1) (fit 0 [8] ref10_Block_S7) (ref10_Block_K N)
def ref10_Block_K9 (N : Nat) : XE → GS → Option (Lo ((Int × Unit) × ((List UInt32) × (List UInt32) × Unit)) ((Unit) × ((List UInt32) × (List UInt32) × Unit)) ref10_Block_R) := roundK (some 4) (fit 0 [8, 11, 12] ref10_Block_S3) (fit 0 [8, 11] ref10_Block_S6) (ref10_Block_K N)
def ref10_Block_K21 (N : Nat) : XE → GS → Option (Lo ((Int × Unit) × ((List UInt32) × (List UInt32) × (List UInt8) × Unit)) ((Unit) × ((List UInt8) × Unit)) ref10_Block_R) := roundK (some 10) (fit 0 [8, 11, 15, 16] ref10_Block_S4) (fit 0 [15] ref10_Block_S5) (ref10_Block_K N)
def ref10_Block_K11 (N : Nat) : XE → GS → Option (Lo ((Int × Unit) × ((List UInt32) × (List UInt32) × Unit)) ((Unit) × ((List UInt32) × (List UInt32) × Unit)) ref10_Block_R) := blockK 5 (goK 0 [8, 11, 12] ref10_Block_S3 (fun y => ref10_Block_18 N y.1.1 y.2.1 y.2.2.1)) (ref10_Block_K9 N)
def ref10_Block_K14 (N : Nat) : XE → GS → Option (Lo ((Int × Int × Unit) × ((List UInt32) × (List UInt32) × Unit)) ((Int × Unit) × ((List UInt32) × (List UInt32) × Unit)) (Lo ((Int × Unit) × ((List UInt32) × (List UInt32) × Unit)) ((Unit) × ((List UInt32) × (List UInt32) × Unit)) ref10_Block_R)) := roundK (some 6) (fit 0 [8, 11, 12, 13] ref10_Block_S2) (fit 0 [8, 11, 12] ref10_Block_S3) (ref10_Block_K11 N)
def ref10_Block_K17 (N : Nat) : XE → GS → Option (Lo ((Int × Int × Unit) × ((List UInt32) × (List UInt32) × Unit)) ((Int × Unit) × ((List UInt32) × (List UInt32) × Unit)) (Lo ((Int × Unit) × ((List UInt32) × (List UInt32) × Unit)) ((Unit) × ((List UInt32) × (List UInt32) × Unit)) ref10_Block_R)) := roundK (some 8) (fit 0 [8, 11, 12, 14] ref10_Block_S2) (fit 0 [8, 11, 12] ref10_Block_S3) (ref10_Block_K11 N)
theorem ref10_Block_s3_b {E : Env} (N : Nat) (hb : Base Tryd.prog (ref10_Block_C N) E 0) : Blk Tryd.prog (ref10_Block_C N) E [0, 1, 2, 8, 9] ref10_Block_S0 (ref10_Block_L3.drop 0) (fun y => ref10_Block_s3 N y.1.1 y.1.2.1 y.1.2.2.1 y.1.2.2.2.1 y.2.1) (ref10_Block_K3 N) :=
 Blk.chunkAt hb 4 (X := (ref10_Block_K3 N .normal)) (NxOk.end (by kernel_rfl)) rfl (fun x => by kernel_rfl)
theorem ref10_Block_s6_b {E : Env} (N : Nat) (hb : Base Tryd.prog (ref10_Block_C N) E 0) : Blk Tryd.prog (ref10_Block_C N) E [2, 8, 10] ref10_Block_S1 (ref10_Block_L6.drop 0) (fun y => ref10_Block_s6 N y.1.1 y.1.2.1 y.2.1) (ref10_Block_K6 N) :=
 Blk.chunkAt hb 4 (X := (ref10_Block_K6 N .normal)) (NxOk.end (by kernel_rfl)) rfl (fun x => by kernel_rfl)
theorem ref10_Block_s14_b {E : Env} (N : Nat) (hb : Base Tryd.prog (ref10_Block_C N) E 0) : Blk Tryd.prog (ref10_Block_C N) E [8, 11, 12, 13] ref10_Block_S2 (ref10_Block_L14.drop 0) (fun y => ref10_Block_s14 N y.1.1 y.1.2.1 y.2.1 y.2.2.1) (ref10_Block_K14 N) :=
 Blk.chunkAt hb 4 (X := (ref10_Block_K14 N .normal)) (NxOk.end (by kernel_rfl)) rfl (fun x => by kernel_rfl)
theorem ref10_Block_s17_b {E : Env} (N : Nat) (hb : Base Tryd.prog (ref10_Block_C N) E 0) : Blk Tryd.prog (ref10_Block_C N) E [8, 11, 12, 14] ref10_Block_S2 (ref10_Block_L17.drop 0) (fun y => ref10_Block_s17 N y.1.1 y.1.2.1 y.2.1 y.2.2.1) (ref10_Block_K17 N) :=
 Blk.chunkAt hb 4 (X := (ref10_Block_K17 N .normal)) (NxOk.end (by kernel_rfl)) rfl (fun x => by kernel_rfl)
theorem ref10_Block_18_b {E : Env} (N : Nat) (hb : Base Tryd.prog (ref10_Block_C N) E 0) : Blk Tryd.prog (ref10_Block_C N) E [8, 11, 12] ref10_Block_S3 (ref10_Block_L9.drop 3) (fun y => ref10_Block_18 N y.1.1 y.2.1 y.2.2.1) (ref10_Block_K9 N) :=
 Blk.chunkAt hb 1 (X := (ref10_Block_K9 N .normal)) (NxOk.end (by kernel_rfl)) rfl (fun x => by kernel_rfl)
theorem ref10_Block_16_b {E : Env} (N : Nat) (hb : Base Tryd.prog (ref10_Block_C N) E 0) : Blk Tryd.prog (ref10_Block_C N) E [8, 11, 12, 14] ref10_Block_S2 (ref10_Block_L11b.drop 3) (fun y => ref10_Block_16 N y.1.1 y.1.2.1 y.2.1 y.2.2.1) (ref10_Block_K11 N) :=
 Blk.loopAt (Nf := N) (hns := [8, 11, 12, 14]) (ans := [8, 11, 12]) (hc := ref10_Block_S2) (ac := ref10_Block_S3) (bid := 8) (step := (fun y => ref10_Block_s17 N y.1.1 y.1.2.1 y.2.1 y.2.2.1)) (J := (fun e => (ref10_Block_K11 N .normal) (ref10_Block_S3.st [8, 11, 12] e))) hb (by kernel_rfl) (Blk.into (X := (ref10_Block_K11 N .normal)) (NxOk.end (by kernel_rfl)) (fun x => by kernel_rfl)) (ref10_Block_s17_b N hb) (fun x => by kernel_rfl)
theorem ref10_Block_15_b {E : Env} (N : Nat) (hb : Base Tryd.prog (ref10_Block_C N) E 0) : Blk Tryd.prog (ref10_Block_C N) E [8, 11, 12] ref10_Block_S3 (ref10_Block_L11b.drop 2) (fun y => ref10_Block_15 N y.1.1 y.2.1 y.2.2.1) (ref10_Block_K11 N) :=
 Blk.chunkAt hb 1 (X := (goK 0 [8, 11, 12, 14] ref10_Block_S2 (fun y => ref10_Block_16 N y.1.1 y.1.2.1 y.2.1 y.2.2.1))) (NxOk.go hb (ref10_Block_16_b N hb)) rfl (fun x => by kernel_rfl)
theorem ref10_Block_13_b {E : Env} (N : Nat) (hb : Base Tryd.prog (ref10_Block_C N) E 0) : Blk Tryd.prog (ref10_Block_C N) E [8, 11, 12, 13] ref10_Block_S2 (ref10_Block_L11b.drop 1) (fun y => ref10_Block_13 N y.1.1 y.1.2.1 y.2.1 y.2.2.1) (ref10_Block_K11 N) :=
 Blk.loopAt (Nf := N) (hns := [8, 11, 12, 13]) (ans := [8, 11, 12]) (hc := ref10_Block_S2) (ac := ref10_Block_S3) (bid := 6) (step := (fun y => ref10_Block_s14 N y.1.1 y.1.2.1 y.2.1 y.2.2.1)) (J := (fun e => (goK 0 [8, 11, 12] ref10_Block_S3 (fun y => ref10_Block_15 N y.1.1 y.2.1 y.2.2.1)) (ref10_Block_S3.st [8, 11, 12] e))) hb (by kernel_rfl) (Blk.into (X := (goK 0 [8, 11, 12] ref10_Block_S3 (fun y => ref10_Block_15 N y.1.1 y.2.1 y.2.2.1))) (NxOk.go hb (ref10_Block_15_b N hb)) (fun x => by kernel_rfl)) (ref10_Block_s14_b N hb) (fun x => by kernel_rfl)
theorem ref10_Block_12_b {E : Env} (N : Nat) (hb : Base Tryd.prog (ref10_Block_C N) E 0) : Blk Tryd.prog (ref10_Block_C N) E [8, 11, 12] ref10_Block_S3 (ref10_Block_L11b.drop 0) (fun y => ref10_Block_12 N y.1.1 y.2.1 y.2.2.1) (ref10_Block_K11 N) :=
 Blk.chunkAt hb 1 (X := (goK 0 [8, 11, 12, 13] ref10_Block_S2 (fun y => ref10_Block_13 N y.1.1 y.1.2.1 y.2.1 y.2.2.1))) (NxOk.go hb (ref10_Block_13_b N hb)) rfl (fun x => by kernel_rfl)
theorem ref10_Block_10_b {E : Env} (N : Nat) (hb : Base Tryd.prog (ref10_Block_C N) E 0) : Blk Tryd.prog (ref10_Block_C N) E [8, 11, 12] ref10_Block_S3 (ref10_Block_L9.drop 2) (fun y => ref10_Block_10 N y.1.1 y.2.1 y.2.2.1) (ref10_Block_K9 N) :=
 Blk.blockAt (bid := 5) (X := (goK 0 [8, 11, 12] ref10_Block_S3 (fun y => ref10_Block_18 N y.1.1 y.2.1 y.2.2.1))) (Y := (goK 0 [8, 11, 12] ref10_Block_S3 (fun y => ref10_Block_12 N y.1.1 y.2.1 y.2.2.1))) (by kernel_rfl) (NxOk.go hb (ref10_Block_18_b N hb)) (NxOk.go hb (ref10_Block_12_b N hb)) (fun x => by kernel_rfl)
theorem ref10_Block_s9_b {E : Env} (N : Nat) (hb : Base Tryd.prog (ref10_Block_C N) E 0) : Blk Tryd.prog (ref10_Block_C N) E [8, 11, 12] ref10_Block_S3 (ref10_Block_L9.drop 0) (fun y => ref10_Block_s9 N y.1.1 y.2.1 y.2.2.1) (ref10_Block_K9 N) :=
 Blk.chunkAt hb 2 (X := (goK 0 [8, 11, 12] ref10_Block_S3 (fun y => ref10_Block_10 N y.1.1 y.2.1 y.2.2.1))) (NxOk.go hb (ref10_Block_10_b N hb)) rfl (fun x => by kernel_rfl)
theorem ref10_Block_s21_b {E : Env} (N : Nat) (hb : Base Tryd.prog (ref10_Block_C N) E 0) : Blk Tryd.prog (ref10_Block_C N) E [8, 11, 15, 16] ref10_Block_S4 (ref10_Block_L21.drop 0) (fun y => ref10_Block_s21 N y.1.1 y.2.1 y.2.2.1 y.2.2.2.1) (ref10_Block_K21 N) :=
 Blk.chunkAt hb 4 (X := (ref10_Block_K21 N .normal)) (NxOk.end (by kernel_rfl)) rfl (fun x => by kernel_rfl)
theorem ref10_Block_22_b {E : Env} (N : Nat) (hb : Base Tryd.prog (ref10_Block_C N) E 0) : Blk Tryd.prog (ref10_Block_C N) E [15] ref10_Block_S5 (ref10_Block_L.drop 15) (fun y => ref10_Block_22 N y.2.1) (ref10_Block_K N) :=
 Blk.chunkAt hb 2 (X := (ref10_Block_K N .normal)) (NxOk.end (by kernel_rfl)) rfl (fun x => by kernel_rfl)
theorem ref10_Block_20_b {E : Env} (N : Nat) (hb : Base Tryd.prog (ref10_Block_C N) E 0) : Blk Tryd.prog (ref10_Block_C N) E [8, 11, 15, 16] ref10_Block_S4 (ref10_Block_L.drop 14) (fun y => ref10_Block_20 N y.1.1 y.2.1 y.2.2.1 y.2.2.2.1) (ref10_Block_K N) :=
 Blk.loopAt (Nf := N) (hns := [8, 11, 15, 16]) (ans := [15]) (hc := ref10_Block_S4) (ac := ref10_Block_S5) (bid := 10) (step := (fun y => ref10_Block_s21 N y.1.1 y.2.1 y.2.2.1 y.2.2.2.1)) (J := (fun e => (goK 0 [15] ref10_Block_S5 (fun y => ref10_Block_22 N y.2.1)) (ref10_Block_S5.st [15] e))) hb (by kernel_rfl) (Blk.into (X := (goK 0 [15] ref10_Block_S5 (fun y => ref10_Block_22 N y.2.1))) (NxOk.go hb (ref10_Block_22_b N hb)) (fun x => by kernel_rfl)) (ref10_Block_s21_b N hb) (fun x => by kernel_rfl)
theorem ref10_Block_19_b {E : Env} (N : Nat) (hb : Base Tryd.prog (ref10_Block_C N) E 0) : Blk Tryd.prog (ref10_Block_C N) E [8, 11] ref10_Block_S6 (ref10_Block_L.drop 12) (fun y => ref10_Block_19 N y.2.1 y.2.2.1) (ref10_Block_K N) :=
 Blk.chunkAt hb 2 (X := (goK 0 [8, 11, 15, 16] ref10_Block_S4 (fun y => ref10_Block_20 N y.1.1 y.2.1 y.2.2.1 y.2.2.2.1))) (NxOk.go hb (ref10_Block_20_b N hb)) rfl (fun x => by kernel_rfl)
theorem ref10_Block_8_b {E : Env} (N : Nat) (hb : Base Tryd.prog (ref10_Block_C N) E 0) : Blk Tryd.prog (ref10_Block_C N) E [8, 11, 12] ref10_Block_S3 (ref10_Block_L.drop 11) (fun y => ref10_Block_8 N y.1.1 y.2.1 y.2.2.1) (ref10_Block_K N) :=
 Blk.loopAt (Nf := N) (hns := [8, 11, 12]) (ans := [8, 11]) (hc := ref10_Block_S3) (ac := ref10_Block_S6) (bid := 4) (step := (fun y => ref10_Block_s9 N y.1.1 y.2.1 y.2.2.1)) (J := (fun e => (goK 0 [8, 11] ref10_Block_S6 (fun y => ref10_Block_19 N y.2.1 y.2.2.1)) (ref10_Block_S6.st [8, 11] e))) hb (by kernel_rfl) (Blk.into (X := (goK 0 [8, 11] ref10_Block_S6 (fun y => ref10_Block_19 N y.2.1 y.2.2.1))) (NxOk.go hb (ref10_Block_19_b N hb)) (fun x => by kernel_rfl)) (ref10_Block_s9_b N hb) (fun x => by kernel_rfl)
theorem ref10_Block_7_b {E : Env} (N : Nat) (hb : Base Tryd.prog (ref10_Block_C N) E 0) : Blk Tryd.prog (ref10_Block_C N) E [8] ref10_Block_S7 (ref10_Block_L.drop 9) (fun y => ref10_Block_7 N y.2.1) (ref10_Block_K N) :=
 Blk.chunkAt hb 2 (X := (goK 0 [8, 11, 12] ref10_Block_S3 (fun y => ref10_Block_8 N y.1.1 y.2.1 y.2.2.1))) (NxOk.go hb (ref10_Block_8_b N hb)) rfl (fun x => by kernel_rfl)
theorem ref10_Block_5_b {E : Env} (N : Nat) (hb : Base Tryd.prog (ref10_Block_C N) E 0) : Blk Tryd.prog (ref10_Block_C N) E [2, 8, 10] ref10_Block_S1 (ref10_Block_L.drop 8) (fun y => ref10_Block_5 N y.1.1 y.1.2.1 y.2.1) (ref10_Block_K N) :=
 Blk.loopAt (Nf := N) (hns := [2, 8, 10]) (ans := [8]) (hc := ref10_Block_S1) (ac := ref10_Block_S7) (bid := 2) (step := (fun y => ref10_Block_s6 N y.1.1 y.1.2.1 y.2.1)) (J := (fun e => (goK 0 [8] ref10_Block_S7 (fun y => ref10_Block_7 N y.2.1)) (ref10_Block_S7.st [8] e))) hb (by kernel_rfl) (Blk.into (X := (goK 0 [8] ref10_Block_S7 (fun y => ref10_Block_7 N y.2.1))) (NxOk.go hb (ref10_Block_7_b N hb)) (fun x => by kernel_rfl)) (ref10_Block_s6_b N hb) (fun x => by kernel_rfl)
theorem ref10_Block_4_b {E : Env} (N : Nat) (hb : Base Tryd.prog (ref10_Block_C N) E 0) : Blk Tryd.prog (ref10_Block_C N) E [1, 2, 8] ref10_Block_S8 (ref10_Block_L.drop 6) (fun y => ref10_Block_4 N y.1.1 y.1.2.1 y.2.1) (ref10_Block_K N) :=
 Blk.chunkAt hb 2 (X := (goK 0 [2, 8, 10] ref10_Block_S1 (fun y => ref10_Block_5 N y.1.1 y.1.2.1 y.2.1))) (NxOk.go hb (ref10_Block_5_b N hb)) rfl (fun x => by kernel_rfl)
theorem ref10_Block_2_b {E : Env} (N : Nat) (hb : Base Tryd.prog (ref10_Block_C N) E 0) : Blk Tryd.prog (ref10_Block_C N) E [0, 1, 2, 8, 9] ref10_Block_S0 (ref10_Block_L.drop 5) (fun y => ref10_Block_2 N y.1.1 y.1.2.1 y.1.2.2.1 y.1.2.2.2.1 y.2.1) (ref10_Block_K N) :=
 Blk.loopAt (Nf := N) (hns := [0, 1, 2, 8, 9]) (ans := [1, 2, 8]) (hc := ref10_Block_S0) (ac := ref10_Block_S8) (bid := 0) (step := (fun y => ref10_Block_s3 N y.1.1 y.1.2.1 y.1.2.2.1 y.1.2.2.2.1 y.2.1)) (J := (fun e => (goK 0 [1, 2, 8] ref10_Block_S8 (fun y => ref10_Block_4 N y.1.1 y.1.2.1 y.2.1)) (ref10_Block_S8.st [1, 2, 8] e))) hb (by kernel_rfl) (Blk.into (X := (goK 0 [1, 2, 8] ref10_Block_S8 (fun y => ref10_Block_4 N y.1.1 y.1.2.1 y.2.1))) (NxOk.go hb (ref10_Block_4_b N hb)) (fun x => by kernel_rfl)) (ref10_Block_s3_b N hb) (fun x => by kernel_rfl)
theorem ref10_Block_1_b {E : Env} (N : Nat) (hb : Base Tryd.prog (ref10_Block_C N) E 0) : Blk Tryd.prog (ref10_Block_C N) E [0, 1, 2, 25] ref10_Block_S9 (ref10_Block_L.drop 2) (fun y => ref10_Block_1 N y.1.1 y.1.2.1 y.1.2.2.1 y.1.2.2.2.1) (ref10_Block_K N) :=
 Blk.chunkAt hb 3 (X := (goK 0 [0, 1, 2, 8, 9] ref10_Block_S0 (fun y => ref10_Block_2 N y.1.1 y.1.2.1 y.1.2.2.1 y.1.2.2.2.1 y.2.1))) (NxOk.go hb (ref10_Block_2_b N hb)) rfl (fun x => by kernel_rfl)
theorem ref10_Block_b {E : Env} (N : Nat) (hb : Base Tryd.prog (ref10_Block_C N) E 0) : Blk Tryd.prog (ref10_Block_C N) E (List.range ref10_Block_S10.ks.length) ref10_Block_S10 (ref10_Block_L.drop 0) (fun y => ref10_Block N y.1.1 y.1.2.1 y.1.2.2.1) (ref10_Block_K N) :=
 Blk.chunkAt hb 2 (X := (goK 0 [0, 1, 2, 25] ref10_Block_S9 (fun y => ref10_Block_1 N y.1.1 y.1.2.1 y.1.2.2.1 y.1.2.2.2.1))) (NxOk.go hb (ref10_Block_1_b N hb)) rfl (fun x => by kernel_rfl)
def ref10_Block_ctr (N : Nat) : Ctr := ⟨ref10_Block_S10, ref10_Block_S11.un [false, false], 0, (fun y => ref10_Block N y.1.1 y.1.2.1 y.1.2.2.1)⟩
theorem ref10_Block_ctrs (N : Nat) : CtrsOk Tryd.prog (ref10_Block_C N) := ctrs_of (Γ := ref10_Block_C N) G_ifs_ok (by
 intro p hp
 simp only [ref10_Block_C, List.mem_cons, List.not_mem_nil, or_false] at hp
 rcases hp with rfl | rfl
 · exact ref10_word_ok N
 · exact ref10_mix_ok N)
theorem ref10_Block_ok (N : Nat) : Ctr.ok Tryd.prog G_globs 194 (ref10_Block_ctr N) :=
 ctr_fn (Γ := ref10_Block_C N) (rfit := ref10_Block_S11) (bs := [false, false]) (res := [6, 7]) (by kernel_rfl) (tys_ok G_tys_ok) (ref10_Block_ctrs N) Tryd.func194 (by kernel_rfl) (by kernel_rfl) Tryd.ntmps194 (by kernel_rfl) (by kernel_rfl) (by kernel_rfl) (by kernel_rfl) (fun E hb => ref10_Block_b N hb)
end
end Go.Proofs.YtofajgidjkjnpaaDoor