/- Functions of the program as plain functions, each with the proof that the text computes it. -/
import Derived.Test.YtofajgidjkjnpaaDoorGmRule
import Derived.Test.YtofajgidjkjnpaaDoorProg
set_option linter.unusedVariables false
set_option linter.unusedSimpArgs false
namespace Go.Proofs.YtofajgidjkjnpaaDoor
open Go
set_option maxRecDepth 100000
set_option linter.unusedVariables false
noncomputable section
abbrev D13 : Type := ((List UInt8) × (UInt64 × Unit))
abbrev T13 : Ty := (.pair .str (.pair .u64 .unit))
abbrev D36 : Type := (UInt64 × ((List UInt8) × Unit))
abbrev T36 : Ty := (.pair .u64 (.pair (.sl .u8) .unit))
abbrev D103 : Type := (Int × (UInt64 × (UInt64 × Unit)))
abbrev T103 : Ty := (.pair .i64 (.pair .u64 (.pair .u64 .unit)))
abbrev D195 : Type := (Int × (Bool × ((List UInt8) × Unit)))
abbrev T195 : Ty := (.pair .i64 (.pair .bool (.pair (.sl .u8) .unit)))
abbrev D7 : Type := (Int × (Int × (Bool × (UInt8 × Unit))))
abbrev T7 : Ty := (.pair .i64 (.pair .i64 (.pair .bool (.pair .u8 .unit))))
abbrev D91 : Type := (Int × (Int × (Int × ((List UInt8) × Unit))))
abbrev T91 : Ty := (.pair .i64 (.pair .i64 (.pair .i64 (.pair (.sl .u8) .unit))))
abbrev D75 : Type := (UInt64 × (UInt64 × (Int × (Int × (Int × (UInt32 × Unit))))))
abbrev T75 : Ty := (.pair .u64 (.pair .u64 (.pair .i64 (.pair .i64 (.pair .i64 (.pair .u32 .unit))))))
abbrev D65 : Type := ((List UInt8) × (UInt64 × (Int × D195)))
abbrev T65 : Ty := (.pair .str (.pair .u64 (.pair .i64 T195)))
abbrev D154 : Type := (D75 × (Int × ((List UInt8) × Unit)))
abbrev T154 : Ty := (.pair T75 (.pair .i64 (.pair (.sl .u8) .unit)))
abbrev D105 : Type := (D103 × (D103 × (Int × (Int × (Int × Unit)))))
abbrev T105 : Ty := (.pair T103 (.pair T103 (.pair .i64 (.pair .i64 (.pair .i64 .unit)))))
abbrev D107 : Type := (D105 × (Int × (Bool × (Bool × (Int × Unit)))))
abbrev T107 : Ty := (.pair T105 (.pair .i64 (.pair .bool (.pair .bool (.pair .i64 .unit)))))
def G_tys : List (Nat × TI) := [(2, ⟨.i64, 8, 0, false⟩), (3, ⟨.i64, 8, 0, false⟩), (4, ⟨.bool, 1, 0, false⟩), (5, ⟨.u8, 1, 0, false⟩), (6, ⟨.u8, 1, 0, false⟩), (7, ⟨T7, 24, 0, false⟩), (8, ⟨T7, 24, 0, false⟩), (9, ⟨.str, 16, 0, false⟩), (10, ⟨.str, 16, 0, false⟩), (11, ⟨.str, 16, 0, false⟩), (12, ⟨.u64, 8, 0, false⟩), (13, ⟨T13, 24, 0, false⟩), (14, ⟨T13, 24, 0, false⟩), (22, ⟨(.sl .u8), 24, 5, false⟩), (23, ⟨.u64, 8, 0, false⟩), (28, ⟨.i64, 8, 0, false⟩), (33, ⟨(.sl .u64), 24, 23, false⟩), (36, ⟨T36, 32, 0, false⟩), (37, ⟨(.sl T36), 24, 36, false⟩), (40, ⟨.u32, 4, 0, false⟩), (44, ⟨(.arr 2 .i64), 16, 3, false⟩), (46, ⟨(.sl (.arr 2 .i64)), 24, 44, false⟩), (50, ⟨(.sl (.sl .u8)), 24, 22, false⟩), (57, ⟨(.sl T65), 24, 66, false⟩), (65, ⟨T65, 72, 0, false⟩), (66, ⟨T65, 72, 0, false⟩), (69, ⟨(.sl (.sl T65)), 24, 57, false⟩), (75, ⟨T75, 48, 0, false⟩), (76, ⟨T75, 48, 0, false⟩), (91, ⟨T91, 48, 0, false⟩), (92, ⟨T91, 48, 0, false⟩), (96, ⟨(.sl T91), 24, 92, false⟩), (99, ⟨(.sl .i64), 24, 3, false⟩), (103, ⟨T103, 24, 0, false⟩), (104, ⟨T103, 24, 0, true⟩), (105, ⟨T105, 72, 0, false⟩), (106, ⟨T105, 72, 0, true⟩), (107, ⟨T107, 96, 0, false⟩), (108, ⟨T107, 96, 0, false⟩), (121, ⟨(.pair (.sl .u8) (.pair .i64 .unit)), 32, 0, false⟩), (122, ⟨(.pair (.sl .u8) (.pair .i64 .unit)), 32, 0, false⟩), (132, ⟨.u64, 8, 0, false⟩), (133, ⟨(.arr 2 .u64), 16, 23, false⟩), (134, ⟨(.arr 2 .u64), 16, 23, false⟩), (135, ⟨(.pair (.sl .u8) (.pair .i64 .unit)), 32, 0, false⟩), (136, ⟨(.pair (.sl .u8) (.pair .i64 .unit)), 32, 0, false⟩), (143, ⟨(.sl .str), 24, 9, false⟩), (154, ⟨T154, 80, 0, false⟩), (155, ⟨T154, 80, 0, false⟩), (177, ⟨(.arr 64 .u8), 64, 5, false⟩), (184, ⟨(.arr 16 .u32), 64, 40, false⟩), (195, ⟨T195, 40, 0, false⟩), (196, ⟨T195, 40, 0, false⟩), (210, ⟨(.pair (.sl .u8) .unit), 24, 0, false⟩), (211, ⟨(.pair (.sl .u8) .unit), 24, 0, false⟩), (216, ⟨(.sl T103), 24, 104, false⟩), (218, ⟨(.arr 8 .u32), 32, 40, false⟩), (225, ⟨(.arr 4 .i64), 32, 3, false⟩), (226, ⟨(.arr 8 (.arr 4 .i64)), 256, 225, false⟩), (229, ⟨(.arr 5 .u64), 40, 23, false⟩), (230, ⟨(.arr 5 .u64), 40, 23, false⟩), (250, ⟨(.arr 17 .u32), 68, 40, false⟩)]
def g_chacha_quarters : (List (List Int)) := [[0, 4, 8, 12], [1, 5, 9, 13], [2, 6, 10, 14], [3, 7, 11, 15], [0, 5, 10, 15], [1, 6, 11, 12], [2, 7, 8, 13], [3, 4, 9, 14]]
def G_globs : List (Nat × Dt) := [(3, ⟨(.arr 8 (.arr 4 .i64)), g_chacha_quarters⟩)]
def G_ifs : IfT := ⟨[208, 209], [(208, "ipsecgate/lookup.least", 246), (208, "ipsecgate/lookup.see", 247), (209, "ipsecgate/lookup.least", 248), (209, "ipsecgate/lookup.see", 249)], []⟩
theorem G_ifs_ok : ifChk Tryd.prog G_ifs = true := by kernel_rfl
theorem G_tys_ok : tyChk Tryd.prog G_tys = true := by kernel_rfl
/-! ipsecgate/wire.Put -/
abbrev wire_Put_R : Type := ((Unit) × ((List UInt8) × Unit))
def wire_Put_s3 (N : Nat) (v_1 : UInt64) (i_7 : Int) (b_0 : (List UInt8)) : Option (Lo ((UInt64 × Int × Unit) × ((List UInt8) × Unit)) ((Unit) × ((List UInt8) × Unit)) wire_Put_R) :=
 bif (decide ((0 : Int) ≤ i_7)) then
 let x4 := w64 ((8 : Int) * i_7)
 bif decide (0 ≤ x4) then
 let x5 := shr64 v_1 x4.toNat
 bif room (b_0.length + ([x5.toUInt8] : List UInt8).length) 1 then
 some (.go ((v_1, (w64 (i_7 - (1 : Int))), ()), ((b_0 ++ ([x5.toUInt8] : List UInt8)), ())))
 else none
 else none
 else
 some (.br ((()), (b_0, ())))
def wire_Put_4 (N : Nat) (b_0 : (List UInt8)) : Option wire_Put_R :=
 some ((()), (b_0, ()))
def wire_Put_2 (N : Nat) (v_1 : UInt64) (i_7 : Int) (b_0 : (List UInt8)) : Option wire_Put_R :=
 loopK N (fun y => wire_Put_s3 N y.1.1 y.1.2.1 y.2.1) (fun (e : ((Unit) × ((List UInt8) × Unit))) => wire_Put_4 N e.2.1) ((v_1, i_7, ()), (b_0, ()))
def wire_Put_1 (N : Nat) (v_1 : UInt64) (width_2 : Int) (t_13 : Bool) (b_0 : (List UInt8)) : Option wire_Put_R :=
 bif t_13 then
 some ((()), (b_0, ()))
 else
 wire_Put_2 N v_1 (w64 (width_2 - (1 : Int))) b_0
def wire_Put (N : Nat) (v_1 : UInt64) (width_2 : Int) (b_0 : (List UInt8)) : Option wire_Put_R :=
 bif (decide (width_2 < (1 : Int))) then
 wire_Put_1 N v_1 width_2 true b_0
 else
 wire_Put_1 N v_1 width_2 (decide ((8 : Int) < width_2)) b_0
def wire_Put_C (N : Nat) : Ctx := ⟨30, G_tys, [], G_globs, G_ifs⟩
def wire_Put_S0 : Spec := ⟨[.row 0, .val .u64, .val .i64], [(.row 5 .u8, .pos 0)]⟩
def wire_Put_S1 : Spec := ⟨[.row 0], [(.row 5 .u8, .pos 0)]⟩
def wire_Put_S2 : Spec := ⟨[.row 0, .val .u64, .val .i64, .val .bool], [(.row 5 .u8, .pos 0)]⟩
def wire_Put_K (_N : Nat) : XE → GS → Option wire_Put_R := retK 0 [6] [false] wire_Put_S1
def wire_Put_L : List Code := (bodyOf (some Tryd.f91))
def wire_Put_L3 : List Code := (loopOf (wire_Put_L[4]?))
def wire_Put_K3 (N : Nat) : XE → GS → Option (Lo ((UInt64 × Int × Unit) × ((List UInt8) × Unit)) ((Unit) × ((List UInt8) × Unit)) wire_Put_R) := roundK (some 0) (fit 0 [0, 1, 7] wire_Put_S0) (fit 0 [0] wire_Put_S1) (wire_Put_K N)
theorem wire_Put_s3_b {E : Env} (N : Nat) (hb : Base Tryd.prog (wire_Put_C N) E 0) : Blk Tryd.prog (wire_Put_C N) E [0, 1, 7] wire_Put_S0 (wire_Put_L3.drop 0) (fun y => wire_Put_s3 N y.1.1 y.1.2.1 y.2.1) (wire_Put_K3 N) :=
 Blk.chunkAt hb 4 (X := (wire_Put_K3 N .normal)) (NxOk.end (by kernel_rfl)) rfl (fun x => by kernel_rfl)
theorem wire_Put_4_b {E : Env} (N : Nat) (hb : Base Tryd.prog (wire_Put_C N) E 0) : Blk Tryd.prog (wire_Put_C N) E [0] wire_Put_S1 (wire_Put_L.drop 5) (fun y => wire_Put_4 N y.2.1) (wire_Put_K N) :=
 Blk.chunkAt hb 2 (X := (wire_Put_K N .normal)) (NxOk.end (by kernel_rfl)) rfl (fun x => by kernel_rfl)
theorem wire_Put_2_b {E : Env} (N : Nat) (hb : Base Tryd.prog (wire_Put_C N) E 0) : Blk Tryd.prog (wire_Put_C N) E [0, 1, 7] wire_Put_S0 (wire_Put_L.drop 4) (fun y => wire_Put_2 N y.1.1 y.1.2.1 y.2.1) (wire_Put_K N) :=
 Blk.loopAt (Nf := N) (hns := [0, 1, 7]) (ans := [0]) (hc := wire_Put_S0) (ac := wire_Put_S1) (bid := 0) (step := (fun y => wire_Put_s3 N y.1.1 y.1.2.1 y.2.1)) (J := (fun e => (goK 0 [0] wire_Put_S1 (fun y => wire_Put_4 N y.2.1)) (wire_Put_S1.st [0] e))) hb (by kernel_rfl) (Blk.into (X := (goK 0 [0] wire_Put_S1 (fun y => wire_Put_4 N y.2.1))) (NxOk.go hb (wire_Put_4_b N hb)) (fun x => by kernel_rfl)) (wire_Put_s3_b N hb) (fun x => by kernel_rfl)
theorem wire_Put_1_b {E : Env} (N : Nat) (hb : Base Tryd.prog (wire_Put_C N) E 0) : Blk Tryd.prog (wire_Put_C N) E [0, 1, 2, 13] wire_Put_S2 (wire_Put_L.drop 2) (fun y => wire_Put_1 N y.1.1 y.1.2.1 y.1.2.2.1 y.2.1) (wire_Put_K N) :=
 Blk.chunkAt hb 2 (X := (goK 0 [0, 1, 7] wire_Put_S0 (fun y => wire_Put_2 N y.1.1 y.1.2.1 y.2.1))) (NxOk.go hb (wire_Put_2_b N hb)) rfl (fun x => by kernel_rfl)
theorem wire_Put_b {E : Env} (N : Nat) (hb : Base Tryd.prog (wire_Put_C N) E 0) : Blk Tryd.prog (wire_Put_C N) E (List.range wire_Put_S0.ks.length) wire_Put_S0 (wire_Put_L.drop 0) (fun y => wire_Put N y.1.1 y.1.2.1 y.2.1) (wire_Put_K N) :=
 Blk.chunkAt hb 2 (X := (goK 0 [0, 1, 2, 13] wire_Put_S2 (fun y => wire_Put_1 N y.1.1 y.1.2.1 y.1.2.2.1 y.2.1))) (NxOk.go hb (wire_Put_1_b N hb)) rfl (fun x => by kernel_rfl)
def wire_Put_ctr (N : Nat) : Ctr := ⟨wire_Put_S0, wire_Put_S1.un [false], 0, (fun y => wire_Put N y.1.1 y.1.2.1 y.2.1)⟩
theorem wire_Put_ctrs (N : Nat) : CtrsOk Tryd.prog (wire_Put_C N) := ctrs_nil G_ifs_ok rfl
theorem wire_Put_ok (N : Nat) : Ctr.ok Tryd.prog G_globs 91 (wire_Put_ctr N) :=
 ctr_fn (Γ := wire_Put_C N) (rfit := wire_Put_S1) (bs := [false]) (res := [6]) (by kernel_rfl) (tys_ok G_tys_ok) (wire_Put_ctrs N) Tryd.func91 (by kernel_rfl) (by kernel_rfl) Tryd.ntmps91 (by kernel_rfl) (by kernel_rfl) (by kernel_rfl) (by kernel_rfl) (fun E hb => wire_Put_b N hb)
/-! ipsecgate/esp.nonce -/
abbrev esp_nonce_R : Type := ((Unit) × ((List UInt8) × Unit))
def esp_nonce (N : Nat) (key_0 : (List UInt8)) (number_1 : UInt64) : Option esp_nonce_R :=
 bif decide (0 ≤ (32 : Int)) && decide ((32 : Int) ≤ (key_0.length : Int)) && decide ((key_0.length : Int) ≤ (key_0.length : Int)) && true then
 let x1 := cut key_0 32 key_0.length
 bif room (0 + x1.length) 1 then
 Option.bind (wire_Put N number_1 (8 : Int) x1) fun y2 =>
 some ((()), (y2.2.1, ()))
 else none
 else none
def esp_nonce_C (N : Nat) : Ctx := ⟨10, G_tys, [(91, wire_Put_ctr N)], G_globs, G_ifs⟩
def esp_nonce_S0 : Spec := ⟨[.val (.sl .u8), .val .u64], []⟩
def esp_nonce_S1 : Spec := ⟨[.row 0], [(.row 5 .u8, .pos 0)]⟩
def esp_nonce_K (_N : Nat) : XE → GS → Option esp_nonce_R := retK 0 [4] [false] esp_nonce_S1
def esp_nonce_L : List Code := (bodyOf (some Tryd.f100))
theorem esp_nonce_b {E : Env} (N : Nat) (hb : Base Tryd.prog (esp_nonce_C N) E 0) : Blk Tryd.prog (esp_nonce_C N) E (List.range esp_nonce_S0.ks.length) esp_nonce_S0 (esp_nonce_L.drop 0) (fun y => esp_nonce N y.1.1 y.1.2.1) (esp_nonce_K N) :=
 Blk.chunkAt hb 3 (X := (esp_nonce_K N .normal)) (NxOk.end (by kernel_rfl)) rfl (fun x => by kernel_rfl)
def esp_nonce_ctr (N : Nat) : Ctr := ⟨esp_nonce_S0, esp_nonce_S1.un [false], 0, (fun y => esp_nonce N y.1.1 y.1.2.1)⟩
theorem esp_nonce_ctrs (N : Nat) : CtrsOk Tryd.prog (esp_nonce_C N) := ctrs_of (Γ := esp_nonce_C N) G_ifs_ok (by
 intro p hp
 simp only [esp_nonce_C, List.mem_cons, List.not_mem_nil, or_false] at hp
 rcases hp with rfl
 · exact wire_Put_ok N)
theorem esp_nonce_ok (N : Nat) : Ctr.ok Tryd.prog G_globs 100 (esp_nonce_ctr N) :=
 ctr_fn (Γ := esp_nonce_C N) (rfit := esp_nonce_S1) (bs := [false]) (res := [4]) (by kernel_rfl) (tys_ok G_tys_ok) (esp_nonce_ctrs N) Tryd.func100 (by kernel_rfl) (by kernel_rfl) Tryd.ntmps100 (by kernel_rfl) (by kernel_rfl) (by kernel_rfl) (by kernel_rfl) (fun E hb => esp_nonce_b N hb)
/-! ipsecgate/esp.data -/
abbrev esp_data_R : Type := ((Unit) × ((List UInt8) × Unit))
def esp_data (N : Nat) (spi_0 : UInt32) (number_1 : UInt64) : Option esp_data_R :=
 Option.bind (wire_Put N spi_0.toUInt64 (4 : Int) ([] : List UInt8)) fun y1 =>
 Option.bind (wire_Put N number_1 (8 : Int) y1.2.1) fun y2 =>
 some ((()), (y2.2.1, ()))
def esp_data_C (N : Nat) : Ctx := ⟨10, G_tys, [(91, wire_Put_ctr N)], G_globs, G_ifs⟩
def esp_data_S0 : Spec := ⟨[.val .u32, .val .u64], []⟩
def esp_data_S1 : Spec := ⟨[.row 0], [(.row 5 .u8, .pos 0)]⟩
def esp_data_K (_N : Nat) : XE → GS → Option esp_data_R := retK 0 [4] [false] esp_data_S1
def esp_data_L : List Code := (bodyOf (some Tryd.f101))
theorem esp_data_b {E : Env} (N : Nat) (hb : Base Tryd.prog (esp_data_C N) E 0) : Blk Tryd.prog (esp_data_C N) E (List.range esp_data_S0.ks.length) esp_data_S0 (esp_data_L.drop 0) (fun y => esp_data N y.1.1 y.1.2.1) (esp_data_K N) :=
 Blk.chunkAt hb 3 (X := (esp_data_K N .normal)) (NxOk.end (by kernel_rfl)) rfl (fun x => by kernel_rfl)
def esp_data_ctr (N : Nat) : Ctr := ⟨esp_data_S0, esp_data_S1.un [false], 0, (fun y => esp_data N y.1.1 y.1.2.1)⟩
theorem esp_data_ctrs (N : Nat) : CtrsOk Tryd.prog (esp_data_C N) := ctrs_of (Γ := esp_data_C N) G_ifs_ok (by
 intro p hp
 simp only [esp_data_C, List.mem_cons, List.not_mem_nil, or_false] at hp
 rcases hp with rfl
 · exact wire_Put_ok N)
theorem esp_data_ok (N : Nat) : Ctr.ok Tryd.prog G_globs 101 (esp_data_ctr N) :=
 ctr_fn (Γ := esp_data_C N) (rfit := esp_data_S1) (bs := [false]) (res := [4]) (by kernel_rfl) (tys_ok G_tys_ok) (esp_data_ctrs N) Tryd.func101 (by kernel_rfl) (by kernel_rfl) Tryd.ntmps101 (by kernel_rfl) (by kernel_rfl) (by kernel_rfl) (by kernel_rfl) (fun E hb => esp_data_b N hb)
/-! ipsecgate/aead.keyed -/
abbrev aead_keyed_R : Type := ((Bool × Unit) × (Unit))
def aead_keyed (N : Nat) (key_0 : (List UInt8)) (nonce_1 : (List UInt8)) : Option aead_keyed_R :=
 bif (decide ((key_0.length : Int) = (32 : Int))) then
 some (((decide ((nonce_1.length : Int) = (12 : Int))), ()), (()))
 else
 some ((false, ()), (()))
def aead_keyed_C (N : Nat) : Ctx := ⟨13, G_tys, [], G_globs, G_ifs⟩
def aead_keyed_S0 : Spec := ⟨[.val (.sl .u8), .val (.sl .u8)], []⟩
def aead_keyed_S1 : Spec := ⟨[.val .bool], []⟩
def aead_keyed_K (_N : Nat) : XE → GS → Option aead_keyed_R := retK 0 [4] [false] aead_keyed_S1
def aead_keyed_L : List Code := (bodyOf (some Tryd.f119))
theorem aead_keyed_b {E : Env} (N : Nat) (hb : Base Tryd.prog (aead_keyed_C N) E 0) : Blk Tryd.prog (aead_keyed_C N) E (List.range aead_keyed_S0.ks.length) aead_keyed_S0 (aead_keyed_L.drop 0) (fun y => aead_keyed N y.1.1 y.1.2.1) (aead_keyed_K N) :=
 Blk.chunkAt hb 3 (X := (aead_keyed_K N .normal)) (NxOk.end (by kernel_rfl)) rfl (fun x => by kernel_rfl)
def aead_keyed_ctr (N : Nat) : Ctr := ⟨aead_keyed_S0, aead_keyed_S1.un [false], 0, (fun y => aead_keyed N y.1.1 y.1.2.1)⟩
theorem aead_keyed_ctrs (N : Nat) : CtrsOk Tryd.prog (aead_keyed_C N) := ctrs_nil G_ifs_ok rfl
theorem aead_keyed_ok (N : Nat) : Ctr.ok Tryd.prog G_globs 119 (aead_keyed_ctr N) :=
 ctr_fn (Γ := aead_keyed_C N) (rfit := aead_keyed_S1) (bs := [false]) (res := [4]) (by kernel_rfl) (tys_ok G_tys_ok) (aead_keyed_ctrs N) Tryd.func119 (by kernel_rfl) (by kernel_rfl) Tryd.ntmps119 (by kernel_rfl) (by kernel_rfl) (by kernel_rfl) (by kernel_rfl) (fun E hb => aead_keyed_b N hb)
/-! ipsecgate/chacha.word -/
abbrev chacha_word_R : Type := ((UInt32 × Unit) × (Unit))
def chacha_word (N : Nat) (b_0 : (List UInt8)) : Option chacha_word_R :=
 bif inR (0 : Int) b_0.length then
 bif inR (1 : Int) b_0.length then
 bif inR (2 : Int) b_0.length then
 bif inR (3 : Int) b_0.length then
 some ((((((b_0.getD 0 (0 : UInt8)).toUInt32 ||| (shl32 (b_0.getD 1 (0 : UInt8)).toUInt32 8)) ||| (shl32 (b_0.getD 2 (0 : UInt8)).toUInt32 16)) ||| (shl32 (b_0.getD 3 (0 : UInt8)).toUInt32 24)), ()), (()))
 else none
 else none
 else none
 else none
def chacha_word_C (N : Nat) : Ctx := ⟨25, G_tys, [], G_globs, G_ifs⟩
def chacha_word_S0 : Spec := ⟨[.val (.sl .u8)], []⟩
def chacha_word_S1 : Spec := ⟨[.val .u32], []⟩
def chacha_word_K (_N : Nat) : XE → GS → Option chacha_word_R := retK 0 [2] [false] chacha_word_S1
def chacha_word_L : List Code := (bodyOf (some Tryd.f198))
theorem chacha_word_b {E : Env} (N : Nat) (hb : Base Tryd.prog (chacha_word_C N) E 0) : Blk Tryd.prog (chacha_word_C N) E (List.range chacha_word_S0.ks.length) chacha_word_S0 (chacha_word_L.drop 0) (fun y => chacha_word N y.1.1) (chacha_word_K N) :=
 Blk.chunkAt hb 3 (X := (chacha_word_K N .normal)) (NxOk.end (by kernel_rfl)) rfl (fun x => by kernel_rfl)
def chacha_word_ctr (N : Nat) : Ctr := ⟨chacha_word_S0, chacha_word_S1.un [false], 0, (fun y => chacha_word N y.1.1)⟩
theorem chacha_word_ctrs (N : Nat) : CtrsOk Tryd.prog (chacha_word_C N) := ctrs_nil G_ifs_ok rfl
theorem chacha_word_ok (N : Nat) : Ctr.ok Tryd.prog G_globs 198 (chacha_word_ctr N) :=
 ctr_fn (Γ := chacha_word_C N) (rfit := chacha_word_S1) (bs := [false]) (res := [2]) (by kernel_rfl) (tys_ok G_tys_ok) (chacha_word_ctrs N) Tryd.func198 (by kernel_rfl) (by kernel_rfl) Tryd.ntmps198 (by kernel_rfl) (by kernel_rfl) (by kernel_rfl) (by kernel_rfl) (fun E hb => chacha_word_b N hb)
/-! ipsecgate/chacha.state -/
abbrev chacha_state_R : Type := (((List UInt32) × Bool × Unit) × (Unit))
def chacha_state_s3 (N : Nat) (key_0 : (List UInt8)) (nonce_2 : (List UInt8)) (t_22 : Int) (t_6 : (List UInt32)) (s_8 : (List UInt32)) : Option (Lo (((List UInt8) × (List UInt8) × Int × Unit) × ((List UInt32) × (List UInt32) × Unit)) (((List UInt8) × Unit) × ((List UInt32) × (List UInt32) × Unit)) chacha_state_R) :=
 bif (decide (t_22 < (8 : Int))) then
 let x6 := w64 ((4 : Int) + t_22)
 let x7 := w64 ((4 : Int) * t_22)
 bif decide (0 ≤ x7) && decide (x7 ≤ (key_0.length : Int)) && decide ((key_0.length : Int) ≤ (key_0.length : Int)) && true then
 Option.bind (chacha_word N (cut key_0 x7.toNat key_0.length)) fun y9 =>
 bif inR x6 16 then
 some (.go ((key_0, nonce_2, (w64 (t_22 + (1 : Int))), ()), (t_6, (s_8.set x6.toNat y9.1.1), ())))
 else none
 else none
 else
 some (.br ((nonce_2, ()), (t_6, s_8, ())))
def chacha_state_s6 (N : Nat) (nonce_2 : (List UInt8)) (t_34 : Int) (t_6 : (List UInt32)) (s_8 : (List UInt32)) : Option (Lo (((List UInt8) × Int × Unit) × ((List UInt32) × (List UInt32) × Unit)) ((Unit) × ((List UInt32) × (List UInt32) × Unit)) chacha_state_R) :=
 bif (decide (t_34 < (3 : Int))) then
 let x13 := w64 ((13 : Int) + t_34)
 let x14 := w64 ((4 : Int) * t_34)
 bif decide (0 ≤ x14) && decide (x14 ≤ (nonce_2.length : Int)) && decide ((nonce_2.length : Int) ≤ (nonce_2.length : Int)) && true then
 Option.bind (chacha_word N (cut nonce_2 x14.toNat nonce_2.length)) fun y16 =>
 bif inR x13 16 then
 some (.go ((nonce_2, (w64 (t_34 + (1 : Int))), ()), (t_6, (s_8.set x13.toNat y16.1.1), ())))
 else none
 else none
 else
 some (.br ((()), (t_6, s_8, ())))
def chacha_state_7 (N : Nat) (t_6 : (List UInt32)) (s_8 : (List UInt32)) : Option chacha_state_R :=
 some ((s_8, true, ()), (()))
def chacha_state_5 (N : Nat) (nonce_2 : (List UInt8)) (t_34 : Int) (t_6 : (List UInt32)) (s_8 : (List UInt32)) : Option chacha_state_R :=
 loopK N (fun y => chacha_state_s6 N y.1.1 y.1.2.1 y.2.1 y.2.2.1) (fun (e : ((Unit) × ((List UInt32) × (List UInt32) × Unit))) => chacha_state_7 N e.2.1 e.2.2.1) ((nonce_2, t_34, ()), (t_6, s_8, ()))
def chacha_state_4 (N : Nat) (nonce_2 : (List UInt8)) (t_6 : (List UInt32)) (s_8 : (List UInt32)) : Option chacha_state_R :=
 chacha_state_5 N nonce_2 (0 : Int) t_6 s_8
def chacha_state_2 (N : Nat) (key_0 : (List UInt8)) (nonce_2 : (List UInt8)) (t_22 : Int) (t_6 : (List UInt32)) (s_8 : (List UInt32)) : Option chacha_state_R :=
 loopK N (fun y => chacha_state_s3 N y.1.1 y.1.2.1 y.1.2.2.1 y.2.1 y.2.2.1) (fun (e : (((List UInt8) × Unit) × ((List UInt32) × (List UInt32) × Unit))) => chacha_state_4 N e.1.1 e.2.1 e.2.2.1) ((key_0, nonce_2, t_22, ()), (t_6, s_8, ()))
def chacha_state_1 (N : Nat) (key_0 : (List UInt8)) (counter_1 : UInt32) (nonce_2 : (List UInt8)) (t_18 : Bool) (t_6 : (List UInt32)) : Option chacha_state_R :=
 bif t_18 then
 some (((List.replicate 16 (0 : UInt32)), false, ()), (()))
 else
 chacha_state_2 N key_0 nonce_2 (0 : Int) t_6 ((((((List.replicate 16 (0 : UInt32)).set 0 (1634760805 : UInt32)).set 1 (857760878 : UInt32)).set 2 (2036477234 : UInt32)).set 3 (1797285236 : UInt32)).set 12 counter_1)
def chacha_state (N : Nat) (key_0 : (List UInt8)) (counter_1 : UInt32) (nonce_2 : (List UInt8)) : Option chacha_state_R :=
 bif (!(decide ((key_0.length : Int) = (32 : Int)))) then
 chacha_state_1 N key_0 counter_1 nonce_2 true (List.replicate 16 (0 : UInt32))
 else
 chacha_state_1 N key_0 counter_1 nonce_2 (!(decide ((nonce_2.length : Int) = (12 : Int)))) (List.replicate 16 (0 : UInt32))
def chacha_state_C (N : Nat) : Ctx := ⟨47, G_tys, [(198, chacha_word_ctr N)], G_globs, G_ifs⟩
def chacha_state_S0 : Spec := ⟨[.val (.sl .u8), .val (.sl .u8), .ref 0 (.arr 16 .u32), .ref 1 (.arr 16 .u32), .val .i64], [(.box 184 (.arr 16 .u32), .pos 2), (.box 184 (.arr 16 .u32), .pos 3)]⟩
def chacha_state_S1 : Spec := ⟨[.val (.sl .u8), .ref 0 (.arr 16 .u32), .ref 1 (.arr 16 .u32), .val .i64], [(.box 184 (.arr 16 .u32), .pos 1), (.box 184 (.arr 16 .u32), .pos 2)]⟩
def chacha_state_S2 : Spec := ⟨[.ref 0 (.arr 16 .u32), .ref 1 (.arr 16 .u32)], [(.box 184 (.arr 16 .u32), .pos 0), (.box 184 (.arr 16 .u32), .pos 1)]⟩
def chacha_state_S3 : Spec := ⟨[.val (.sl .u8), .ref 0 (.arr 16 .u32), .ref 1 (.arr 16 .u32)], [(.box 184 (.arr 16 .u32), .pos 1), (.box 184 (.arr 16 .u32), .pos 2)]⟩
def chacha_state_S4 : Spec := ⟨[.val (.sl .u8), .val .u32, .val (.sl .u8), .ref 0 (.arr 16 .u32), .val .bool], [(.box 184 (.arr 16 .u32), .pos 3)]⟩
def chacha_state_S5 : Spec := ⟨[.val (.sl .u8), .val .u32, .val (.sl .u8)], []⟩
def chacha_state_S6 : Spec := ⟨[.fp (.arr 16 .u32), .val .bool], []⟩
def chacha_state_K (_N : Nat) : XE → GS → Option chacha_state_R := retK 0 [6, 7] [true, false] chacha_state_S6
def chacha_state_L : List Code := (bodyOf (some Tryd.f164))
def chacha_state_L3 : List Code := (loopOf (chacha_state_L[5]?))
def chacha_state_L6 : List Code := (loopOf (chacha_state_L[7]?))
def chacha_state_K3 (N : Nat) : XE → GS → Option (Lo (((List UInt8) × (List UInt8) × Int × Unit) × ((List UInt32) × (List UInt32) × Unit)) (((List UInt8) × Unit) × ((List UInt32) × (List UInt32) × Unit)) chacha_state_R) := roundK (some 0) (fit 0 [0, 2, 6, 8, 22] chacha_state_S0) (fit 0 [2, 6, 8] chacha_state_S3) (chacha_state_K N)
def chacha_state_K6 (N : Nat) : XE → GS → Option (Lo (((List UInt8) × Int × Unit) × ((List UInt32) × (List UInt32) × Unit)) ((Unit) × ((List UInt32) × (List UInt32) × Unit)) chacha_state_R) := roundK (some 2) (fit 0 [2, 6, 8, 34] chacha_state_S1) (fit 0 [6, 8] chacha_state_S2) (chacha_state_K N)
theorem chacha_state_s3_b {E : Env} (N : Nat) (hb : Base Tryd.prog (chacha_state_C N) E 0) : Blk Tryd.prog (chacha_state_C N) E [0, 2, 6, 8, 22] chacha_state_S0 (chacha_state_L3.drop 0) (fun y => chacha_state_s3 N y.1.1 y.1.2.1 y.1.2.2.1 y.2.1 y.2.2.1) (chacha_state_K3 N) :=
 Blk.chunkAt hb 4 (X := (chacha_state_K3 N .normal)) (NxOk.end (by kernel_rfl)) rfl (fun x => by kernel_rfl)
theorem chacha_state_s6_b {E : Env} (N : Nat) (hb : Base Tryd.prog (chacha_state_C N) E 0) : Blk Tryd.prog (chacha_state_C N) E [2, 6, 8, 34] chacha_state_S1 (chacha_state_L6.drop 0) (fun y => chacha_state_s6 N y.1.1 y.1.2.1 y.2.1 y.2.2.1) (chacha_state_K6 N) :=
 Blk.chunkAt hb 4 (X := (chacha_state_K6 N .normal)) (NxOk.end (by kernel_rfl)) rfl (fun x => by kernel_rfl)
theorem chacha_state_7_b {E : Env} (N : Nat) (hb : Base Tryd.prog (chacha_state_C N) E 0) : Blk Tryd.prog (chacha_state_C N) E [6, 8] chacha_state_S2 (chacha_state_L.drop 8) (fun y => chacha_state_7 N y.2.1 y.2.2.1) (chacha_state_K N) :=
 Blk.chunkAt hb 2 (X := (chacha_state_K N .normal)) (NxOk.end (by kernel_rfl)) rfl (fun x => by kernel_rfl)
theorem chacha_state_5_b {E : Env} (N : Nat) (hb : Base Tryd.prog (chacha_state_C N) E 0) : Blk Tryd.prog (chacha_state_C N) E [2, 6, 8, 34] chacha_state_S1 (chacha_state_L.drop 7) (fun y => chacha_state_5 N y.1.1 y.1.2.1 y.2.1 y.2.2.1) (chacha_state_K N) :=
 Blk.loopAt (Nf := N) (hns := [2, 6, 8, 34]) (ans := [6, 8]) (hc := chacha_state_S1) (ac := chacha_state_S2) (bid := 2) (step := (fun y => chacha_state_s6 N y.1.1 y.1.2.1 y.2.1 y.2.2.1)) (J := (fun e => (goK 0 [6, 8] chacha_state_S2 (fun y => chacha_state_7 N y.2.1 y.2.2.1)) (chacha_state_S2.st [6, 8] e))) hb (by kernel_rfl) (Blk.into (X := (goK 0 [6, 8] chacha_state_S2 (fun y => chacha_state_7 N y.2.1 y.2.2.1))) (NxOk.go hb (chacha_state_7_b N hb)) (fun x => by kernel_rfl)) (chacha_state_s6_b N hb) (fun x => by kernel_rfl)
theorem chacha_state_4_b {E : Env} (N : Nat) (hb : Base Tryd.prog (chacha_state_C N) E 0) : Blk Tryd.prog (chacha_state_C N) E [2, 6, 8] chacha_state_S3 (chacha_state_L.drop 6) (fun y => chacha_state_4 N y.1.1 y.2.1 y.2.2.1) (chacha_state_K N) :=
 Blk.chunkAt hb 1 (X := (goK 0 [2, 6, 8, 34] chacha_state_S1 (fun y => chacha_state_5 N y.1.1 y.1.2.1 y.2.1 y.2.2.1))) (NxOk.go hb (chacha_state_5_b N hb)) rfl (fun x => by kernel_rfl)
theorem chacha_state_2_b {E : Env} (N : Nat) (hb : Base Tryd.prog (chacha_state_C N) E 0) : Blk Tryd.prog (chacha_state_C N) E [0, 2, 6, 8, 22] chacha_state_S0 (chacha_state_L.drop 5) (fun y => chacha_state_2 N y.1.1 y.1.2.1 y.1.2.2.1 y.2.1 y.2.2.1) (chacha_state_K N) :=
 Blk.loopAt (Nf := N) (hns := [0, 2, 6, 8, 22]) (ans := [2, 6, 8]) (hc := chacha_state_S0) (ac := chacha_state_S3) (bid := 0) (step := (fun y => chacha_state_s3 N y.1.1 y.1.2.1 y.1.2.2.1 y.2.1 y.2.2.1)) (J := (fun e => (goK 0 [2, 6, 8] chacha_state_S3 (fun y => chacha_state_4 N y.1.1 y.2.1 y.2.2.1)) (chacha_state_S3.st [2, 6, 8] e))) hb (by kernel_rfl) (Blk.into (X := (goK 0 [2, 6, 8] chacha_state_S3 (fun y => chacha_state_4 N y.1.1 y.2.1 y.2.2.1))) (NxOk.go hb (chacha_state_4_b N hb)) (fun x => by kernel_rfl)) (chacha_state_s3_b N hb) (fun x => by kernel_rfl)
theorem chacha_state_1_b {E : Env} (N : Nat) (hb : Base Tryd.prog (chacha_state_C N) E 0) : Blk Tryd.prog (chacha_state_C N) E [0, 1, 2, 6, 18] chacha_state_S4 (chacha_state_L.drop 2) (fun y => chacha_state_1 N y.1.1 y.1.2.1 y.1.2.2.1 y.1.2.2.2.1 y.2.1) (chacha_state_K N) :=
 Blk.chunkAt hb 3 (X := (goK 0 [0, 2, 6, 8, 22] chacha_state_S0 (fun y => chacha_state_2 N y.1.1 y.1.2.1 y.1.2.2.1 y.2.1 y.2.2.1))) (NxOk.go hb (chacha_state_2_b N hb)) rfl (fun x => by kernel_rfl)
theorem chacha_state_b {E : Env} (N : Nat) (hb : Base Tryd.prog (chacha_state_C N) E 0) : Blk Tryd.prog (chacha_state_C N) E (List.range chacha_state_S5.ks.length) chacha_state_S5 (chacha_state_L.drop 0) (fun y => chacha_state N y.1.1 y.1.2.1 y.1.2.2.1) (chacha_state_K N) :=
 Blk.chunkAt hb 2 (X := (goK 0 [0, 1, 2, 6, 18] chacha_state_S4 (fun y => chacha_state_1 N y.1.1 y.1.2.1 y.1.2.2.1 y.1.2.2.2.1 y.2.1))) (NxOk.go hb (chacha_state_1_b N hb)) rfl (fun x => by kernel_rfl)
def chacha_state_ctr (N : Nat) : Ctr := ⟨chacha_state_S5, chacha_state_S6.un [true, false], 0, (fun y => chacha_state N y.1.1 y.1.2.1 y.1.2.2.1)⟩
theorem chacha_state_ctrs (N : Nat) : CtrsOk Tryd.prog (chacha_state_C N) := ctrs_of (Γ := chacha_state_C N) G_ifs_ok (by
 intro p hp
 simp only [chacha_state_C, List.mem_cons, List.not_mem_nil, or_false] at hp
 rcases hp with rfl
 · exact chacha_word_ok N)
theorem chacha_state_ok (N : Nat) : Ctr.ok Tryd.prog G_globs 164 (chacha_state_ctr N) :=
 ctr_fn (Γ := chacha_state_C N) (rfit := chacha_state_S6) (bs := [true, false]) (res := [6, 7]) (by kernel_rfl) (tys_ok G_tys_ok) (chacha_state_ctrs N) Tryd.func164 (by kernel_rfl) (by kernel_rfl) Tryd.ntmps164 (by kernel_rfl) (by kernel_rfl) (by kernel_rfl) (by kernel_rfl) (fun E hb => chacha_state_b N hb)
/-! math/bits.RotateLeft32 -/
abbrev math_bits_RotateLeft32_R : Type := ((UInt32 × Unit) × (Unit))
def math_bits_RotateLeft32 (N : Nat) (x_0 : UInt32) (k_1 : Int) : Option math_bits_RotateLeft32_R :=
 let x2 := (iu64 k_1) &&& (31 : UInt64)
 some ((((shl32 x_0 x2.toNat) ||| (shr32 x_0 ((32 : UInt64) - x2).toNat)), ()), (()))
def math_bits_RotateLeft32_C (N : Nat) : Ctx := ⟨17, G_tys, [], G_globs, G_ifs⟩
def math_bits_RotateLeft32_S0 : Spec := ⟨[.val .u32, .val .i64], []⟩
def math_bits_RotateLeft32_S1 : Spec := ⟨[.val .u32], []⟩
def math_bits_RotateLeft32_K (_N : Nat) : XE → GS → Option math_bits_RotateLeft32_R := retK 0 [4] [false] math_bits_RotateLeft32_S1
def math_bits_RotateLeft32_L : List Code := (bodyOf (some Tryd.f222))
theorem math_bits_RotateLeft32_b {E : Env} (N : Nat) (hb : Base Tryd.prog (math_bits_RotateLeft32_C N) E 0) : Blk Tryd.prog (math_bits_RotateLeft32_C N) E (List.range math_bits_RotateLeft32_S0.ks.length) math_bits_RotateLeft32_S0 (math_bits_RotateLeft32_L.drop 0) (fun y => math_bits_RotateLeft32 N y.1.1 y.1.2.1) (math_bits_RotateLeft32_K N) :=
 Blk.chunkAt hb 4 (X := (math_bits_RotateLeft32_K N .normal)) (NxOk.end (by kernel_rfl)) rfl (fun x => by kernel_rfl)
def math_bits_RotateLeft32_ctr (N : Nat) : Ctr := ⟨math_bits_RotateLeft32_S0, math_bits_RotateLeft32_S1.un [false], 0, (fun y => math_bits_RotateLeft32 N y.1.1 y.1.2.1)⟩
theorem math_bits_RotateLeft32_ctrs (N : Nat) : CtrsOk Tryd.prog (math_bits_RotateLeft32_C N) := ctrs_nil G_ifs_ok rfl
theorem math_bits_RotateLeft32_ok (N : Nat) : Ctr.ok Tryd.prog G_globs 222 (math_bits_RotateLeft32_ctr N) :=
 ctr_fn (Γ := math_bits_RotateLeft32_C N) (rfit := math_bits_RotateLeft32_S1) (bs := [false]) (res := [4]) (by kernel_rfl) (tys_ok G_tys_ok) (math_bits_RotateLeft32_ctrs N) Tryd.func222 (by kernel_rfl) (by kernel_rfl) Tryd.ntmps222 (by kernel_rfl) (by kernel_rfl) (by kernel_rfl) (by kernel_rfl) (fun E hb => math_bits_RotateLeft32_b N hb)
/-! ipsecgate/chacha.Quarter -/
abbrev chacha_Quarter_R : Type := ((UInt32 × UInt32 × UInt32 × UInt32 × Unit) × (Unit))
def chacha_Quarter (N : Nat) (a_0 : UInt32) (b_1 : UInt32) (c_2 : UInt32) (d_3 : UInt32) : Option chacha_Quarter_R :=
 Option.bind (math_bits_RotateLeft32 N (d_3 ^^^ (a_0 + b_1)) (16 : Int)) fun y3 =>
 Option.bind (math_bits_RotateLeft32 N (b_1 ^^^ (c_2 + y3.1.1)) (12 : Int)) fun y6 =>
 Option.bind (math_bits_RotateLeft32 N (y3.1.1 ^^^ ((a_0 + b_1) + y6.1.1)) (8 : Int)) fun y9 =>
 Option.bind (math_bits_RotateLeft32 N (y6.1.1 ^^^ ((c_2 + y3.1.1) + y9.1.1)) (7 : Int)) fun y12 =>
 some ((((a_0 + b_1) + y6.1.1), y12.1.1, ((c_2 + y3.1.1) + y9.1.1), y9.1.1, ()), (()))
def chacha_Quarter_C (N : Nat) : Ctx := ⟨49, G_tys, [(222, math_bits_RotateLeft32_ctr N)], G_globs, G_ifs⟩
def chacha_Quarter_S0 : Spec := ⟨[.val .u32, .val .u32, .val .u32, .val .u32], []⟩
def chacha_Quarter_K (_N : Nat) : XE → GS → Option chacha_Quarter_R := retK 0 [8, 9, 10, 11] [false, false, false, false] chacha_Quarter_S0
def chacha_Quarter_L : List Code := (bodyOf (some Tryd.f199))
theorem chacha_Quarter_b {E : Env} (N : Nat) (hb : Base Tryd.prog (chacha_Quarter_C N) E 0) : Blk Tryd.prog (chacha_Quarter_C N) E (List.range chacha_Quarter_S0.ks.length) chacha_Quarter_S0 (chacha_Quarter_L.drop 0) (fun y => chacha_Quarter N y.1.1 y.1.2.1 y.1.2.2.1 y.1.2.2.2.1) (chacha_Quarter_K N) :=
 Blk.chunkAt hb 12 (X := (chacha_Quarter_K N .normal)) (NxOk.end (by kernel_rfl)) rfl (fun x => by kernel_rfl)
def chacha_Quarter_ctr (N : Nat) : Ctr := ⟨chacha_Quarter_S0, chacha_Quarter_S0.un [false, false, false, false], 0, (fun y => chacha_Quarter N y.1.1 y.1.2.1 y.1.2.2.1 y.1.2.2.2.1)⟩
theorem chacha_Quarter_ctrs (N : Nat) : CtrsOk Tryd.prog (chacha_Quarter_C N) := ctrs_of (Γ := chacha_Quarter_C N) G_ifs_ok (by
 intro p hp
 simp only [chacha_Quarter_C, List.mem_cons, List.not_mem_nil, or_false] at hp
 rcases hp with rfl
 · exact math_bits_RotateLeft32_ok N)
theorem chacha_Quarter_ok (N : Nat) : Ctr.ok Tryd.prog G_globs 199 (chacha_Quarter_ctr N) :=
 ctr_fn (Γ := chacha_Quarter_C N) (rfit := chacha_Quarter_S0) (bs := [false, false, false, false]) (res := [8, 9, 10, 11]) (by kernel_rfl) (tys_ok G_tys_ok) (chacha_Quarter_ctrs N) Tryd.func199 (by kernel_rfl) (by kernel_rfl) Tryd.ntmps199 (by kernel_rfl) (by kernel_rfl) (by kernel_rfl) (by kernel_rfl) (fun E hb => chacha_Quarter_b N hb)
/-! ipsecgate/chacha.Block -/
abbrev chacha_Block_R : Type := ((Bool × Unit) × ((List UInt8) × Unit))
def chacha_Block_s7 (N : Nat) (t_26 : Int) (t_28 : (List (List Int))) (t_29 : Int) (first_8 : (List UInt32)) (s_10 : (List UInt32)) : Option (Lo ((Int × (List (List Int)) × Int × Unit) × ((List UInt32) × (List UInt32) × Unit)) ((Int × Unit) × ((List UInt32) × (List UInt32) × Unit)) (Lo ((Int × Unit) × ((List UInt32) × (List UInt32) × Unit)) ((Unit) × ((List UInt32) × (List UInt32) × Unit)) chacha_Block_R)) :=
 bif (decide (t_29 < (8 : Int))) then
 bif inR t_29 8 then
 let x5 := t_28.getD t_29.toNat (List.replicate 4 (0 : Int))
 let x6 := (x5.getD 0 (0 : Int))
 let x7 := (x5.getD 1 (0 : Int))
 let x8 := (x5.getD 2 (0 : Int))
 let x9 := (x5.getD 3 (0 : Int))
 let x10 := (x5.getD 0 (0 : Int))
 bif inR x10 16 then
 let x12 := (x5.getD 1 (0 : Int))
 bif inR x12 16 then
 let x14 := (x5.getD 2 (0 : Int))
 bif inR x14 16 then
 let x16 := (x5.getD 3 (0 : Int))
 bif inR x16 16 then
 Option.bind (chacha_Quarter N (s_10.getD x10.toNat (0 : UInt32)) (s_10.getD x12.toNat (0 : UInt32)) (s_10.getD x14.toNat (0 : UInt32)) (s_10.getD x16.toNat (0 : UInt32))) fun y18 =>
 bif inR x6 16 then
 bif inR x7 16 then
 bif inR x8 16 then
 bif inR x9 16 then
 some (.go ((t_26, t_28, (w64 (t_29 + (1 : Int))), ()), (first_8, ((((s_10.set x6.toNat y18.1.1).set x7.toNat y18.1.2.1).set x8.toNat y18.1.2.2.1).set x9.toNat y18.1.2.2.2.1), ())))
 else none
 else none
 else none
 else none
 else none
 else none
 else none
 else none
 else none
 else
 some (.br ((t_26, ()), (first_8, s_10, ())))
def chacha_Block_8 (N : Nat) (t_26 : Int) (first_8 : (List UInt32)) (s_10 : (List UInt32)) : Option (Lo ((Int × Unit) × ((List UInt32) × (List UInt32) × Unit)) ((Unit) × ((List UInt32) × (List UInt32) × Unit)) chacha_Block_R) :=
 some (.go (((w64 (t_26 + (1 : Int))), ()), (first_8, s_10, ())))
def chacha_Block_6 (N : Nat) (t_26 : Int) (t_28 : (List (List Int))) (t_29 : Int) (first_8 : (List UInt32)) (s_10 : (List UInt32)) : Option (Lo ((Int × Unit) × ((List UInt32) × (List UInt32) × Unit)) ((Unit) × ((List UInt32) × (List UInt32) × Unit)) chacha_Block_R) :=
 loopK N (fun y => chacha_Block_s7 N y.1.1 y.1.2.1 y.1.2.2.1 y.2.1 y.2.2.1) (fun (e : ((Int × Unit) × ((List UInt32) × (List UInt32) × Unit))) => chacha_Block_8 N e.1.1 e.2.1 e.2.2.1) ((t_26, t_28, t_29, ()), (first_8, s_10, ()))
def chacha_Block_5 (N : Nat) (t_26 : Int) (first_8 : (List UInt32)) (s_10 : (List UInt32)) : Option (Lo ((Int × Unit) × ((List UInt32) × (List UInt32) × Unit)) ((Unit) × ((List UInt32) × (List UInt32) × Unit)) chacha_Block_R) :=
 chacha_Block_6 N t_26 g_chacha_quarters (0 : Int) first_8 s_10
def chacha_Block_3 (N : Nat) (t_26 : Int) (first_8 : (List UInt32)) (s_10 : (List UInt32)) : Option (Lo ((Int × Unit) × ((List UInt32) × (List UInt32) × Unit)) ((Unit) × ((List UInt32) × (List UInt32) × Unit)) chacha_Block_R) :=
 chacha_Block_5 N t_26 first_8 s_10
def chacha_Block_s2 (N : Nat) (t_26 : Int) (first_8 : (List UInt32)) (s_10 : (List UInt32)) : Option (Lo ((Int × Unit) × ((List UInt32) × (List UInt32) × Unit)) ((Unit) × ((List UInt32) × (List UInt32) × Unit)) chacha_Block_R) :=
 bif (decide (t_26 < (10 : Int))) then
 chacha_Block_3 N t_26 first_8 s_10
 else
 some (.br ((()), (first_8, s_10, ())))
def chacha_Block_s11 (N : Nat) (t_68 : (List UInt32)) (t_69 : Int) (first_8 : (List UInt32)) (out_13 : (List UInt8)) : Option (Lo (((List UInt32) × Int × Unit) × ((List UInt32) × (List UInt8) × Unit)) ((Unit) × ((List UInt8) × Unit)) chacha_Block_R) :=
 bif (decide (t_69 < (16 : Int))) then
 bif inR t_69 16 then
 let x26 := t_68.getD t_69.toNat (0 : UInt32)
 bif inR t_69 16 then
 let x27 := (first_8.getD t_69.toNat (0 : UInt32))
 bif room (out_13.length + ([(x26 + x27).toUInt8, (shr32 (x26 + x27) 8).toUInt8, (shr32 (x26 + x27) 16).toUInt8, (shr32 (x26 + x27) 24).toUInt8] : List UInt8).length) 1 then
 some (.go ((t_68, (w64 (t_69 + (1 : Int))), ()), (first_8, (out_13 ++ ([(x26 + x27).toUInt8, (shr32 (x26 + x27) 8).toUInt8, (shr32 (x26 + x27) 16).toUInt8, (shr32 (x26 + x27) 24).toUInt8] : List UInt8)), ())))
 else none
 else none
 else none
 else
 some (.br ((()), (out_13, ())))
def chacha_Block_12 (N : Nat) (out_13 : (List UInt8)) : Option chacha_Block_R :=
 some ((true, ()), (out_13, ()))
def chacha_Block_10 (N : Nat) (t_68 : (List UInt32)) (t_69 : Int) (first_8 : (List UInt32)) (out_13 : (List UInt8)) : Option chacha_Block_R :=
 loopK N (fun y => chacha_Block_s11 N y.1.1 y.1.2.1 y.2.1 y.2.2.1) (fun (e : ((Unit) × ((List UInt8) × Unit))) => chacha_Block_12 N e.2.1) ((t_68, t_69, ()), (first_8, out_13, ()))
def chacha_Block_9 (N : Nat) (first_8 : (List UInt32)) (s_10 : (List UInt32)) : Option chacha_Block_R :=
 chacha_Block_10 N s_10 (0 : Int) first_8 ([] : List UInt8)
def chacha_Block_1 (N : Nat) (t_26 : Int) (first_8 : (List UInt32)) (s_10 : (List UInt32)) : Option chacha_Block_R :=
 loopK N (fun y => chacha_Block_s2 N y.1.1 y.2.1 y.2.2.1) (fun (e : ((Unit) × ((List UInt32) × (List UInt32) × Unit))) => chacha_Block_9 N e.2.1 e.2.2.1) ((t_26, ()), (first_8, s_10, ()))
def chacha_Block (N : Nat) (key_0 : (List UInt8)) (counter_1 : UInt32) (nonce_2 : (List UInt8)) : Option chacha_Block_R :=
 Option.bind (chacha_state N key_0 counter_1 nonce_2) fun y1 =>
 bif (!y1.1.2.1) then
 some ((false, ()), (([] : List UInt8), ()))
 else
 chacha_Block_1 N (0 : Int) y1.1.1 y1.1.1
def chacha_Block_C (N : Nat) : Ctx := ⟨94, G_tys, [(164, chacha_state_ctr N), (199, chacha_Quarter_ctr N)], G_globs, G_ifs⟩
def chacha_Block_S0 : Spec := ⟨[.ref 0 (.arr 16 .u32), .ref 1 (.arr 16 .u32), .val .i64, .val (.arr 8 (.arr 4 .i64)), .val .i64], [(.box 184 (.arr 16 .u32), .pos 0), (.box 184 (.arr 16 .u32), .pos 1)]⟩
def chacha_Block_S1 : Spec := ⟨[.ref 0 (.arr 16 .u32), .ref 1 (.arr 16 .u32), .val .i64], [(.box 184 (.arr 16 .u32), .pos 0), (.box 184 (.arr 16 .u32), .pos 1)]⟩
def chacha_Block_S2 : Spec := ⟨[.ref 0 (.arr 16 .u32), .row 1, .val (.arr 16 .u32), .val .i64], [(.box 184 (.arr 16 .u32), .pos 0), (.row 5 .u8, .pos 1)]⟩
def chacha_Block_S3 : Spec := ⟨[.row 0], [(.row 5 .u8, .pos 0)]⟩
def chacha_Block_S4 : Spec := ⟨[.ref 0 (.arr 16 .u32), .ref 1 (.arr 16 .u32)], [(.box 184 (.arr 16 .u32), .pos 0), (.box 184 (.arr 16 .u32), .pos 1)]⟩
def chacha_Block_S5 : Spec := ⟨[.val (.sl .u8), .val .u32, .val (.sl .u8)], []⟩
def chacha_Block_S6 : Spec := ⟨[.row 0, .val .bool], [(.row 5 .u8, .pos 0)]⟩
def chacha_Block_K (_N : Nat) : XE → GS → Option chacha_Block_R := retK 0 [6, 7] [false, false] chacha_Block_S6
def chacha_Block_L : List Code := (bodyOf (some Tryd.f165))
def chacha_Block_L2 : List Code := (loopOf (chacha_Block_L[6]?))
def chacha_Block_L4b : List Code := (blockOf (chacha_Block_L2[2]?))
def chacha_Block_L7 : List Code := (loopOf (chacha_Block_L4b[1]?))
def chacha_Block_L11 : List Code := (loopOf (chacha_Block_L[9]?))
def chacha_Block_K2 (N : Nat) : XE → GS → Option (Lo ((Int × Unit) × ((List UInt32) × (List UInt32) × Unit)) ((Unit) × ((List UInt32) × (List UInt32) × Unit)) chacha_Block_R) := roundK (some 0) (fit 0 [8, 10, 26] chacha_Block_S1) (fit 0 [8, 10] chacha_Block_S4) (chacha_Block_K N)
def chacha_Block_K11 (N : Nat) : XE → GS → Option (Lo (((List UInt32) × Int × Unit) × ((List UInt32) × (List UInt8) × Unit)) ((Unit) × ((List UInt8) × Unit)) chacha_Block_R) := roundK (some 4) (fit 0 [8, 13, 68, 69] chacha_Block_S2) (fit 0 [13] chacha_Block_S3) (chacha_Block_K N)
def chacha_Block_K4 (N : Nat) : XE → GS → Option (Lo ((Int × Unit) × ((List UInt32) × (List UInt32) × Unit)) ((Unit) × ((List UInt32) × (List UInt32) × Unit)) chacha_Block_R) := blockK 1 (goK 0 [8, 10, 26] chacha_Block_S1 (fun y => chacha_Block_8 N y.1.1 y.2.1 y.2.2.1)) (chacha_Block_K2 N)
def chacha_Block_K7 (N : Nat) : XE → GS → Option (Lo ((Int × (List (List Int)) × Int × Unit) × ((List UInt32) × (List UInt32) × Unit)) ((Int × Unit) × ((List UInt32) × (List UInt32) × Unit)) (Lo ((Int × Unit) × ((List UInt32) × (List UInt32) × Unit)) ((Unit) × ((List UInt32) × (List UInt32) × Unit)) chacha_Block_R)) := roundK (some 2) (fit 0 [8, 10, 26, 28, 29] chacha_Block_S0) (fit 0 [8, 10, 26] chacha_Block_S1) (chacha_Block_K4 N)
theorem chacha_Block_s7_b {E : Env} (N : Nat) (hb : Base Tryd.prog (chacha_Block_C N) E 0) : Blk Tryd.prog (chacha_Block_C N) E [8, 10, 26, 28, 29] chacha_Block_S0 (chacha_Block_L7.drop 0) (fun y => chacha_Block_s7 N y.1.1 y.1.2.1 y.1.2.2.1 y.2.1 y.2.2.1) (chacha_Block_K7 N) :=
 Blk.chunkAt hb 4 (X := (chacha_Block_K7 N .normal)) (NxOk.end (by kernel_rfl)) rfl (fun x => by kernel_rfl)
theorem chacha_Block_8_b {E : Env} (N : Nat) (hb : Base Tryd.prog (chacha_Block_C N) E 0) : Blk Tryd.prog (chacha_Block_C N) E [8, 10, 26] chacha_Block_S1 (chacha_Block_L2.drop 3) (fun y => chacha_Block_8 N y.1.1 y.2.1 y.2.2.1) (chacha_Block_K2 N) :=
 Blk.chunkAt hb 1 (X := (chacha_Block_K2 N .normal)) (NxOk.end (by kernel_rfl)) rfl (fun x => by kernel_rfl)
theorem chacha_Block_6_b {E : Env} (N : Nat) (hb : Base Tryd.prog (chacha_Block_C N) E 0) : Blk Tryd.prog (chacha_Block_C N) E [8, 10, 26, 28, 29] chacha_Block_S0 (chacha_Block_L4b.drop 1) (fun y => chacha_Block_6 N y.1.1 y.1.2.1 y.1.2.2.1 y.2.1 y.2.2.1) (chacha_Block_K4 N) :=
 Blk.loopAt (Nf := N) (hns := [8, 10, 26, 28, 29]) (ans := [8, 10, 26]) (hc := chacha_Block_S0) (ac := chacha_Block_S1) (bid := 2) (step := (fun y => chacha_Block_s7 N y.1.1 y.1.2.1 y.1.2.2.1 y.2.1 y.2.2.1)) (J := (fun e => (chacha_Block_K4 N .normal) (chacha_Block_S1.st [8, 10, 26] e))) hb (by kernel_rfl) (Blk.into (X := (chacha_Block_K4 N .normal)) (NxOk.end (by kernel_rfl)) (fun x => by kernel_rfl)) (chacha_Block_s7_b N hb) (fun x => by kernel_rfl)
theorem chacha_Block_5_b {E : Env} (N : Nat) (hb : Base Tryd.prog (chacha_Block_C N) E 0) : Blk Tryd.prog (chacha_Block_C N) E [8, 10, 26] chacha_Block_S1 (chacha_Block_L4b.drop 0) (fun y => chacha_Block_5 N y.1.1 y.2.1 y.2.2.1) (chacha_Block_K4 N) :=
 Blk.chunkAt hb 1 (X := (goK 0 [8, 10, 26, 28, 29] chacha_Block_S0 (fun y => chacha_Block_6 N y.1.1 y.1.2.1 y.1.2.2.1 y.2.1 y.2.2.1))) (NxOk.go hb (chacha_Block_6_b N hb)) rfl (fun x => by kernel_rfl)
theorem chacha_Block_3_b {E : Env} (N : Nat) (hb : Base Tryd.prog (chacha_Block_C N) E 0) : Blk Tryd.prog (chacha_Block_C N) E [8, 10, 26] chacha_Block_S1 (chacha_Block_L2.drop 2) (fun y => chacha_Block_3 N y.1.1 y.2.1 y.2.2.1) (chacha_Block_K2 N) :=
 Blk.blockAt (bid := 1) (X := (goK 0 [8, 10, 26] chacha_Block_S1 (fun y => chacha_Block_8 N y.1.1 y.2.1 y.2.2.1))) (Y := (goK 0 [8, 10, 26] chacha_Block_S1 (fun y => chacha_Block_5 N y.1.1 y.2.1 y.2.2.1))) (by kernel_rfl) (NxOk.go hb (chacha_Block_8_b N hb)) (NxOk.go hb (chacha_Block_5_b N hb)) (fun x => by kernel_rfl)
theorem chacha_Block_s2_b {E : Env} (N : Nat) (hb : Base Tryd.prog (chacha_Block_C N) E 0) : Blk Tryd.prog (chacha_Block_C N) E [8, 10, 26] chacha_Block_S1 (chacha_Block_L2.drop 0) (fun y => chacha_Block_s2 N y.1.1 y.2.1 y.2.2.1) (chacha_Block_K2 N) :=
 Blk.chunkAt hb 2 (X := (goK 0 [8, 10, 26] chacha_Block_S1 (fun y => chacha_Block_3 N y.1.1 y.2.1 y.2.2.1))) (NxOk.go hb (chacha_Block_3_b N hb)) rfl (fun x => by kernel_rfl)
theorem chacha_Block_s11_b {E : Env} (N : Nat) (hb : Base Tryd.prog (chacha_Block_C N) E 0) : Blk Tryd.prog (chacha_Block_C N) E [8, 13, 68, 69] chacha_Block_S2 (chacha_Block_L11.drop 0) (fun y => chacha_Block_s11 N y.1.1 y.1.2.1 y.2.1 y.2.2.1) (chacha_Block_K11 N) :=
 Blk.chunkAt hb 4 (X := (chacha_Block_K11 N .normal)) (NxOk.end (by kernel_rfl)) rfl (fun x => by kernel_rfl)
theorem chacha_Block_12_b {E : Env} (N : Nat) (hb : Base Tryd.prog (chacha_Block_C N) E 0) : Blk Tryd.prog (chacha_Block_C N) E [13] chacha_Block_S3 (chacha_Block_L.drop 10) (fun y => chacha_Block_12 N y.2.1) (chacha_Block_K N) :=
 Blk.chunkAt hb 2 (X := (chacha_Block_K N .normal)) (NxOk.end (by kernel_rfl)) rfl (fun x => by kernel_rfl)
theorem chacha_Block_10_b {E : Env} (N : Nat) (hb : Base Tryd.prog (chacha_Block_C N) E 0) : Blk Tryd.prog (chacha_Block_C N) E [8, 13, 68, 69] chacha_Block_S2 (chacha_Block_L.drop 9) (fun y => chacha_Block_10 N y.1.1 y.1.2.1 y.2.1 y.2.2.1) (chacha_Block_K N) :=
 Blk.loopAt (Nf := N) (hns := [8, 13, 68, 69]) (ans := [13]) (hc := chacha_Block_S2) (ac := chacha_Block_S3) (bid := 4) (step := (fun y => chacha_Block_s11 N y.1.1 y.1.2.1 y.2.1 y.2.2.1)) (J := (fun e => (goK 0 [13] chacha_Block_S3 (fun y => chacha_Block_12 N y.2.1)) (chacha_Block_S3.st [13] e))) hb (by kernel_rfl) (Blk.into (X := (goK 0 [13] chacha_Block_S3 (fun y => chacha_Block_12 N y.2.1))) (NxOk.go hb (chacha_Block_12_b N hb)) (fun x => by kernel_rfl)) (chacha_Block_s11_b N hb) (fun x => by kernel_rfl)
theorem chacha_Block_9_b {E : Env} (N : Nat) (hb : Base Tryd.prog (chacha_Block_C N) E 0) : Blk Tryd.prog (chacha_Block_C N) E [8, 10] chacha_Block_S4 (chacha_Block_L.drop 7) (fun y => chacha_Block_9 N y.2.1 y.2.2.1) (chacha_Block_K N) :=
 Blk.chunkAt hb 2 (X := (goK 0 [8, 13, 68, 69] chacha_Block_S2 (fun y => chacha_Block_10 N y.1.1 y.1.2.1 y.2.1 y.2.2.1))) (NxOk.go hb (chacha_Block_10_b N hb)) rfl (fun x => by kernel_rfl)
theorem chacha_Block_1_b {E : Env} (N : Nat) (hb : Base Tryd.prog (chacha_Block_C N) E 0) : Blk Tryd.prog (chacha_Block_C N) E [8, 10, 26] chacha_Block_S1 (chacha_Block_L.drop 6) (fun y => chacha_Block_1 N y.1.1 y.2.1 y.2.2.1) (chacha_Block_K N) :=
 Blk.loopAt (Nf := N) (hns := [8, 10, 26]) (ans := [8, 10]) (hc := chacha_Block_S1) (ac := chacha_Block_S4) (bid := 0) (step := (fun y => chacha_Block_s2 N y.1.1 y.2.1 y.2.2.1)) (J := (fun e => (goK 0 [8, 10] chacha_Block_S4 (fun y => chacha_Block_9 N y.2.1 y.2.2.1)) (chacha_Block_S4.st [8, 10] e))) hb (by kernel_rfl) (Blk.into (X := (goK 0 [8, 10] chacha_Block_S4 (fun y => chacha_Block_9 N y.2.1 y.2.2.1))) (NxOk.go hb (chacha_Block_9_b N hb)) (fun x => by kernel_rfl)) (chacha_Block_s2_b N hb) (fun x => by kernel_rfl)
theorem chacha_Block_b {E : Env} (N : Nat) (hb : Base Tryd.prog (chacha_Block_C N) E 0) : Blk Tryd.prog (chacha_Block_C N) E (List.range chacha_Block_S5.ks.length) chacha_Block_S5 (chacha_Block_L.drop 0) (fun y => chacha_Block N y.1.1 y.1.2.1 y.1.2.2.1) (chacha_Block_K N) :=
 Blk.chunkAt hb 6 (X := (goK 0 [8, 10, 26] chacha_Block_S1 (fun y => chacha_Block_1 N y.1.1 y.2.1 y.2.2.1))) (NxOk.go hb (chacha_Block_1_b N hb)) rfl (fun x => by kernel_rfl)
def chacha_Block_ctr (N : Nat) : Ctr := ⟨chacha_Block_S5, chacha_Block_S6.un [false, false], 0, (fun y => chacha_Block N y.1.1 y.1.2.1 y.1.2.2.1)⟩
theorem chacha_Block_ctrs (N : Nat) : CtrsOk Tryd.prog (chacha_Block_C N) := ctrs_of (Γ := chacha_Block_C N) G_ifs_ok (by
 intro p hp
 simp only [chacha_Block_C, List.mem_cons, List.not_mem_nil, or_false] at hp
 rcases hp with rfl | rfl
 · exact chacha_state_ok N
 · exact chacha_Quarter_ok N)
theorem chacha_Block_ok (N : Nat) : Ctr.ok Tryd.prog G_globs 165 (chacha_Block_ctr N) :=
 ctr_fn (Γ := chacha_Block_C N) (rfit := chacha_Block_S6) (bs := [false, false]) (res := [6, 7]) (by kernel_rfl) (tys_ok G_tys_ok) (chacha_Block_ctrs N) Tryd.func165 (by kernel_rfl) (by kernel_rfl) Tryd.ntmps165 (by kernel_rfl) (by kernel_rfl) (by kernel_rfl) (by kernel_rfl) (fun E hb => chacha_Block_b N hb)
/-! ipsecgate/chacha.Xor -/
abbrev chacha_Xor_R : Type := ((Bool × Unit) × ((List UInt8) × Unit))
def chacha_Xor_s2 (N : Nat) (key_0 : (List UInt8)) (counter_1 : UInt32) (nonce_2 : (List UInt8)) (t_25 : (List UInt8)) (t_26 : Int) (t_27 : Int) (out_12 : (List UInt8)) (mask_13 : (List UInt8)) : Option (Lo (((List UInt8) × UInt32 × (List UInt8) × (List UInt8) × Int × Int × Unit) × ((List UInt8) × (List UInt8) × Unit)) ((Unit) × ((List UInt8) × Unit)) chacha_Xor_R) :=
 bif (decide (t_27 < t_26)) then
 bif inR t_27 t_25.length then
 let x5 := t_25.getD t_27.toNat (0 : UInt8)
 bif (decide ((t_27.tmod (64 : Int)) = (0 : Int))) then
 Option.bind (chacha_Block N key_0 counter_1 nonce_2) fun y8 =>
 let x10 := t_27.tmod (64 : Int)
 bif inR x10 y8.2.1.length then
 let x11 := (y8.2.1.getD x10.toNat (0 : UInt8))
 bif room (out_12.length + ([(x5 ^^^ x11)] : List UInt8).length) 1 then
 some (.go ((key_0, (counter_1 + (1 : UInt32)), nonce_2, t_25, t_26, (w64 (t_27 + (1 : Int))), ()), ((out_12 ++ ([(x5 ^^^ x11)] : List UInt8)), y8.2.1, ())))
 else none
 else none
 else
 let x15 := t_27.tmod (64 : Int)
 bif inR x15 mask_13.length then
 let x16 := (mask_13.getD x15.toNat (0 : UInt8))
 bif room (out_12.length + ([(x5 ^^^ x16)] : List UInt8).length) 1 then
 some (.go ((key_0, counter_1, nonce_2, t_25, t_26, (w64 (t_27 + (1 : Int))), ()), ((out_12 ++ ([(x5 ^^^ x16)] : List UInt8)), mask_13, ())))
 else none
 else none
 else none
 else
 some (.br ((()), (out_12, ())))
def chacha_Xor_3 (N : Nat) (out_12 : (List UInt8)) : Option chacha_Xor_R :=
 some ((true, ()), (out_12, ()))
def chacha_Xor_1 (N : Nat) (key_0 : (List UInt8)) (counter_1 : UInt32) (nonce_2 : (List UInt8)) (t_25 : (List UInt8)) (t_26 : Int) (t_27 : Int) (out_12 : (List UInt8)) (mask_13 : (List UInt8)) : Option chacha_Xor_R :=
 loopK N (fun y => chacha_Xor_s2 N y.1.1 y.1.2.1 y.1.2.2.1 y.1.2.2.2.1 y.1.2.2.2.2.1 y.1.2.2.2.2.2.1 y.2.1 y.2.2.1) (fun (e : ((Unit) × ((List UInt8) × Unit))) => chacha_Xor_3 N e.2.1) ((key_0, counter_1, nonce_2, t_25, t_26, t_27, ()), (out_12, mask_13, ()))
def chacha_Xor (N : Nat) (key_0 : (List UInt8)) (counter_1 : UInt32) (nonce_2 : (List UInt8)) (b_3 : (List UInt8)) : Option chacha_Xor_R :=
 Option.bind (chacha_state N key_0 counter_1 nonce_2) fun y1 =>
 bif (!y1.1.2.1) then
 some ((false, ()), (([] : List UInt8), ()))
 else
 chacha_Xor_1 N key_0 counter_1 nonce_2 b_3 (b_3.length : Int) (0 : Int) ([] : List UInt8) ([] : List UInt8)
def chacha_Xor_C (N : Nat) : Ctx := ⟨56, G_tys, [(164, chacha_state_ctr N), (165, chacha_Block_ctr N)], G_globs, G_ifs⟩
def chacha_Xor_S0 : Spec := ⟨[.val (.sl .u8), .val .u32, .val (.sl .u8), .row 0, .row 1, .val (.sl .u8), .val .i64, .val .i64], [(.row 5 .u8, .pos 3), (.row 5 .u8, .pos 4)]⟩
def chacha_Xor_S1 : Spec := ⟨[.row 0], [(.row 5 .u8, .pos 0)]⟩
def chacha_Xor_S2 : Spec := ⟨[.val (.sl .u8), .val .u32, .val (.sl .u8), .val (.sl .u8)], []⟩
def chacha_Xor_S3 : Spec := ⟨[.row 0, .val .bool], [(.row 5 .u8, .pos 0)]⟩
def chacha_Xor_K (_N : Nat) : XE → GS → Option chacha_Xor_R := retK 0 [8, 9] [false, false] chacha_Xor_S3
def chacha_Xor_L : List Code := (bodyOf (some Tryd.f120))
def chacha_Xor_L2 : List Code := (loopOf (chacha_Xor_L[6]?))
def chacha_Xor_K2 (N : Nat) : XE → GS → Option (Lo (((List UInt8) × UInt32 × (List UInt8) × (List UInt8) × Int × Int × Unit) × ((List UInt8) × (List UInt8) × Unit)) ((Unit) × ((List UInt8) × Unit)) chacha_Xor_R) := roundK (some 0) (fit 0 [0, 1, 2, 12, 13, 25, 26, 27] chacha_Xor_S0) (fit 0 [12] chacha_Xor_S1) (chacha_Xor_K N)
theorem chacha_Xor_s2_b {E : Env} (N : Nat) (hb : Base Tryd.prog (chacha_Xor_C N) E 0) : Blk Tryd.prog (chacha_Xor_C N) E [0, 1, 2, 12, 13, 25, 26, 27] chacha_Xor_S0 (chacha_Xor_L2.drop 0) (fun y => chacha_Xor_s2 N y.1.1 y.1.2.1 y.1.2.2.1 y.1.2.2.2.1 y.1.2.2.2.2.1 y.1.2.2.2.2.2.1 y.2.1 y.2.2.1) (chacha_Xor_K2 N) :=
 Blk.chunkAt hb 4 (X := (chacha_Xor_K2 N .normal)) (NxOk.end (by kernel_rfl)) rfl (fun x => by kernel_rfl)
theorem chacha_Xor_3_b {E : Env} (N : Nat) (hb : Base Tryd.prog (chacha_Xor_C N) E 0) : Blk Tryd.prog (chacha_Xor_C N) E [12] chacha_Xor_S1 (chacha_Xor_L.drop 7) (fun y => chacha_Xor_3 N y.2.1) (chacha_Xor_K N) :=
 Blk.chunkAt hb 2 (X := (chacha_Xor_K N .normal)) (NxOk.end (by kernel_rfl)) rfl (fun x => by kernel_rfl)
theorem chacha_Xor_1_b {E : Env} (N : Nat) (hb : Base Tryd.prog (chacha_Xor_C N) E 0) : Blk Tryd.prog (chacha_Xor_C N) E [0, 1, 2, 12, 13, 25, 26, 27] chacha_Xor_S0 (chacha_Xor_L.drop 6) (fun y => chacha_Xor_1 N y.1.1 y.1.2.1 y.1.2.2.1 y.1.2.2.2.1 y.1.2.2.2.2.1 y.1.2.2.2.2.2.1 y.2.1 y.2.2.1) (chacha_Xor_K N) :=
 Blk.loopAt (Nf := N) (hns := [0, 1, 2, 12, 13, 25, 26, 27]) (ans := [12]) (hc := chacha_Xor_S0) (ac := chacha_Xor_S1) (bid := 0) (step := (fun y => chacha_Xor_s2 N y.1.1 y.1.2.1 y.1.2.2.1 y.1.2.2.2.1 y.1.2.2.2.2.1 y.1.2.2.2.2.2.1 y.2.1 y.2.2.1)) (J := (fun e => (goK 0 [12] chacha_Xor_S1 (fun y => chacha_Xor_3 N y.2.1)) (chacha_Xor_S1.st [12] e))) hb (by kernel_rfl) (Blk.into (X := (goK 0 [12] chacha_Xor_S1 (fun y => chacha_Xor_3 N y.2.1))) (NxOk.go hb (chacha_Xor_3_b N hb)) (fun x => by kernel_rfl)) (chacha_Xor_s2_b N hb) (fun x => by kernel_rfl)
theorem chacha_Xor_b {E : Env} (N : Nat) (hb : Base Tryd.prog (chacha_Xor_C N) E 0) : Blk Tryd.prog (chacha_Xor_C N) E (List.range chacha_Xor_S2.ks.length) chacha_Xor_S2 (chacha_Xor_L.drop 0) (fun y => chacha_Xor N y.1.1 y.1.2.1 y.1.2.2.1 y.1.2.2.2.1) (chacha_Xor_K N) :=
 Blk.chunkAt hb 6 (X := (goK 0 [0, 1, 2, 12, 13, 25, 26, 27] chacha_Xor_S0 (fun y => chacha_Xor_1 N y.1.1 y.1.2.1 y.1.2.2.1 y.1.2.2.2.1 y.1.2.2.2.2.1 y.1.2.2.2.2.2.1 y.2.1 y.2.2.1))) (NxOk.go hb (chacha_Xor_1_b N hb)) rfl (fun x => by kernel_rfl)
def chacha_Xor_ctr (N : Nat) : Ctr := ⟨chacha_Xor_S2, chacha_Xor_S3.un [false, false], 0, (fun y => chacha_Xor N y.1.1 y.1.2.1 y.1.2.2.1 y.1.2.2.2.1)⟩
theorem chacha_Xor_ctrs (N : Nat) : CtrsOk Tryd.prog (chacha_Xor_C N) := ctrs_of (Γ := chacha_Xor_C N) G_ifs_ok (by
 intro p hp
 simp only [chacha_Xor_C, List.mem_cons, List.not_mem_nil, or_false] at hp
 rcases hp with rfl | rfl
 · exact chacha_state_ok N
 · exact chacha_Block_ok N)
theorem chacha_Xor_ok (N : Nat) : Ctr.ok Tryd.prog G_globs 120 (chacha_Xor_ctr N) :=
 ctr_fn (Γ := chacha_Xor_C N) (rfit := chacha_Xor_S3) (bs := [false, false]) (res := [8, 9]) (by kernel_rfl) (tys_ok G_tys_ok) (chacha_Xor_ctrs N) Tryd.func120 (by kernel_rfl) (by kernel_rfl) Tryd.ntmps120 (by kernel_rfl) (by kernel_rfl) (by kernel_rfl) (by kernel_rfl) (fun E hb => chacha_Xor_b N hb)
/-! ipsecgate/aead.padded -/
abbrev aead_padded_R : Type := ((Unit) × ((List UInt8) × Unit))
def aead_padded (N : Nat) (b_1 : (List UInt8)) (l_0 : (List UInt8)) : Option aead_padded_R :=
 bif room (l_0.length + b_1.length) 1 then
 let x5 := (w64 ((16 : Int) - ((b_1.length : Int).tmod (16 : Int)))).tmod (16 : Int)
 bif decide (0 ≤ x5) then
 bif room ((l_0 ++ b_1).length + (List.replicate x5.toNat (0 : UInt8)).length) 1 then
 some ((()), (((l_0 ++ b_1) ++ (List.replicate x5.toNat (0 : UInt8))), ()))
 else none
 else none
 else none
def aead_padded_C (N : Nat) : Ctx := ⟨15, G_tys, [], G_globs, G_ifs⟩
def aead_padded_S0 : Spec := ⟨[.row 0, .val (.sl .u8)], [(.row 5 .u8, .pos 0)]⟩
def aead_padded_S1 : Spec := ⟨[.row 0], [(.row 5 .u8, .pos 0)]⟩
def aead_padded_K (_N : Nat) : XE → GS → Option aead_padded_R := retK 0 [4] [false] aead_padded_S1
def aead_padded_L : List Code := (bodyOf (some Tryd.f166))
theorem aead_padded_b {E : Env} (N : Nat) (hb : Base Tryd.prog (aead_padded_C N) E 0) : Blk Tryd.prog (aead_padded_C N) E (List.range aead_padded_S0.ks.length) aead_padded_S0 (aead_padded_L.drop 0) (fun y => aead_padded N y.1.1 y.2.1) (aead_padded_K N) :=
 Blk.chunkAt hb 4 (X := (aead_padded_K N .normal)) (NxOk.end (by kernel_rfl)) rfl (fun x => by kernel_rfl)
def aead_padded_ctr (N : Nat) : Ctr := ⟨aead_padded_S0, aead_padded_S1.un [false], 0, (fun y => aead_padded N y.1.1 y.2.1)⟩
theorem aead_padded_ctrs (N : Nat) : CtrsOk Tryd.prog (aead_padded_C N) := ctrs_nil G_ifs_ok rfl
theorem aead_padded_ok (N : Nat) : Ctr.ok Tryd.prog G_globs 166 (aead_padded_ctr N) :=
 ctr_fn (Γ := aead_padded_C N) (rfit := aead_padded_S1) (bs := [false]) (res := [4]) (by kernel_rfl) (tys_ok G_tys_ok) (aead_padded_ctrs N) Tryd.func166 (by kernel_rfl) (by kernel_rfl) Tryd.ntmps166 (by kernel_rfl) (by kernel_rfl) (by kernel_rfl) (by kernel_rfl) (fun E hb => aead_padded_b N hb)
/-! ipsecgate/aead.length -/
abbrev aead_length_R : Type := ((Unit) × ((List UInt8) × Unit))
def aead_length_s2 (N : Nat) (n_1 : Int) (t_6 : Int) (l_0 : (List UInt8)) : Option (Lo ((Int × Int × Unit) × ((List UInt8) × Unit)) ((Unit) × ((List UInt8) × Unit)) aead_length_R) :=
 bif (decide (t_6 < (8 : Int))) then
 let x3 := w64 ((8 : Int) * t_6)
 bif decide (0 ≤ x3) then
 let x4 := shr64 (iu64 n_1) x3.toNat
 bif room (l_0.length + ([x4.toUInt8] : List UInt8).length) 1 then
 some (.go ((n_1, (w64 (t_6 + (1 : Int))), ()), ((l_0 ++ ([x4.toUInt8] : List UInt8)), ())))
 else none
 else none
 else
 some (.br ((()), (l_0, ())))
def aead_length_3 (N : Nat) (l_0 : (List UInt8)) : Option aead_length_R :=
 some ((()), (l_0, ()))
def aead_length_1 (N : Nat) (n_1 : Int) (t_6 : Int) (l_0 : (List UInt8)) : Option aead_length_R :=
 loopK N (fun y => aead_length_s2 N y.1.1 y.1.2.1 y.2.1) (fun (e : ((Unit) × ((List UInt8) × Unit))) => aead_length_3 N e.2.1) ((n_1, t_6, ()), (l_0, ()))
def aead_length (N : Nat) (n_1 : Int) (l_0 : (List UInt8)) : Option aead_length_R :=
 aead_length_1 N n_1 (0 : Int) l_0
def aead_length_C (N : Nat) : Ctx := ⟨20, G_tys, [], G_globs, G_ifs⟩
def aead_length_S0 : Spec := ⟨[.row 0, .val .i64, .val .i64], [(.row 5 .u8, .pos 0)]⟩
def aead_length_S1 : Spec := ⟨[.row 0], [(.row 5 .u8, .pos 0)]⟩
def aead_length_S2 : Spec := ⟨[.row 0, .val .i64], [(.row 5 .u8, .pos 0)]⟩
def aead_length_K (_N : Nat) : XE → GS → Option aead_length_R := retK 0 [4] [false] aead_length_S1
def aead_length_L : List Code := (bodyOf (some Tryd.f168))
def aead_length_L2 : List Code := (loopOf (aead_length_L[2]?))
def aead_length_K2 (N : Nat) : XE → GS → Option (Lo ((Int × Int × Unit) × ((List UInt8) × Unit)) ((Unit) × ((List UInt8) × Unit)) aead_length_R) := roundK (some 0) (fit 0 [0, 1, 6] aead_length_S0) (fit 0 [0] aead_length_S1) (aead_length_K N)
theorem aead_length_s2_b {E : Env} (N : Nat) (hb : Base Tryd.prog (aead_length_C N) E 0) : Blk Tryd.prog (aead_length_C N) E [0, 1, 6] aead_length_S0 (aead_length_L2.drop 0) (fun y => aead_length_s2 N y.1.1 y.1.2.1 y.2.1) (aead_length_K2 N) :=
 Blk.chunkAt hb 4 (X := (aead_length_K2 N .normal)) (NxOk.end (by kernel_rfl)) rfl (fun x => by kernel_rfl)
theorem aead_length_3_b {E : Env} (N : Nat) (hb : Base Tryd.prog (aead_length_C N) E 0) : Blk Tryd.prog (aead_length_C N) E [0] aead_length_S1 (aead_length_L.drop 3) (fun y => aead_length_3 N y.2.1) (aead_length_K N) :=
 Blk.chunkAt hb 2 (X := (aead_length_K N .normal)) (NxOk.end (by kernel_rfl)) rfl (fun x => by kernel_rfl)
theorem aead_length_1_b {E : Env} (N : Nat) (hb : Base Tryd.prog (aead_length_C N) E 0) : Blk Tryd.prog (aead_length_C N) E [0, 1, 6] aead_length_S0 (aead_length_L.drop 2) (fun y => aead_length_1 N y.1.1 y.1.2.1 y.2.1) (aead_length_K N) :=
 Blk.loopAt (Nf := N) (hns := [0, 1, 6]) (ans := [0]) (hc := aead_length_S0) (ac := aead_length_S1) (bid := 0) (step := (fun y => aead_length_s2 N y.1.1 y.1.2.1 y.2.1)) (J := (fun e => (goK 0 [0] aead_length_S1 (fun y => aead_length_3 N y.2.1)) (aead_length_S1.st [0] e))) hb (by kernel_rfl) (Blk.into (X := (goK 0 [0] aead_length_S1 (fun y => aead_length_3 N y.2.1))) (NxOk.go hb (aead_length_3_b N hb)) (fun x => by kernel_rfl)) (aead_length_s2_b N hb) (fun x => by kernel_rfl)
theorem aead_length_b {E : Env} (N : Nat) (hb : Base Tryd.prog (aead_length_C N) E 0) : Blk Tryd.prog (aead_length_C N) E (List.range aead_length_S2.ks.length) aead_length_S2 (aead_length_L.drop 0) (fun y => aead_length N y.1.1 y.2.1) (aead_length_K N) :=
 Blk.chunkAt hb 2 (X := (goK 0 [0, 1, 6] aead_length_S0 (fun y => aead_length_1 N y.1.1 y.1.2.1 y.2.1))) (NxOk.go hb (aead_length_1_b N hb)) rfl (fun x => by kernel_rfl)
def aead_length_ctr (N : Nat) : Ctr := ⟨aead_length_S2, aead_length_S1.un [false], 0, (fun y => aead_length N y.1.1 y.2.1)⟩
theorem aead_length_ctrs (N : Nat) : CtrsOk Tryd.prog (aead_length_C N) := ctrs_nil G_ifs_ok rfl
theorem aead_length_ok (N : Nat) : Ctr.ok Tryd.prog G_globs 168 (aead_length_ctr N) :=
 ctr_fn (Γ := aead_length_C N) (rfit := aead_length_S1) (bs := [false]) (res := [4]) (by kernel_rfl) (tys_ok G_tys_ok) (aead_length_ctrs N) Tryd.func168 (by kernel_rfl) (by kernel_rfl) Tryd.ntmps168 (by kernel_rfl) (by kernel_rfl) (by kernel_rfl) (by kernel_rfl) (fun E hb => aead_length_b N hb)
/-! ipsecgate/poly1305.clamp -/
abbrev poly1305_clamp_R : Type := ((Unit) × ((List UInt8) × Unit))
def poly1305_clamp_s2 (N : Nat) (t_8 : Int) (t_9 : Int) (r_3 : (List UInt8)) : Option (Lo ((Int × Int × Unit) × ((List UInt8) × Unit)) ((Unit) × ((List UInt8) × Unit)) poly1305_clamp_R) :=
 bif (decide (t_9 < t_8)) then
 bif (decide ((t_9.tmod (4 : Int)) = (3 : Int))) then
 bif inR t_9 r_3.length then
 bif inR t_9 r_3.length then
 let x7 := (r_3.set t_9.toNat ((r_3.getD t_9.toNat (0 : UInt8)) &&& (15 : UInt8)))
 bif (decide ((t_9.tmod (4 : Int)) = (0 : Int))) then
 bif (decide ((0 : Int) < t_9)) then
 bif inR t_9 x7.length then
 bif inR t_9 x7.length then
 some (.go ((t_8, (w64 (t_9 + (1 : Int))), ()), ((x7.set t_9.toNat ((x7.getD t_9.toNat (0 : UInt8)) &&& (252 : UInt8))), ())))
 else none
 else none
 else
 some (.go ((t_8, (w64 (t_9 + (1 : Int))), ()), (x7, ())))
 else
 some (.go ((t_8, (w64 (t_9 + (1 : Int))), ()), (x7, ())))
 else none
 else none
 else
 bif (decide ((t_9.tmod (4 : Int)) = (0 : Int))) then
 bif (decide ((0 : Int) < t_9)) then
 bif inR t_9 r_3.length then
 bif inR t_9 r_3.length then
 some (.go ((t_8, (w64 (t_9 + (1 : Int))), ()), ((r_3.set t_9.toNat ((r_3.getD t_9.toNat (0 : UInt8)) &&& (252 : UInt8))), ())))
 else none
 else none
 else
 some (.go ((t_8, (w64 (t_9 + (1 : Int))), ()), (r_3, ())))
 else
 some (.go ((t_8, (w64 (t_9 + (1 : Int))), ()), (r_3, ())))
 else
 some (.br ((()), (r_3, ())))
def poly1305_clamp_3 (N : Nat) (r_3 : (List UInt8)) : Option poly1305_clamp_R :=
 some ((()), (r_3, ()))
def poly1305_clamp_1 (N : Nat) (t_8 : Int) (t_9 : Int) (r_3 : (List UInt8)) : Option poly1305_clamp_R :=
 loopK N (fun y => poly1305_clamp_s2 N y.1.1 y.1.2.1 y.2.1) (fun (e : ((Unit) × ((List UInt8) × Unit))) => poly1305_clamp_3 N e.2.1) ((t_8, t_9, ()), (r_3, ()))
def poly1305_clamp (N : Nat) (key_0 : (List UInt8)) : Option poly1305_clamp_R :=
 bif room (0 + key_0.length) 1 then
 poly1305_clamp_1 N (key_0.length : Int) (0 : Int) key_0
 else none
def poly1305_clamp_C (N : Nat) : Ctx := ⟨36, G_tys, [], G_globs, G_ifs⟩
def poly1305_clamp_S0 : Spec := ⟨[.row 0, .val .i64, .val .i64], [(.row 5 .u8, .pos 0)]⟩
def poly1305_clamp_S1 : Spec := ⟨[.row 0], [(.row 5 .u8, .pos 0)]⟩
def poly1305_clamp_S2 : Spec := ⟨[.val (.sl .u8)], []⟩
def poly1305_clamp_K (_N : Nat) : XE → GS → Option poly1305_clamp_R := retK 0 [2] [false] poly1305_clamp_S1
def poly1305_clamp_L : List Code := (bodyOf (some Tryd.f201))
def poly1305_clamp_L2 : List Code := (loopOf (poly1305_clamp_L[3]?))
def poly1305_clamp_K2 (N : Nat) : XE → GS → Option (Lo ((Int × Int × Unit) × ((List UInt8) × Unit)) ((Unit) × ((List UInt8) × Unit)) poly1305_clamp_R) := roundK (some 0) (fit 0 [3, 8, 9] poly1305_clamp_S0) (fit 0 [3] poly1305_clamp_S1) (poly1305_clamp_K N)
theorem poly1305_clamp_s2_b {E : Env} (N : Nat) (hb : Base Tryd.prog (poly1305_clamp_C N) E 0) : Blk Tryd.prog (poly1305_clamp_C N) E [3, 8, 9] poly1305_clamp_S0 (poly1305_clamp_L2.drop 0) (fun y => poly1305_clamp_s2 N y.1.1 y.1.2.1 y.2.1) (poly1305_clamp_K2 N) :=
 Blk.chunkAt hb 4 (X := (poly1305_clamp_K2 N .normal)) (NxOk.end (by kernel_rfl)) rfl (fun x => by kernel_rfl)
theorem poly1305_clamp_3_b {E : Env} (N : Nat) (hb : Base Tryd.prog (poly1305_clamp_C N) E 0) : Blk Tryd.prog (poly1305_clamp_C N) E [3] poly1305_clamp_S1 (poly1305_clamp_L.drop 4) (fun y => poly1305_clamp_3 N y.2.1) (poly1305_clamp_K N) :=
 Blk.chunkAt hb 2 (X := (poly1305_clamp_K N .normal)) (NxOk.end (by kernel_rfl)) rfl (fun x => by kernel_rfl)
theorem poly1305_clamp_1_b {E : Env} (N : Nat) (hb : Base Tryd.prog (poly1305_clamp_C N) E 0) : Blk Tryd.prog (poly1305_clamp_C N) E [3, 8, 9] poly1305_clamp_S0 (poly1305_clamp_L.drop 3) (fun y => poly1305_clamp_1 N y.1.1 y.1.2.1 y.2.1) (poly1305_clamp_K N) :=
 Blk.loopAt (Nf := N) (hns := [3, 8, 9]) (ans := [3]) (hc := poly1305_clamp_S0) (ac := poly1305_clamp_S1) (bid := 0) (step := (fun y => poly1305_clamp_s2 N y.1.1 y.1.2.1 y.2.1)) (J := (fun e => (goK 0 [3] poly1305_clamp_S1 (fun y => poly1305_clamp_3 N y.2.1)) (poly1305_clamp_S1.st [3] e))) hb (by kernel_rfl) (Blk.into (X := (goK 0 [3] poly1305_clamp_S1 (fun y => poly1305_clamp_3 N y.2.1))) (NxOk.go hb (poly1305_clamp_3_b N hb)) (fun x => by kernel_rfl)) (poly1305_clamp_s2_b N hb) (fun x => by kernel_rfl)
theorem poly1305_clamp_b {E : Env} (N : Nat) (hb : Base Tryd.prog (poly1305_clamp_C N) E 0) : Blk Tryd.prog (poly1305_clamp_C N) E (List.range poly1305_clamp_S2.ks.length) poly1305_clamp_S2 (poly1305_clamp_L.drop 0) (fun y => poly1305_clamp N y.1.1) (poly1305_clamp_K N) :=
 Blk.chunkAt hb 3 (X := (goK 0 [3, 8, 9] poly1305_clamp_S0 (fun y => poly1305_clamp_1 N y.1.1 y.1.2.1 y.2.1))) (NxOk.go hb (poly1305_clamp_1_b N hb)) rfl (fun x => by kernel_rfl)
def poly1305_clamp_ctr (N : Nat) : Ctr := ⟨poly1305_clamp_S2, poly1305_clamp_S1.un [false], 0, (fun y => poly1305_clamp N y.1.1)⟩
theorem poly1305_clamp_ctrs (N : Nat) : CtrsOk Tryd.prog (poly1305_clamp_C N) := ctrs_nil G_ifs_ok rfl
theorem poly1305_clamp_ok (N : Nat) : Ctr.ok Tryd.prog G_globs 201 (poly1305_clamp_ctr N) :=
 ctr_fn (Γ := poly1305_clamp_C N) (rfit := poly1305_clamp_S1) (bs := [false]) (res := [2]) (by kernel_rfl) (tys_ok G_tys_ok) (poly1305_clamp_ctrs N) Tryd.func201 (by kernel_rfl) (by kernel_rfl) Tryd.ntmps201 (by kernel_rfl) (by kernel_rfl) (by kernel_rfl) (by kernel_rfl) (fun E hb => poly1305_clamp_b N hb)
/-! ipsecgate/poly1305.number -/
abbrev poly1305_number_R : Type := (((List UInt64) × Unit) × (Unit))
def poly1305_number_s2 (N : Nat) (t_7 : (List UInt8)) (t_8 : Int) (t_9 : Int) (t_2 : (List UInt64)) (l_3 : (List UInt64)) : Option (Lo (((List UInt8) × Int × Int × Unit) × ((List UInt64) × (List UInt64) × Unit)) ((Unit) × ((List UInt64) × (List UInt64) × Unit)) poly1305_number_R) :=
 bif (decide (t_9 < t_8)) then
 bif inR t_9 t_7.length then
 let x3 := t_7.getD t_9.toNat (0 : UInt8)
 let x4 := w64 ((8 : Int) * t_9)
 let x5 := w64 (x4.tdiv (26 : Int))
 bif inR x5 5 then
 let x7 := x4.tmod (26 : Int)
 bif decide (0 ≤ x7) then
 bif inR x5 5 then
 let x11 := (l_3.set x5.toNat ((l_3.getD x5.toNat (0 : UInt64)) + ((shl64 x3.toUInt64 x7.toNat) &&& (67108863 : UInt64))))
 bif (decide ((18 : Int) < (x4.tmod (26 : Int)))) then
 bif (decide ((w64 (x4.tdiv (26 : Int))) < (4 : Int))) then
 let x17 := w64 ((w64 (x4.tdiv (26 : Int))) + (1 : Int))
 bif inR x17 5 then
 let x20 := w64 ((26 : Int) - (x4.tmod (26 : Int)))
 bif decide (0 ≤ x20) then
 bif inR x17 5 then
 some (.go ((t_7, t_8, (w64 (t_9 + (1 : Int))), ()), (t_2, (x11.set x17.toNat ((x11.getD x17.toNat (0 : UInt64)) + (shr64 x3.toUInt64 x20.toNat))), ())))
 else none
 else none
 else none
 else
 some (.go ((t_7, t_8, (w64 (t_9 + (1 : Int))), ()), (t_2, x11, ())))
 else
 some (.go ((t_7, t_8, (w64 (t_9 + (1 : Int))), ()), (t_2, x11, ())))
 else none
 else none
 else none
 else none
 else
 some (.br ((()), (t_2, l_3, ())))
def poly1305_number_3 (N : Nat) (t_2 : (List UInt64)) (l_3 : (List UInt64)) : Option poly1305_number_R :=
 some ((l_3, ()), (()))
def poly1305_number_1 (N : Nat) (t_7 : (List UInt8)) (t_8 : Int) (t_9 : Int) (t_2 : (List UInt64)) (l_3 : (List UInt64)) : Option poly1305_number_R :=
 loopK N (fun y => poly1305_number_s2 N y.1.1 y.1.2.1 y.1.2.2.1 y.2.1 y.2.2.1) (fun (e : ((Unit) × ((List UInt64) × (List UInt64) × Unit))) => poly1305_number_3 N e.2.1 e.2.2.1) ((t_7, t_8, t_9, ()), (t_2, l_3, ()))
def poly1305_number (N : Nat) (b_0 : (List UInt8)) : Option poly1305_number_R :=
 poly1305_number_1 N b_0 (b_0.length : Int) (0 : Int) (List.replicate 5 (0 : UInt64)) (List.replicate 5 (0 : UInt64))
def poly1305_number_C (N : Nat) : Ctx := ⟨51, G_tys, [], G_globs, G_ifs⟩
def poly1305_number_S0 : Spec := ⟨[.ref 0 (.arr 5 .u64), .ref 1 (.arr 5 .u64), .val (.sl .u8), .val .i64, .val .i64], [(.box 230 (.arr 5 .u64), .pos 0), (.box 230 (.arr 5 .u64), .pos 1)]⟩
def poly1305_number_S1 : Spec := ⟨[.ref 0 (.arr 5 .u64), .ref 1 (.arr 5 .u64)], [(.box 230 (.arr 5 .u64), .pos 0), (.box 230 (.arr 5 .u64), .pos 1)]⟩
def poly1305_number_S2 : Spec := ⟨[.val (.sl .u8)], []⟩
def poly1305_number_S3 : Spec := ⟨[.fp (.arr 5 .u64)], []⟩
def poly1305_number_K (_N : Nat) : XE → GS → Option poly1305_number_R := retK 0 [2] [true] poly1305_number_S3
def poly1305_number_L : List Code := (bodyOf (some Tryd.f200))
def poly1305_number_L2 : List Code := (loopOf (poly1305_number_L[3]?))
def poly1305_number_K2 (N : Nat) : XE → GS → Option (Lo (((List UInt8) × Int × Int × Unit) × ((List UInt64) × (List UInt64) × Unit)) ((Unit) × ((List UInt64) × (List UInt64) × Unit)) poly1305_number_R) := roundK (some 0) (fit 0 [2, 3, 7, 8, 9] poly1305_number_S0) (fit 0 [2, 3] poly1305_number_S1) (poly1305_number_K N)
theorem poly1305_number_s2_b {E : Env} (N : Nat) (hb : Base Tryd.prog (poly1305_number_C N) E 0) : Blk Tryd.prog (poly1305_number_C N) E [2, 3, 7, 8, 9] poly1305_number_S0 (poly1305_number_L2.drop 0) (fun y => poly1305_number_s2 N y.1.1 y.1.2.1 y.1.2.2.1 y.2.1 y.2.2.1) (poly1305_number_K2 N) :=
 Blk.chunkAt hb 4 (X := (poly1305_number_K2 N .normal)) (NxOk.end (by kernel_rfl)) rfl (fun x => by kernel_rfl)
theorem poly1305_number_3_b {E : Env} (N : Nat) (hb : Base Tryd.prog (poly1305_number_C N) E 0) : Blk Tryd.prog (poly1305_number_C N) E [2, 3] poly1305_number_S1 (poly1305_number_L.drop 4) (fun y => poly1305_number_3 N y.2.1 y.2.2.1) (poly1305_number_K N) :=
 Blk.chunkAt hb 2 (X := (poly1305_number_K N .normal)) (NxOk.end (by kernel_rfl)) rfl (fun x => by kernel_rfl)
theorem poly1305_number_1_b {E : Env} (N : Nat) (hb : Base Tryd.prog (poly1305_number_C N) E 0) : Blk Tryd.prog (poly1305_number_C N) E [2, 3, 7, 8, 9] poly1305_number_S0 (poly1305_number_L.drop 3) (fun y => poly1305_number_1 N y.1.1 y.1.2.1 y.1.2.2.1 y.2.1 y.2.2.1) (poly1305_number_K N) :=
 Blk.loopAt (Nf := N) (hns := [2, 3, 7, 8, 9]) (ans := [2, 3]) (hc := poly1305_number_S0) (ac := poly1305_number_S1) (bid := 0) (step := (fun y => poly1305_number_s2 N y.1.1 y.1.2.1 y.1.2.2.1 y.2.1 y.2.2.1)) (J := (fun e => (goK 0 [2, 3] poly1305_number_S1 (fun y => poly1305_number_3 N y.2.1 y.2.2.1)) (poly1305_number_S1.st [2, 3] e))) hb (by kernel_rfl) (Blk.into (X := (goK 0 [2, 3] poly1305_number_S1 (fun y => poly1305_number_3 N y.2.1 y.2.2.1))) (NxOk.go hb (poly1305_number_3_b N hb)) (fun x => by kernel_rfl)) (poly1305_number_s2_b N hb) (fun x => by kernel_rfl)
theorem poly1305_number_b {E : Env} (N : Nat) (hb : Base Tryd.prog (poly1305_number_C N) E 0) : Blk Tryd.prog (poly1305_number_C N) E (List.range poly1305_number_S2.ks.length) poly1305_number_S2 (poly1305_number_L.drop 0) (fun y => poly1305_number N y.1.1) (poly1305_number_K N) :=
 Blk.chunkAt hb 3 (X := (goK 0 [2, 3, 7, 8, 9] poly1305_number_S0 (fun y => poly1305_number_1 N y.1.1 y.1.2.1 y.1.2.2.1 y.2.1 y.2.2.1))) (NxOk.go hb (poly1305_number_1_b N hb)) rfl (fun x => by kernel_rfl)
def poly1305_number_ctr (N : Nat) : Ctr := ⟨poly1305_number_S2, poly1305_number_S3.un [true], 0, (fun y => poly1305_number N y.1.1)⟩
theorem poly1305_number_ctrs (N : Nat) : CtrsOk Tryd.prog (poly1305_number_C N) := ctrs_nil G_ifs_ok rfl
theorem poly1305_number_ok (N : Nat) : Ctr.ok Tryd.prog G_globs 200 (poly1305_number_ctr N) :=
 ctr_fn (Γ := poly1305_number_C N) (rfit := poly1305_number_S3) (bs := [true]) (res := [2]) (by kernel_rfl) (tys_ok G_tys_ok) (poly1305_number_ctrs N) Tryd.func200 (by kernel_rfl) (by kernel_rfl) Tryd.ntmps200 (by kernel_rfl) (by kernel_rfl) (by kernel_rfl) (by kernel_rfl) (fun E hb => poly1305_number_b N hb)
/-! (ipsecgate/poly1305.limbs).carry -/
abbrev poly1305_limbs_carry_R : Type := (((List UInt64) × Unit) × (Unit))
def poly1305_limbs_carry_s7 (N : Nat) (c_3 : UInt64) (t_5 : Int) (t_7 : Int) (a_1 : (List UInt64)) (t_2 : (List UInt64)) : Option (Lo ((UInt64 × Int × Int × Unit) × ((List UInt64) × (List UInt64) × Unit)) ((UInt64 × Int × Unit) × ((List UInt64) × (List UInt64) × Unit)) (Lo ((Int × Unit) × ((List UInt64) × (List UInt64) × Unit)) ((Unit) × ((List UInt64) × (List UInt64) × Unit)) poly1305_limbs_carry_R)) :=
 bif (decide (t_7 < (5 : Int))) then
 bif inR t_7 5 then
 bif inR t_7 5 then
 let x5 := (a_1.set t_7.toNat ((a_1.getD t_7.toNat (0 : UInt64)) + c_3))
 bif inR t_7 5 then
 bif inR t_7 5 then
 bif inR t_7 5 then
 some (.go (((shr64 (x5.getD t_7.toNat (0 : UInt64)) 26), t_5, (w64 (t_7 + (1 : Int))), ()), ((x5.set t_7.toNat ((x5.getD t_7.toNat (0 : UInt64)) &&& (67108863 : UInt64))), t_2, ())))
 else none
 else none
 else none
 else none
 else none
 else
 some (.br ((c_3, t_5, ()), (a_1, t_2, ())))
def poly1305_limbs_carry_9 (N : Nat) (t_5 : Int) (a_1 : (List UInt64)) (t_2 : (List UInt64)) : Option (Lo ((Int × Unit) × ((List UInt64) × (List UInt64) × Unit)) ((Unit) × ((List UInt64) × (List UInt64) × Unit)) poly1305_limbs_carry_R) :=
 some (.go (((w64 (t_5 + (1 : Int))), ()), (a_1, t_2, ())))
def poly1305_limbs_carry_8 (N : Nat) (c_3 : UInt64) (t_5 : Int) (a_1 : (List UInt64)) (t_2 : (List UInt64)) : Option (Lo ((Int × Unit) × ((List UInt64) × (List UInt64) × Unit)) ((Unit) × ((List UInt64) × (List UInt64) × Unit)) poly1305_limbs_carry_R) :=
 poly1305_limbs_carry_9 N t_5 (a_1.set 0 ((a_1.getD 0 (0 : UInt64)) + ((5 : UInt64) * c_3))) t_2
def poly1305_limbs_carry_6 (N : Nat) (c_3 : UInt64) (t_5 : Int) (t_7 : Int) (a_1 : (List UInt64)) (t_2 : (List UInt64)) : Option (Lo ((Int × Unit) × ((List UInt64) × (List UInt64) × Unit)) ((Unit) × ((List UInt64) × (List UInt64) × Unit)) poly1305_limbs_carry_R) :=
 loopK N (fun y => poly1305_limbs_carry_s7 N y.1.1 y.1.2.1 y.1.2.2.1 y.2.1 y.2.2.1) (fun (e : ((UInt64 × Int × Unit) × ((List UInt64) × (List UInt64) × Unit))) => poly1305_limbs_carry_8 N e.1.1 e.1.2.1 e.2.1 e.2.2.1) ((c_3, t_5, t_7, ()), (a_1, t_2, ()))
def poly1305_limbs_carry_5 (N : Nat) (t_5 : Int) (a_1 : (List UInt64)) (t_2 : (List UInt64)) : Option (Lo ((Int × Unit) × ((List UInt64) × (List UInt64) × Unit)) ((Unit) × ((List UInt64) × (List UInt64) × Unit)) poly1305_limbs_carry_R) :=
 poly1305_limbs_carry_6 N (0 : UInt64) t_5 (0 : Int) a_1 t_2
def poly1305_limbs_carry_3 (N : Nat) (t_5 : Int) (a_1 : (List UInt64)) (t_2 : (List UInt64)) : Option (Lo ((Int × Unit) × ((List UInt64) × (List UInt64) × Unit)) ((Unit) × ((List UInt64) × (List UInt64) × Unit)) poly1305_limbs_carry_R) :=
 poly1305_limbs_carry_5 N t_5 a_1 t_2
def poly1305_limbs_carry_s2 (N : Nat) (t_5 : Int) (a_1 : (List UInt64)) (t_2 : (List UInt64)) : Option (Lo ((Int × Unit) × ((List UInt64) × (List UInt64) × Unit)) ((Unit) × ((List UInt64) × (List UInt64) × Unit)) poly1305_limbs_carry_R) :=
 bif (decide (t_5 < (2 : Int))) then
 poly1305_limbs_carry_3 N t_5 a_1 t_2
 else
 some (.br ((()), (a_1, t_2, ())))
def poly1305_limbs_carry_10 (N : Nat) (a_1 : (List UInt64)) (t_2 : (List UInt64)) : Option poly1305_limbs_carry_R :=
 some ((a_1, ()), (()))
def poly1305_limbs_carry_1 (N : Nat) (t_5 : Int) (a_1 : (List UInt64)) (t_2 : (List UInt64)) : Option poly1305_limbs_carry_R :=
 loopK N (fun y => poly1305_limbs_carry_s2 N y.1.1 y.2.1 y.2.2.1) (fun (e : ((Unit) × ((List UInt64) × (List UInt64) × Unit))) => poly1305_limbs_carry_10 N e.2.1 e.2.2.1) ((t_5, ()), (a_1, t_2, ()))
def poly1305_limbs_carry (N : Nat) (a_0 : (List UInt64)) : Option poly1305_limbs_carry_R :=
 poly1305_limbs_carry_1 N (0 : Int) a_0 (List.replicate 5 (0 : UInt64))
def poly1305_limbs_carry_C (N : Nat) : Ctx := ⟨34, G_tys, [], G_globs, G_ifs⟩
def poly1305_limbs_carry_S0 : Spec := ⟨[.ref 0 (.arr 5 .u64), .ref 1 (.arr 5 .u64), .val .u64, .val .i64, .val .i64], [(.box 230 (.arr 5 .u64), .pos 0), (.box 230 (.arr 5 .u64), .pos 1)]⟩
def poly1305_limbs_carry_S1 : Spec := ⟨[.ref 0 (.arr 5 .u64), .ref 1 (.arr 5 .u64), .val .i64], [(.box 230 (.arr 5 .u64), .pos 0), (.box 230 (.arr 5 .u64), .pos 1)]⟩
def poly1305_limbs_carry_S2 : Spec := ⟨[.ref 0 (.arr 5 .u64), .ref 1 (.arr 5 .u64), .val .u64, .val .i64], [(.box 230 (.arr 5 .u64), .pos 0), (.box 230 (.arr 5 .u64), .pos 1)]⟩
def poly1305_limbs_carry_S3 : Spec := ⟨[.ref 0 (.arr 5 .u64), .ref 1 (.arr 5 .u64)], [(.box 230 (.arr 5 .u64), .pos 0), (.box 230 (.arr 5 .u64), .pos 1)]⟩
def poly1305_limbs_carry_S4 : Spec := ⟨[.val (.arr 5 .u64)], []⟩
def poly1305_limbs_carry_S5 : Spec := ⟨[.fp (.arr 5 .u64)], []⟩
def poly1305_limbs_carry_K (_N : Nat) : XE → GS → Option poly1305_limbs_carry_R := retK 0 [2] [true] poly1305_limbs_carry_S5
def poly1305_limbs_carry_L : List Code := (bodyOf (some Tryd.f223))
def poly1305_limbs_carry_L2 : List Code := (loopOf (poly1305_limbs_carry_L[2]?))
def poly1305_limbs_carry_L4b : List Code := (blockOf (poly1305_limbs_carry_L2[2]?))
def poly1305_limbs_carry_L7 : List Code := (loopOf (poly1305_limbs_carry_L4b[2]?))
def poly1305_limbs_carry_K2 (N : Nat) : XE → GS → Option (Lo ((Int × Unit) × ((List UInt64) × (List UInt64) × Unit)) ((Unit) × ((List UInt64) × (List UInt64) × Unit)) poly1305_limbs_carry_R) := roundK (some 0) (fit 0 [1, 2, 5] poly1305_limbs_carry_S1) (fit 0 [1, 2] poly1305_limbs_carry_S3) (poly1305_limbs_carry_K N)
def poly1305_limbs_carry_K4 (N : Nat) : XE → GS → Option (Lo ((Int × Unit) × ((List UInt64) × (List UInt64) × Unit)) ((Unit) × ((List UInt64) × (List UInt64) × Unit)) poly1305_limbs_carry_R) := blockK 1 (goK 0 [1, 2, 5] poly1305_limbs_carry_S1 (fun y => poly1305_limbs_carry_9 N y.1.1 y.2.1 y.2.2.1)) (poly1305_limbs_carry_K2 N)
def poly1305_limbs_carry_K7 (N : Nat) : XE → GS → Option (Lo ((UInt64 × Int × Int × Unit) × ((List UInt64) × (List UInt64) × Unit)) ((UInt64 × Int × Unit) × ((List UInt64) × (List UInt64) × Unit)) (Lo ((Int × Unit) × ((List UInt64) × (List UInt64) × Unit)) ((Unit) × ((List UInt64) × (List UInt64) × Unit)) poly1305_limbs_carry_R)) := roundK (some 2) (fit 0 [1, 2, 3, 5, 7] poly1305_limbs_carry_S0) (fit 0 [1, 2, 3, 5] poly1305_limbs_carry_S2) (poly1305_limbs_carry_K4 N)
theorem poly1305_limbs_carry_s7_b {E : Env} (N : Nat) (hb : Base Tryd.prog (poly1305_limbs_carry_C N) E 0) : Blk Tryd.prog (poly1305_limbs_carry_C N) E [1, 2, 3, 5, 7] poly1305_limbs_carry_S0 (poly1305_limbs_carry_L7.drop 0) (fun y => poly1305_limbs_carry_s7 N y.1.1 y.1.2.1 y.1.2.2.1 y.2.1 y.2.2.1) (poly1305_limbs_carry_K7 N) :=
 Blk.chunkAt hb 4 (X := (poly1305_limbs_carry_K7 N .normal)) (NxOk.end (by kernel_rfl)) rfl (fun x => by kernel_rfl)
theorem poly1305_limbs_carry_9_b {E : Env} (N : Nat) (hb : Base Tryd.prog (poly1305_limbs_carry_C N) E 0) : Blk Tryd.prog (poly1305_limbs_carry_C N) E [1, 2, 5] poly1305_limbs_carry_S1 (poly1305_limbs_carry_L2.drop 3) (fun y => poly1305_limbs_carry_9 N y.1.1 y.2.1 y.2.2.1) (poly1305_limbs_carry_K2 N) :=
 Blk.chunkAt hb 1 (X := (poly1305_limbs_carry_K2 N .normal)) (NxOk.end (by kernel_rfl)) rfl (fun x => by kernel_rfl)
theorem poly1305_limbs_carry_8_b {E : Env} (N : Nat) (hb : Base Tryd.prog (poly1305_limbs_carry_C N) E 0) : Blk Tryd.prog (poly1305_limbs_carry_C N) E [1, 2, 3, 5] poly1305_limbs_carry_S2 (poly1305_limbs_carry_L4b.drop 3) (fun y => poly1305_limbs_carry_8 N y.1.1 y.1.2.1 y.2.1 y.2.2.1) (poly1305_limbs_carry_K4 N) :=
 Blk.chunkAt hb 1 (X := (poly1305_limbs_carry_K4 N .normal)) (NxOk.end (by kernel_rfl)) rfl (fun x => by kernel_rfl)
theorem poly1305_limbs_carry_6_b {E : Env} (N : Nat) (hb : Base Tryd.prog (poly1305_limbs_carry_C N) E 0) : Blk Tryd.prog (poly1305_limbs_carry_C N) E [1, 2, 3, 5, 7] poly1305_limbs_carry_S0 (poly1305_limbs_carry_L4b.drop 2) (fun y => poly1305_limbs_carry_6 N y.1.1 y.1.2.1 y.1.2.2.1 y.2.1 y.2.2.1) (poly1305_limbs_carry_K4 N) :=
 Blk.loopAt (Nf := N) (hns := [1, 2, 3, 5, 7]) (ans := [1, 2, 3, 5]) (hc := poly1305_limbs_carry_S0) (ac := poly1305_limbs_carry_S2) (bid := 2) (step := (fun y => poly1305_limbs_carry_s7 N y.1.1 y.1.2.1 y.1.2.2.1 y.2.1 y.2.2.1)) (J := (fun e => (goK 0 [1, 2, 3, 5] poly1305_limbs_carry_S2 (fun y => poly1305_limbs_carry_8 N y.1.1 y.1.2.1 y.2.1 y.2.2.1)) (poly1305_limbs_carry_S2.st [1, 2, 3, 5] e))) hb (by kernel_rfl) (Blk.into (X := (goK 0 [1, 2, 3, 5] poly1305_limbs_carry_S2 (fun y => poly1305_limbs_carry_8 N y.1.1 y.1.2.1 y.2.1 y.2.2.1))) (NxOk.go hb (poly1305_limbs_carry_8_b N hb)) (fun x => by kernel_rfl)) (poly1305_limbs_carry_s7_b N hb) (fun x => by kernel_rfl)
theorem poly1305_limbs_carry_5_b {E : Env} (N : Nat) (hb : Base Tryd.prog (poly1305_limbs_carry_C N) E 0) : Blk Tryd.prog (poly1305_limbs_carry_C N) E [1, 2, 5] poly1305_limbs_carry_S1 (poly1305_limbs_carry_L4b.drop 0) (fun y => poly1305_limbs_carry_5 N y.1.1 y.2.1 y.2.2.1) (poly1305_limbs_carry_K4 N) :=
 Blk.chunkAt hb 2 (X := (goK 0 [1, 2, 3, 5, 7] poly1305_limbs_carry_S0 (fun y => poly1305_limbs_carry_6 N y.1.1 y.1.2.1 y.1.2.2.1 y.2.1 y.2.2.1))) (NxOk.go hb (poly1305_limbs_carry_6_b N hb)) rfl (fun x => by kernel_rfl)
theorem poly1305_limbs_carry_3_b {E : Env} (N : Nat) (hb : Base Tryd.prog (poly1305_limbs_carry_C N) E 0) : Blk Tryd.prog (poly1305_limbs_carry_C N) E [1, 2, 5] poly1305_limbs_carry_S1 (poly1305_limbs_carry_L2.drop 2) (fun y => poly1305_limbs_carry_3 N y.1.1 y.2.1 y.2.2.1) (poly1305_limbs_carry_K2 N) :=
 Blk.blockAt (bid := 1) (X := (goK 0 [1, 2, 5] poly1305_limbs_carry_S1 (fun y => poly1305_limbs_carry_9 N y.1.1 y.2.1 y.2.2.1))) (Y := (goK 0 [1, 2, 5] poly1305_limbs_carry_S1 (fun y => poly1305_limbs_carry_5 N y.1.1 y.2.1 y.2.2.1))) (by kernel_rfl) (NxOk.go hb (poly1305_limbs_carry_9_b N hb)) (NxOk.go hb (poly1305_limbs_carry_5_b N hb)) (fun x => by kernel_rfl)
theorem poly1305_limbs_carry_s2_b {E : Env} (N : Nat) (hb : Base Tryd.prog (poly1305_limbs_carry_C N) E 0) : Blk Tryd.prog (poly1305_limbs_carry_C N) E [1, 2, 5] poly1305_limbs_carry_S1 (poly1305_limbs_carry_L2.drop 0) (fun y => poly1305_limbs_carry_s2 N y.1.1 y.2.1 y.2.2.1) (poly1305_limbs_carry_K2 N) :=
 Blk.chunkAt hb 2 (X := (goK 0 [1, 2, 5] poly1305_limbs_carry_S1 (fun y => poly1305_limbs_carry_3 N y.1.1 y.2.1 y.2.2.1))) (NxOk.go hb (poly1305_limbs_carry_3_b N hb)) rfl (fun x => by kernel_rfl)
theorem poly1305_limbs_carry_10_b {E : Env} (N : Nat) (hb : Base Tryd.prog (poly1305_limbs_carry_C N) E 0) : Blk Tryd.prog (poly1305_limbs_carry_C N) E [1, 2] poly1305_limbs_carry_S3 (poly1305_limbs_carry_L.drop 3) (fun y => poly1305_limbs_carry_10 N y.2.1 y.2.2.1) (poly1305_limbs_carry_K N) :=
 Blk.chunkAt hb 2 (X := (poly1305_limbs_carry_K N .normal)) (NxOk.end (by kernel_rfl)) rfl (fun x => by kernel_rfl)
theorem poly1305_limbs_carry_1_b {E : Env} (N : Nat) (hb : Base Tryd.prog (poly1305_limbs_carry_C N) E 0) : Blk Tryd.prog (poly1305_limbs_carry_C N) E [1, 2, 5] poly1305_limbs_carry_S1 (poly1305_limbs_carry_L.drop 2) (fun y => poly1305_limbs_carry_1 N y.1.1 y.2.1 y.2.2.1) (poly1305_limbs_carry_K N) :=
 Blk.loopAt (Nf := N) (hns := [1, 2, 5]) (ans := [1, 2]) (hc := poly1305_limbs_carry_S1) (ac := poly1305_limbs_carry_S3) (bid := 0) (step := (fun y => poly1305_limbs_carry_s2 N y.1.1 y.2.1 y.2.2.1)) (J := (fun e => (goK 0 [1, 2] poly1305_limbs_carry_S3 (fun y => poly1305_limbs_carry_10 N y.2.1 y.2.2.1)) (poly1305_limbs_carry_S3.st [1, 2] e))) hb (by kernel_rfl) (Blk.into (X := (goK 0 [1, 2] poly1305_limbs_carry_S3 (fun y => poly1305_limbs_carry_10 N y.2.1 y.2.2.1))) (NxOk.go hb (poly1305_limbs_carry_10_b N hb)) (fun x => by kernel_rfl)) (poly1305_limbs_carry_s2_b N hb) (fun x => by kernel_rfl)
theorem poly1305_limbs_carry_b {E : Env} (N : Nat) (hb : Base Tryd.prog (poly1305_limbs_carry_C N) E 0) : Blk Tryd.prog (poly1305_limbs_carry_C N) E (List.range poly1305_limbs_carry_S4.ks.length) poly1305_limbs_carry_S4 (poly1305_limbs_carry_L.drop 0) (fun y => poly1305_limbs_carry N y.1.1) (poly1305_limbs_carry_K N) :=
 Blk.chunkAt hb 2 (X := (goK 0 [1, 2, 5] poly1305_limbs_carry_S1 (fun y => poly1305_limbs_carry_1 N y.1.1 y.2.1 y.2.2.1))) (NxOk.go hb (poly1305_limbs_carry_1_b N hb)) rfl (fun x => by kernel_rfl)
def poly1305_limbs_carry_ctr (N : Nat) : Ctr := ⟨poly1305_limbs_carry_S4, poly1305_limbs_carry_S5.un [true], 0, (fun y => poly1305_limbs_carry N y.1.1)⟩
theorem poly1305_limbs_carry_ctrs (N : Nat) : CtrsOk Tryd.prog (poly1305_limbs_carry_C N) := ctrs_nil G_ifs_ok rfl
theorem poly1305_limbs_carry_ok (N : Nat) : Ctr.ok Tryd.prog G_globs 223 (poly1305_limbs_carry_ctr N) :=
 ctr_fn (Γ := poly1305_limbs_carry_C N) (rfit := poly1305_limbs_carry_S5) (bs := [true]) (res := [2]) (by kernel_rfl) (tys_ok G_tys_ok) (poly1305_limbs_carry_ctrs N) Tryd.func223 (by kernel_rfl) (by kernel_rfl) Tryd.ntmps223 (by kernel_rfl) (by kernel_rfl) (by kernel_rfl) (by kernel_rfl) (fun E hb => poly1305_limbs_carry_b N hb)
/-! (ipsecgate/poly1305.limbs).add -/
abbrev poly1305_limbs_add_R : Type := (((List UInt64) × Unit) × (Unit))
def poly1305_limbs_add_s2 (N : Nat) (t_6 : Int) (a_2 : (List UInt64)) (b_3 : (List UInt64)) (t_4 : (List UInt64)) : Option (Lo ((Int × Unit) × ((List UInt64) × (List UInt64) × (List UInt64) × Unit)) ((Unit) × ((List UInt64) × (List UInt64) × Unit)) poly1305_limbs_add_R) :=
 bif (decide (t_6 < (5 : Int))) then
 bif inR t_6 5 then
 bif inR t_6 5 then
 bif inR t_6 5 then
 some (.go (((w64 (t_6 + (1 : Int))), ()), ((a_2.set t_6.toNat ((a_2.getD t_6.toNat (0 : UInt64)) + (b_3.getD t_6.toNat (0 : UInt64)))), b_3, t_4, ())))
 else none
 else none
 else none
 else
 some (.br ((()), (a_2, t_4, ())))
def poly1305_limbs_add_3 (N : Nat) (a_2 : (List UInt64)) (t_4 : (List UInt64)) : Option poly1305_limbs_add_R :=
 Option.bind (poly1305_limbs_carry N a_2) fun y7 =>
 some ((y7.1.1, ()), (()))
def poly1305_limbs_add_1 (N : Nat) (t_6 : Int) (a_2 : (List UInt64)) (b_3 : (List UInt64)) (t_4 : (List UInt64)) : Option poly1305_limbs_add_R :=
 loopK N (fun y => poly1305_limbs_add_s2 N y.1.1 y.2.1 y.2.2.1 y.2.2.2.1) (fun (e : ((Unit) × ((List UInt64) × (List UInt64) × Unit))) => poly1305_limbs_add_3 N e.2.1 e.2.2.1) ((t_6, ()), (a_2, b_3, t_4, ()))
def poly1305_limbs_add (N : Nat) (a_0 : (List UInt64)) (b_1 : (List UInt64)) : Option poly1305_limbs_add_R :=
 poly1305_limbs_add_1 N (0 : Int) a_0 b_1 (List.replicate 5 (0 : UInt64))
def poly1305_limbs_add_C (N : Nat) : Ctx := ⟨20, G_tys, [(223, poly1305_limbs_carry_ctr N)], G_globs, G_ifs⟩
def poly1305_limbs_add_S0 : Spec := ⟨[.ref 0 (.arr 5 .u64), .ref 1 (.arr 5 .u64), .ref 2 (.arr 5 .u64), .val .i64], [(.box 230 (.arr 5 .u64), .pos 0), (.box 230 (.arr 5 .u64), .pos 1), (.box 230 (.arr 5 .u64), .pos 2)]⟩
def poly1305_limbs_add_S1 : Spec := ⟨[.ref 0 (.arr 5 .u64), .ref 1 (.arr 5 .u64)], [(.box 230 (.arr 5 .u64), .pos 0), (.box 230 (.arr 5 .u64), .pos 1)]⟩
def poly1305_limbs_add_S2 : Spec := ⟨[.val (.arr 5 .u64), .val (.arr 5 .u64)], []⟩
def poly1305_limbs_add_S3 : Spec := ⟨[.fp (.arr 5 .u64)], []⟩
def poly1305_limbs_add_K (_N : Nat) : XE → GS → Option poly1305_limbs_add_R := retK 0 [4] [true] poly1305_limbs_add_S3
def poly1305_limbs_add_L : List Code := (bodyOf (some Tryd.f202))
def poly1305_limbs_add_L2 : List Code := (loopOf (poly1305_limbs_add_L[2]?))
def poly1305_limbs_add_K2 (N : Nat) : XE → GS → Option (Lo ((Int × Unit) × ((List UInt64) × (List UInt64) × (List UInt64) × Unit)) ((Unit) × ((List UInt64) × (List UInt64) × Unit)) poly1305_limbs_add_R) := roundK (some 0) (fit 0 [2, 3, 4, 6] poly1305_limbs_add_S0) (fit 0 [2, 4] poly1305_limbs_add_S1) (poly1305_limbs_add_K N)
theorem poly1305_limbs_add_s2_b {E : Env} (N : Nat) (hb : Base Tryd.prog (poly1305_limbs_add_C N) E 0) : Blk Tryd.prog (poly1305_limbs_add_C N) E [2, 3, 4, 6] poly1305_limbs_add_S0 (poly1305_limbs_add_L2.drop 0) (fun y => poly1305_limbs_add_s2 N y.1.1 y.2.1 y.2.2.1 y.2.2.2.1) (poly1305_limbs_add_K2 N) :=
 Blk.chunkAt hb 4 (X := (poly1305_limbs_add_K2 N .normal)) (NxOk.end (by kernel_rfl)) rfl (fun x => by kernel_rfl)
theorem poly1305_limbs_add_3_b {E : Env} (N : Nat) (hb : Base Tryd.prog (poly1305_limbs_add_C N) E 0) : Blk Tryd.prog (poly1305_limbs_add_C N) E [2, 4] poly1305_limbs_add_S1 (poly1305_limbs_add_L.drop 3) (fun y => poly1305_limbs_add_3 N y.2.1 y.2.2.1) (poly1305_limbs_add_K N) :=
 Blk.chunkAt hb 2 (X := (poly1305_limbs_add_K N .normal)) (NxOk.end (by kernel_rfl)) rfl (fun x => by kernel_rfl)
theorem poly1305_limbs_add_1_b {E : Env} (N : Nat) (hb : Base Tryd.prog (poly1305_limbs_add_C N) E 0) : Blk Tryd.prog (poly1305_limbs_add_C N) E [2, 3, 4, 6] poly1305_limbs_add_S0 (poly1305_limbs_add_L.drop 2) (fun y => poly1305_limbs_add_1 N y.1.1 y.2.1 y.2.2.1 y.2.2.2.1) (poly1305_limbs_add_K N) :=
 Blk.loopAt (Nf := N) (hns := [2, 3, 4, 6]) (ans := [2, 4]) (hc := poly1305_limbs_add_S0) (ac := poly1305_limbs_add_S1) (bid := 0) (step := (fun y => poly1305_limbs_add_s2 N y.1.1 y.2.1 y.2.2.1 y.2.2.2.1)) (J := (fun e => (goK 0 [2, 4] poly1305_limbs_add_S1 (fun y => poly1305_limbs_add_3 N y.2.1 y.2.2.1)) (poly1305_limbs_add_S1.st [2, 4] e))) hb (by kernel_rfl) (Blk.into (X := (goK 0 [2, 4] poly1305_limbs_add_S1 (fun y => poly1305_limbs_add_3 N y.2.1 y.2.2.1))) (NxOk.go hb (poly1305_limbs_add_3_b N hb)) (fun x => by kernel_rfl)) (poly1305_limbs_add_s2_b N hb) (fun x => by kernel_rfl)
theorem poly1305_limbs_add_b {E : Env} (N : Nat) (hb : Base Tryd.prog (poly1305_limbs_add_C N) E 0) : Blk Tryd.prog (poly1305_limbs_add_C N) E (List.range poly1305_limbs_add_S2.ks.length) poly1305_limbs_add_S2 (poly1305_limbs_add_L.drop 0) (fun y => poly1305_limbs_add N y.1.1 y.1.2.1) (poly1305_limbs_add_K N) :=
 Blk.chunkAt hb 2 (X := (goK 0 [2, 3, 4, 6] poly1305_limbs_add_S0 (fun y => poly1305_limbs_add_1 N y.1.1 y.2.1 y.2.2.1 y.2.2.2.1))) (NxOk.go hb (poly1305_limbs_add_1_b N hb)) rfl (fun x => by kernel_rfl)
def poly1305_limbs_add_ctr (N : Nat) : Ctr := ⟨poly1305_limbs_add_S2, poly1305_limbs_add_S3.un [true], 0, (fun y => poly1305_limbs_add N y.1.1 y.1.2.1)⟩
theorem poly1305_limbs_add_ctrs (N : Nat) : CtrsOk Tryd.prog (poly1305_limbs_add_C N) := ctrs_of (Γ := poly1305_limbs_add_C N) G_ifs_ok (by
 intro p hp
 simp only [poly1305_limbs_add_C, List.mem_cons, List.not_mem_nil, or_false] at hp
 rcases hp with rfl
 · exact poly1305_limbs_carry_ok N)
theorem poly1305_limbs_add_ok (N : Nat) : Ctr.ok Tryd.prog G_globs 202 (poly1305_limbs_add_ctr N) :=
 ctr_fn (Γ := poly1305_limbs_add_C N) (rfit := poly1305_limbs_add_S3) (bs := [true]) (res := [4]) (by kernel_rfl) (tys_ok G_tys_ok) (poly1305_limbs_add_ctrs N) Tryd.func202 (by kernel_rfl) (by kernel_rfl) Tryd.ntmps202 (by kernel_rfl) (by kernel_rfl) (by kernel_rfl) (by kernel_rfl) (fun E hb => poly1305_limbs_add_b N hb)
/-! (ipsecgate/poly1305.limbs).mul -/
abbrev poly1305_limbs_mul_R : Type := (((List UInt64) × Unit) × (Unit))
def poly1305_limbs_mul_s7 (N : Nat) (i_6 : Int) (t_9 : Int) (t_12 : Int) (a_2 : (List UInt64)) (b_3 : (List UInt64)) (t_4 : (List UInt64)) (out_5 : (List UInt64)) : Option (Lo ((Int × Int × Int × Unit) × ((List UInt64) × (List UInt64) × (List UInt64) × (List UInt64) × Unit)) ((Int × Unit) × ((List UInt64) × (List UInt64) × (List UInt64) × (List UInt64) × Unit)) (Lo ((Int × Unit) × ((List UInt64) × (List UInt64) × (List UInt64) × (List UInt64) × Unit)) ((Unit) × ((List UInt64) × (List UInt64) × Unit)) poly1305_limbs_mul_R)) :=
 bif (decide (t_12 < (5 : Int))) then
 bif inR i_6 5 then
 let x3 := (a_2.getD i_6.toNat (0 : UInt64))
 bif inR t_12 5 then
 let x4 := (b_3.getD t_12.toNat (0 : UInt64))
 bif (decide ((5 : Int) ≤ (w64 (i_6 + t_12)))) then
 let x10 := (w64 (i_6 + t_12)).tmod (5 : Int)
 bif inR x10 5 then
 bif inR x10 5 then
 some (.go ((i_6, t_9, (w64 (t_12 + (1 : Int))), ()), (a_2, b_3, t_4, (out_5.set x10.toNat ((out_5.getD x10.toNat (0 : UInt64)) + ((x3 * x4) * (5 : UInt64)))), ())))
 else none
 else none
 else
 let x16 := (w64 (i_6 + t_12)).tmod (5 : Int)
 bif inR x16 5 then
 bif inR x16 5 then
 some (.go ((i_6, t_9, (w64 (t_12 + (1 : Int))), ()), (a_2, b_3, t_4, (out_5.set x16.toNat ((out_5.getD x16.toNat (0 : UInt64)) + (x3 * x4))), ())))
 else none
 else none
 else none
 else none
 else
 some (.br ((t_9, ()), (a_2, b_3, t_4, out_5, ())))
def poly1305_limbs_mul_8 (N : Nat) (t_9 : Int) (a_2 : (List UInt64)) (b_3 : (List UInt64)) (t_4 : (List UInt64)) (out_5 : (List UInt64)) : Option (Lo ((Int × Unit) × ((List UInt64) × (List UInt64) × (List UInt64) × (List UInt64) × Unit)) ((Unit) × ((List UInt64) × (List UInt64) × Unit)) poly1305_limbs_mul_R) :=
 some (.go (((w64 (t_9 + (1 : Int))), ()), (a_2, b_3, t_4, out_5, ())))
def poly1305_limbs_mul_6 (N : Nat) (i_6 : Int) (t_9 : Int) (t_12 : Int) (a_2 : (List UInt64)) (b_3 : (List UInt64)) (t_4 : (List UInt64)) (out_5 : (List UInt64)) : Option (Lo ((Int × Unit) × ((List UInt64) × (List UInt64) × (List UInt64) × (List UInt64) × Unit)) ((Unit) × ((List UInt64) × (List UInt64) × Unit)) poly1305_limbs_mul_R) :=
 loopK N (fun y => poly1305_limbs_mul_s7 N y.1.1 y.1.2.1 y.1.2.2.1 y.2.1 y.2.2.1 y.2.2.2.1 y.2.2.2.2.1) (fun (e : ((Int × Unit) × ((List UInt64) × (List UInt64) × (List UInt64) × (List UInt64) × Unit))) => poly1305_limbs_mul_8 N e.1.1 e.2.1 e.2.2.1 e.2.2.2.1 e.2.2.2.2.1) ((i_6, t_9, t_12, ()), (a_2, b_3, t_4, out_5, ()))
def poly1305_limbs_mul_5 (N : Nat) (t_9 : Int) (a_2 : (List UInt64)) (b_3 : (List UInt64)) (t_4 : (List UInt64)) (out_5 : (List UInt64)) : Option (Lo ((Int × Unit) × ((List UInt64) × (List UInt64) × (List UInt64) × (List UInt64) × Unit)) ((Unit) × ((List UInt64) × (List UInt64) × Unit)) poly1305_limbs_mul_R) :=
 poly1305_limbs_mul_6 N t_9 t_9 (0 : Int) a_2 b_3 t_4 out_5
def poly1305_limbs_mul_3 (N : Nat) (t_9 : Int) (a_2 : (List UInt64)) (b_3 : (List UInt64)) (t_4 : (List UInt64)) (out_5 : (List UInt64)) : Option (Lo ((Int × Unit) × ((List UInt64) × (List UInt64) × (List UInt64) × (List UInt64) × Unit)) ((Unit) × ((List UInt64) × (List UInt64) × Unit)) poly1305_limbs_mul_R) :=
 poly1305_limbs_mul_5 N t_9 a_2 b_3 t_4 out_5
def poly1305_limbs_mul_s2 (N : Nat) (t_9 : Int) (a_2 : (List UInt64)) (b_3 : (List UInt64)) (t_4 : (List UInt64)) (out_5 : (List UInt64)) : Option (Lo ((Int × Unit) × ((List UInt64) × (List UInt64) × (List UInt64) × (List UInt64) × Unit)) ((Unit) × ((List UInt64) × (List UInt64) × Unit)) poly1305_limbs_mul_R) :=
 bif (decide (t_9 < (5 : Int))) then
 poly1305_limbs_mul_3 N t_9 a_2 b_3 t_4 out_5
 else
 some (.br ((()), (t_4, out_5, ())))
def poly1305_limbs_mul_9 (N : Nat) (t_4 : (List UInt64)) (out_5 : (List UInt64)) : Option poly1305_limbs_mul_R :=
 Option.bind (poly1305_limbs_carry N out_5) fun y22 =>
 some ((y22.1.1, ()), (()))
def poly1305_limbs_mul_1 (N : Nat) (t_9 : Int) (a_2 : (List UInt64)) (b_3 : (List UInt64)) (t_4 : (List UInt64)) (out_5 : (List UInt64)) : Option poly1305_limbs_mul_R :=
 loopK N (fun y => poly1305_limbs_mul_s2 N y.1.1 y.2.1 y.2.2.1 y.2.2.2.1 y.2.2.2.2.1) (fun (e : ((Unit) × ((List UInt64) × (List UInt64) × Unit))) => poly1305_limbs_mul_9 N e.2.1 e.2.2.1) ((t_9, ()), (a_2, b_3, t_4, out_5, ()))
def poly1305_limbs_mul (N : Nat) (a_0 : (List UInt64)) (b_1 : (List UInt64)) : Option poly1305_limbs_mul_R :=
 poly1305_limbs_mul_1 N (0 : Int) a_0 b_1 (List.replicate 5 (0 : UInt64)) (List.replicate 5 (0 : UInt64))
def poly1305_limbs_mul_C (N : Nat) : Ctx := ⟨41, G_tys, [(223, poly1305_limbs_carry_ctr N)], G_globs, G_ifs⟩
def poly1305_limbs_mul_S0 : Spec := ⟨[.ref 0 (.arr 5 .u64), .ref 1 (.arr 5 .u64), .ref 2 (.arr 5 .u64), .ref 3 (.arr 5 .u64), .val .i64, .val .i64, .val .i64], [(.box 230 (.arr 5 .u64), .pos 0), (.box 230 (.arr 5 .u64), .pos 1), (.box 230 (.arr 5 .u64), .pos 2), (.box 230 (.arr 5 .u64), .pos 3)]⟩
def poly1305_limbs_mul_S1 : Spec := ⟨[.ref 0 (.arr 5 .u64), .ref 1 (.arr 5 .u64), .ref 2 (.arr 5 .u64), .ref 3 (.arr 5 .u64), .val .i64], [(.box 230 (.arr 5 .u64), .pos 0), (.box 230 (.arr 5 .u64), .pos 1), (.box 230 (.arr 5 .u64), .pos 2), (.box 230 (.arr 5 .u64), .pos 3)]⟩
def poly1305_limbs_mul_S2 : Spec := ⟨[.ref 0 (.arr 5 .u64), .ref 1 (.arr 5 .u64)], [(.box 230 (.arr 5 .u64), .pos 0), (.box 230 (.arr 5 .u64), .pos 1)]⟩
def poly1305_limbs_mul_S3 : Spec := ⟨[.val (.arr 5 .u64), .val (.arr 5 .u64)], []⟩
def poly1305_limbs_mul_S4 : Spec := ⟨[.fp (.arr 5 .u64)], []⟩
def poly1305_limbs_mul_K (_N : Nat) : XE → GS → Option poly1305_limbs_mul_R := retK 0 [4] [true] poly1305_limbs_mul_S4
def poly1305_limbs_mul_L : List Code := (bodyOf (some Tryd.f203))
def poly1305_limbs_mul_L2 : List Code := (loopOf (poly1305_limbs_mul_L[3]?))
def poly1305_limbs_mul_L4b : List Code := (blockOf (poly1305_limbs_mul_L2[2]?))
def poly1305_limbs_mul_L7 : List Code := (loopOf (poly1305_limbs_mul_L4b[2]?))
def poly1305_limbs_mul_K2 (N : Nat) : XE → GS → Option (Lo ((Int × Unit) × ((List UInt64) × (List UInt64) × (List UInt64) × (List UInt64) × Unit)) ((Unit) × ((List UInt64) × (List UInt64) × Unit)) poly1305_limbs_mul_R) := roundK (some 0) (fit 0 [2, 3, 4, 5, 9] poly1305_limbs_mul_S1) (fit 0 [4, 5] poly1305_limbs_mul_S2) (poly1305_limbs_mul_K N)
def poly1305_limbs_mul_K4 (N : Nat) : XE → GS → Option (Lo ((Int × Unit) × ((List UInt64) × (List UInt64) × (List UInt64) × (List UInt64) × Unit)) ((Unit) × ((List UInt64) × (List UInt64) × Unit)) poly1305_limbs_mul_R) := blockK 1 (goK 0 [2, 3, 4, 5, 9] poly1305_limbs_mul_S1 (fun y => poly1305_limbs_mul_8 N y.1.1 y.2.1 y.2.2.1 y.2.2.2.1 y.2.2.2.2.1)) (poly1305_limbs_mul_K2 N)
def poly1305_limbs_mul_K7 (N : Nat) : XE → GS → Option (Lo ((Int × Int × Int × Unit) × ((List UInt64) × (List UInt64) × (List UInt64) × (List UInt64) × Unit)) ((Int × Unit) × ((List UInt64) × (List UInt64) × (List UInt64) × (List UInt64) × Unit)) (Lo ((Int × Unit) × ((List UInt64) × (List UInt64) × (List UInt64) × (List UInt64) × Unit)) ((Unit) × ((List UInt64) × (List UInt64) × Unit)) poly1305_limbs_mul_R)) := roundK (some 2) (fit 0 [2, 3, 4, 5, 6, 9, 12] poly1305_limbs_mul_S0) (fit 0 [2, 3, 4, 5, 9] poly1305_limbs_mul_S1) (poly1305_limbs_mul_K4 N)
theorem poly1305_limbs_mul_s7_b {E : Env} (N : Nat) (hb : Base Tryd.prog (poly1305_limbs_mul_C N) E 0) : Blk Tryd.prog (poly1305_limbs_mul_C N) E [2, 3, 4, 5, 6, 9, 12] poly1305_limbs_mul_S0 (poly1305_limbs_mul_L7.drop 0) (fun y => poly1305_limbs_mul_s7 N y.1.1 y.1.2.1 y.1.2.2.1 y.2.1 y.2.2.1 y.2.2.2.1 y.2.2.2.2.1) (poly1305_limbs_mul_K7 N) :=
 Blk.chunkAt hb 4 (X := (poly1305_limbs_mul_K7 N .normal)) (NxOk.end (by kernel_rfl)) rfl (fun x => by kernel_rfl)
theorem poly1305_limbs_mul_8_b {E : Env} (N : Nat) (hb : Base Tryd.prog (poly1305_limbs_mul_C N) E 0) : Blk Tryd.prog (poly1305_limbs_mul_C N) E [2, 3, 4, 5, 9] poly1305_limbs_mul_S1 (poly1305_limbs_mul_L2.drop 3) (fun y => poly1305_limbs_mul_8 N y.1.1 y.2.1 y.2.2.1 y.2.2.2.1 y.2.2.2.2.1) (poly1305_limbs_mul_K2 N) :=
 Blk.chunkAt hb 1 (X := (poly1305_limbs_mul_K2 N .normal)) (NxOk.end (by kernel_rfl)) rfl (fun x => by kernel_rfl)
theorem poly1305_limbs_mul_6_b {E : Env} (N : Nat) (hb : Base Tryd.prog (poly1305_limbs_mul_C N) E 0) : Blk Tryd.prog (poly1305_limbs_mul_C N) E [2, 3, 4, 5, 6, 9, 12] poly1305_limbs_mul_S0 (poly1305_limbs_mul_L4b.drop 2) (fun y => poly1305_limbs_mul_6 N y.1.1 y.1.2.1 y.1.2.2.1 y.2.1 y.2.2.1 y.2.2.2.1 y.2.2.2.2.1) (poly1305_limbs_mul_K4 N) :=
 Blk.loopAt (Nf := N) (hns := [2, 3, 4, 5, 6, 9, 12]) (ans := [2, 3, 4, 5, 9]) (hc := poly1305_limbs_mul_S0) (ac := poly1305_limbs_mul_S1) (bid := 2) (step := (fun y => poly1305_limbs_mul_s7 N y.1.1 y.1.2.1 y.1.2.2.1 y.2.1 y.2.2.1 y.2.2.2.1 y.2.2.2.2.1)) (J := (fun e => (poly1305_limbs_mul_K4 N .normal) (poly1305_limbs_mul_S1.st [2, 3, 4, 5, 9] e))) hb (by kernel_rfl) (Blk.into (X := (poly1305_limbs_mul_K4 N .normal)) (NxOk.end (by kernel_rfl)) (fun x => by kernel_rfl)) (poly1305_limbs_mul_s7_b N hb) (fun x => by kernel_rfl)
theorem poly1305_limbs_mul_5_b {E : Env} (N : Nat) (hb : Base Tryd.prog (poly1305_limbs_mul_C N) E 0) : Blk Tryd.prog (poly1305_limbs_mul_C N) E [2, 3, 4, 5, 9] poly1305_limbs_mul_S1 (poly1305_limbs_mul_L4b.drop 0) (fun y => poly1305_limbs_mul_5 N y.1.1 y.2.1 y.2.2.1 y.2.2.2.1 y.2.2.2.2.1) (poly1305_limbs_mul_K4 N) :=
 Blk.chunkAt hb 2 (X := (goK 0 [2, 3, 4, 5, 6, 9, 12] poly1305_limbs_mul_S0 (fun y => poly1305_limbs_mul_6 N y.1.1 y.1.2.1 y.1.2.2.1 y.2.1 y.2.2.1 y.2.2.2.1 y.2.2.2.2.1))) (NxOk.go hb (poly1305_limbs_mul_6_b N hb)) rfl (fun x => by kernel_rfl)
theorem poly1305_limbs_mul_3_b {E : Env} (N : Nat) (hb : Base Tryd.prog (poly1305_limbs_mul_C N) E 0) : Blk Tryd.prog (poly1305_limbs_mul_C N) E [2, 3, 4, 5, 9] poly1305_limbs_mul_S1 (poly1305_limbs_mul_L2.drop 2) (fun y => poly1305_limbs_mul_3 N y.1.1 y.2.1 y.2.2.1 y.2.2.2.1 y.2.2.2.2.1) (poly1305_limbs_mul_K2 N) :=
 Blk.blockAt (bid := 1) (X := (goK 0 [2, 3, 4, 5, 9] poly1305_limbs_mul_S1 (fun y => poly1305_limbs_mul_8 N y.1.1 y.2.1 y.2.2.1 y.2.2.2.1 y.2.2.2.2.1))) (Y := (goK 0 [2, 3, 4, 5, 9] poly1305_limbs_mul_S1 (fun y => poly1305_limbs_mul_5 N y.1.1 y.2.1 y.2.2.1 y.2.2.2.1 y.2.2.2.2.1))) (by kernel_rfl) (NxOk.go hb (poly1305_limbs_mul_8_b N hb)) (NxOk.go hb (poly1305_limbs_mul_5_b N hb)) (fun x => by kernel_rfl)
theorem poly1305_limbs_mul_s2_b {E : Env} (N : Nat) (hb : Base Tryd.prog (poly1305_limbs_mul_C N) E 0) : Blk Tryd.prog (poly1305_limbs_mul_C N) E [2, 3, 4, 5, 9] poly1305_limbs_mul_S1 (poly1305_limbs_mul_L2.drop 0) (fun y => poly1305_limbs_mul_s2 N y.1.1 y.2.1 y.2.2.1 y.2.2.2.1 y.2.2.2.2.1) (poly1305_limbs_mul_K2 N) :=
 Blk.chunkAt hb 2 (X := (goK 0 [2, 3, 4, 5, 9] poly1305_limbs_mul_S1 (fun y => poly1305_limbs_mul_3 N y.1.1 y.2.1 y.2.2.1 y.2.2.2.1 y.2.2.2.2.1))) (NxOk.go hb (poly1305_limbs_mul_3_b N hb)) rfl (fun x => by kernel_rfl)
theorem poly1305_limbs_mul_9_b {E : Env} (N : Nat) (hb : Base Tryd.prog (poly1305_limbs_mul_C N) E 0) : Blk Tryd.prog (poly1305_limbs_mul_C N) E [4, 5] poly1305_limbs_mul_S2 (poly1305_limbs_mul_L.drop 4) (fun y => poly1305_limbs_mul_9 N y.2.1 y.2.2.1) (poly1305_limbs_mul_K N) :=
 Blk.chunkAt hb 2 (X := (poly1305_limbs_mul_K N .normal)) (NxOk.end (by kernel_rfl)) rfl (fun x => by kernel_rfl)
theorem poly1305_limbs_mul_1_b {E : Env} (N : Nat) (hb : Base Tryd.prog (poly1305_limbs_mul_C N) E 0) : Blk Tryd.prog (poly1305_limbs_mul_C N) E [2, 3, 4, 5, 9] poly1305_limbs_mul_S1 (poly1305_limbs_mul_L.drop 3) (fun y => poly1305_limbs_mul_1 N y.1.1 y.2.1 y.2.2.1 y.2.2.2.1 y.2.2.2.2.1) (poly1305_limbs_mul_K N) :=
 Blk.loopAt (Nf := N) (hns := [2, 3, 4, 5, 9]) (ans := [4, 5]) (hc := poly1305_limbs_mul_S1) (ac := poly1305_limbs_mul_S2) (bid := 0) (step := (fun y => poly1305_limbs_mul_s2 N y.1.1 y.2.1 y.2.2.1 y.2.2.2.1 y.2.2.2.2.1)) (J := (fun e => (goK 0 [4, 5] poly1305_limbs_mul_S2 (fun y => poly1305_limbs_mul_9 N y.2.1 y.2.2.1)) (poly1305_limbs_mul_S2.st [4, 5] e))) hb (by kernel_rfl) (Blk.into (X := (goK 0 [4, 5] poly1305_limbs_mul_S2 (fun y => poly1305_limbs_mul_9 N y.2.1 y.2.2.1))) (NxOk.go hb (poly1305_limbs_mul_9_b N hb)) (fun x => by kernel_rfl)) (poly1305_limbs_mul_s2_b N hb) (fun x => by kernel_rfl)
theorem poly1305_limbs_mul_b {E : Env} (N : Nat) (hb : Base Tryd.prog (poly1305_limbs_mul_C N) E 0) : Blk Tryd.prog (poly1305_limbs_mul_C N) E (List.range poly1305_limbs_mul_S3.ks.length) poly1305_limbs_mul_S3 (poly1305_limbs_mul_L.drop 0) (fun y => poly1305_limbs_mul N y.1.1 y.1.2.1) (poly1305_limbs_mul_K N) :=
 Blk.chunkAt hb 3 (X := (goK 0 [2, 3, 4, 5, 9] poly1305_limbs_mul_S1 (fun y => poly1305_limbs_mul_1 N y.1.1 y.2.1 y.2.2.1 y.2.2.2.1 y.2.2.2.2.1))) (NxOk.go hb (poly1305_limbs_mul_1_b N hb)) rfl (fun x => by kernel_rfl)
def poly1305_limbs_mul_ctr (N : Nat) : Ctr := ⟨poly1305_limbs_mul_S3, poly1305_limbs_mul_S4.un [true], 0, (fun y => poly1305_limbs_mul N y.1.1 y.1.2.1)⟩
theorem poly1305_limbs_mul_ctrs (N : Nat) : CtrsOk Tryd.prog (poly1305_limbs_mul_C N) := ctrs_of (Γ := poly1305_limbs_mul_C N) G_ifs_ok (by
 intro p hp
 simp only [poly1305_limbs_mul_C, List.mem_cons, List.not_mem_nil, or_false] at hp
 rcases hp with rfl
 · exact poly1305_limbs_carry_ok N)
theorem poly1305_limbs_mul_ok (N : Nat) : Ctr.ok Tryd.prog G_globs 203 (poly1305_limbs_mul_ctr N) :=
 ctr_fn (Γ := poly1305_limbs_mul_C N) (rfit := poly1305_limbs_mul_S4) (bs := [true]) (res := [4]) (by kernel_rfl) (tys_ok G_tys_ok) (poly1305_limbs_mul_ctrs N) Tryd.func203 (by kernel_rfl) (by kernel_rfl) Tryd.ntmps203 (by kernel_rfl) (by kernel_rfl) (by kernel_rfl) (by kernel_rfl) (fun E hb => poly1305_limbs_mul_b N hb)
/-! (ipsecgate/poly1305.limbs).reduced -/
abbrev poly1305_limbs_reduced_R : Type := (((List UInt64) × Unit) × (Unit))
def poly1305_limbs_reduced_s2 (N : Nat) (t_13 : Int) (a_1 : (List UInt64)) (t_2 : (List UInt64)) (b_3 : (List UInt64)) : Option (Lo ((Int × Unit) × ((List UInt64) × (List UInt64) × (List UInt64) × Unit)) ((Unit) × ((List UInt64) × (List UInt64) × (List UInt64) × Unit)) poly1305_limbs_reduced_R) :=
 bif (decide (t_13 < (4 : Int))) then
 let x7 := w64 (t_13 + (1 : Int))
 bif inR x7 5 then
 bif inR t_13 5 then
 bif inR x7 5 then
 let x12 := (b_3.set x7.toNat ((b_3.getD x7.toNat (0 : UInt64)) + (shr64 (b_3.getD t_13.toNat (0 : UInt64)) 26)))
 bif inR t_13 5 then
 bif inR t_13 5 then
 some (.go (((w64 (t_13 + (1 : Int))), ()), (a_1, t_2, (x12.set t_13.toNat ((x12.getD t_13.toNat (0 : UInt64)) &&& (67108863 : UInt64))), ())))
 else none
 else none
 else none
 else none
 else none
 else
 some (.br ((()), (a_1, t_2, b_3, ())))
def poly1305_limbs_reduced_3 (N : Nat) (a_1 : (List UInt64)) (t_2 : (List UInt64)) (b_3 : (List UInt64)) : Option poly1305_limbs_reduced_R :=
 bif (decide ((shr64 (b_3.getD 4 (0 : UInt64)) 26) = (0 : UInt64))) then
 some ((a_1, ()), (()))
 else
 some (((b_3.set 4 ((b_3.getD 4 (0 : UInt64)) &&& (67108863 : UInt64))), ()), (()))
def poly1305_limbs_reduced_1 (N : Nat) (t_13 : Int) (a_1 : (List UInt64)) (t_2 : (List UInt64)) (b_3 : (List UInt64)) : Option poly1305_limbs_reduced_R :=
 loopK N (fun y => poly1305_limbs_reduced_s2 N y.1.1 y.2.1 y.2.2.1 y.2.2.2.1) (fun (e : ((Unit) × ((List UInt64) × (List UInt64) × (List UInt64) × Unit))) => poly1305_limbs_reduced_3 N e.2.1 e.2.2.1 e.2.2.2.1) ((t_13, ()), (a_1, t_2, b_3, ()))
def poly1305_limbs_reduced (N : Nat) (a_0 : (List UInt64)) : Option poly1305_limbs_reduced_R :=
 Option.bind (poly1305_limbs_carry N a_0) fun y1 =>
 Option.bind (poly1305_limbs_carry N y1.1.1) fun y2 =>
 poly1305_limbs_reduced_1 N (0 : Int) y2.1.1 (List.replicate 5 (0 : UInt64)) (y2.1.1.set 0 ((y2.1.1.getD 0 (0 : UInt64)) + (5 : UInt64)))
def poly1305_limbs_reduced_C (N : Nat) : Ctx := ⟨42, G_tys, [(223, poly1305_limbs_carry_ctr N)], G_globs, G_ifs⟩
def poly1305_limbs_reduced_S0 : Spec := ⟨[.ref 0 (.arr 5 .u64), .ref 1 (.arr 5 .u64), .ref 2 (.arr 5 .u64), .val .i64], [(.box 230 (.arr 5 .u64), .pos 0), (.box 230 (.arr 5 .u64), .pos 1), (.box 230 (.arr 5 .u64), .pos 2)]⟩
def poly1305_limbs_reduced_S1 : Spec := ⟨[.ref 0 (.arr 5 .u64), .ref 1 (.arr 5 .u64), .ref 2 (.arr 5 .u64)], [(.box 230 (.arr 5 .u64), .pos 0), (.box 230 (.arr 5 .u64), .pos 1), (.box 230 (.arr 5 .u64), .pos 2)]⟩
def poly1305_limbs_reduced_S2 : Spec := ⟨[.val (.arr 5 .u64)], []⟩
def poly1305_limbs_reduced_S3 : Spec := ⟨[.fp (.arr 5 .u64)], []⟩
def poly1305_limbs_reduced_K (_N : Nat) : XE → GS → Option poly1305_limbs_reduced_R := retK 0 [2] [true] poly1305_limbs_reduced_S3
def poly1305_limbs_reduced_L : List Code := (bodyOf (some Tryd.f204))
def poly1305_limbs_reduced_L2 : List Code := (loopOf (poly1305_limbs_reduced_L[5]?))
def poly1305_limbs_reduced_K2 (N : Nat) : XE → GS → Option (Lo ((Int × Unit) × ((List UInt64) × (List UInt64) × (List UInt64) × Unit)) ((Unit) × ((List UInt64) × (List UInt64) × (List UInt64) × Unit)) poly1305_limbs_reduced_R) := roundK (some 0) (fit 0 [1, 2, 3, 13] poly1305_limbs_reduced_S0) (fit 0 [1, 2, 3] poly1305_limbs_reduced_S1) (poly1305_limbs_reduced_K N)
theorem poly1305_limbs_reduced_s2_b {E : Env} (N : Nat) (hb : Base Tryd.prog (poly1305_limbs_reduced_C N) E 0) : Blk Tryd.prog (poly1305_limbs_reduced_C N) E [1, 2, 3, 13] poly1305_limbs_reduced_S0 (poly1305_limbs_reduced_L2.drop 0) (fun y => poly1305_limbs_reduced_s2 N y.1.1 y.2.1 y.2.2.1 y.2.2.2.1) (poly1305_limbs_reduced_K2 N) :=
 Blk.chunkAt hb 4 (X := (poly1305_limbs_reduced_K2 N .normal)) (NxOk.end (by kernel_rfl)) rfl (fun x => by kernel_rfl)
theorem poly1305_limbs_reduced_3_b {E : Env} (N : Nat) (hb : Base Tryd.prog (poly1305_limbs_reduced_C N) E 0) : Blk Tryd.prog (poly1305_limbs_reduced_C N) E [1, 2, 3] poly1305_limbs_reduced_S1 (poly1305_limbs_reduced_L.drop 6) (fun y => poly1305_limbs_reduced_3 N y.2.1 y.2.2.1 y.2.2.2.1) (poly1305_limbs_reduced_K N) :=
 Blk.chunkAt hb 5 (X := (poly1305_limbs_reduced_K N .normal)) (NxOk.end (by kernel_rfl)) rfl (fun x => by kernel_rfl)
theorem poly1305_limbs_reduced_1_b {E : Env} (N : Nat) (hb : Base Tryd.prog (poly1305_limbs_reduced_C N) E 0) : Blk Tryd.prog (poly1305_limbs_reduced_C N) E [1, 2, 3, 13] poly1305_limbs_reduced_S0 (poly1305_limbs_reduced_L.drop 5) (fun y => poly1305_limbs_reduced_1 N y.1.1 y.2.1 y.2.2.1 y.2.2.2.1) (poly1305_limbs_reduced_K N) :=
 Blk.loopAt (Nf := N) (hns := [1, 2, 3, 13]) (ans := [1, 2, 3]) (hc := poly1305_limbs_reduced_S0) (ac := poly1305_limbs_reduced_S1) (bid := 0) (step := (fun y => poly1305_limbs_reduced_s2 N y.1.1 y.2.1 y.2.2.1 y.2.2.2.1)) (J := (fun e => (goK 0 [1, 2, 3] poly1305_limbs_reduced_S1 (fun y => poly1305_limbs_reduced_3 N y.2.1 y.2.2.1 y.2.2.2.1)) (poly1305_limbs_reduced_S1.st [1, 2, 3] e))) hb (by kernel_rfl) (Blk.into (X := (goK 0 [1, 2, 3] poly1305_limbs_reduced_S1 (fun y => poly1305_limbs_reduced_3 N y.2.1 y.2.2.1 y.2.2.2.1))) (NxOk.go hb (poly1305_limbs_reduced_3_b N hb)) (fun x => by kernel_rfl)) (poly1305_limbs_reduced_s2_b N hb) (fun x => by kernel_rfl)
theorem poly1305_limbs_reduced_b {E : Env} (N : Nat) (hb : Base Tryd.prog (poly1305_limbs_reduced_C N) E 0) : Blk Tryd.prog (poly1305_limbs_reduced_C N) E (List.range poly1305_limbs_reduced_S2.ks.length) poly1305_limbs_reduced_S2 (poly1305_limbs_reduced_L.drop 0) (fun y => poly1305_limbs_reduced N y.1.1) (poly1305_limbs_reduced_K N) :=
 Blk.chunkAt hb 5 (X := (goK 0 [1, 2, 3, 13] poly1305_limbs_reduced_S0 (fun y => poly1305_limbs_reduced_1 N y.1.1 y.2.1 y.2.2.1 y.2.2.2.1))) (NxOk.go hb (poly1305_limbs_reduced_1_b N hb)) rfl (fun x => by kernel_rfl)
def poly1305_limbs_reduced_ctr (N : Nat) : Ctr := ⟨poly1305_limbs_reduced_S2, poly1305_limbs_reduced_S3.un [true], 0, (fun y => poly1305_limbs_reduced N y.1.1)⟩
theorem poly1305_limbs_reduced_ctrs (N : Nat) : CtrsOk Tryd.prog (poly1305_limbs_reduced_C N) := ctrs_of (Γ := poly1305_limbs_reduced_C N) G_ifs_ok (by
 intro p hp
 simp only [poly1305_limbs_reduced_C, List.mem_cons, List.not_mem_nil, or_false] at hp
 rcases hp with rfl
 · exact poly1305_limbs_carry_ok N)
theorem poly1305_limbs_reduced_ok (N : Nat) : Ctr.ok Tryd.prog G_globs 204 (poly1305_limbs_reduced_ctr N) :=
 ctr_fn (Γ := poly1305_limbs_reduced_C N) (rfit := poly1305_limbs_reduced_S3) (bs := [true]) (res := [2]) (by kernel_rfl) (tys_ok G_tys_ok) (poly1305_limbs_reduced_ctrs N) Tryd.func204 (by kernel_rfl) (by kernel_rfl) Tryd.ntmps204 (by kernel_rfl) (by kernel_rfl) (by kernel_rfl) (by kernel_rfl) (fun E hb => poly1305_limbs_reduced_b N hb)
/-! ipsecgate/poly1305.Sum -/
abbrev poly1305_Sum_R : Type := ((Bool × Unit) × ((List UInt8) × Unit))
def poly1305_Sum_s2 (N : Nat) (key_0 : (List UInt8)) (b_1 : (List UInt8)) (r_6 : (List UInt64)) (v_7 : (List UInt64)) : Option (Lo (((List UInt8) × (List UInt8) × Unit) × ((List UInt64) × (List UInt64) × Unit)) (((List UInt8) × Unit) × ((List UInt64) × Unit)) poly1305_Sum_R) :=
 bif (decide ((0 : Int) < (b_1.length : Int))) then
 let x8 := (b_1.length : Int)
 let x9 := bif decide (x8 < (16 : Int)) then x8 else (16 : Int)
 bif decide (0 ≤ (0 : Int)) && decide ((0 : Int) ≤ x9) && decide (x9 ≤ (b_1.length : Int)) && true then
 let x10 := cut b_1 0 x9.toNat
 bif room (0 + x10.length) 1 then
 bif room (x10.length + ([(1 : UInt8)] : List UInt8).length) 1 then
 Option.bind (poly1305_number N (x10 ++ ([(1 : UInt8)] : List UInt8))) fun y12 =>
 Option.bind (poly1305_limbs_add N v_7 y12.1.1) fun y13 =>
 Option.bind (poly1305_limbs_mul N y13.1.1 r_6) fun y14 =>
 bif decide (0 ≤ x9) && decide (x9 ≤ (b_1.length : Int)) && decide ((b_1.length : Int) ≤ (b_1.length : Int)) && true then
 some (.go ((key_0, (cut b_1 x9.toNat b_1.length), ()), (r_6, y14.1.1, ())))
 else none
 else none
 else none
 else none
 else
 some (.br ((key_0, ()), (v_7, ())))
def poly1305_Sum_s5 (N : Nat) (t_50 : Int) (v_7 : (List UInt64)) (s_10 : (List UInt64)) : Option (Lo ((Int × Unit) × ((List UInt64) × (List UInt64) × Unit)) ((Unit) × ((List UInt64) × Unit)) poly1305_Sum_R) :=
 bif (decide (t_50 < (5 : Int))) then
 bif inR t_50 5 then
 bif inR t_50 5 then
 bif inR t_50 5 then
 some (.go (((w64 (t_50 + (1 : Int))), ()), ((v_7.set t_50.toNat ((v_7.getD t_50.toNat (0 : UInt64)) + (s_10.getD t_50.toNat (0 : UInt64)))), s_10, ())))
 else none
 else none
 else none
 else
 some (.br ((()), (v_7, ())))
def poly1305_Sum_s8 (N : Nat) (t_62 : Int) (v_7 : (List UInt64)) : Option (Lo ((Int × Unit) × ((List UInt64) × Unit)) ((Unit) × ((List UInt64) × Unit)) poly1305_Sum_R) :=
 bif (decide (t_62 < (4 : Int))) then
 let x26 := w64 (t_62 + (1 : Int))
 bif inR x26 5 then
 bif inR t_62 5 then
 bif inR x26 5 then
 let x31 := (v_7.set x26.toNat ((v_7.getD x26.toNat (0 : UInt64)) + (shr64 (v_7.getD t_62.toNat (0 : UInt64)) 26)))
 bif inR t_62 5 then
 bif inR t_62 5 then
 some (.go (((w64 (t_62 + (1 : Int))), ()), ((x31.set t_62.toNat ((x31.getD t_62.toNat (0 : UInt64)) &&& (67108863 : UInt64))), ())))
 else none
 else none
 else none
 else none
 else none
 else
 some (.br ((()), (v_7, ())))
def poly1305_Sum_s11 (N : Nat) (t_81 : Int) (v_7 : (List UInt64)) (out_13 : (List UInt8)) : Option (Lo ((Int × Unit) × ((List UInt64) × (List UInt8) × Unit)) ((Unit) × ((List UInt8) × Unit)) poly1305_Sum_R) :=
 bif (decide (t_81 < (16 : Int))) then
 let x37 := w64 ((8 : Int) * t_81)
 let x38 := w64 (x37.tdiv (26 : Int))
 bif inR x38 5 then
 let x40 := x37.tmod (26 : Int)
 bif decide (0 ≤ x40) then
 let x41 := shr64 (v_7.getD x38.toNat (0 : UInt64)) x40.toNat
 bif (decide ((18 : Int) < (x37.tmod (26 : Int)))) then
 let x45 := w64 ((w64 (x37.tdiv (26 : Int))) + (1 : Int))
 bif inR x45 5 then
 let x48 := w64 ((26 : Int) - (x37.tmod (26 : Int)))
 bif decide (0 ≤ x48) then
 let x49 := shl64 (v_7.getD x45.toNat (0 : UInt64)) x48.toNat
 bif room (out_13.length + ([(x41 ||| x49).toUInt8] : List UInt8).length) 1 then
 some (.go (((w64 (t_81 + (1 : Int))), ()), (v_7, (out_13 ++ ([(x41 ||| x49).toUInt8] : List UInt8)), ())))
 else none
 else none
 else none
 else
 bif room (out_13.length + ([x41.toUInt8] : List UInt8).length) 1 then
 some (.go (((w64 (t_81 + (1 : Int))), ()), (v_7, (out_13 ++ ([x41.toUInt8] : List UInt8)), ())))
 else none
 else none
 else none
 else
 some (.br ((()), (out_13, ())))
def poly1305_Sum_12 (N : Nat) (out_13 : (List UInt8)) : Option poly1305_Sum_R :=
 some ((true, ()), (out_13, ()))
def poly1305_Sum_10 (N : Nat) (t_81 : Int) (v_7 : (List UInt64)) (out_13 : (List UInt8)) : Option poly1305_Sum_R :=
 loopK N (fun y => poly1305_Sum_s11 N y.1.1 y.2.1 y.2.2.1) (fun (e : ((Unit) × ((List UInt8) × Unit))) => poly1305_Sum_12 N e.2.1) ((t_81, ()), (v_7, out_13, ()))
def poly1305_Sum_9 (N : Nat) (v_7 : (List UInt64)) : Option poly1305_Sum_R :=
 poly1305_Sum_10 N (0 : Int) v_7 ([] : List UInt8)
def poly1305_Sum_7 (N : Nat) (t_62 : Int) (v_7 : (List UInt64)) : Option poly1305_Sum_R :=
 loopK N (fun y => poly1305_Sum_s8 N y.1.1 y.2.1) (fun (e : ((Unit) × ((List UInt64) × Unit))) => poly1305_Sum_9 N e.2.1) ((t_62, ()), (v_7, ()))
def poly1305_Sum_6 (N : Nat) (v_7 : (List UInt64)) : Option poly1305_Sum_R :=
 poly1305_Sum_7 N (0 : Int) v_7
def poly1305_Sum_4 (N : Nat) (t_50 : Int) (v_7 : (List UInt64)) (s_10 : (List UInt64)) : Option poly1305_Sum_R :=
 loopK N (fun y => poly1305_Sum_s5 N y.1.1 y.2.1 y.2.2.1) (fun (e : ((Unit) × ((List UInt64) × Unit))) => poly1305_Sum_6 N e.2.1) ((t_50, ()), (v_7, s_10, ()))
def poly1305_Sum_3 (N : Nat) (key_0 : (List UInt8)) (v_7 : (List UInt64)) : Option poly1305_Sum_R :=
 Option.bind (poly1305_limbs_reduced N v_7) fun y16 =>
 bif decide (0 ≤ (16 : Int)) && decide ((16 : Int) ≤ (key_0.length : Int)) && decide ((key_0.length : Int) ≤ (key_0.length : Int)) && true then
 Option.bind (poly1305_number N (cut key_0 16 key_0.length)) fun y18 =>
 poly1305_Sum_4 N (0 : Int) y16.1.1 y18.1.1
 else none
def poly1305_Sum_1 (N : Nat) (key_0 : (List UInt8)) (b_1 : (List UInt8)) (r_6 : (List UInt64)) (v_7 : (List UInt64)) : Option poly1305_Sum_R :=
 loopK N (fun y => poly1305_Sum_s2 N y.1.1 y.1.2.1 y.2.1 y.2.2.1) (fun (e : (((List UInt8) × Unit) × ((List UInt64) × Unit))) => poly1305_Sum_3 N e.1.1 e.2.1) ((key_0, b_1, ()), (r_6, v_7, ()))
def poly1305_Sum (N : Nat) (key_0 : (List UInt8)) (b_1 : (List UInt8)) : Option poly1305_Sum_R :=
 bif (!(decide ((key_0.length : Int) = (32 : Int)))) then
 some ((false, ()), (([] : List UInt8), ()))
 else
 bif decide (0 ≤ (0 : Int)) && decide ((0 : Int) ≤ (16 : Int)) && decide ((16 : Int) ≤ (key_0.length : Int)) && true then
 Option.bind (poly1305_clamp N (cut key_0 0 16)) fun y4 =>
 Option.bind (poly1305_number N y4.2.1) fun y5 =>
 poly1305_Sum_1 N key_0 b_1 y5.1.1 (List.replicate 5 (0 : UInt64))
 else none
def poly1305_Sum_C (N : Nat) : Ctx := ⟨114, G_tys, [(201, poly1305_clamp_ctr N), (200, poly1305_number_ctr N), (202, poly1305_limbs_add_ctr N), (203, poly1305_limbs_mul_ctr N), (204, poly1305_limbs_reduced_ctr N)], G_globs, G_ifs⟩
def poly1305_Sum_S0 : Spec := ⟨[.val (.sl .u8), .val (.sl .u8), .ref 0 (.arr 5 .u64), .ref 1 (.arr 5 .u64)], [(.box 230 (.arr 5 .u64), .pos 2), (.box 230 (.arr 5 .u64), .pos 3)]⟩
def poly1305_Sum_S1 : Spec := ⟨[.ref 0 (.arr 5 .u64), .ref 1 (.arr 5 .u64), .val .i64], [(.box 230 (.arr 5 .u64), .pos 0), (.box 230 (.arr 5 .u64), .pos 1)]⟩
def poly1305_Sum_S2 : Spec := ⟨[.ref 0 (.arr 5 .u64), .val .i64], [(.box 230 (.arr 5 .u64), .pos 0)]⟩
def poly1305_Sum_S3 : Spec := ⟨[.ref 0 (.arr 5 .u64), .row 1, .val .i64], [(.box 230 (.arr 5 .u64), .pos 0), (.row 5 .u8, .pos 1)]⟩
def poly1305_Sum_S4 : Spec := ⟨[.row 0], [(.row 5 .u8, .pos 0)]⟩
def poly1305_Sum_S5 : Spec := ⟨[.ref 0 (.arr 5 .u64)], [(.box 230 (.arr 5 .u64), .pos 0)]⟩
def poly1305_Sum_S6 : Spec := ⟨[.val (.sl .u8), .ref 0 (.arr 5 .u64)], [(.box 230 (.arr 5 .u64), .pos 1)]⟩
def poly1305_Sum_S7 : Spec := ⟨[.val (.sl .u8), .val (.sl .u8)], []⟩
def poly1305_Sum_S8 : Spec := ⟨[.row 0, .val .bool], [(.row 5 .u8, .pos 0)]⟩
def poly1305_Sum_K (_N : Nat) : XE → GS → Option poly1305_Sum_R := retK 0 [4, 5] [false, false] poly1305_Sum_S8
def poly1305_Sum_L : List Code := (bodyOf (some Tryd.f167))
def poly1305_Sum_L2 : List Code := (loopOf (poly1305_Sum_L[5]?))
def poly1305_Sum_L5 : List Code := (loopOf (poly1305_Sum_L[9]?))
def poly1305_Sum_L8 : List Code := (loopOf (poly1305_Sum_L[11]?))
def poly1305_Sum_L11 : List Code := (loopOf (poly1305_Sum_L[14]?))
def poly1305_Sum_K2 (N : Nat) : XE → GS → Option (Lo (((List UInt8) × (List UInt8) × Unit) × ((List UInt64) × (List UInt64) × Unit)) (((List UInt8) × Unit) × ((List UInt64) × Unit)) poly1305_Sum_R) := roundK (some 0) (fit 0 [0, 1, 6, 7] poly1305_Sum_S0) (fit 0 [0, 7] poly1305_Sum_S6) (poly1305_Sum_K N)
def poly1305_Sum_K5 (N : Nat) : XE → GS → Option (Lo ((Int × Unit) × ((List UInt64) × (List UInt64) × Unit)) ((Unit) × ((List UInt64) × Unit)) poly1305_Sum_R) := roundK (some 2) (fit 0 [7, 10, 50] poly1305_Sum_S1) (fit 0 [7] poly1305_Sum_S5) (poly1305_Sum_K N)
def poly1305_Sum_K8 (N : Nat) : XE → GS → Option (Lo ((Int × Unit) × ((List UInt64) × Unit)) ((Unit) × ((List UInt64) × Unit)) poly1305_Sum_R) := roundK (some 4) (fit 0 [7, 62] poly1305_Sum_S2) (fit 0 [7] poly1305_Sum_S5) (poly1305_Sum_K N)
def poly1305_Sum_K11 (N : Nat) : XE → GS → Option (Lo ((Int × Unit) × ((List UInt64) × (List UInt8) × Unit)) ((Unit) × ((List UInt8) × Unit)) poly1305_Sum_R) := roundK (some 6) (fit 0 [7, 13, 81] poly1305_Sum_S3) (fit 0 [13] poly1305_Sum_S4) (poly1305_Sum_K N)
theorem poly1305_Sum_s2_b {E : Env} (N : Nat) (hb : Base Tryd.prog (poly1305_Sum_C N) E 0) : Blk Tryd.prog (poly1305_Sum_C N) E [0, 1, 6, 7] poly1305_Sum_S0 (poly1305_Sum_L2.drop 0) (fun y => poly1305_Sum_s2 N y.1.1 y.1.2.1 y.2.1 y.2.2.1) (poly1305_Sum_K2 N) :=
 Blk.chunkAt hb 3 (X := (poly1305_Sum_K2 N .normal)) (NxOk.end (by kernel_rfl)) rfl (fun x => by kernel_rfl)
theorem poly1305_Sum_s5_b {E : Env} (N : Nat) (hb : Base Tryd.prog (poly1305_Sum_C N) E 0) : Blk Tryd.prog (poly1305_Sum_C N) E [7, 10, 50] poly1305_Sum_S1 (poly1305_Sum_L5.drop 0) (fun y => poly1305_Sum_s5 N y.1.1 y.2.1 y.2.2.1) (poly1305_Sum_K5 N) :=
 Blk.chunkAt hb 4 (X := (poly1305_Sum_K5 N .normal)) (NxOk.end (by kernel_rfl)) rfl (fun x => by kernel_rfl)
theorem poly1305_Sum_s8_b {E : Env} (N : Nat) (hb : Base Tryd.prog (poly1305_Sum_C N) E 0) : Blk Tryd.prog (poly1305_Sum_C N) E [7, 62] poly1305_Sum_S2 (poly1305_Sum_L8.drop 0) (fun y => poly1305_Sum_s8 N y.1.1 y.2.1) (poly1305_Sum_K8 N) :=
 Blk.chunkAt hb 4 (X := (poly1305_Sum_K8 N .normal)) (NxOk.end (by kernel_rfl)) rfl (fun x => by kernel_rfl)
theorem poly1305_Sum_s11_b {E : Env} (N : Nat) (hb : Base Tryd.prog (poly1305_Sum_C N) E 0) : Blk Tryd.prog (poly1305_Sum_C N) E [7, 13, 81] poly1305_Sum_S3 (poly1305_Sum_L11.drop 0) (fun y => poly1305_Sum_s11 N y.1.1 y.2.1 y.2.2.1) (poly1305_Sum_K11 N) :=
 Blk.chunkAt hb 4 (X := (poly1305_Sum_K11 N .normal)) (NxOk.end (by kernel_rfl)) rfl (fun x => by kernel_rfl)
theorem poly1305_Sum_12_b {E : Env} (N : Nat) (hb : Base Tryd.prog (poly1305_Sum_C N) E 0) : Blk Tryd.prog (poly1305_Sum_C N) E [13] poly1305_Sum_S4 (poly1305_Sum_L.drop 15) (fun y => poly1305_Sum_12 N y.2.1) (poly1305_Sum_K N) :=
 Blk.chunkAt hb 2 (X := (poly1305_Sum_K N .normal)) (NxOk.end (by kernel_rfl)) rfl (fun x => by kernel_rfl)
theorem poly1305_Sum_10_b {E : Env} (N : Nat) (hb : Base Tryd.prog (poly1305_Sum_C N) E 0) : Blk Tryd.prog (poly1305_Sum_C N) E [7, 13, 81] poly1305_Sum_S3 (poly1305_Sum_L.drop 14) (fun y => poly1305_Sum_10 N y.1.1 y.2.1 y.2.2.1) (poly1305_Sum_K N) :=
 Blk.loopAt (Nf := N) (hns := [7, 13, 81]) (ans := [13]) (hc := poly1305_Sum_S3) (ac := poly1305_Sum_S4) (bid := 6) (step := (fun y => poly1305_Sum_s11 N y.1.1 y.2.1 y.2.2.1)) (J := (fun e => (goK 0 [13] poly1305_Sum_S4 (fun y => poly1305_Sum_12 N y.2.1)) (poly1305_Sum_S4.st [13] e))) hb (by kernel_rfl) (Blk.into (X := (goK 0 [13] poly1305_Sum_S4 (fun y => poly1305_Sum_12 N y.2.1))) (NxOk.go hb (poly1305_Sum_12_b N hb)) (fun x => by kernel_rfl)) (poly1305_Sum_s11_b N hb) (fun x => by kernel_rfl)
theorem poly1305_Sum_9_b {E : Env} (N : Nat) (hb : Base Tryd.prog (poly1305_Sum_C N) E 0) : Blk Tryd.prog (poly1305_Sum_C N) E [7] poly1305_Sum_S5 (poly1305_Sum_L.drop 12) (fun y => poly1305_Sum_9 N y.2.1) (poly1305_Sum_K N) :=
 Blk.chunkAt hb 2 (X := (goK 0 [7, 13, 81] poly1305_Sum_S3 (fun y => poly1305_Sum_10 N y.1.1 y.2.1 y.2.2.1))) (NxOk.go hb (poly1305_Sum_10_b N hb)) rfl (fun x => by kernel_rfl)
theorem poly1305_Sum_7_b {E : Env} (N : Nat) (hb : Base Tryd.prog (poly1305_Sum_C N) E 0) : Blk Tryd.prog (poly1305_Sum_C N) E [7, 62] poly1305_Sum_S2 (poly1305_Sum_L.drop 11) (fun y => poly1305_Sum_7 N y.1.1 y.2.1) (poly1305_Sum_K N) :=
 Blk.loopAt (Nf := N) (hns := [7, 62]) (ans := [7]) (hc := poly1305_Sum_S2) (ac := poly1305_Sum_S5) (bid := 4) (step := (fun y => poly1305_Sum_s8 N y.1.1 y.2.1)) (J := (fun e => (goK 0 [7] poly1305_Sum_S5 (fun y => poly1305_Sum_9 N y.2.1)) (poly1305_Sum_S5.st [7] e))) hb (by kernel_rfl) (Blk.into (X := (goK 0 [7] poly1305_Sum_S5 (fun y => poly1305_Sum_9 N y.2.1))) (NxOk.go hb (poly1305_Sum_9_b N hb)) (fun x => by kernel_rfl)) (poly1305_Sum_s8_b N hb) (fun x => by kernel_rfl)
theorem poly1305_Sum_6_b {E : Env} (N : Nat) (hb : Base Tryd.prog (poly1305_Sum_C N) E 0) : Blk Tryd.prog (poly1305_Sum_C N) E [7] poly1305_Sum_S5 (poly1305_Sum_L.drop 10) (fun y => poly1305_Sum_6 N y.2.1) (poly1305_Sum_K N) :=
 Blk.chunkAt hb 1 (X := (goK 0 [7, 62] poly1305_Sum_S2 (fun y => poly1305_Sum_7 N y.1.1 y.2.1))) (NxOk.go hb (poly1305_Sum_7_b N hb)) rfl (fun x => by kernel_rfl)
theorem poly1305_Sum_4_b {E : Env} (N : Nat) (hb : Base Tryd.prog (poly1305_Sum_C N) E 0) : Blk Tryd.prog (poly1305_Sum_C N) E [7, 10, 50] poly1305_Sum_S1 (poly1305_Sum_L.drop 9) (fun y => poly1305_Sum_4 N y.1.1 y.2.1 y.2.2.1) (poly1305_Sum_K N) :=
 Blk.loopAt (Nf := N) (hns := [7, 10, 50]) (ans := [7]) (hc := poly1305_Sum_S1) (ac := poly1305_Sum_S5) (bid := 2) (step := (fun y => poly1305_Sum_s5 N y.1.1 y.2.1 y.2.2.1)) (J := (fun e => (goK 0 [7] poly1305_Sum_S5 (fun y => poly1305_Sum_6 N y.2.1)) (poly1305_Sum_S5.st [7] e))) hb (by kernel_rfl) (Blk.into (X := (goK 0 [7] poly1305_Sum_S5 (fun y => poly1305_Sum_6 N y.2.1))) (NxOk.go hb (poly1305_Sum_6_b N hb)) (fun x => by kernel_rfl)) (poly1305_Sum_s5_b N hb) (fun x => by kernel_rfl)
theorem poly1305_Sum_3_b {E : Env} (N : Nat) (hb : Base Tryd.prog (poly1305_Sum_C N) E 0) : Blk Tryd.prog (poly1305_Sum_C N) E [0, 7] poly1305_Sum_S6 (poly1305_Sum_L.drop 6) (fun y => poly1305_Sum_3 N y.1.1 y.2.1) (poly1305_Sum_K N) :=
 Blk.chunkAt hb 3 (X := (goK 0 [7, 10, 50] poly1305_Sum_S1 (fun y => poly1305_Sum_4 N y.1.1 y.2.1 y.2.2.1))) (NxOk.go hb (poly1305_Sum_4_b N hb)) rfl (fun x => by kernel_rfl)
theorem poly1305_Sum_1_b {E : Env} (N : Nat) (hb : Base Tryd.prog (poly1305_Sum_C N) E 0) : Blk Tryd.prog (poly1305_Sum_C N) E [0, 1, 6, 7] poly1305_Sum_S0 (poly1305_Sum_L.drop 5) (fun y => poly1305_Sum_1 N y.1.1 y.1.2.1 y.2.1 y.2.2.1) (poly1305_Sum_K N) :=
 Blk.loopAt (Nf := N) (hns := [0, 1, 6, 7]) (ans := [0, 7]) (hc := poly1305_Sum_S0) (ac := poly1305_Sum_S6) (bid := 0) (step := (fun y => poly1305_Sum_s2 N y.1.1 y.1.2.1 y.2.1 y.2.2.1)) (J := (fun e => (goK 0 [0, 7] poly1305_Sum_S6 (fun y => poly1305_Sum_3 N y.1.1 y.2.1)) (poly1305_Sum_S6.st [0, 7] e))) hb (by kernel_rfl) (Blk.into (X := (goK 0 [0, 7] poly1305_Sum_S6 (fun y => poly1305_Sum_3 N y.1.1 y.2.1))) (NxOk.go hb (poly1305_Sum_3_b N hb)) (fun x => by kernel_rfl)) (poly1305_Sum_s2_b N hb) (fun x => by kernel_rfl)
theorem poly1305_Sum_b {E : Env} (N : Nat) (hb : Base Tryd.prog (poly1305_Sum_C N) E 0) : Blk Tryd.prog (poly1305_Sum_C N) E (List.range poly1305_Sum_S7.ks.length) poly1305_Sum_S7 (poly1305_Sum_L.drop 0) (fun y => poly1305_Sum N y.1.1 y.1.2.1) (poly1305_Sum_K N) :=
 Blk.chunkAt hb 5 (X := (goK 0 [0, 1, 6, 7] poly1305_Sum_S0 (fun y => poly1305_Sum_1 N y.1.1 y.1.2.1 y.2.1 y.2.2.1))) (NxOk.go hb (poly1305_Sum_1_b N hb)) rfl (fun x => by kernel_rfl)
def poly1305_Sum_ctr (N : Nat) : Ctr := ⟨poly1305_Sum_S7, poly1305_Sum_S8.un [false, false], 0, (fun y => poly1305_Sum N y.1.1 y.1.2.1)⟩
theorem poly1305_Sum_ctrs (N : Nat) : CtrsOk Tryd.prog (poly1305_Sum_C N) := ctrs_of (Γ := poly1305_Sum_C N) G_ifs_ok (by
 intro p hp
 simp only [poly1305_Sum_C, List.mem_cons, List.not_mem_nil, or_false] at hp
 rcases hp with rfl | rfl | rfl | rfl | rfl
 · exact poly1305_clamp_ok N
 · exact poly1305_number_ok N
 · exact poly1305_limbs_add_ok N
 · exact poly1305_limbs_mul_ok N
 · exact poly1305_limbs_reduced_ok N)
theorem poly1305_Sum_ok (N : Nat) : Ctr.ok Tryd.prog G_globs 167 (poly1305_Sum_ctr N) :=
 ctr_fn (Γ := poly1305_Sum_C N) (rfit := poly1305_Sum_S8) (bs := [false, false]) (res := [4, 5]) (by kernel_rfl) (tys_ok G_tys_ok) (poly1305_Sum_ctrs N) Tryd.func167 (by kernel_rfl) (by kernel_rfl) Tryd.ntmps167 (by kernel_rfl) (by kernel_rfl) (by kernel_rfl) (by kernel_rfl) (fun E hb => poly1305_Sum_b N hb)
/-! ipsecgate/aead.Tag -/
abbrev aead_Tag_R : Type := ((Bool × Unit) × ((List UInt8) × Unit))
def aead_Tag (N : Nat) (key_0 : (List UInt8)) (nonce_1 : (List UInt8)) (data_2 : (List UInt8)) (cipher_3 : (List UInt8)) : Option aead_Tag_R :=
 Option.bind (aead_keyed N key_0 nonce_1) fun y1 =>
 bif (!y1.1.1) then
 some ((false, ()), (([] : List UInt8), ()))
 else
 Option.bind (chacha_Block N key_0 (0 : UInt32) nonce_1) fun y3 =>
 Option.bind (aead_padded N data_2 ([] : List UInt8)) fun y4 =>
 Option.bind (aead_padded N cipher_3 y4.2.1) fun y5 =>
 bif decide (0 ≤ (0 : Int)) && decide ((0 : Int) ≤ (32 : Int)) && decide ((32 : Int) ≤ (y3.2.1.length : Int)) && true then
 Option.bind (aead_length N (data_2.length : Int) y5.2.1) fun y8 =>
 Option.bind (aead_length N (cipher_3.length : Int) y8.2.1) fun y10 =>
 Option.bind (poly1305_Sum N (cut y3.2.1 0 32) y10.2.1) fun y11 =>
 some ((y11.1.1, ()), (y11.2.1, ()))
 else none
def aead_Tag_C (N : Nat) : Ctx := ⟨39, G_tys, [(119, aead_keyed_ctr N), (165, chacha_Block_ctr N), (166, aead_padded_ctr N), (168, aead_length_ctr N), (167, poly1305_Sum_ctr N)], G_globs, G_ifs⟩
def aead_Tag_S0 : Spec := ⟨[.val (.sl .u8), .val (.sl .u8), .val (.sl .u8), .val (.sl .u8)], []⟩
def aead_Tag_S1 : Spec := ⟨[.row 0, .val .bool], [(.row 5 .u8, .pos 0)]⟩
def aead_Tag_K (_N : Nat) : XE → GS → Option aead_Tag_R := retK 0 [8, 9] [false, false] aead_Tag_S1
def aead_Tag_L : List Code := (bodyOf (some Tryd.f121))
theorem aead_Tag_b {E : Env} (N : Nat) (hb : Base Tryd.prog (aead_Tag_C N) E 0) : Blk Tryd.prog (aead_Tag_C N) E (List.range aead_Tag_S0.ks.length) aead_Tag_S0 (aead_Tag_L.drop 0) (fun y => aead_Tag N y.1.1 y.1.2.1 y.1.2.2.1 y.1.2.2.2.1) (aead_Tag_K N) :=
 Blk.chunkAt hb 7 (X := (aead_Tag_K N .normal)) (NxOk.end (by kernel_rfl)) rfl (fun x => by kernel_rfl)
def aead_Tag_ctr (N : Nat) : Ctr := ⟨aead_Tag_S0, aead_Tag_S1.un [false, false], 0, (fun y => aead_Tag N y.1.1 y.1.2.1 y.1.2.2.1 y.1.2.2.2.1)⟩
theorem aead_Tag_ctrs (N : Nat) : CtrsOk Tryd.prog (aead_Tag_C N) := ctrs_of (Γ := aead_Tag_C N) G_ifs_ok (by
 intro p hp
 simp only [aead_Tag_C, List.mem_cons, List.not_mem_nil, or_false] at hp
 rcases hp with rfl | rfl | rfl | rfl | rfl
 · exact aead_keyed_ok N
 · exact chacha_Block_ok N
 · exact aead_padded_ok N
 · exact aead_length_ok N
 · exact poly1305_Sum_ok N)
theorem aead_Tag_ok (N : Nat) : Ctr.ok Tryd.prog G_globs 121 (aead_Tag_ctr N) :=
 ctr_fn (Γ := aead_Tag_C N) (rfit := aead_Tag_S1) (bs := [false, false]) (res := [8, 9]) (by kernel_rfl) (tys_ok G_tys_ok) (aead_Tag_ctrs N) Tryd.func121 (by kernel_rfl) (by kernel_rfl) Tryd.ntmps121 (by kernel_rfl) (by kernel_rfl) (by kernel_rfl) (by kernel_rfl) (fun E hb => aead_Tag_b N hb)
/-! ipsecgate/aead.Seal -/
abbrev aead_Seal_R : Type := ((Int × Unit) × ((List UInt8) × Unit))
def aead_Seal (N : Nat) (key_0 : (List UInt8)) (nonce_1 : (List UInt8)) (data_2 : (List UInt8)) (plain_3 : (List UInt8)) : Option aead_Seal_R :=
 Option.bind (aead_keyed N key_0 nonce_1) fun y1 =>
 bif (!y1.1.1) then
 some (((13 : Int), ()), (([] : List UInt8), ()))
 else
 Option.bind (chacha_Xor N key_0 (1 : UInt32) nonce_1 plain_3) fun y3 =>
 Option.bind (aead_Tag N key_0 nonce_1 data_2 y3.2.1) fun y4 =>
 bif room (y3.2.1.length + y4.2.1.length) 1 then
 some (((0 : Int), ()), ((y3.2.1 ++ y4.2.1), ()))
 else none
def aead_Seal_C (N : Nat) : Ctx := ⟨36, G_tys, [(119, aead_keyed_ctr N), (120, chacha_Xor_ctr N), (121, aead_Tag_ctr N)], G_globs, G_ifs⟩
def aead_Seal_S0 : Spec := ⟨[.val (.sl .u8), .val (.sl .u8), .val (.sl .u8), .val (.sl .u8)], []⟩
def aead_Seal_S1 : Spec := ⟨[.row 0, .val .i64], [(.row 5 .u8, .pos 0)]⟩
def aead_Seal_K (_N : Nat) : XE → GS → Option aead_Seal_R := retK 0 [8, 9] [false, false] aead_Seal_S1
def aead_Seal_L : List Code := (bodyOf (some Tryd.f57))
theorem aead_Seal_b {E : Env} (N : Nat) (hb : Base Tryd.prog (aead_Seal_C N) E 0) : Blk Tryd.prog (aead_Seal_C N) E (List.range aead_Seal_S0.ks.length) aead_Seal_S0 (aead_Seal_L.drop 0) (fun y => aead_Seal N y.1.1 y.1.2.1 y.1.2.2.1 y.1.2.2.2.1) (aead_Seal_K N) :=
 Blk.chunkAt hb 7 (X := (aead_Seal_K N .normal)) (NxOk.end (by kernel_rfl)) rfl (fun x => by kernel_rfl)
def aead_Seal_ctr (N : Nat) : Ctr := ⟨aead_Seal_S0, aead_Seal_S1.un [false, false], 0, (fun y => aead_Seal N y.1.1 y.1.2.1 y.1.2.2.1 y.1.2.2.2.1)⟩
theorem aead_Seal_ctrs (N : Nat) : CtrsOk Tryd.prog (aead_Seal_C N) := ctrs_of (Γ := aead_Seal_C N) G_ifs_ok (by
 intro p hp
 simp only [aead_Seal_C, List.mem_cons, List.not_mem_nil, or_false] at hp
 rcases hp with rfl | rfl | rfl
 · exact aead_keyed_ok N
 · exact chacha_Xor_ok N
 · exact aead_Tag_ok N)
theorem aead_Seal_ok (N : Nat) : Ctr.ok Tryd.prog G_globs 57 (aead_Seal_ctr N) :=
 ctr_fn (Γ := aead_Seal_C N) (rfit := aead_Seal_S1) (bs := [false, false]) (res := [8, 9]) (by kernel_rfl) (tys_ok G_tys_ok) (aead_Seal_ctrs N) Tryd.func57 (by kernel_rfl) (by kernel_rfl) Tryd.ntmps57 (by kernel_rfl) (by kernel_rfl) (by kernel_rfl) (by kernel_rfl) (fun E hb => aead_Seal_b N hb)
/-! ipsecgate/esp.Seal -/
abbrev esp_Seal_R : Type := ((Int × Unit) × ((List UInt8) × Unit))
def esp_Seal_s3 (N : Nat) (key_0 : (List UInt8)) (spi_1 : UInt32) (number_2 : UInt64) (next_3 : Int) (payload_4 : (List UInt8)) (n_14 : Int) : Option (Lo (((List UInt8) × UInt32 × UInt64 × Int × (List UInt8) × Int × Unit) × (Unit)) (((List UInt8) × UInt32 × UInt64 × Int × (List UInt8) × Int × Unit) × (Unit)) esp_Seal_R) :=
 bif (!(decide (((w64 ((w64 ((payload_4.length : Int) + n_14)) + (2 : Int))).tmod (4 : Int)) = (0 : Int)))) then
 some (.go ((key_0, spi_1, number_2, next_3, payload_4, (w64 (n_14 + (1 : Int))), ()), (())))
 else
 some (.br ((key_0, spi_1, number_2, next_3, payload_4, n_14, ()), (())))
def esp_Seal_s6 (N : Nat) (key_0 : (List UInt8)) (spi_1 : UInt32) (number_2 : UInt64) (next_3 : Int) (n_14 : Int) (t_58 : Int) (t_59 : Int) (plain_15 : (List UInt8)) : Option (Lo (((List UInt8) × UInt32 × UInt64 × Int × Int × Int × Int × Unit) × ((List UInt8) × Unit)) (((List UInt8) × UInt32 × UInt64 × Int × Int × Unit) × ((List UInt8) × Unit)) esp_Seal_R) :=
 bif (decide (t_59 < t_58)) then
 let x17 := w64 (t_59 + (1 : Int))
 bif room (plain_15.length + ([(iu8 x17)] : List UInt8).length) 1 then
 some (.go ((key_0, spi_1, number_2, next_3, n_14, t_58, (w64 (t_59 + (1 : Int))), ()), ((plain_15 ++ ([(iu8 x17)] : List UInt8)), ())))
 else none
 else
 some (.br ((key_0, spi_1, number_2, next_3, n_14, ()), (plain_15, ())))
def esp_Seal_7 (N : Nat) (key_0 : (List UInt8)) (spi_1 : UInt32) (number_2 : UInt64) (next_3 : Int) (n_14 : Int) (plain_15 : (List UInt8)) : Option esp_Seal_R :=
 bif room (plain_15.length + ([(iu8 n_14), (iu8 next_3)] : List UInt8).length) 1 then
 bif decide (0 ≤ (0 : Int)) && decide ((0 : Int) ≤ (32 : Int)) && decide ((32 : Int) ≤ (key_0.length : Int)) && true then
 Option.bind (esp_nonce N key_0 number_2) fun y25 =>
 Option.bind (esp_data N spi_1 number_2) fun y26 =>
 Option.bind (aead_Seal N (cut key_0 0 32) y25.2.1 y26.2.1 (plain_15 ++ ([(iu8 n_14), (iu8 next_3)] : List UInt8))) fun y27 =>
 bif (!(decide (y27.1.1 = (0 : Int)))) then
 some ((y27.1.1, ()), (([] : List UInt8), ()))
 else
 Option.bind (wire_Put N spi_1.toUInt64 (4 : Int) ([] : List UInt8)) fun y29 =>
 Option.bind (wire_Put N number_2 (4 : Int) y29.2.1) fun y30 =>
 bif room (y30.2.1.length + y27.2.1.length) 1 then
 some (((0 : Int), ()), ((y30.2.1 ++ y27.2.1), ()))
 else none
 else none
 else none
def esp_Seal_5 (N : Nat) (key_0 : (List UInt8)) (spi_1 : UInt32) (number_2 : UInt64) (next_3 : Int) (n_14 : Int) (t_58 : Int) (t_59 : Int) (plain_15 : (List UInt8)) : Option esp_Seal_R :=
 loopK N (fun y => esp_Seal_s6 N y.1.1 y.1.2.1 y.1.2.2.1 y.1.2.2.2.1 y.1.2.2.2.2.1 y.1.2.2.2.2.2.1 y.1.2.2.2.2.2.2.1 y.2.1) (fun (e : (((List UInt8) × UInt32 × UInt64 × Int × Int × Unit) × ((List UInt8) × Unit))) => esp_Seal_7 N e.1.1 e.1.2.1 e.1.2.2.1 e.1.2.2.2.1 e.1.2.2.2.2.1 e.2.1) ((key_0, spi_1, number_2, next_3, n_14, t_58, t_59, ()), (plain_15, ()))
def esp_Seal_4 (N : Nat) (key_0 : (List UInt8)) (spi_1 : UInt32) (number_2 : UInt64) (next_3 : Int) (payload_4 : (List UInt8)) (n_14 : Int) : Option esp_Seal_R :=
 bif room (0 + payload_4.length) 1 then
 esp_Seal_5 N key_0 spi_1 number_2 next_3 n_14 n_14 (0 : Int) payload_4
 else none
def esp_Seal_2 (N : Nat) (key_0 : (List UInt8)) (spi_1 : UInt32) (number_2 : UInt64) (next_3 : Int) (payload_4 : (List UInt8)) (n_14 : Int) : Option esp_Seal_R :=
 loopK N (fun y => esp_Seal_s3 N y.1.1 y.1.2.1 y.1.2.2.1 y.1.2.2.2.1 y.1.2.2.2.2.1 y.1.2.2.2.2.2.1) (fun (e : (((List UInt8) × UInt32 × UInt64 × Int × (List UInt8) × Int × Unit) × (Unit))) => esp_Seal_4 N e.1.1 e.1.2.1 e.1.2.2.1 e.1.2.2.2.1 e.1.2.2.2.2.1 e.1.2.2.2.2.2.1) ((key_0, spi_1, number_2, next_3, payload_4, n_14, ()), (()))
def esp_Seal_1 (N : Nat) (key_0 : (List UInt8)) (spi_1 : UInt32) (number_2 : UInt64) (next_3 : Int) (payload_4 : (List UInt8)) (extra_5 : Int) : Option esp_Seal_R :=
 esp_Seal_2 N key_0 spi_1 number_2 next_3 payload_4 extra_5
def esp_Seal (N : Nat) (key_0 : (List UInt8)) (spi_1 : UInt32) (number_2 : UInt64) (next_3 : Int) (payload_4 : (List UInt8)) (extra_5 : Int) : Option esp_Seal_R :=
 bif (!(decide ((key_0.length : Int) = (36 : Int)))) then
 some (((13 : Int), ()), (([] : List UInt8), ()))
 else
 bif (decide (next_3 < (0 : Int))) then
 some (((5 : Int), ()), (([] : List UInt8), ()))
 else
 bif (decide ((255 : Int) < next_3)) then
 some (((5 : Int), ()), (([] : List UInt8), ()))
 else
 bif (decide (extra_5 < (0 : Int))) then
 some (((5 : Int), ()), (([] : List UInt8), ()))
 else
 bif (decide ((250 : Int) < extra_5)) then
 some (((5 : Int), ()), (([] : List UInt8), ()))
 else
 bif (decide (number_2 = (0 : UInt64))) then
 some (((5 : Int), ()), (([] : List UInt8), ()))
 else
 bif (decide ((4096 : Int) < (payload_4.length : Int))) then
 some (((11 : Int), ()), (([] : List UInt8), ()))
 else
 esp_Seal_1 N key_0 spi_1 number_2 next_3 payload_4 extra_5
def esp_Seal_C (N : Nat) : Ctx := ⟨99, G_tys, [(100, esp_nonce_ctr N), (101, esp_data_ctr N), (57, aead_Seal_ctr N), (91, wire_Put_ctr N)], G_globs, G_ifs⟩
def esp_Seal_S0 : Spec := ⟨[.val (.sl .u8), .val .u32, .val .u64, .val .i64, .val (.sl .u8), .val .i64], []⟩
def esp_Seal_S1 : Spec := ⟨[.val (.sl .u8), .val .u32, .val .u64, .val .i64, .val .i64, .row 0, .val .i64, .val .i64], [(.row 5 .u8, .pos 5)]⟩
def esp_Seal_S2 : Spec := ⟨[.val (.sl .u8), .val .u32, .val .u64, .val .i64, .val .i64, .row 0], [(.row 5 .u8, .pos 5)]⟩
def esp_Seal_S3 : Spec := ⟨[.row 0, .val .i64], [(.row 5 .u8, .pos 0)]⟩
def esp_Seal_K (_N : Nat) : XE → GS → Option esp_Seal_R := retK 0 [12, 13] [false, false] esp_Seal_S3
def esp_Seal_L : List Code := (bodyOf (some Tryd.f29))
def esp_Seal_L3 : List Code := (loopOf (esp_Seal_L[3]?))
def esp_Seal_L6 : List Code := (loopOf (esp_Seal_L[6]?))
def esp_Seal_K3 (N : Nat) : XE → GS → Option (Lo (((List UInt8) × UInt32 × UInt64 × Int × (List UInt8) × Int × Unit) × (Unit)) (((List UInt8) × UInt32 × UInt64 × Int × (List UInt8) × Int × Unit) × (Unit)) esp_Seal_R) := roundK (some 1) (fit 0 [0, 1, 2, 3, 4, 14] esp_Seal_S0) (fit 0 [0, 1, 2, 3, 4, 14] esp_Seal_S0) (esp_Seal_K N)
def esp_Seal_K6 (N : Nat) : XE → GS → Option (Lo (((List UInt8) × UInt32 × UInt64 × Int × Int × Int × Int × Unit) × ((List UInt8) × Unit)) (((List UInt8) × UInt32 × UInt64 × Int × Int × Unit) × ((List UInt8) × Unit)) esp_Seal_R) := roundK (some 3) (fit 0 [0, 1, 2, 3, 14, 15, 58, 59] esp_Seal_S1) (fit 0 [0, 1, 2, 3, 14, 15] esp_Seal_S2) (esp_Seal_K N)
theorem esp_Seal_s3_b {E : Env} (N : Nat) (hb : Base Tryd.prog (esp_Seal_C N) E 0) : Blk Tryd.prog (esp_Seal_C N) E [0, 1, 2, 3, 4, 14] esp_Seal_S0 (esp_Seal_L3.drop 0) (fun y => esp_Seal_s3 N y.1.1 y.1.2.1 y.1.2.2.1 y.1.2.2.2.1 y.1.2.2.2.2.1 y.1.2.2.2.2.2.1) (esp_Seal_K3 N) :=
 Blk.chunkAt hb 3 (X := (esp_Seal_K3 N .normal)) (NxOk.end (by kernel_rfl)) rfl (fun x => by kernel_rfl)
theorem esp_Seal_s6_b {E : Env} (N : Nat) (hb : Base Tryd.prog (esp_Seal_C N) E 0) : Blk Tryd.prog (esp_Seal_C N) E [0, 1, 2, 3, 14, 15, 58, 59] esp_Seal_S1 (esp_Seal_L6.drop 0) (fun y => esp_Seal_s6 N y.1.1 y.1.2.1 y.1.2.2.1 y.1.2.2.2.1 y.1.2.2.2.2.1 y.1.2.2.2.2.2.1 y.1.2.2.2.2.2.2.1 y.2.1) (esp_Seal_K6 N) :=
 Blk.chunkAt hb 4 (X := (esp_Seal_K6 N .normal)) (NxOk.end (by kernel_rfl)) rfl (fun x => by kernel_rfl)
theorem esp_Seal_7_b {E : Env} (N : Nat) (hb : Base Tryd.prog (esp_Seal_C N) E 0) : Blk Tryd.prog (esp_Seal_C N) E [0, 1, 2, 3, 14, 15] esp_Seal_S2 (esp_Seal_L.drop 7) (fun y => esp_Seal_7 N y.1.1 y.1.2.1 y.1.2.2.1 y.1.2.2.2.1 y.1.2.2.2.2.1 y.2.1) (esp_Seal_K N) :=
 Blk.chunkAt hb 6 (X := (esp_Seal_K N .normal)) (NxOk.end (by kernel_rfl)) rfl (fun x => by kernel_rfl)
theorem esp_Seal_5_b {E : Env} (N : Nat) (hb : Base Tryd.prog (esp_Seal_C N) E 0) : Blk Tryd.prog (esp_Seal_C N) E [0, 1, 2, 3, 14, 15, 58, 59] esp_Seal_S1 (esp_Seal_L.drop 6) (fun y => esp_Seal_5 N y.1.1 y.1.2.1 y.1.2.2.1 y.1.2.2.2.1 y.1.2.2.2.2.1 y.1.2.2.2.2.2.1 y.1.2.2.2.2.2.2.1 y.2.1) (esp_Seal_K N) :=
 Blk.loopAt (Nf := N) (hns := [0, 1, 2, 3, 14, 15, 58, 59]) (ans := [0, 1, 2, 3, 14, 15]) (hc := esp_Seal_S1) (ac := esp_Seal_S2) (bid := 3) (step := (fun y => esp_Seal_s6 N y.1.1 y.1.2.1 y.1.2.2.1 y.1.2.2.2.1 y.1.2.2.2.2.1 y.1.2.2.2.2.2.1 y.1.2.2.2.2.2.2.1 y.2.1)) (J := (fun e => (goK 0 [0, 1, 2, 3, 14, 15] esp_Seal_S2 (fun y => esp_Seal_7 N y.1.1 y.1.2.1 y.1.2.2.1 y.1.2.2.2.1 y.1.2.2.2.2.1 y.2.1)) (esp_Seal_S2.st [0, 1, 2, 3, 14, 15] e))) hb (by kernel_rfl) (Blk.into (X := (goK 0 [0, 1, 2, 3, 14, 15] esp_Seal_S2 (fun y => esp_Seal_7 N y.1.1 y.1.2.1 y.1.2.2.1 y.1.2.2.2.1 y.1.2.2.2.2.1 y.2.1))) (NxOk.go hb (esp_Seal_7_b N hb)) (fun x => by kernel_rfl)) (esp_Seal_s6_b N hb) (fun x => by kernel_rfl)
theorem esp_Seal_4_b {E : Env} (N : Nat) (hb : Base Tryd.prog (esp_Seal_C N) E 0) : Blk Tryd.prog (esp_Seal_C N) E [0, 1, 2, 3, 4, 14] esp_Seal_S0 (esp_Seal_L.drop 4) (fun y => esp_Seal_4 N y.1.1 y.1.2.1 y.1.2.2.1 y.1.2.2.2.1 y.1.2.2.2.2.1 y.1.2.2.2.2.2.1) (esp_Seal_K N) :=
 Blk.chunkAt hb 2 (X := (goK 0 [0, 1, 2, 3, 14, 15, 58, 59] esp_Seal_S1 (fun y => esp_Seal_5 N y.1.1 y.1.2.1 y.1.2.2.1 y.1.2.2.2.1 y.1.2.2.2.2.1 y.1.2.2.2.2.2.1 y.1.2.2.2.2.2.2.1 y.2.1))) (NxOk.go hb (esp_Seal_5_b N hb)) rfl (fun x => by kernel_rfl)
theorem esp_Seal_2_b {E : Env} (N : Nat) (hb : Base Tryd.prog (esp_Seal_C N) E 0) : Blk Tryd.prog (esp_Seal_C N) E [0, 1, 2, 3, 4, 14] esp_Seal_S0 (esp_Seal_L.drop 3) (fun y => esp_Seal_2 N y.1.1 y.1.2.1 y.1.2.2.1 y.1.2.2.2.1 y.1.2.2.2.2.1 y.1.2.2.2.2.2.1) (esp_Seal_K N) :=
 Blk.loopAt (Nf := N) (hns := [0, 1, 2, 3, 4, 14]) (ans := [0, 1, 2, 3, 4, 14]) (hc := esp_Seal_S0) (ac := esp_Seal_S0) (bid := 1) (step := (fun y => esp_Seal_s3 N y.1.1 y.1.2.1 y.1.2.2.1 y.1.2.2.2.1 y.1.2.2.2.2.1 y.1.2.2.2.2.2.1)) (J := (fun e => (goK 0 [0, 1, 2, 3, 4, 14] esp_Seal_S0 (fun y => esp_Seal_4 N y.1.1 y.1.2.1 y.1.2.2.1 y.1.2.2.2.1 y.1.2.2.2.2.1 y.1.2.2.2.2.2.1)) (esp_Seal_S0.st [0, 1, 2, 3, 4, 14] e))) hb (by kernel_rfl) (Blk.into (X := (goK 0 [0, 1, 2, 3, 4, 14] esp_Seal_S0 (fun y => esp_Seal_4 N y.1.1 y.1.2.1 y.1.2.2.1 y.1.2.2.2.1 y.1.2.2.2.2.1 y.1.2.2.2.2.2.1))) (NxOk.go hb (esp_Seal_4_b N hb)) (fun x => by kernel_rfl)) (esp_Seal_s3_b N hb) (fun x => by kernel_rfl)
theorem esp_Seal_1_b {E : Env} (N : Nat) (hb : Base Tryd.prog (esp_Seal_C N) E 0) : Blk Tryd.prog (esp_Seal_C N) E [0, 1, 2, 3, 4, 5] esp_Seal_S0 (esp_Seal_L.drop 2) (fun y => esp_Seal_1 N y.1.1 y.1.2.1 y.1.2.2.1 y.1.2.2.2.1 y.1.2.2.2.2.1 y.1.2.2.2.2.2.1) (esp_Seal_K N) :=
 Blk.chunkAt hb 1 (X := (goK 0 [0, 1, 2, 3, 4, 14] esp_Seal_S0 (fun y => esp_Seal_2 N y.1.1 y.1.2.1 y.1.2.2.1 y.1.2.2.2.1 y.1.2.2.2.2.1 y.1.2.2.2.2.2.1))) (NxOk.go hb (esp_Seal_2_b N hb)) rfl (fun x => by kernel_rfl)
theorem esp_Seal_b {E : Env} (N : Nat) (hb : Base Tryd.prog (esp_Seal_C N) E 0) : Blk Tryd.prog (esp_Seal_C N) E (List.range esp_Seal_S0.ks.length) esp_Seal_S0 (esp_Seal_L.drop 0) (fun y => esp_Seal N y.1.1 y.1.2.1 y.1.2.2.1 y.1.2.2.2.1 y.1.2.2.2.2.1 y.1.2.2.2.2.2.1) (esp_Seal_K N) :=
 Blk.chunkAt hb 2 (X := (goK 0 [0, 1, 2, 3, 4, 5] esp_Seal_S0 (fun y => esp_Seal_1 N y.1.1 y.1.2.1 y.1.2.2.1 y.1.2.2.2.1 y.1.2.2.2.2.1 y.1.2.2.2.2.2.1))) (NxOk.go hb (esp_Seal_1_b N hb)) rfl (fun x => by kernel_rfl)
def esp_Seal_ctr (N : Nat) : Ctr := ⟨esp_Seal_S0, esp_Seal_S3.un [false, false], 0, (fun y => esp_Seal N y.1.1 y.1.2.1 y.1.2.2.1 y.1.2.2.2.1 y.1.2.2.2.2.1 y.1.2.2.2.2.2.1)⟩
theorem esp_Seal_ctrs (N : Nat) : CtrsOk Tryd.prog (esp_Seal_C N) := ctrs_of (Γ := esp_Seal_C N) G_ifs_ok (by
 intro p hp
 simp only [esp_Seal_C, List.mem_cons, List.not_mem_nil, or_false] at hp
 rcases hp with rfl | rfl | rfl | rfl
 · exact esp_nonce_ok N
 · exact esp_data_ok N
 · exact aead_Seal_ok N
 · exact wire_Put_ok N)
theorem esp_Seal_ok (N : Nat) : Ctr.ok Tryd.prog G_globs 29 (esp_Seal_ctr N) :=
 ctr_fn (Γ := esp_Seal_C N) (rfit := esp_Seal_S3) (bs := [false, false]) (res := [12, 13]) (by kernel_rfl) (tys_ok G_tys_ok) (esp_Seal_ctrs N) Tryd.func29 (by kernel_rfl) (by kernel_rfl) Tryd.ntmps29 (by kernel_rfl) (by kernel_rfl) (by kernel_rfl) (by kernel_rfl) (fun E hb => esp_Seal_b N hb)
/-! ipsecgate/wire.Slice -/
abbrev wire_Slice_R : Type := (((List UInt8) × Bool × Unit) × (Unit))
def wire_Slice_1 (N : Nat) (b_0 : (List UInt8)) (at_1 : Int) (n_2 : Int) (t_27 : Bool) : Option wire_Slice_R :=
 bif t_27 then
 some ((([] : List UInt8), false, ()), (()))
 else
 let x2 := w64 (at_1 + n_2)
 let x3 := w64 (at_1 + n_2)
 bif decide (0 ≤ at_1) && decide (at_1 ≤ x2) && decide (x2 ≤ (b_0.length : Int)) && (decide (x2 ≤ x3) && decide (x3 ≤ (b_0.length : Int))) then
 some (((cut b_0 at_1.toNat x2.toNat), true, ()), (()))
 else none
def wire_Slice (N : Nat) (b_0 : (List UInt8)) (at_1 : Int) (n_2 : Int) : Option wire_Slice_R :=
 bif (decide (at_1 < (0 : Int))) then
 wire_Slice_1 N b_0 at_1 n_2 true
 else
 bif (decide (n_2 < (0 : Int))) then
 wire_Slice_1 N b_0 at_1 n_2 true
 else
 bif (decide ((b_0.length : Int) < at_1)) then
 wire_Slice_1 N b_0 at_1 n_2 true
 else
 wire_Slice_1 N b_0 at_1 n_2 (decide ((w64 ((b_0.length : Int) - at_1)) < n_2))
def wire_Slice_C (N : Nat) : Ctx := ⟨37, G_tys, [], G_globs, G_ifs⟩
def wire_Slice_S0 : Spec := ⟨[.val (.sl .u8), .val .i64, .val .i64, .val .bool], []⟩
def wire_Slice_S1 : Spec := ⟨[.val (.sl .u8), .val .i64, .val .i64], []⟩
def wire_Slice_S2 : Spec := ⟨[.val (.sl .u8), .val .bool], []⟩
def wire_Slice_K (_N : Nat) : XE → GS → Option wire_Slice_R := retK 0 [6, 7] [false, false] wire_Slice_S2
def wire_Slice_L : List Code := (bodyOf (some Tryd.f162))
theorem wire_Slice_1_b {E : Env} (N : Nat) (hb : Base Tryd.prog (wire_Slice_C N) E 0) : Blk Tryd.prog (wire_Slice_C N) E [0, 1, 2, 27] wire_Slice_S0 (wire_Slice_L.drop 2) (fun y => wire_Slice_1 N y.1.1 y.1.2.1 y.1.2.2.1 y.1.2.2.2.1) (wire_Slice_K N) :=
 Blk.chunkAt hb 3 (X := (wire_Slice_K N .normal)) (NxOk.end (by kernel_rfl)) rfl (fun x => by kernel_rfl)
theorem wire_Slice_b {E : Env} (N : Nat) (hb : Base Tryd.prog (wire_Slice_C N) E 0) : Blk Tryd.prog (wire_Slice_C N) E (List.range wire_Slice_S1.ks.length) wire_Slice_S1 (wire_Slice_L.drop 0) (fun y => wire_Slice N y.1.1 y.1.2.1 y.1.2.2.1) (wire_Slice_K N) :=
 Blk.chunkAt hb 2 (X := (goK 0 [0, 1, 2, 27] wire_Slice_S0 (fun y => wire_Slice_1 N y.1.1 y.1.2.1 y.1.2.2.1 y.1.2.2.2.1))) (NxOk.go hb (wire_Slice_1_b N hb)) rfl (fun x => by kernel_rfl)
def wire_Slice_ctr (N : Nat) : Ctr := ⟨wire_Slice_S1, wire_Slice_S2.un [false, false], 0, (fun y => wire_Slice N y.1.1 y.1.2.1 y.1.2.2.1)⟩
theorem wire_Slice_ctrs (N : Nat) : CtrsOk Tryd.prog (wire_Slice_C N) := ctrs_nil G_ifs_ok rfl
theorem wire_Slice_ok (N : Nat) : Ctr.ok Tryd.prog G_globs 162 (wire_Slice_ctr N) :=
 ctr_fn (Γ := wire_Slice_C N) (rfit := wire_Slice_S2) (bs := [false, false]) (res := [6, 7]) (by kernel_rfl) (tys_ok G_tys_ok) (wire_Slice_ctrs N) Tryd.func162 (by kernel_rfl) (by kernel_rfl) Tryd.ntmps162 (by kernel_rfl) (by kernel_rfl) (by kernel_rfl) (by kernel_rfl) (fun E hb => wire_Slice_b N hb)
/-! ipsecgate/wire.Number -/
abbrev wire_Number_R : Type := ((UInt64 × Bool × Unit) × (Unit))
def wire_Number_s3 (N : Nat) (v_10 : UInt64) (t_28 : (List UInt8)) (t_29 : Int) (t_30 : Int) : Option (Lo ((UInt64 × (List UInt8) × Int × Int × Unit) × (Unit)) ((UInt64 × Unit) × (Unit)) wire_Number_R) :=
 bif (decide (t_30 < t_29)) then
 bif inR t_30 t_28.length then
 some (.go ((((shl64 v_10 8) ||| (t_28.getD t_30.toNat (0 : UInt8)).toUInt64), t_28, t_29, (w64 (t_30 + (1 : Int))), ()), (())))
 else none
 else
 some (.br ((v_10, ()), (())))
def wire_Number_4 (N : Nat) (v_10 : UInt64) : Option wire_Number_R :=
 some ((v_10, true, ()), (()))
def wire_Number_2 (N : Nat) (v_10 : UInt64) (t_28 : (List UInt8)) (t_29 : Int) (t_30 : Int) : Option wire_Number_R :=
 loopK N (fun y => wire_Number_s3 N y.1.1 y.1.2.1 y.1.2.2.1 y.1.2.2.2.1) (fun (e : ((UInt64 × Unit) × (Unit))) => wire_Number_4 N e.1.1) ((v_10, t_28, t_29, t_30, ()), (()))
def wire_Number_1 (N : Nat) (b_0 : (List UInt8)) (at_1 : Int) (width_2 : Int) (t_18 : Bool) : Option wire_Number_R :=
 bif t_18 then
 some (((0 : UInt64), false, ()), (()))
 else
 Option.bind (wire_Slice N b_0 at_1 width_2) fun y2 =>
 bif (!y2.1.2.1) then
 some (((0 : UInt64), false, ()), (()))
 else
 wire_Number_2 N (0 : UInt64) y2.1.1 (y2.1.1.length : Int) (0 : Int)
def wire_Number (N : Nat) (b_0 : (List UInt8)) (at_1 : Int) (width_2 : Int) : Option wire_Number_R :=
 bif (decide (width_2 < (1 : Int))) then
 wire_Number_1 N b_0 at_1 width_2 true
 else
 wire_Number_1 N b_0 at_1 width_2 (decide ((8 : Int) < width_2))
def wire_Number_C (N : Nat) : Ctx := ⟨41, G_tys, [(162, wire_Slice_ctr N)], G_globs, G_ifs⟩
def wire_Number_S0 : Spec := ⟨[.val .u64, .val (.sl .u8), .val .i64, .val .i64], []⟩
def wire_Number_S1 : Spec := ⟨[.val .u64], []⟩
def wire_Number_S2 : Spec := ⟨[.val (.sl .u8), .val .i64, .val .i64, .val .bool], []⟩
def wire_Number_S3 : Spec := ⟨[.val (.sl .u8), .val .i64, .val .i64], []⟩
def wire_Number_S4 : Spec := ⟨[.val .u64, .val .bool], []⟩
def wire_Number_K (_N : Nat) : XE → GS → Option wire_Number_R := retK 0 [6, 7] [false, false] wire_Number_S4
def wire_Number_L : List Code := (bodyOf (some Tryd.f107))
def wire_Number_L3 : List Code := (loopOf (wire_Number_L[8]?))
def wire_Number_K3 (N : Nat) : XE → GS → Option (Lo ((UInt64 × (List UInt8) × Int × Int × Unit) × (Unit)) ((UInt64 × Unit) × (Unit)) wire_Number_R) := roundK (some 0) (fit 0 [10, 28, 29, 30] wire_Number_S0) (fit 0 [10] wire_Number_S1) (wire_Number_K N)
theorem wire_Number_s3_b {E : Env} (N : Nat) (hb : Base Tryd.prog (wire_Number_C N) E 0) : Blk Tryd.prog (wire_Number_C N) E [10, 28, 29, 30] wire_Number_S0 (wire_Number_L3.drop 0) (fun y => wire_Number_s3 N y.1.1 y.1.2.1 y.1.2.2.1 y.1.2.2.2.1) (wire_Number_K3 N) :=
 Blk.chunkAt hb 4 (X := (wire_Number_K3 N .normal)) (NxOk.end (by kernel_rfl)) rfl (fun x => by kernel_rfl)
theorem wire_Number_4_b {E : Env} (N : Nat) (hb : Base Tryd.prog (wire_Number_C N) E 0) : Blk Tryd.prog (wire_Number_C N) E [10] wire_Number_S1 (wire_Number_L.drop 9) (fun y => wire_Number_4 N y.1.1) (wire_Number_K N) :=
 Blk.chunkAt hb 2 (X := (wire_Number_K N .normal)) (NxOk.end (by kernel_rfl)) rfl (fun x => by kernel_rfl)
theorem wire_Number_2_b {E : Env} (N : Nat) (hb : Base Tryd.prog (wire_Number_C N) E 0) : Blk Tryd.prog (wire_Number_C N) E [10, 28, 29, 30] wire_Number_S0 (wire_Number_L.drop 8) (fun y => wire_Number_2 N y.1.1 y.1.2.1 y.1.2.2.1 y.1.2.2.2.1) (wire_Number_K N) :=
 Blk.loopAt (Nf := N) (hns := [10, 28, 29, 30]) (ans := [10]) (hc := wire_Number_S0) (ac := wire_Number_S1) (bid := 0) (step := (fun y => wire_Number_s3 N y.1.1 y.1.2.1 y.1.2.2.1 y.1.2.2.2.1)) (J := (fun e => (goK 0 [10] wire_Number_S1 (fun y => wire_Number_4 N y.1.1)) (wire_Number_S1.st [10] e))) hb (by kernel_rfl) (Blk.into (X := (goK 0 [10] wire_Number_S1 (fun y => wire_Number_4 N y.1.1))) (NxOk.go hb (wire_Number_4_b N hb)) (fun x => by kernel_rfl)) (wire_Number_s3_b N hb) (fun x => by kernel_rfl)
theorem wire_Number_1_b {E : Env} (N : Nat) (hb : Base Tryd.prog (wire_Number_C N) E 0) : Blk Tryd.prog (wire_Number_C N) E [0, 1, 2, 18] wire_Number_S2 (wire_Number_L.drop 2) (fun y => wire_Number_1 N y.1.1 y.1.2.1 y.1.2.2.1 y.1.2.2.2.1) (wire_Number_K N) :=
 Blk.chunkAt hb 6 (X := (goK 0 [10, 28, 29, 30] wire_Number_S0 (fun y => wire_Number_2 N y.1.1 y.1.2.1 y.1.2.2.1 y.1.2.2.2.1))) (NxOk.go hb (wire_Number_2_b N hb)) rfl (fun x => by kernel_rfl)
theorem wire_Number_b {E : Env} (N : Nat) (hb : Base Tryd.prog (wire_Number_C N) E 0) : Blk Tryd.prog (wire_Number_C N) E (List.range wire_Number_S3.ks.length) wire_Number_S3 (wire_Number_L.drop 0) (fun y => wire_Number N y.1.1 y.1.2.1 y.1.2.2.1) (wire_Number_K N) :=
 Blk.chunkAt hb 2 (X := (goK 0 [0, 1, 2, 18] wire_Number_S2 (fun y => wire_Number_1 N y.1.1 y.1.2.1 y.1.2.2.1 y.1.2.2.2.1))) (NxOk.go hb (wire_Number_1_b N hb)) rfl (fun x => by kernel_rfl)
def wire_Number_ctr (N : Nat) : Ctr := ⟨wire_Number_S3, wire_Number_S4.un [false, false], 0, (fun y => wire_Number N y.1.1 y.1.2.1 y.1.2.2.1)⟩
theorem wire_Number_ctrs (N : Nat) : CtrsOk Tryd.prog (wire_Number_C N) := ctrs_of (Γ := wire_Number_C N) G_ifs_ok (by
 intro p hp
 simp only [wire_Number_C, List.mem_cons, List.not_mem_nil, or_false] at hp
 rcases hp with rfl
 · exact wire_Slice_ok N)
theorem wire_Number_ok (N : Nat) : Ctr.ok Tryd.prog G_globs 107 (wire_Number_ctr N) :=
 ctr_fn (Γ := wire_Number_C N) (rfit := wire_Number_S4) (bs := [false, false]) (res := [6, 7]) (by kernel_rfl) (tys_ok G_tys_ok) (wire_Number_ctrs N) Tryd.func107 (by kernel_rfl) (by kernel_rfl) Tryd.ntmps107 (by kernel_rfl) (by kernel_rfl) (by kernel_rfl) (by kernel_rfl) (fun E hb => wire_Number_b N hb)
/-! ipsecgate/esp.Head -/
abbrev esp_Head_R : Type := ((UInt32 × UInt32 × Int × Unit) × (Unit))
def esp_Head_1 (N : Nat) (spi_5 : UInt64) (low_7 : UInt64) (t_24 : Bool) : Option esp_Head_R :=
 bif t_24 then
 some (((0 : UInt32), (0 : UInt32), (1 : Int), ()), (()))
 else
 some ((spi_5.toUInt32, low_7.toUInt32, (0 : Int), ()), (()))
def esp_Head (N : Nat) (b_0 : (List UInt8)) : Option esp_Head_R :=
 Option.bind (wire_Number N b_0 (0 : Int) (4 : Int)) fun y1 =>
 Option.bind (wire_Number N b_0 (4 : Int) (4 : Int)) fun y2 =>
 bif (!y1.1.2.1) then
 esp_Head_1 N y1.1.1 y2.1.1 true
 else
 esp_Head_1 N y1.1.1 y2.1.1 (!y2.1.2.1)
def esp_Head_C (N : Nat) : Ctx := ⟨29, G_tys, [(107, wire_Number_ctr N)], G_globs, G_ifs⟩
def esp_Head_S0 : Spec := ⟨[.val .u64, .val .u64, .val .bool], []⟩
def esp_Head_S1 : Spec := ⟨[.val (.sl .u8)], []⟩
def esp_Head_S2 : Spec := ⟨[.val .u32, .val .u32, .val .i64], []⟩
def esp_Head_K (_N : Nat) : XE → GS → Option esp_Head_R := retK 0 [2, 3, 4] [false, false, false] esp_Head_S2
def esp_Head_L : List Code := (bodyOf (some Tryd.f35))
theorem esp_Head_1_b {E : Env} (N : Nat) (hb : Base Tryd.prog (esp_Head_C N) E 0) : Blk Tryd.prog (esp_Head_C N) E [5, 7, 24] esp_Head_S0 (esp_Head_L.drop 4) (fun y => esp_Head_1 N y.1.1 y.1.2.1 y.1.2.2.1) (esp_Head_K N) :=
 Blk.chunkAt hb 3 (X := (esp_Head_K N .normal)) (NxOk.end (by kernel_rfl)) rfl (fun x => by kernel_rfl)
theorem esp_Head_b {E : Env} (N : Nat) (hb : Base Tryd.prog (esp_Head_C N) E 0) : Blk Tryd.prog (esp_Head_C N) E (List.range esp_Head_S1.ks.length) esp_Head_S1 (esp_Head_L.drop 0) (fun y => esp_Head N y.1.1) (esp_Head_K N) :=
 Blk.chunkAt hb 4 (X := (goK 0 [5, 7, 24] esp_Head_S0 (fun y => esp_Head_1 N y.1.1 y.1.2.1 y.1.2.2.1))) (NxOk.go hb (esp_Head_1_b N hb)) rfl (fun x => by kernel_rfl)
def esp_Head_ctr (N : Nat) : Ctr := ⟨esp_Head_S1, esp_Head_S2.un [false, false, false], 0, (fun y => esp_Head N y.1.1)⟩
theorem esp_Head_ctrs (N : Nat) : CtrsOk Tryd.prog (esp_Head_C N) := ctrs_of (Γ := esp_Head_C N) G_ifs_ok (by
 intro p hp
 simp only [esp_Head_C, List.mem_cons, List.not_mem_nil, or_false] at hp
 rcases hp with rfl
 · exact wire_Number_ok N)
theorem esp_Head_ok (N : Nat) : Ctr.ok Tryd.prog G_globs 35 (esp_Head_ctr N) :=
 ctr_fn (Γ := esp_Head_C N) (rfit := esp_Head_S2) (bs := [false, false, false]) (res := [2, 3, 4]) (by kernel_rfl) (tys_ok G_tys_ok) (esp_Head_ctrs N) Tryd.func35 (by kernel_rfl) (by kernel_rfl) Tryd.ntmps35 (by kernel_rfl) (by kernel_rfl) (by kernel_rfl) (by kernel_rfl) (fun E hb => esp_Head_b N hb)
/-! ipsecgate/aead.different -/
abbrev aead_different_R : Type := ((UInt8 × Unit) × (Unit))
def aead_different_s2 (N : Nat) (a_0 : (List UInt8)) (b_1 : (List UInt8)) (d_5 : UInt8) (t_8 : Int) (t_9 : Int) : Option (Lo (((List UInt8) × (List UInt8) × UInt8 × Int × Int × Unit) × (Unit)) ((UInt8 × Unit) × (Unit)) aead_different_R) :=
 bif (decide (t_9 < t_8)) then
 bif inR t_9 a_0.length then
 bif inR t_9 b_1.length then
 some (.go ((a_0, b_1, (d_5 ||| ((a_0.getD t_9.toNat (0 : UInt8)) ^^^ (b_1.getD t_9.toNat (0 : UInt8)))), t_8, (w64 (t_9 + (1 : Int))), ()), (())))
 else none
 else none
 else
 some (.br ((d_5, ()), (())))
def aead_different_3 (N : Nat) (d_5 : UInt8) : Option aead_different_R :=
 some ((d_5, ()), (()))
def aead_different_1 (N : Nat) (a_0 : (List UInt8)) (b_1 : (List UInt8)) (d_5 : UInt8) (t_8 : Int) (t_9 : Int) : Option aead_different_R :=
 loopK N (fun y => aead_different_s2 N y.1.1 y.1.2.1 y.1.2.2.1 y.1.2.2.2.1 y.1.2.2.2.2.1) (fun (e : ((UInt8 × Unit) × (Unit))) => aead_different_3 N e.1.1) ((a_0, b_1, d_5, t_8, t_9, ()), (()))
def aead_different (N : Nat) (a_0 : (List UInt8)) (b_1 : (List UInt8)) : Option aead_different_R :=
 aead_different_1 N a_0 b_1 (0 : UInt8) (a_0.length : Int) (0 : Int)
def aead_different_C (N : Nat) : Ctx := ⟨25, G_tys, [], G_globs, G_ifs⟩
def aead_different_S0 : Spec := ⟨[.val (.sl .u8), .val (.sl .u8), .val .u8, .val .i64, .val .i64], []⟩
def aead_different_S1 : Spec := ⟨[.val .u8], []⟩
def aead_different_S2 : Spec := ⟨[.val (.sl .u8), .val (.sl .u8)], []⟩
def aead_different_K (_N : Nat) : XE → GS → Option aead_different_R := retK 0 [4] [false] aead_different_S1
def aead_different_L : List Code := (bodyOf (some Tryd.f161))
def aead_different_L2 : List Code := (loopOf (aead_different_L[3]?))
def aead_different_K2 (N : Nat) : XE → GS → Option (Lo (((List UInt8) × (List UInt8) × UInt8 × Int × Int × Unit) × (Unit)) ((UInt8 × Unit) × (Unit)) aead_different_R) := roundK (some 0) (fit 0 [0, 1, 5, 8, 9] aead_different_S0) (fit 0 [5] aead_different_S1) (aead_different_K N)
theorem aead_different_s2_b {E : Env} (N : Nat) (hb : Base Tryd.prog (aead_different_C N) E 0) : Blk Tryd.prog (aead_different_C N) E [0, 1, 5, 8, 9] aead_different_S0 (aead_different_L2.drop 0) (fun y => aead_different_s2 N y.1.1 y.1.2.1 y.1.2.2.1 y.1.2.2.2.1 y.1.2.2.2.2.1) (aead_different_K2 N) :=
 Blk.chunkAt hb 4 (X := (aead_different_K2 N .normal)) (NxOk.end (by kernel_rfl)) rfl (fun x => by kernel_rfl)
theorem aead_different_3_b {E : Env} (N : Nat) (hb : Base Tryd.prog (aead_different_C N) E 0) : Blk Tryd.prog (aead_different_C N) E [5] aead_different_S1 (aead_different_L.drop 4) (fun y => aead_different_3 N y.1.1) (aead_different_K N) :=
 Blk.chunkAt hb 2 (X := (aead_different_K N .normal)) (NxOk.end (by kernel_rfl)) rfl (fun x => by kernel_rfl)
theorem aead_different_1_b {E : Env} (N : Nat) (hb : Base Tryd.prog (aead_different_C N) E 0) : Blk Tryd.prog (aead_different_C N) E [0, 1, 5, 8, 9] aead_different_S0 (aead_different_L.drop 3) (fun y => aead_different_1 N y.1.1 y.1.2.1 y.1.2.2.1 y.1.2.2.2.1 y.1.2.2.2.2.1) (aead_different_K N) :=
 Blk.loopAt (Nf := N) (hns := [0, 1, 5, 8, 9]) (ans := [5]) (hc := aead_different_S0) (ac := aead_different_S1) (bid := 0) (step := (fun y => aead_different_s2 N y.1.1 y.1.2.1 y.1.2.2.1 y.1.2.2.2.1 y.1.2.2.2.2.1)) (J := (fun e => (goK 0 [5] aead_different_S1 (fun y => aead_different_3 N y.1.1)) (aead_different_S1.st [5] e))) hb (by kernel_rfl) (Blk.into (X := (goK 0 [5] aead_different_S1 (fun y => aead_different_3 N y.1.1))) (NxOk.go hb (aead_different_3_b N hb)) (fun x => by kernel_rfl)) (aead_different_s2_b N hb) (fun x => by kernel_rfl)
theorem aead_different_b {E : Env} (N : Nat) (hb : Base Tryd.prog (aead_different_C N) E 0) : Blk Tryd.prog (aead_different_C N) E (List.range aead_different_S2.ks.length) aead_different_S2 (aead_different_L.drop 0) (fun y => aead_different N y.1.1 y.1.2.1) (aead_different_K N) :=
 Blk.chunkAt hb 3 (X := (goK 0 [0, 1, 5, 8, 9] aead_different_S0 (fun y => aead_different_1 N y.1.1 y.1.2.1 y.1.2.2.1 y.1.2.2.2.1 y.1.2.2.2.2.1))) (NxOk.go hb (aead_different_1_b N hb)) rfl (fun x => by kernel_rfl)
def aead_different_ctr (N : Nat) : Ctr := ⟨aead_different_S2, aead_different_S1.un [false], 0, (fun y => aead_different N y.1.1 y.1.2.1)⟩
theorem aead_different_ctrs (N : Nat) : CtrsOk Tryd.prog (aead_different_C N) := ctrs_nil G_ifs_ok rfl
theorem aead_different_ok (N : Nat) : Ctr.ok Tryd.prog G_globs 161 (aead_different_ctr N) :=
 ctr_fn (Γ := aead_different_C N) (rfit := aead_different_S1) (bs := [false]) (res := [4]) (by kernel_rfl) (tys_ok G_tys_ok) (aead_different_ctrs N) Tryd.func161 (by kernel_rfl) (by kernel_rfl) Tryd.ntmps161 (by kernel_rfl) (by kernel_rfl) (by kernel_rfl) (by kernel_rfl) (fun E hb => aead_different_b N hb)
/-! ipsecgate/aead.Open -/
abbrev aead_Open_R : Type := ((Int × Unit) × ((List UInt8) × Unit))
def aead_Open (N : Nat) (key_0 : (List UInt8)) (nonce_1 : (List UInt8)) (data_2 : (List UInt8)) (sealed_3 : (List UInt8)) : Option aead_Open_R :=
 Option.bind (aead_keyed N key_0 nonce_1) fun y1 =>
 bif (!y1.1.1) then
 some (((13 : Int), ()), (([] : List UInt8), ()))
 else
 let x4 := w64 ((sealed_3.length : Int) - (16 : Int))
 bif (decide (x4 < (0 : Int))) then
 some (((1 : Int), ()), (([] : List UInt8), ()))
 else
 bif decide (0 ≤ (0 : Int)) && decide ((0 : Int) ≤ x4) && decide (x4 ≤ (sealed_3.length : Int)) && true then
 Option.bind (aead_Tag N key_0 nonce_1 data_2 (cut sealed_3 0 x4.toNat)) fun y7 =>
 bif decide (0 ≤ x4) && decide (x4 ≤ (sealed_3.length : Int)) && decide ((sealed_3.length : Int) ≤ (sealed_3.length : Int)) && true then
 Option.bind (aead_different N y7.2.1 (cut sealed_3 x4.toNat sealed_3.length)) fun y9 =>
 bif (!(decide (y9.1.1 = (0 : UInt8)))) then
 some (((12 : Int), ()), (([] : List UInt8), ()))
 else
 bif decide (0 ≤ (0 : Int)) && decide ((0 : Int) ≤ x4) && decide (x4 ≤ (sealed_3.length : Int)) && true then
 Option.bind (chacha_Xor N key_0 (1 : UInt32) nonce_1 (cut sealed_3 0 x4.toNat)) fun y12 =>
 some (((0 : Int), ()), (y12.2.1, ()))
 else none
 else none
 else none
def aead_Open_C (N : Nat) : Ctx := ⟨50, G_tys, [(119, aead_keyed_ctr N), (121, aead_Tag_ctr N), (161, aead_different_ctr N), (120, chacha_Xor_ctr N)], G_globs, G_ifs⟩
def aead_Open_S0 : Spec := ⟨[.val (.sl .u8), .val (.sl .u8), .val (.sl .u8), .val (.sl .u8)], []⟩
def aead_Open_S1 : Spec := ⟨[.row 0, .val .i64], [(.row 5 .u8, .pos 0)]⟩
def aead_Open_K (_N : Nat) : XE → GS → Option aead_Open_R := retK 0 [8, 9] [false, false] aead_Open_S1
def aead_Open_L : List Code := (bodyOf (some Tryd.f104))
theorem aead_Open_b {E : Env} (N : Nat) (hb : Base Tryd.prog (aead_Open_C N) E 0) : Blk Tryd.prog (aead_Open_C N) E (List.range aead_Open_S0.ks.length) aead_Open_S0 (aead_Open_L.drop 0) (fun y => aead_Open N y.1.1 y.1.2.1 y.1.2.2.1 y.1.2.2.2.1) (aead_Open_K N) :=
 Blk.chunkAt hb 12 (X := (aead_Open_K N .normal)) (NxOk.end (by kernel_rfl)) rfl (fun x => by kernel_rfl)
def aead_Open_ctr (N : Nat) : Ctr := ⟨aead_Open_S0, aead_Open_S1.un [false, false], 0, (fun y => aead_Open N y.1.1 y.1.2.1 y.1.2.2.1 y.1.2.2.2.1)⟩
theorem aead_Open_ctrs (N : Nat) : CtrsOk Tryd.prog (aead_Open_C N) := ctrs_of (Γ := aead_Open_C N) G_ifs_ok (by
 intro p hp
 simp only [aead_Open_C, List.mem_cons, List.not_mem_nil, or_false] at hp
 rcases hp with rfl | rfl | rfl | rfl
 · exact aead_keyed_ok N
 · exact aead_Tag_ok N
 · exact aead_different_ok N
 · exact chacha_Xor_ok N)
theorem aead_Open_ok (N : Nat) : Ctr.ok Tryd.prog G_globs 104 (aead_Open_ctr N) :=
 ctr_fn (Γ := aead_Open_C N) (rfit := aead_Open_S1) (bs := [false, false]) (res := [8, 9]) (by kernel_rfl) (tys_ok G_tys_ok) (aead_Open_ctrs N) Tryd.func104 (by kernel_rfl) (by kernel_rfl) Tryd.ntmps104 (by kernel_rfl) (by kernel_rfl) (by kernel_rfl) (by kernel_rfl) (fun E hb => aead_Open_b N hb)
/-! ipsecgate/esp.Open -/
abbrev esp_Open_R : Type := (((List UInt8) × Int × Int × Unit) × (Unit))
def esp_Open_s3 (N : Nat) (plain_12 : (List UInt8)) (rest_14 : Int) (n_15 : Int) (t_75 : (List UInt8)) (t_76 : Int) (t_77 : Int) : Option (Lo (((List UInt8) × Int × Int × (List UInt8) × Int × Int × Unit) × (Unit)) (((List UInt8) × Int × Int × Unit) × (Unit)) esp_Open_R) :=
 bif (decide (t_77 < t_76)) then
 bif inR t_77 t_75.length then
 bif (!(decide (((t_75.getD t_77.toNat (0 : UInt8)).toNat : Int) = (w64 (t_77 + (1 : Int)))))) then
 some (.rt ((([] : List UInt8), (0 : Int), (4 : Int), ()), (())))
 else
 some (.go ((plain_12, rest_14, n_15, t_75, t_76, (w64 (t_77 + (1 : Int))), ()), (())))
 else none
 else
 some (.br ((plain_12, rest_14, n_15, ()), (())))
def esp_Open_4 (N : Nat) (plain_12 : (List UInt8)) (rest_14 : Int) (n_15 : Int) : Option esp_Open_R :=
 let x27 := w64 (rest_14 - n_15)
 let x28 := w64 (rest_14 - n_15)
 bif decide (0 ≤ (0 : Int)) && decide ((0 : Int) ≤ x27) && decide (x27 ≤ (plain_12.length : Int)) && (decide (x27 ≤ x28) && decide (x28 ≤ (plain_12.length : Int))) then
 let x30 := w64 (rest_14 + (1 : Int))
 bif inR x30 plain_12.length then
 some (((cut plain_12 0 x27.toNat), ((plain_12.getD x30.toNat (0 : UInt8)).toNat : Int), (0 : Int), ()), (()))
 else none
 else none
def esp_Open_2 (N : Nat) (plain_12 : (List UInt8)) (rest_14 : Int) (n_15 : Int) (t_75 : (List UInt8)) (t_76 : Int) (t_77 : Int) : Option esp_Open_R :=
 loopK N (fun y => esp_Open_s3 N y.1.1 y.1.2.1 y.1.2.2.1 y.1.2.2.2.1 y.1.2.2.2.2.1 y.1.2.2.2.2.2.1) (fun (e : (((List UInt8) × Int × Int × Unit) × (Unit))) => esp_Open_4 N e.1.1 e.1.2.1 e.1.2.2.1) ((plain_12, rest_14, n_15, t_75, t_76, t_77, ()), (()))
def esp_Open_1 (N : Nat) (rest_14 : Int) (t_64 : Bool) (plain_12 : (List UInt8)) : Option esp_Open_R :=
 bif t_64 then
 some ((([] : List UInt8), (0 : Int), (2 : Int), ()), (()))
 else
 bif inR rest_14 plain_12.length then
 let x17 := ((plain_12.getD rest_14.toNat (0 : UInt8)).toNat : Int)
 let x18 := w64 (rest_14 - x17)
 bif decide (0 ≤ x18) && decide (x18 ≤ rest_14) && decide (rest_14 ≤ (plain_12.length : Int)) && true then
 let x19 := cut plain_12 x18.toNat rest_14.toNat
 esp_Open_2 N plain_12 rest_14 x17 x19 (x19.length : Int) (0 : Int)
 else none
 else none
def esp_Open (N : Nat) (key_0 : (List UInt8)) (b_1 : (List UInt8)) (number_2 : UInt64) : Option esp_Open_R :=
 bif (!(decide ((key_0.length : Int) = (36 : Int)))) then
 some ((([] : List UInt8), (0 : Int), (13 : Int), ()), (()))
 else
 bif (decide ((b_1.length : Int) < (24 : Int))) then
 some ((([] : List UInt8), (0 : Int), (1 : Int), ()), (()))
 else
 Option.bind (esp_Head N b_1) fun y5 =>
 bif (!(decide (y5.1.2.1 = number_2.toUInt32))) then
 some ((([] : List UInt8), (0 : Int), (22 : Int), ()), (()))
 else
 bif decide (0 ≤ (0 : Int)) && decide ((0 : Int) ≤ (32 : Int)) && decide ((32 : Int) ≤ (key_0.length : Int)) && true then
 Option.bind (esp_nonce N key_0 number_2) fun y8 =>
 Option.bind (esp_data N y5.1.1 number_2) fun y9 =>
 bif decide (0 ≤ (8 : Int)) && decide ((8 : Int) ≤ (b_1.length : Int)) && decide ((b_1.length : Int) ≤ (b_1.length : Int)) && true then
 Option.bind (aead_Open N (cut key_0 0 32) y8.2.1 y9.2.1 (cut b_1 8 b_1.length)) fun y11 =>
 bif (!(decide (y11.1.1 = (0 : Int)))) then
 some ((([] : List UInt8), (0 : Int), y11.1.1, ()), (()))
 else
 let x14 := w64 ((y11.2.1.length : Int) - (2 : Int))
 bif (decide (x14 < (0 : Int))) then
 esp_Open_1 N x14 true y11.2.1
 else
 bif inR x14 y11.2.1.length then
 esp_Open_1 N x14 (decide (x14 < ((y11.2.1.getD x14.toNat (0 : UInt8)).toNat : Int))) y11.2.1
 else none
 else none
 else none
def esp_Open_C (N : Nat) : Ctx := ⟨102, G_tys, [(35, esp_Head_ctr N), (100, esp_nonce_ctr N), (101, esp_data_ctr N), (104, aead_Open_ctr N)], G_globs, G_ifs⟩
def esp_Open_S0 : Spec := ⟨[.val (.sl .u8), .val .i64, .val .i64, .val (.sl .u8), .val .i64, .val .i64], []⟩
def esp_Open_S1 : Spec := ⟨[.val (.sl .u8), .val .i64, .val .i64], []⟩
def esp_Open_S2 : Spec := ⟨[.row 0, .val .i64, .val .bool], [(.row 5 .u8, .pos 0)]⟩
def esp_Open_S3 : Spec := ⟨[.val (.sl .u8), .val (.sl .u8), .val .u64], []⟩
def esp_Open_K (_N : Nat) : XE → GS → Option esp_Open_R := retK 0 [6, 7, 8] [false, false, false] esp_Open_S1
def esp_Open_L : List Code := (bodyOf (some Tryd.f33))
def esp_Open_L3 : List Code := (loopOf (esp_Open_L[16]?))
def esp_Open_K3 (N : Nat) : XE → GS → Option (Lo (((List UInt8) × Int × Int × (List UInt8) × Int × Int × Unit) × (Unit)) (((List UInt8) × Int × Int × Unit) × (Unit)) esp_Open_R) := roundK (some 0) (fit 0 [12, 14, 15, 75, 76, 77] esp_Open_S0) (fit 0 [12, 14, 15] esp_Open_S1) (esp_Open_K N)
theorem esp_Open_s3_b {E : Env} (N : Nat) (hb : Base Tryd.prog (esp_Open_C N) E 0) : Blk Tryd.prog (esp_Open_C N) E [12, 14, 15, 75, 76, 77] esp_Open_S0 (esp_Open_L3.drop 0) (fun y => esp_Open_s3 N y.1.1 y.1.2.1 y.1.2.2.1 y.1.2.2.2.1 y.1.2.2.2.2.1 y.1.2.2.2.2.2.1) (esp_Open_K3 N) :=
 Blk.chunkAt hb 4 (X := (esp_Open_K3 N .normal)) (NxOk.end (by kernel_rfl)) rfl (fun x => by kernel_rfl)
theorem esp_Open_4_b {E : Env} (N : Nat) (hb : Base Tryd.prog (esp_Open_C N) E 0) : Blk Tryd.prog (esp_Open_C N) E [12, 14, 15] esp_Open_S1 (esp_Open_L.drop 17) (fun y => esp_Open_4 N y.1.1 y.1.2.1 y.1.2.2.1) (esp_Open_K N) :=
 Blk.chunkAt hb 2 (X := (esp_Open_K N .normal)) (NxOk.end (by kernel_rfl)) rfl (fun x => by kernel_rfl)
theorem esp_Open_2_b {E : Env} (N : Nat) (hb : Base Tryd.prog (esp_Open_C N) E 0) : Blk Tryd.prog (esp_Open_C N) E [12, 14, 15, 75, 76, 77] esp_Open_S0 (esp_Open_L.drop 16) (fun y => esp_Open_2 N y.1.1 y.1.2.1 y.1.2.2.1 y.1.2.2.2.1 y.1.2.2.2.2.1 y.1.2.2.2.2.2.1) (esp_Open_K N) :=
 Blk.loopAt (Nf := N) (hns := [12, 14, 15, 75, 76, 77]) (ans := [12, 14, 15]) (hc := esp_Open_S0) (ac := esp_Open_S1) (bid := 0) (step := (fun y => esp_Open_s3 N y.1.1 y.1.2.1 y.1.2.2.1 y.1.2.2.2.1 y.1.2.2.2.2.1 y.1.2.2.2.2.2.1)) (J := (fun e => (goK 0 [12, 14, 15] esp_Open_S1 (fun y => esp_Open_4 N y.1.1 y.1.2.1 y.1.2.2.1)) (esp_Open_S1.st [12, 14, 15] e))) hb (by kernel_rfl) (Blk.into (X := (goK 0 [12, 14, 15] esp_Open_S1 (fun y => esp_Open_4 N y.1.1 y.1.2.1 y.1.2.2.1))) (NxOk.go hb (esp_Open_4_b N hb)) (fun x => by kernel_rfl)) (esp_Open_s3_b N hb) (fun x => by kernel_rfl)
theorem esp_Open_1_b {E : Env} (N : Nat) (hb : Base Tryd.prog (esp_Open_C N) E 0) : Blk Tryd.prog (esp_Open_C N) E [12, 14, 64] esp_Open_S2 (esp_Open_L.drop 13) (fun y => esp_Open_1 N y.1.1 y.1.2.1 y.2.1) (esp_Open_K N) :=
 Blk.chunkAt hb 3 (X := (goK 0 [12, 14, 15, 75, 76, 77] esp_Open_S0 (fun y => esp_Open_2 N y.1.1 y.1.2.1 y.1.2.2.1 y.1.2.2.2.1 y.1.2.2.2.2.1 y.1.2.2.2.2.2.1))) (NxOk.go hb (esp_Open_2_b N hb)) rfl (fun x => by kernel_rfl)
theorem esp_Open_b {E : Env} (N : Nat) (hb : Base Tryd.prog (esp_Open_C N) E 0) : Blk Tryd.prog (esp_Open_C N) E (List.range esp_Open_S3.ks.length) esp_Open_S3 (esp_Open_L.drop 0) (fun y => esp_Open N y.1.1 y.1.2.1 y.1.2.2.1) (esp_Open_K N) :=
 Blk.chunkAt hb 13 (X := (goK 0 [12, 14, 64] esp_Open_S2 (fun y => esp_Open_1 N y.1.1 y.1.2.1 y.2.1))) (NxOk.go hb (esp_Open_1_b N hb)) rfl (fun x => by kernel_rfl)
def esp_Open_ctr (N : Nat) : Ctr := ⟨esp_Open_S3, esp_Open_S1.un [false, false, false], 0, (fun y => esp_Open N y.1.1 y.1.2.1 y.1.2.2.1)⟩
theorem esp_Open_ctrs (N : Nat) : CtrsOk Tryd.prog (esp_Open_C N) := ctrs_of (Γ := esp_Open_C N) G_ifs_ok (by
 intro p hp
 simp only [esp_Open_C, List.mem_cons, List.not_mem_nil, or_false] at hp
 rcases hp with rfl | rfl | rfl | rfl
 · exact esp_Head_ok N
 · exact esp_nonce_ok N
 · exact esp_data_ok N
 · exact aead_Open_ok N)
theorem esp_Open_ok (N : Nat) : Ctr.ok Tryd.prog G_globs 33 (esp_Open_ctr N) :=
 ctr_fn (Γ := esp_Open_C N) (rfit := esp_Open_S1) (bs := [false, false, false]) (res := [6, 7, 8]) (by kernel_rfl) (tys_ok G_tys_ok) (esp_Open_ctrs N) Tryd.func33 (by kernel_rfl) (by kernel_rfl) Tryd.ntmps33 (by kernel_rfl) (by kernel_rfl) (by kernel_rfl) (by kernel_rfl) (fun E hb => esp_Open_b N hb)
/-! ipsecgate/ipsecgatelaw24.awake -/
abbrev law24_awake_R : Type := ((Bool × Unit) × (Unit))
def law24_awake (N : Nat) : Option law24_awake_R :=
 Option.bind (esp_Seal N (List.replicate 36 (0 : UInt8)) (7 : UInt32) (1 : UInt64) (59 : Int) ([] : List UInt8) (0 : Int)) fun y1 =>
 Option.bind (esp_Open N (List.replicate 36 (0 : UInt8)) y1.2.1 (1 : UInt64)) fun y2 =>
 bif (decide (y1.1.1 = (0 : Int))) then
 bif (decide ((y1.2.1.length : Int) = (28 : Int))) then
 bif (decide (y2.1.2.2.1 = (0 : Int))) then
 bif (decide ((y2.1.1.length : Int) = (0 : Int))) then
 some (((decide (y2.1.2.1 = (59 : Int))), ()), (()))
 else
 some ((false, ()), (()))
 else
 some ((false, ()), (()))
 else
 some ((false, ()), (()))
 else
 some ((false, ()), (()))
def law24_awake_C (N : Nat) : Ctx := ⟨38, G_tys, [(29, esp_Seal_ctr N), (33, esp_Open_ctr N)], G_globs, G_ifs⟩
def law24_awake_S0 : Spec := ⟨[], []⟩
def law24_awake_S1 : Spec := ⟨[.val .bool], []⟩
def law24_awake_K (_N : Nat) : XE → GS → Option law24_awake_R := retK 0 [0] [false] law24_awake_S1
def law24_awake_L : List Code := (bodyOf (some Tryd.f25))
theorem law24_awake_b {E : Env} (N : Nat) (hb : Base Tryd.prog (law24_awake_C N) E 0) : Blk Tryd.prog (law24_awake_C N) E (List.range law24_awake_S0.ks.length) law24_awake_S0 (law24_awake_L.drop 0) (fun y => law24_awake N) (law24_awake_K N) :=
 Blk.chunkAt hb 5 (X := (law24_awake_K N .normal)) (NxOk.end (by kernel_rfl)) rfl (fun x => by kernel_rfl)
def law24_awake_ctr (N : Nat) : Ctr := ⟨law24_awake_S0, law24_awake_S1.un [false], 0, (fun y => law24_awake N)⟩
theorem law24_awake_ctrs (N : Nat) : CtrsOk Tryd.prog (law24_awake_C N) := ctrs_of (Γ := law24_awake_C N) G_ifs_ok (by
 intro p hp
 simp only [law24_awake_C, List.mem_cons, List.not_mem_nil, or_false] at hp
 rcases hp with rfl | rfl
 · exact esp_Seal_ok N
 · exact esp_Open_ok N)
theorem law24_awake_ok (N : Nat) : Ctr.ok Tryd.prog G_globs 25 (law24_awake_ctr N) :=
 ctr_fn (Γ := law24_awake_C N) (rfit := law24_awake_S1) (bs := [false]) (res := [0]) (by kernel_rfl) (tys_ok G_tys_ok) (law24_awake_ctrs N) Tryd.func25 (by kernel_rfl) (by kernel_rfl) Tryd.ntmps25 (by kernel_rfl) (by kernel_rfl) (by kernel_rfl) (by kernel_rfl) (fun E hb => law24_awake_b N hb)
/-! ipsecgate/ipsecgatedraw.New -/
abbrev draw_New_R : Type := ((Unit) × (((List UInt8) × (Int × Unit)) × Unit))
def draw_New (N : Nat) (list_0 : (List UInt8)) (most_1 : Int) : Option draw_New_R :=
 let x1 := (list_0.length : Int)
 let x2 := bif decide (most_1 < x1) then most_1 else x1
 bif decide (0 ≤ (0 : Int)) && decide ((0 : Int) ≤ x2) && decide (x2 ≤ (list_0.length : Int)) && true then
 let x3 := cut list_0 0 x2.toNat
 bif room (0 + x3.length) 1 then
 some ((()), ((x3, (0 : Int), ()), ()))
 else none
 else none
def draw_New_C (N : Nat) : Ctx := ⟨14, G_tys, [], G_globs, G_ifs⟩
def draw_New_S0 : Spec := ⟨[.val (.sl .u8), .val .i64], []⟩
def draw_New_S1 : Spec := ⟨[.ref 0 (.pair (.sl .u8) (.pair .i64 .unit))], [(.box 136 (.pair (.sl .u8) (.pair .i64 .unit)), .pos 0)]⟩
def draw_New_K (_N : Nat) : XE → GS → Option draw_New_R := retK 0 [4] [false] draw_New_S1
def draw_New_L : List Code := (bodyOf (some Tryd.f26))
theorem draw_New_b {E : Env} (N : Nat) (hb : Base Tryd.prog (draw_New_C N) E 0) : Blk Tryd.prog (draw_New_C N) E (List.range draw_New_S0.ks.length) draw_New_S0 (draw_New_L.drop 0) (fun y => draw_New N y.1.1 y.1.2.1) (draw_New_K N) :=
 Blk.chunkAt hb 3 (X := (draw_New_K N .normal)) (NxOk.end (by kernel_rfl)) rfl (fun x => by kernel_rfl)
def draw_New_ctr (N : Nat) : Ctr := ⟨draw_New_S0, draw_New_S1.un [false], 0, (fun y => draw_New N y.1.1 y.1.2.1)⟩
theorem draw_New_ctrs (N : Nat) : CtrsOk Tryd.prog (draw_New_C N) := ctrs_nil G_ifs_ok rfl
theorem draw_New_ok (N : Nat) : Ctr.ok Tryd.prog G_globs 26 (draw_New_ctr N) :=
 ctr_fn (Γ := draw_New_C N) (rfit := draw_New_S1) (bs := [false]) (res := [4]) (by kernel_rfl) (tys_ok G_tys_ok) (draw_New_ctrs N) Tryd.func26 (by kernel_rfl) (by kernel_rfl) Tryd.ntmps26 (by kernel_rfl) (by kernel_rfl) (by kernel_rfl) (by kernel_rfl) (fun E hb => draw_New_b N hb)
/-! (*ipsecgate/ipsecgatedraw.Codes).Next -/
abbrev draw_Codes_Next_R : Type := ((Int × Unit) × (((List UInt8) × (Int × Unit)) × Unit))
def draw_Codes_Next (N : Nat) (n_1 : Int) (c_0 : ((List UInt8) × (Int × Unit))) : Option draw_Codes_Next_R :=
 bif (decide ((c_0.1.length : Int) ≤ c_0.2.1)) then
 some (((0 : Int), ()), (c_0, ()))
 else
 let x3 := w64 (c_0.2.1 + (1 : Int))
 let x4 := w64 (x3 - (1 : Int))
 bif inR x4 c_0.1.length then
 some (((w64 ((w64 (((c_0.1.getD x4.toNat (0 : UInt8)).toNat : Int) * n_1)).tdiv (256 : Int))), ()), ((c_0.1, x3, ()), ()))
 else none
def draw_Codes_Next_C (N : Nat) : Ctx := ⟨37, G_tys, [], G_globs, G_ifs⟩
def draw_Codes_Next_S0 : Spec := ⟨[.ref 0 (.pair (.sl .u8) (.pair .i64 .unit)), .val .i64], [(.box 136 (.pair (.sl .u8) (.pair .i64 .unit)), .pos 0)]⟩
def draw_Codes_Next_S1 : Spec := ⟨[.val .i64], [(.box 136 (.pair (.sl .u8) (.pair .i64 .unit)), .fix 0)]⟩
def draw_Codes_Next_K (_N : Nat) : XE → GS → Option draw_Codes_Next_R := retK 1 [4] [false] draw_Codes_Next_S1
def draw_Codes_Next_L : List Code := (bodyOf (some Tryd.f32))
theorem draw_Codes_Next_b {E : Env} (N : Nat) (hb : Base Tryd.prog (draw_Codes_Next_C N) E 1) : Blk Tryd.prog (draw_Codes_Next_C N) E (List.range draw_Codes_Next_S0.ks.length) draw_Codes_Next_S0 (draw_Codes_Next_L.drop 0) (fun y => draw_Codes_Next N y.1.1 y.2.1) (draw_Codes_Next_K N) :=
 Blk.chunkAt hb 6 (X := (draw_Codes_Next_K N .normal)) (NxOk.end (by kernel_rfl)) rfl (fun x => by kernel_rfl)
def draw_Codes_Next_ctr (N : Nat) : Ctr := ⟨draw_Codes_Next_S0, draw_Codes_Next_S1.un [false], 1, (fun y => draw_Codes_Next N y.1.1 y.2.1)⟩
theorem draw_Codes_Next_ctrs (N : Nat) : CtrsOk Tryd.prog (draw_Codes_Next_C N) := ctrs_nil G_ifs_ok rfl
theorem draw_Codes_Next_ok (N : Nat) : Ctr.ok Tryd.prog G_globs 32 (draw_Codes_Next_ctr N) :=
 ctr_fn (Γ := draw_Codes_Next_C N) (rfit := draw_Codes_Next_S1) (bs := [false]) (res := [4]) (by kernel_rfl) (tys_ok G_tys_ok) (draw_Codes_Next_ctrs N) Tryd.func32 (by kernel_rfl) (by kernel_rfl) Tryd.ntmps32 (by kernel_rfl) (by kernel_rfl) (by kernel_rfl) (by kernel_rfl) (fun E hb => draw_Codes_Next_b N hb)
/-! ipsecgate/ipsecgatedraw.address -/
abbrev draw_address_R : Type := ((D103 × Unit) × (Unit))
def draw_address (N : Nat) (side_0 : Int) (low_1 : Int) (six_2 : Bool) : Option draw_address_R :=
 bif six_2 then
 some ((((6 : Int), (2305843009213693952 : UInt64), (iu64 (w64 ((shlI side_0 8) + low_1))), ()), ()), (()))
 else
 some ((((4 : Int), (0 : UInt64), (iu64 (w64 ((w64 ((167772160 : Int) + (shlI side_0 8))) + low_1))), ()), ()), (()))
def draw_address_C (N : Nat) : Ctx := ⟨21, G_tys, [], G_globs, G_ifs⟩
def draw_address_S0 : Spec := ⟨[.val .i64, .val .i64, .val .bool], []⟩
def draw_address_S1 : Spec := ⟨[.fp T103], []⟩
def draw_address_K (_N : Nat) : XE → GS → Option draw_address_R := retK 0 [6] [true] draw_address_S1
def draw_address_L : List Code := (bodyOf (some Tryd.f138))
theorem draw_address_b {E : Env} (N : Nat) (hb : Base Tryd.prog (draw_address_C N) E 0) : Blk Tryd.prog (draw_address_C N) E (List.range draw_address_S0.ks.length) draw_address_S0 (draw_address_L.drop 0) (fun y => draw_address N y.1.1 y.1.2.1 y.1.2.2.1) (draw_address_K N) :=
 Blk.chunkAt hb 5 (X := (draw_address_K N .normal)) (NxOk.end (by kernel_rfl)) rfl (fun x => by kernel_rfl)
def draw_address_ctr (N : Nat) : Ctr := ⟨draw_address_S0, draw_address_S1.un [true], 0, (fun y => draw_address N y.1.1 y.1.2.1 y.1.2.2.1)⟩
theorem draw_address_ctrs (N : Nat) : CtrsOk Tryd.prog (draw_address_C N) := ctrs_nil G_ifs_ok rfl
theorem draw_address_ok (N : Nat) : Ctr.ok Tryd.prog G_globs 138 (draw_address_ctr N) :=
 ctr_fn (Γ := draw_address_C N) (rfit := draw_address_S1) (bs := [true]) (res := [6]) (by kernel_rfl) (tys_ok G_tys_ok) (draw_address_ctrs N) Tryd.func138 (by kernel_rfl) (by kernel_rfl) Tryd.ntmps138 (by kernel_rfl) (by kernel_rfl) (by kernel_rfl) (by kernel_rfl) (fun E hb => draw_address_b N hb)
/-! (*ipsecgate/ipsecgatedraw.Codes).Packet -/
abbrev draw_Codes_Packet_R : Type := ((D105 × Unit) × (((List UInt8) × (Int × Unit)) × Unit))
def draw_Codes_Packet_2 (N : Nat) (t_50 : Bool) (p0 : ((List UInt8) × (Int × Unit))) (t_4 : D105) (p_7 : D105) : Option draw_Codes_Packet_R :=
 bif t_50 then
 some (((p_7.1, p_7.2.1, p_7.2.2.1, (-1 : Int), (-1 : Int), ()), ()), (p0, ()))
 else
 some ((p_7, ()), (p0, ()))
def draw_Codes_Packet_1 (N : Nat) (side_1 : Int) (six_5 : Bool) (to_6 : Int) (p0 : ((List UInt8) × (Int × Unit))) (t_4 : D105) : Option draw_Codes_Packet_R :=
 Option.bind (draw_Codes_Next N (256 : Int) p0) fun y6 =>
 Option.bind (draw_address N side_1 y6.1.1 six_5) fun y7 =>
 Option.bind (draw_Codes_Next N (256 : Int) y6.2.1) fun y8 =>
 Option.bind (draw_address N to_6 y8.1.1 six_5) fun y9 =>
 Option.bind (draw_Codes_Next N (4 : Int) y8.2.1) fun y10 =>
 bif inR y10.1.1 (([(6 : Int), (17 : Int), (1 : Int), (50 : Int)] : List Int).length) then
 let x11 := (([(6 : Int), (17 : Int), (1 : Int), (50 : Int)] : List Int).getD y10.1.1.toNat (0 : Int))
 Option.bind (draw_Codes_Next N (6 : Int) y10.2.1) fun y12 =>
 let x13 := w64 (y12.1.1 * (20 : Int))
 Option.bind (draw_Codes_Next N (6 : Int) y12.2.1) fun y14 =>
 let x15 := w64 (y14.1.1 * (20 : Int))
 Option.bind (draw_Codes_Next N (4 : Int) y14.2.1) fun y16 =>
 bif (decide (y16.1.1 = (3 : Int))) then
 draw_Codes_Packet_2 N true y16.2.1 t_4 (y7.1.1, y9.1.1, x11, x13, x15, ())
 else
 bif (decide (x11 = (1 : Int))) then
 draw_Codes_Packet_2 N true y16.2.1 t_4 (y7.1.1, y9.1.1, x11, x13, x15, ())
 else
 draw_Codes_Packet_2 N (decide (x11 = (50 : Int))) y16.2.1 t_4 (y7.1.1, y9.1.1, x11, x13, x15, ())
 else none
def draw_Codes_Packet (N : Nat) (side_1 : Int) (c_0 : ((List UInt8) × (Int × Unit))) : Option draw_Codes_Packet_R :=
 Option.bind (draw_Codes_Next N (10 : Int) c_0) fun y1 =>
 let x2 := decide (y1.1.1 = (9 : Int))
 Option.bind (draw_Codes_Next N (8 : Int) y1.2.1) fun y4 =>
 bif (decide (y4.1.1 = (7 : Int))) then
 draw_Codes_Packet_1 N side_1 x2 (3 : Int) y4.2.1 (((0 : Int), (0 : UInt64), (0 : UInt64), ()), ((0 : Int), (0 : UInt64), (0 : UInt64), ()), (0 : Int), (0 : Int), (0 : Int), ())
 else
 draw_Codes_Packet_1 N side_1 x2 (w64 ((1 : Int) - side_1)) y4.2.1 (((0 : Int), (0 : UInt64), (0 : UInt64), ()), ((0 : Int), (0 : UInt64), (0 : UInt64), ()), (0 : Int), (0 : Int), (0 : Int), ())
def draw_Codes_Packet_C (N : Nat) : Ctx := ⟨54, G_tys, [(32, draw_Codes_Next_ctr N), (138, draw_address_ctr N)], G_globs, G_ifs⟩
def draw_Codes_Packet_S0 : Spec := ⟨[.ref 1 T105, .ref 2 T105, .val .bool], [(.box 136 (.pair (.sl .u8) (.pair .i64 .unit)), .fix 0), (.box 106 T105, .pos 0), (.box 106 T105, .pos 1)]⟩
def draw_Codes_Packet_S1 : Spec := ⟨[.ref 0 (.pair (.sl .u8) (.pair .i64 .unit)), .val .i64, .ref 1 T105, .val .bool, .val .i64], [(.box 136 (.pair (.sl .u8) (.pair .i64 .unit)), .fix 0), (.box 106 T105, .pos 2)]⟩
def draw_Codes_Packet_S2 : Spec := ⟨[.ref 0 (.pair (.sl .u8) (.pair .i64 .unit)), .val .i64], [(.box 136 (.pair (.sl .u8) (.pair .i64 .unit)), .pos 0)]⟩
def draw_Codes_Packet_S3 : Spec := ⟨[.fp T105], [(.box 136 (.pair (.sl .u8) (.pair .i64 .unit)), .fix 0)]⟩
def draw_Codes_Packet_K (_N : Nat) : XE → GS → Option draw_Codes_Packet_R := retK 1 [4] [true] draw_Codes_Packet_S3
def draw_Codes_Packet_L : List Code := (bodyOf (some Tryd.f74))
theorem draw_Codes_Packet_2_b {E : Env} (N : Nat) (hb : Base Tryd.prog (draw_Codes_Packet_C N) E 1) : Blk Tryd.prog (draw_Codes_Packet_C N) E [4, 7, 50] draw_Codes_Packet_S0 (draw_Codes_Packet_L.drop 7) (fun y => draw_Codes_Packet_2 N y.1.1 y.2.1 y.2.2.1 y.2.2.2.1) (draw_Codes_Packet_K N) :=
 Blk.chunkAt hb 3 (X := (draw_Codes_Packet_K N .normal)) (NxOk.end (by kernel_rfl)) rfl (fun x => by kernel_rfl)
theorem draw_Codes_Packet_1_b {E : Env} (N : Nat) (hb : Base Tryd.prog (draw_Codes_Packet_C N) E 1) : Blk Tryd.prog (draw_Codes_Packet_C N) E [0, 1, 4, 5, 6] draw_Codes_Packet_S1 (draw_Codes_Packet_L.drop 5) (fun y => draw_Codes_Packet_1 N y.1.1 y.1.2.1 y.1.2.2.1 y.2.1 y.2.2.1) (draw_Codes_Packet_K N) :=
 Blk.chunkAt hb 2 (X := (goK 1 [4, 7, 50] draw_Codes_Packet_S0 (fun y => draw_Codes_Packet_2 N y.1.1 y.2.1 y.2.2.1 y.2.2.2.1))) (NxOk.go hb (draw_Codes_Packet_2_b N hb)) rfl (fun x => by kernel_rfl)
theorem draw_Codes_Packet_b {E : Env} (N : Nat) (hb : Base Tryd.prog (draw_Codes_Packet_C N) E 1) : Blk Tryd.prog (draw_Codes_Packet_C N) E (List.range draw_Codes_Packet_S2.ks.length) draw_Codes_Packet_S2 (draw_Codes_Packet_L.drop 0) (fun y => draw_Codes_Packet N y.1.1 y.2.1) (draw_Codes_Packet_K N) :=
 Blk.chunkAt hb 5 (X := (goK 1 [0, 1, 4, 5, 6] draw_Codes_Packet_S1 (fun y => draw_Codes_Packet_1 N y.1.1 y.1.2.1 y.1.2.2.1 y.2.1 y.2.2.1))) (NxOk.go hb (draw_Codes_Packet_1_b N hb)) rfl (fun x => by kernel_rfl)
def draw_Codes_Packet_ctr (N : Nat) : Ctr := ⟨draw_Codes_Packet_S2, draw_Codes_Packet_S3.un [true], 1, (fun y => draw_Codes_Packet N y.1.1 y.2.1)⟩
theorem draw_Codes_Packet_ctrs (N : Nat) : CtrsOk Tryd.prog (draw_Codes_Packet_C N) := ctrs_of (Γ := draw_Codes_Packet_C N) G_ifs_ok (by
 intro p hp
 simp only [draw_Codes_Packet_C, List.mem_cons, List.not_mem_nil, or_false] at hp
 rcases hp with rfl | rfl
 · exact draw_Codes_Next_ok N
 · exact draw_address_ok N)
theorem draw_Codes_Packet_ok (N : Nat) : Ctr.ok Tryd.prog G_globs 74 (draw_Codes_Packet_ctr N) :=
 ctr_fn (Γ := draw_Codes_Packet_C N) (rfit := draw_Codes_Packet_S3) (bs := [true]) (res := [4]) (by kernel_rfl) (tys_ok G_tys_ok) (draw_Codes_Packet_ctrs N) Tryd.func74 (by kernel_rfl) (by kernel_rfl) Tryd.ntmps74 (by kernel_rfl) (by kernel_rfl) (by kernel_rfl) (by kernel_rfl) (fun E hb => draw_Codes_Packet_b N hb)
/-! ipsecgate/ipsecgateref05.Valid -/
abbrev ref05_Valid_R : Type := ((Bool × Unit) × (Unit))
def ref05_Valid (N : Nat) (a_0 : D103) : Option ref05_Valid_R :=
 bif (decide (a_0.1 = (4 : Int))) then
 bif (decide (a_0.2.1 = (0 : UInt64))) then
 bif (decide (a_0.2.2.1 < (4294967296 : UInt64))) then
 some ((true, ()), (()))
 else
 some (((decide (a_0.1 = (6 : Int))), ()), (()))
 else
 some (((decide (a_0.1 = (6 : Int))), ()), (()))
 else
 some (((decide (a_0.1 = (6 : Int))), ()), (()))
def ref05_Valid_C (N : Nat) : Ctx := ⟨21, G_tys, [], G_globs, G_ifs⟩
def ref05_Valid_S0 : Spec := ⟨[.val T103], []⟩
def ref05_Valid_S1 : Spec := ⟨[.val .bool], []⟩
def ref05_Valid_K (_N : Nat) : XE → GS → Option ref05_Valid_R := retK 0 [2] [false] ref05_Valid_S1
def ref05_Valid_L : List Code := (bodyOf (some Tryd.f177))
theorem ref05_Valid_b {E : Env} (N : Nat) (hb : Base Tryd.prog (ref05_Valid_C N) E 0) : Blk Tryd.prog (ref05_Valid_C N) E (List.range ref05_Valid_S0.ks.length) ref05_Valid_S0 (ref05_Valid_L.drop 0) (fun y => ref05_Valid N y.1.1) (ref05_Valid_K N) :=
 Blk.chunkAt hb 3 (X := (ref05_Valid_K N .normal)) (NxOk.end (by kernel_rfl)) rfl (fun x => by kernel_rfl)
def ref05_Valid_ctr (N : Nat) : Ctr := ⟨ref05_Valid_S0, ref05_Valid_S1.un [false], 0, (fun y => ref05_Valid N y.1.1)⟩
theorem ref05_Valid_ctrs (N : Nat) : CtrsOk Tryd.prog (ref05_Valid_C N) := ctrs_nil G_ifs_ok rfl
theorem ref05_Valid_ok (N : Nat) : Ctr.ok Tryd.prog G_globs 177 (ref05_Valid_ctr N) :=
 ctr_fn (Γ := ref05_Valid_C N) (rfit := ref05_Valid_S1) (bs := [false]) (res := [2]) (by kernel_rfl) (tys_ok G_tys_ok) (ref05_Valid_ctrs N) Tryd.func177 (by kernel_rfl) (by kernel_rfl) Tryd.ntmps177 (by kernel_rfl) (by kernel_rfl) (by kernel_rfl) (by kernel_rfl) (fun E hb => ref05_Valid_b N hb)
/-! ipsecgate/ipsecgateref01.Put -/
abbrev ref01_Put_R : Type := ((Unit) × ((List UInt8) × Unit))
def ref01_Put_s3 (N : Nat) (v_1 : UInt64) (i_8 : Int) (out_7 : (List UInt8)) : Option (Lo ((UInt64 × Int × Unit) × ((List UInt8) × Unit)) ((Unit) × ((List UInt8) × Unit)) ref01_Put_R) :=
 bif (decide ((0 : Int) ≤ i_8)) then
 let x6 := shr64 v_1 (iu64 (w64 ((8 : Int) * i_8))).toNat
 bif room (out_7.length + ([x6.toUInt8] : List UInt8).length) 1 then
 some (.go ((v_1, (w64 (i_8 - (1 : Int))), ()), ((out_7 ++ ([x6.toUInt8] : List UInt8)), ())))
 else none
 else
 some (.br ((()), (out_7, ())))
def ref01_Put_4 (N : Nat) (out_7 : (List UInt8)) : Option ref01_Put_R :=
 some ((()), (out_7, ()))
def ref01_Put_2 (N : Nat) (v_1 : UInt64) (i_8 : Int) (out_7 : (List UInt8)) : Option ref01_Put_R :=
 loopK N (fun y => ref01_Put_s3 N y.1.1 y.1.2.1 y.2.1) (fun (e : ((Unit) × ((List UInt8) × Unit))) => ref01_Put_4 N e.2.1) ((v_1, i_8, ()), (out_7, ()))
def ref01_Put_1 (N : Nat) (v_1 : UInt64) (width_2 : Int) (t_16 : Bool) (out_7 : (List UInt8)) : Option ref01_Put_R :=
 bif t_16 then
 some ((()), (out_7, ()))
 else
 ref01_Put_2 N v_1 (w64 (width_2 - (1 : Int))) out_7
def ref01_Put (N : Nat) (b_0 : (List UInt8)) (v_1 : UInt64) (width_2 : Int) : Option ref01_Put_R :=
 bif room (0 + b_0.length) 1 then
 bif (decide (width_2 < (1 : Int))) then
 ref01_Put_1 N v_1 width_2 true b_0
 else
 ref01_Put_1 N v_1 width_2 (decide ((8 : Int) < width_2)) b_0
 else none
def ref01_Put_C (N : Nat) : Ctx := ⟨34, G_tys, [], G_globs, G_ifs⟩
def ref01_Put_S0 : Spec := ⟨[.val .u64, .row 0, .val .i64], [(.row 5 .u8, .pos 1)]⟩
def ref01_Put_S1 : Spec := ⟨[.row 0], [(.row 5 .u8, .pos 0)]⟩
def ref01_Put_S2 : Spec := ⟨[.val .u64, .val .i64, .row 0, .val .bool], [(.row 5 .u8, .pos 2)]⟩
def ref01_Put_S3 : Spec := ⟨[.val (.sl .u8), .val .u64, .val .i64], []⟩
def ref01_Put_K (_N : Nat) : XE → GS → Option ref01_Put_R := retK 0 [6] [false] ref01_Put_S1
def ref01_Put_L : List Code := (bodyOf (some Tryd.f113))
def ref01_Put_L3 : List Code := (loopOf (ref01_Put_L[5]?))
def ref01_Put_K3 (N : Nat) : XE → GS → Option (Lo ((UInt64 × Int × Unit) × ((List UInt8) × Unit)) ((Unit) × ((List UInt8) × Unit)) ref01_Put_R) := roundK (some 0) (fit 0 [1, 7, 8] ref01_Put_S0) (fit 0 [7] ref01_Put_S1) (ref01_Put_K N)
theorem ref01_Put_s3_b {E : Env} (N : Nat) (hb : Base Tryd.prog (ref01_Put_C N) E 0) : Blk Tryd.prog (ref01_Put_C N) E [1, 7, 8] ref01_Put_S0 (ref01_Put_L3.drop 0) (fun y => ref01_Put_s3 N y.1.1 y.1.2.1 y.2.1) (ref01_Put_K3 N) :=
 Blk.chunkAt hb 4 (X := (ref01_Put_K3 N .normal)) (NxOk.end (by kernel_rfl)) rfl (fun x => by kernel_rfl)
theorem ref01_Put_4_b {E : Env} (N : Nat) (hb : Base Tryd.prog (ref01_Put_C N) E 0) : Blk Tryd.prog (ref01_Put_C N) E [7] ref01_Put_S1 (ref01_Put_L.drop 6) (fun y => ref01_Put_4 N y.2.1) (ref01_Put_K N) :=
 Blk.chunkAt hb 2 (X := (ref01_Put_K N .normal)) (NxOk.end (by kernel_rfl)) rfl (fun x => by kernel_rfl)
theorem ref01_Put_2_b {E : Env} (N : Nat) (hb : Base Tryd.prog (ref01_Put_C N) E 0) : Blk Tryd.prog (ref01_Put_C N) E [1, 7, 8] ref01_Put_S0 (ref01_Put_L.drop 5) (fun y => ref01_Put_2 N y.1.1 y.1.2.1 y.2.1) (ref01_Put_K N) :=
 Blk.loopAt (Nf := N) (hns := [1, 7, 8]) (ans := [7]) (hc := ref01_Put_S0) (ac := ref01_Put_S1) (bid := 0) (step := (fun y => ref01_Put_s3 N y.1.1 y.1.2.1 y.2.1)) (J := (fun e => (goK 0 [7] ref01_Put_S1 (fun y => ref01_Put_4 N y.2.1)) (ref01_Put_S1.st [7] e))) hb (by kernel_rfl) (Blk.into (X := (goK 0 [7] ref01_Put_S1 (fun y => ref01_Put_4 N y.2.1))) (NxOk.go hb (ref01_Put_4_b N hb)) (fun x => by kernel_rfl)) (ref01_Put_s3_b N hb) (fun x => by kernel_rfl)
theorem ref01_Put_1_b {E : Env} (N : Nat) (hb : Base Tryd.prog (ref01_Put_C N) E 0) : Blk Tryd.prog (ref01_Put_C N) E [1, 2, 7, 16] ref01_Put_S2 (ref01_Put_L.drop 3) (fun y => ref01_Put_1 N y.1.1 y.1.2.1 y.1.2.2.1 y.2.1) (ref01_Put_K N) :=
 Blk.chunkAt hb 2 (X := (goK 0 [1, 7, 8] ref01_Put_S0 (fun y => ref01_Put_2 N y.1.1 y.1.2.1 y.2.1))) (NxOk.go hb (ref01_Put_2_b N hb)) rfl (fun x => by kernel_rfl)
theorem ref01_Put_b {E : Env} (N : Nat) (hb : Base Tryd.prog (ref01_Put_C N) E 0) : Blk Tryd.prog (ref01_Put_C N) E (List.range ref01_Put_S3.ks.length) ref01_Put_S3 (ref01_Put_L.drop 0) (fun y => ref01_Put N y.1.1 y.1.2.1 y.1.2.2.1) (ref01_Put_K N) :=
 Blk.chunkAt hb 3 (X := (goK 0 [1, 2, 7, 16] ref01_Put_S2 (fun y => ref01_Put_1 N y.1.1 y.1.2.1 y.1.2.2.1 y.2.1))) (NxOk.go hb (ref01_Put_1_b N hb)) rfl (fun x => by kernel_rfl)
def ref01_Put_ctr (N : Nat) : Ctr := ⟨ref01_Put_S3, ref01_Put_S1.un [false], 0, (fun y => ref01_Put N y.1.1 y.1.2.1 y.1.2.2.1)⟩
theorem ref01_Put_ctrs (N : Nat) : CtrsOk Tryd.prog (ref01_Put_C N) := ctrs_nil G_ifs_ok rfl
theorem ref01_Put_ok (N : Nat) : Ctr.ok Tryd.prog G_globs 113 (ref01_Put_ctr N) :=
 ctr_fn (Γ := ref01_Put_C N) (rfit := ref01_Put_S1) (bs := [false]) (res := [6]) (by kernel_rfl) (tys_ok G_tys_ok) (ref01_Put_ctrs N) Tryd.func113 (by kernel_rfl) (by kernel_rfl) Tryd.ntmps113 (by kernel_rfl) (by kernel_rfl) (by kernel_rfl) (by kernel_rfl) (fun E hb => ref01_Put_b N hb)
/-! ipsecgate/ipsecgateref05.PutAddress -/
abbrev ref05_PutAddress_R : Type := ((Unit) × ((List UInt8) × Unit))
def ref05_PutAddress (N : Nat) (b_0 : (List UInt8)) (a_1 : D103) : Option ref05_PutAddress_R :=
 bif (decide (a_1.1 = (4 : Int))) then
 Option.bind (ref01_Put N b_0 a_1.2.2.1 (4 : Int)) fun y2 =>
 some ((()), (y2.2.1, ()))
 else
 Option.bind (ref01_Put N b_0 a_1.2.1 (8 : Int)) fun y3 =>
 Option.bind (ref01_Put N y3.2.1 a_1.2.2.1 (8 : Int)) fun y4 =>
 some ((()), (y4.2.1, ()))
def ref05_PutAddress_C (N : Nat) : Ctx := ⟨19, G_tys, [(113, ref01_Put_ctr N)], G_globs, G_ifs⟩
def ref05_PutAddress_S0 : Spec := ⟨[.val (.sl .u8), .val T103], []⟩
def ref05_PutAddress_S1 : Spec := ⟨[.row 0], [(.row 5 .u8, .pos 0)]⟩
def ref05_PutAddress_K (_N : Nat) : XE → GS → Option ref05_PutAddress_R := retK 0 [4] [false] ref05_PutAddress_S1
def ref05_PutAddress_L : List Code := (bodyOf (some Tryd.f179))
theorem ref05_PutAddress_b {E : Env} (N : Nat) (hb : Base Tryd.prog (ref05_PutAddress_C N) E 0) : Blk Tryd.prog (ref05_PutAddress_C N) E (List.range ref05_PutAddress_S0.ks.length) ref05_PutAddress_S0 (ref05_PutAddress_L.drop 0) (fun y => ref05_PutAddress N y.1.1 y.1.2.1) (ref05_PutAddress_K N) :=
 Blk.chunkAt hb 5 (X := (ref05_PutAddress_K N .normal)) (NxOk.end (by kernel_rfl)) rfl (fun x => by kernel_rfl)
def ref05_PutAddress_ctr (N : Nat) : Ctr := ⟨ref05_PutAddress_S0, ref05_PutAddress_S1.un [false], 0, (fun y => ref05_PutAddress N y.1.1 y.1.2.1)⟩
theorem ref05_PutAddress_ctrs (N : Nat) : CtrsOk Tryd.prog (ref05_PutAddress_C N) := ctrs_of (Γ := ref05_PutAddress_C N) G_ifs_ok (by
 intro p hp
 simp only [ref05_PutAddress_C, List.mem_cons, List.not_mem_nil, or_false] at hp
 rcases hp with rfl
 · exact ref01_Put_ok N)
theorem ref05_PutAddress_ok (N : Nat) : Ctr.ok Tryd.prog G_globs 179 (ref05_PutAddress_ctr N) :=
 ctr_fn (Γ := ref05_PutAddress_C N) (rfit := ref05_PutAddress_S1) (bs := [false]) (res := [4]) (by kernel_rfl) (tys_ok G_tys_ok) (ref05_PutAddress_ctrs N) Tryd.func179 (by kernel_rfl) (by kernel_rfl) Tryd.ntmps179 (by kernel_rfl) (by kernel_rfl) (by kernel_rfl) (by kernel_rfl) (fun E hb => ref05_PutAddress_b N hb)
/-! ipsecgate/ipsecgateref01.Checksum -/
abbrev ref01_Checksum_R : Type := ((Int × Unit) × (Unit))
def ref01_Checksum_s2 (N : Nat) (b_0 : (List UInt8)) (sum_3 : Int) (i_4 : Int) : Option (Lo (((List UInt8) × Int × Int × Unit) × (Unit)) ((Int × Unit) × (Unit)) ref01_Checksum_R) :=
 bif (decide (i_4 < (b_0.length : Int))) then
 bif (decide ((i_4.tmod (2 : Int)) = (0 : Int))) then
 bif inR i_4 b_0.length then
 some (.go ((b_0, (w64 (sum_3 + (shlI ((b_0.getD i_4.toNat (0 : UInt8)).toNat : Int) 8))), (w64 (i_4 + (1 : Int))), ()), (())))
 else none
 else
 bif inR i_4 b_0.length then
 some (.go ((b_0, (w64 (sum_3 + ((b_0.getD i_4.toNat (0 : UInt8)).toNat : Int))), (w64 (i_4 + (1 : Int))), ()), (())))
 else none
 else
 some (.br ((sum_3, ()), (())))
def ref01_Checksum_s4 (N : Nat) (sum_3 : Int) : Option (Lo ((Int × Unit) × (Unit)) ((Int × Unit) × (Unit)) ref01_Checksum_R) :=
 bif (decide ((65535 : Int) < sum_3)) then
 some (.go (((w64 ((and64 sum_3 (65535 : Int)) + (shrI sum_3 16))), ()), (())))
 else
 some (.br ((sum_3, ()), (())))
def ref01_Checksum_5 (N : Nat) (sum_3 : Int) : Option ref01_Checksum_R :=
 some (((w64 ((65535 : Int) - sum_3)), ()), (()))
def ref01_Checksum_3 (N : Nat) (sum_3 : Int) : Option ref01_Checksum_R :=
 loopK N (fun y => ref01_Checksum_s4 N y.1.1) (fun (e : ((Int × Unit) × (Unit))) => ref01_Checksum_5 N e.1.1) ((sum_3, ()), (()))
def ref01_Checksum_1 (N : Nat) (b_0 : (List UInt8)) (sum_3 : Int) (i_4 : Int) : Option ref01_Checksum_R :=
 loopK N (fun y => ref01_Checksum_s2 N y.1.1 y.1.2.1 y.1.2.2.1) (fun (e : ((Int × Unit) × (Unit))) => ref01_Checksum_3 N e.1.1) ((b_0, sum_3, i_4, ()), (()))
def ref01_Checksum (N : Nat) (b_0 : (List UInt8)) : Option ref01_Checksum_R :=
 ref01_Checksum_1 N b_0 (0 : Int) (0 : Int)
def ref01_Checksum_C (N : Nat) : Ctx := ⟨38, G_tys, [], G_globs, G_ifs⟩
def ref01_Checksum_S0 : Spec := ⟨[.val (.sl .u8), .val .i64, .val .i64], []⟩
def ref01_Checksum_S1 : Spec := ⟨[.val .i64], []⟩
def ref01_Checksum_S2 : Spec := ⟨[.val (.sl .u8)], []⟩
def ref01_Checksum_K (_N : Nat) : XE → GS → Option ref01_Checksum_R := retK 0 [2] [false] ref01_Checksum_S1
def ref01_Checksum_L : List Code := (bodyOf (some Tryd.f180))
def ref01_Checksum_L2 : List Code := (loopOf (ref01_Checksum_L[3]?))
def ref01_Checksum_L4 : List Code := (loopOf (ref01_Checksum_L[4]?))
def ref01_Checksum_K2 (N : Nat) : XE → GS → Option (Lo (((List UInt8) × Int × Int × Unit) × (Unit)) ((Int × Unit) × (Unit)) ref01_Checksum_R) := roundK (some 0) (fit 0 [0, 3, 4] ref01_Checksum_S0) (fit 0 [3] ref01_Checksum_S1) (ref01_Checksum_K N)
def ref01_Checksum_K4 (N : Nat) : XE → GS → Option (Lo ((Int × Unit) × (Unit)) ((Int × Unit) × (Unit)) ref01_Checksum_R) := roundK (some 2) (fit 0 [3] ref01_Checksum_S1) (fit 0 [3] ref01_Checksum_S1) (ref01_Checksum_K N)
theorem ref01_Checksum_s2_b {E : Env} (N : Nat) (hb : Base Tryd.prog (ref01_Checksum_C N) E 0) : Blk Tryd.prog (ref01_Checksum_C N) E [0, 3, 4] ref01_Checksum_S0 (ref01_Checksum_L2.drop 0) (fun y => ref01_Checksum_s2 N y.1.1 y.1.2.1 y.1.2.2.1) (ref01_Checksum_K2 N) :=
 Blk.chunkAt hb 4 (X := (ref01_Checksum_K2 N .normal)) (NxOk.end (by kernel_rfl)) rfl (fun x => by kernel_rfl)
theorem ref01_Checksum_s4_b {E : Env} (N : Nat) (hb : Base Tryd.prog (ref01_Checksum_C N) E 0) : Blk Tryd.prog (ref01_Checksum_C N) E [3] ref01_Checksum_S1 (ref01_Checksum_L4.drop 0) (fun y => ref01_Checksum_s4 N y.1.1) (ref01_Checksum_K4 N) :=
 Blk.chunkAt hb 3 (X := (ref01_Checksum_K4 N .normal)) (NxOk.end (by kernel_rfl)) rfl (fun x => by kernel_rfl)
theorem ref01_Checksum_5_b {E : Env} (N : Nat) (hb : Base Tryd.prog (ref01_Checksum_C N) E 0) : Blk Tryd.prog (ref01_Checksum_C N) E [3] ref01_Checksum_S1 (ref01_Checksum_L.drop 5) (fun y => ref01_Checksum_5 N y.1.1) (ref01_Checksum_K N) :=
 Blk.chunkAt hb 2 (X := (ref01_Checksum_K N .normal)) (NxOk.end (by kernel_rfl)) rfl (fun x => by kernel_rfl)
theorem ref01_Checksum_3_b {E : Env} (N : Nat) (hb : Base Tryd.prog (ref01_Checksum_C N) E 0) : Blk Tryd.prog (ref01_Checksum_C N) E [3] ref01_Checksum_S1 (ref01_Checksum_L.drop 4) (fun y => ref01_Checksum_3 N y.1.1) (ref01_Checksum_K N) :=
 Blk.loopAt (Nf := N) (hns := [3]) (ans := [3]) (hc := ref01_Checksum_S1) (ac := ref01_Checksum_S1) (bid := 2) (step := (fun y => ref01_Checksum_s4 N y.1.1)) (J := (fun e => (goK 0 [3] ref01_Checksum_S1 (fun y => ref01_Checksum_5 N y.1.1)) (ref01_Checksum_S1.st [3] e))) hb (by kernel_rfl) (Blk.into (X := (goK 0 [3] ref01_Checksum_S1 (fun y => ref01_Checksum_5 N y.1.1))) (NxOk.go hb (ref01_Checksum_5_b N hb)) (fun x => by kernel_rfl)) (ref01_Checksum_s4_b N hb) (fun x => by kernel_rfl)
theorem ref01_Checksum_1_b {E : Env} (N : Nat) (hb : Base Tryd.prog (ref01_Checksum_C N) E 0) : Blk Tryd.prog (ref01_Checksum_C N) E [0, 3, 4] ref01_Checksum_S0 (ref01_Checksum_L.drop 3) (fun y => ref01_Checksum_1 N y.1.1 y.1.2.1 y.1.2.2.1) (ref01_Checksum_K N) :=
 Blk.loopAt (Nf := N) (hns := [0, 3, 4]) (ans := [3]) (hc := ref01_Checksum_S0) (ac := ref01_Checksum_S1) (bid := 0) (step := (fun y => ref01_Checksum_s2 N y.1.1 y.1.2.1 y.1.2.2.1)) (J := (fun e => (goK 0 [3] ref01_Checksum_S1 (fun y => ref01_Checksum_3 N y.1.1)) (ref01_Checksum_S1.st [3] e))) hb (by kernel_rfl) (Blk.into (X := (goK 0 [3] ref01_Checksum_S1 (fun y => ref01_Checksum_3 N y.1.1))) (NxOk.go hb (ref01_Checksum_3_b N hb)) (fun x => by kernel_rfl)) (ref01_Checksum_s2_b N hb) (fun x => by kernel_rfl)
theorem ref01_Checksum_b {E : Env} (N : Nat) (hb : Base Tryd.prog (ref01_Checksum_C N) E 0) : Blk Tryd.prog (ref01_Checksum_C N) E (List.range ref01_Checksum_S2.ks.length) ref01_Checksum_S2 (ref01_Checksum_L.drop 0) (fun y => ref01_Checksum N y.1.1) (ref01_Checksum_K N) :=
 Blk.chunkAt hb 3 (X := (goK 0 [0, 3, 4] ref01_Checksum_S0 (fun y => ref01_Checksum_1 N y.1.1 y.1.2.1 y.1.2.2.1))) (NxOk.go hb (ref01_Checksum_1_b N hb)) rfl (fun x => by kernel_rfl)
def ref01_Checksum_ctr (N : Nat) : Ctr := ⟨ref01_Checksum_S2, ref01_Checksum_S1.un [false], 0, (fun y => ref01_Checksum N y.1.1)⟩
theorem ref01_Checksum_ctrs (N : Nat) : CtrsOk Tryd.prog (ref01_Checksum_C N) := ctrs_nil G_ifs_ok rfl
theorem ref01_Checksum_ok (N : Nat) : Ctr.ok Tryd.prog G_globs 180 (ref01_Checksum_ctr N) :=
 ctr_fn (Γ := ref01_Checksum_C N) (rfit := ref01_Checksum_S1) (bs := [false]) (res := [2]) (by kernel_rfl) (tys_ok G_tys_ok) (ref01_Checksum_ctrs N) Tryd.func180 (by kernel_rfl) (by kernel_rfl) Tryd.ntmps180 (by kernel_rfl) (by kernel_rfl) (by kernel_rfl) (by kernel_rfl) (fun E hb => ref01_Checksum_b N hb)
/-! ipsecgate/ipsecgateref22.port -/
abbrev ref22_port_R : Type := ((Bool × Unit) × (Unit))
def ref22_port (N : Nat) (n_0 : Int) : Option ref22_port_R :=
 bif (decide ((-1 : Int) ≤ n_0)) then
 some (((decide (n_0 ≤ (65535 : Int))), ()), (()))
 else
 some ((false, ()), (()))
def ref22_port_C (N : Nat) : Ctx := ⟨9, G_tys, [], G_globs, G_ifs⟩
def ref22_port_S0 : Spec := ⟨[.val .i64], []⟩
def ref22_port_S1 : Spec := ⟨[.val .bool], []⟩
def ref22_port_K (_N : Nat) : XE → GS → Option ref22_port_R := retK 0 [2] [false] ref22_port_S1
def ref22_port_L : List Code := (bodyOf (some Tryd.f178))
theorem ref22_port_b {E : Env} (N : Nat) (hb : Base Tryd.prog (ref22_port_C N) E 0) : Blk Tryd.prog (ref22_port_C N) E (List.range ref22_port_S0.ks.length) ref22_port_S0 (ref22_port_L.drop 0) (fun y => ref22_port N y.1.1) (ref22_port_K N) :=
 Blk.chunkAt hb 3 (X := (ref22_port_K N .normal)) (NxOk.end (by kernel_rfl)) rfl (fun x => by kernel_rfl)
def ref22_port_ctr (N : Nat) : Ctr := ⟨ref22_port_S0, ref22_port_S1.un [false], 0, (fun y => ref22_port N y.1.1)⟩
theorem ref22_port_ctrs (N : Nat) : CtrsOk Tryd.prog (ref22_port_C N) := ctrs_nil G_ifs_ok rfl
theorem ref22_port_ok (N : Nat) : Ctr.ok Tryd.prog G_globs 178 (ref22_port_ctr N) :=
 ctr_fn (Γ := ref22_port_C N) (rfit := ref22_port_S1) (bs := [false]) (res := [2]) (by kernel_rfl) (tys_ok G_tys_ok) (ref22_port_ctrs N) Tryd.func178 (by kernel_rfl) (by kernel_rfl) Tryd.ntmps178 (by kernel_rfl) (by kernel_rfl) (by kernel_rfl) (by kernel_rfl) (fun E hb => ref22_port_b N hb)
/-! ipsecgate/ipsecgateref22.Build -/
abbrev ref22_Build_R : Type := ((Int × Unit) × ((List UInt8) × Unit))
def ref22_Build_6 (N : Nat) (data_1 : (List UInt8)) (b_7 : (List UInt8)) : Option ref22_Build_R :=
 bif room (b_7.length + data_1.length) 1 then
 some (((0 : Int), ()), ((b_7 ++ data_1), ()))
 else none
def ref22_Build_5 (N : Nat) (n_6 : Int) (data_1 : (List UInt8)) (p_2 : D105) : Option ref22_Build_R :=
 bif (decide ((4096 : Int) < (w64 (n_6 + (data_1.length : Int))))) then
 some (((11 : Int), ()), (([] : List UInt8), ()))
 else
 bif (decide (n_6 = (20 : Int))) then
 Option.bind (ref01_Put N ([(69 : UInt8), (0 : UInt8)] : List UInt8) (iu64 (w64 ((20 : Int) + (data_1.length : Int)))) (2 : Int)) fun y27 =>
 bif room (y27.2.1.length + ([(0 : UInt8), (0 : UInt8), (0 : UInt8), (0 : UInt8), (64 : UInt8), (iu8 p_2.2.2.1), (0 : UInt8), (0 : UInt8)] : List UInt8).length) 1 then
 Option.bind (ref05_PutAddress N (y27.2.1 ++ ([(0 : UInt8), (0 : UInt8), (0 : UInt8), (0 : UInt8), (64 : UInt8), (iu8 p_2.2.2.1), (0 : UInt8), (0 : UInt8)] : List UInt8)) p_2.1) fun y30 =>
 Option.bind (ref05_PutAddress N y30.2.1 p_2.2.1) fun y31 =>
 Option.bind (ref01_Checksum N y31.2.1) fun y32 =>
 bif inR (10 : Int) y31.2.1.length then
 let x36 := (y31.2.1.set 10 (iu8 (shrI y32.1.1 8)))
 bif inR (11 : Int) x36.length then
 ref22_Build_6 N data_1 (x36.set 11 (iu8 y32.1.1))
 else none
 else none
 else none
 else
 Option.bind (ref01_Put N ([(96 : UInt8), (0 : UInt8), (0 : UInt8), (0 : UInt8)] : List UInt8) (iu64 (data_1.length : Int)) (2 : Int)) fun y41 =>
 bif room (y41.2.1.length + ([(iu8 p_2.2.2.1), (64 : UInt8)] : List UInt8).length) 1 then
 Option.bind (ref05_PutAddress N (y41.2.1 ++ ([(iu8 p_2.2.2.1), (64 : UInt8)] : List UInt8)) p_2.1) fun y44 =>
 Option.bind (ref05_PutAddress N y44.2.1 p_2.2.1) fun y45 =>
 ref22_Build_6 N data_1 y45.2.1
 else none
def ref22_Build_4 (N : Nat) (data_1 : (List UInt8)) (p_2 : D105) : Option ref22_Build_R :=
 bif (decide (p_2.1.1 = (6 : Int))) then
 ref22_Build_5 N (40 : Int) data_1 p_2
 else
 ref22_Build_5 N (20 : Int) data_1 p_2
def ref22_Build_3 (N : Nat) (t_68 : Bool) (data_1 : (List UInt8)) (p_2 : D105) : Option ref22_Build_R :=
 bif t_68 then
 bif (decide ((0 : Int) ≤ p_2.2.2.2.1)) then
 bif (decide ((data_1.length : Int) < (4 : Int))) then
 some (((1 : Int), ()), (([] : List UInt8), ()))
 else
 bif (decide ((0 : Int) ≤ p_2.2.2.2.1)) then
 bif inR (0 : Int) data_1.length then
 let x11 := (data_1.set 0 (iu8 (shrI p_2.2.2.2.1 8)))
 bif inR (1 : Int) x11.length then
 let x12 := (x11.set 1 (iu8 p_2.2.2.2.1))
 bif (decide ((0 : Int) ≤ p_2.2.2.2.2.1)) then
 bif inR (2 : Int) x12.length then
 let x17 := (x12.set 2 (iu8 (shrI p_2.2.2.2.2.1 8)))
 bif inR (3 : Int) x17.length then
 ref22_Build_4 N (x17.set 3 (iu8 p_2.2.2.2.2.1)) p_2
 else none
 else none
 else
 ref22_Build_4 N x12 p_2
 else none
 else none
 else
 bif (decide ((0 : Int) ≤ p_2.2.2.2.2.1)) then
 bif inR (2 : Int) data_1.length then
 let x50 := (data_1.set 2 (iu8 (shrI p_2.2.2.2.2.1 8)))
 bif inR (3 : Int) x50.length then
 ref22_Build_4 N (x50.set 3 (iu8 p_2.2.2.2.2.1)) p_2
 else none
 else none
 else
 ref22_Build_4 N data_1 p_2
 else
 bif (decide ((0 : Int) ≤ p_2.2.2.2.2.1)) then
 bif (decide ((data_1.length : Int) < (4 : Int))) then
 some (((1 : Int), ()), (([] : List UInt8), ()))
 else
 bif (decide ((0 : Int) ≤ p_2.2.2.2.1)) then
 bif inR (0 : Int) data_1.length then
 let x59 := (data_1.set 0 (iu8 (shrI p_2.2.2.2.1 8)))
 bif inR (1 : Int) x59.length then
 let x60 := (x59.set 1 (iu8 p_2.2.2.2.1))
 bif (decide ((0 : Int) ≤ p_2.2.2.2.2.1)) then
 bif inR (2 : Int) x60.length then
 let x65 := (x60.set 2 (iu8 (shrI p_2.2.2.2.2.1 8)))
 bif inR (3 : Int) x65.length then
 ref22_Build_4 N (x65.set 3 (iu8 p_2.2.2.2.2.1)) p_2
 else none
 else none
 else
 ref22_Build_4 N x60 p_2
 else none
 else none
 else
 bif (decide ((0 : Int) ≤ p_2.2.2.2.2.1)) then
 bif inR (2 : Int) data_1.length then
 let x71 := (data_1.set 2 (iu8 (shrI p_2.2.2.2.2.1 8)))
 bif inR (3 : Int) x71.length then
 ref22_Build_4 N (x71.set 3 (iu8 p_2.2.2.2.2.1)) p_2
 else none
 else none
 else
 ref22_Build_4 N data_1 p_2
 else
 bif (decide ((0 : Int) ≤ p_2.2.2.2.1)) then
 bif inR (0 : Int) data_1.length then
 let x77 := (data_1.set 0 (iu8 (shrI p_2.2.2.2.1 8)))
 bif inR (1 : Int) x77.length then
 let x78 := (x77.set 1 (iu8 p_2.2.2.2.1))
 bif (decide ((0 : Int) ≤ p_2.2.2.2.2.1)) then
 bif inR (2 : Int) x78.length then
 let x83 := (x78.set 2 (iu8 (shrI p_2.2.2.2.2.1 8)))
 bif inR (3 : Int) x83.length then
 ref22_Build_4 N (x83.set 3 (iu8 p_2.2.2.2.2.1)) p_2
 else none
 else none
 else
 ref22_Build_4 N x78 p_2
 else none
 else none
 else
 bif (decide ((0 : Int) ≤ p_2.2.2.2.2.1)) then
 bif inR (2 : Int) data_1.length then
 let x89 := (data_1.set 2 (iu8 (shrI p_2.2.2.2.2.1 8)))
 bif inR (3 : Int) x89.length then
 ref22_Build_4 N (x89.set 3 (iu8 p_2.2.2.2.2.1)) p_2
 else none
 else none
 else
 ref22_Build_4 N data_1 p_2
 else
 ref22_Build_4 N data_1 p_2
def ref22_Build_2 (N : Nat) (data_1 : (List UInt8)) (t_58 : Bool) (p_2 : D105) : Option ref22_Build_R :=
 bif t_58 then
 some (((5 : Int), ()), (([] : List UInt8), ()))
 else
 bif room (0 + data_1.length) 1 then
 bif (decide (p_2.2.2.1 = (6 : Int))) then
 ref22_Build_3 N true data_1 p_2
 else
 ref22_Build_3 N (decide (p_2.2.2.1 = (17 : Int))) data_1 p_2
 else none
def ref22_Build_1 (N : Nat) (data_1 : (List UInt8)) (t_27 : Bool) (p_2 : D105) : Option ref22_Build_R :=
 bif t_27 then
 some (((15 : Int), ()), (([] : List UInt8), ()))
 else
 bif (decide (p_2.2.2.1 < (0 : Int))) then
 ref22_Build_2 N data_1 true p_2
 else
 bif (decide ((255 : Int) < p_2.2.2.1)) then
 ref22_Build_2 N data_1 true p_2
 else
 bif (decide (p_2.1.1 = (6 : Int))) then
 bif (decide (p_2.2.2.1 = (44 : Int))) then
 ref22_Build_2 N data_1 true p_2
 else
 Option.bind (ref22_port N p_2.2.2.2.1) fun y95 =>
 bif (!y95.1.1) then
 ref22_Build_2 N data_1 true p_2
 else
 Option.bind (ref22_port N p_2.2.2.2.2.1) fun y97 =>
 ref22_Build_2 N data_1 (!y97.1.1) p_2
 else
 Option.bind (ref22_port N p_2.2.2.2.1) fun y99 =>
 bif (!y99.1.1) then
 ref22_Build_2 N data_1 true p_2
 else
 Option.bind (ref22_port N p_2.2.2.2.2.1) fun y101 =>
 ref22_Build_2 N data_1 (!y101.1.1) p_2
def ref22_Build (N : Nat) (p_0 : D105) (data_1 : (List UInt8)) : Option ref22_Build_R :=
 Option.bind (ref05_Valid N p_0.1) fun y1 =>
 bif (!y1.1.1) then
 ref22_Build_1 N data_1 true p_0
 else
 Option.bind (ref05_Valid N p_0.2.1) fun y103 =>
 bif (!y103.1.1) then
 ref22_Build_1 N data_1 true p_0
 else
 ref22_Build_1 N data_1 (!(decide (p_0.1.1 = p_0.2.1.1))) p_0
def ref22_Build_C (N : Nat) : Ctx := ⟨172, G_tys, [(177, ref05_Valid_ctr N), (113, ref01_Put_ctr N), (179, ref05_PutAddress_ctr N), (180, ref01_Checksum_ctr N), (178, ref22_port_ctr N)], G_globs, G_ifs⟩
def ref22_Build_S0 : Spec := ⟨[.row 0, .row 1], [(.row 5 .u8, .pos 0), (.row 5 .u8, .pos 1)]⟩
def ref22_Build_S1 : Spec := ⟨[.row 0, .ref 1 T105, .val .i64], [(.row 5 .u8, .pos 0), (.box 106 T105, .pos 1)]⟩
def ref22_Build_S2 : Spec := ⟨[.row 0, .ref 1 T105], [(.row 5 .u8, .pos 0), (.box 106 T105, .pos 1)]⟩
def ref22_Build_S3 : Spec := ⟨[.row 0, .ref 1 T105, .val .bool], [(.row 5 .u8, .pos 0), (.box 106 T105, .pos 1)]⟩
def ref22_Build_S4 : Spec := ⟨[.val (.sl .u8), .ref 0 T105, .val .bool], [(.box 106 T105, .pos 1)]⟩
def ref22_Build_S5 : Spec := ⟨[.val T105, .val (.sl .u8)], []⟩
def ref22_Build_S6 : Spec := ⟨[.row 0, .val .i64], [(.row 5 .u8, .pos 0)]⟩
def ref22_Build_K (_N : Nat) : XE → GS → Option ref22_Build_R := retK 0 [4, 5] [false, false] ref22_Build_S6
def ref22_Build_L : List Code := (bodyOf (some Tryd.f134))
theorem ref22_Build_6_b {E : Env} (N : Nat) (hb : Base Tryd.prog (ref22_Build_C N) E 0) : Blk Tryd.prog (ref22_Build_C N) E [1, 7] ref22_Build_S0 (ref22_Build_L.drop 16) (fun y => ref22_Build_6 N y.2.1 y.2.2.1) (ref22_Build_K N) :=
 Blk.chunkAt hb 2 (X := (ref22_Build_K N .normal)) (NxOk.end (by kernel_rfl)) rfl (fun x => by kernel_rfl)
theorem ref22_Build_5_b {E : Env} (N : Nat) (hb : Base Tryd.prog (ref22_Build_C N) E 0) : Blk Tryd.prog (ref22_Build_C N) E [1, 2, 6] ref22_Build_S1 (ref22_Build_L.drop 11) (fun y => ref22_Build_5 N y.1.1 y.2.1 y.2.2.1) (ref22_Build_K N) :=
 Blk.chunkAt hb 5 (X := (goK 0 [1, 7] ref22_Build_S0 (fun y => ref22_Build_6 N y.2.1 y.2.2.1))) (NxOk.go hb (ref22_Build_6_b N hb)) rfl (fun x => by kernel_rfl)
theorem ref22_Build_4_b {E : Env} (N : Nat) (hb : Base Tryd.prog (ref22_Build_C N) E 0) : Blk Tryd.prog (ref22_Build_C N) E [1, 2] ref22_Build_S2 (ref22_Build_L.drop 8) (fun y => ref22_Build_4 N y.2.1 y.2.2.1) (ref22_Build_K N) :=
 Blk.chunkAt hb 3 (X := (goK 0 [1, 2, 6] ref22_Build_S1 (fun y => ref22_Build_5 N y.1.1 y.2.1 y.2.2.1))) (NxOk.go hb (ref22_Build_5_b N hb)) rfl (fun x => by kernel_rfl)
theorem ref22_Build_3_b {E : Env} (N : Nat) (hb : Base Tryd.prog (ref22_Build_C N) E 0) : Blk Tryd.prog (ref22_Build_C N) E [1, 2, 68] ref22_Build_S3 (ref22_Build_L.drop 7) (fun y => ref22_Build_3 N y.1.1 y.2.1 y.2.2.1) (ref22_Build_K N) :=
 Blk.chunkAt hb 1 (X := (goK 0 [1, 2] ref22_Build_S2 (fun y => ref22_Build_4 N y.2.1 y.2.2.1))) (NxOk.go hb (ref22_Build_4_b N hb)) rfl (fun x => by kernel_rfl)
theorem ref22_Build_2_b {E : Env} (N : Nat) (hb : Base Tryd.prog (ref22_Build_C N) E 0) : Blk Tryd.prog (ref22_Build_C N) E [1, 2, 58] ref22_Build_S4 (ref22_Build_L.drop 4) (fun y => ref22_Build_2 N y.1.1 y.1.2.1 y.2.1) (ref22_Build_K N) :=
 Blk.chunkAt hb 3 (X := (goK 0 [1, 2, 68] ref22_Build_S3 (fun y => ref22_Build_3 N y.1.1 y.2.1 y.2.2.1))) (NxOk.go hb (ref22_Build_3_b N hb)) rfl (fun x => by kernel_rfl)
theorem ref22_Build_1_b {E : Env} (N : Nat) (hb : Base Tryd.prog (ref22_Build_C N) E 0) : Blk Tryd.prog (ref22_Build_C N) E [1, 2, 27] ref22_Build_S4 (ref22_Build_L.drop 2) (fun y => ref22_Build_1 N y.1.1 y.1.2.1 y.2.1) (ref22_Build_K N) :=
 Blk.chunkAt hb 2 (X := (goK 0 [1, 2, 58] ref22_Build_S4 (fun y => ref22_Build_2 N y.1.1 y.1.2.1 y.2.1))) (NxOk.go hb (ref22_Build_2_b N hb)) rfl (fun x => by kernel_rfl)
theorem ref22_Build_b {E : Env} (N : Nat) (hb : Base Tryd.prog (ref22_Build_C N) E 0) : Blk Tryd.prog (ref22_Build_C N) E (List.range ref22_Build_S5.ks.length) ref22_Build_S5 (ref22_Build_L.drop 0) (fun y => ref22_Build N y.1.1 y.1.2.1) (ref22_Build_K N) :=
 Blk.chunkAt hb 2 (X := (goK 0 [1, 2, 27] ref22_Build_S4 (fun y => ref22_Build_1 N y.1.1 y.1.2.1 y.2.1))) (NxOk.go hb (ref22_Build_1_b N hb)) rfl (fun x => by kernel_rfl)
def ref22_Build_ctr (N : Nat) : Ctr := ⟨ref22_Build_S5, ref22_Build_S6.un [false, false], 0, (fun y => ref22_Build N y.1.1 y.1.2.1)⟩
theorem ref22_Build_ctrs (N : Nat) : CtrsOk Tryd.prog (ref22_Build_C N) := ctrs_of (Γ := ref22_Build_C N) G_ifs_ok (by
 intro p hp
 simp only [ref22_Build_C, List.mem_cons, List.not_mem_nil, or_false] at hp
 rcases hp with rfl | rfl | rfl | rfl | rfl
 · exact ref05_Valid_ok N
 · exact ref01_Put_ok N
 · exact ref05_PutAddress_ok N
 · exact ref01_Checksum_ok N
 · exact ref22_port_ok N)
theorem ref22_Build_ok (N : Nat) : Ctr.ok Tryd.prog G_globs 134 (ref22_Build_ctr N) :=
 ctr_fn (Γ := ref22_Build_C N) (rfit := ref22_Build_S6) (bs := [false, false]) (res := [4, 5]) (by kernel_rfl) (tys_ok G_tys_ok) (ref22_Build_ctrs N) Tryd.func134 (by kernel_rfl) (by kernel_rfl) Tryd.ntmps134 (by kernel_rfl) (by kernel_rfl) (by kernel_rfl) (by kernel_rfl) (fun E hb => ref22_Build_b N hb)
/-! ipsecgate/ipsecgatelaw24.packet -/
abbrev law24_packet_R : Type := ((Unit) × (((List UInt8) × (Int × Unit)) × (List UInt8) × Unit))
def law24_packet (N : Nat) (data_1 : (List UInt8)) (c_0 : ((List UInt8) × (Int × Unit))) : Option law24_packet_R :=
 Option.bind (draw_Codes_Next N (2 : Int) c_0) fun y1 =>
 Option.bind (draw_Codes_Packet N y1.1.1 y1.2.1) fun y2 =>
 bif room (0 + data_1.length) 1 then
 bif room (data_1.length + ([(1 : UInt8), (2 : UInt8), (3 : UInt8), (4 : UInt8)] : List UInt8).length) 1 then
 Option.bind (ref22_Build N y2.1.1 (data_1 ++ ([(1 : UInt8), (2 : UInt8), (3 : UInt8), (4 : UInt8)] : List UInt8))) fun y4 =>
 some ((()), (y2.2.1, y4.2.1, ()))
 else none
 else none
def law24_packet_C (N : Nat) : Ctx := ⟨22, G_tys, [(32, draw_Codes_Next_ctr N), (74, draw_Codes_Packet_ctr N), (134, ref22_Build_ctr N)], G_globs, G_ifs⟩
def law24_packet_S0 : Spec := ⟨[.ref 0 (.pair (.sl .u8) (.pair .i64 .unit)), .val (.sl .u8)], [(.box 136 (.pair (.sl .u8) (.pair .i64 .unit)), .pos 0)]⟩
def law24_packet_S1 : Spec := ⟨[.row 1], [(.box 136 (.pair (.sl .u8) (.pair .i64 .unit)), .fix 0), (.row 5 .u8, .pos 0)]⟩
def law24_packet_K (_N : Nat) : XE → GS → Option law24_packet_R := retK 1 [4] [false] law24_packet_S1
def law24_packet_L : List Code := (bodyOf (some Tryd.f72))
theorem law24_packet_b {E : Env} (N : Nat) (hb : Base Tryd.prog (law24_packet_C N) E 1) : Blk Tryd.prog (law24_packet_C N) E (List.range law24_packet_S0.ks.length) law24_packet_S0 (law24_packet_L.drop 0) (fun y => law24_packet N y.1.1 y.2.1) (law24_packet_K N) :=
 Blk.chunkAt hb 5 (X := (law24_packet_K N .normal)) (NxOk.end (by kernel_rfl)) rfl (fun x => by kernel_rfl)
def law24_packet_ctr (N : Nat) : Ctr := ⟨law24_packet_S0, law24_packet_S1.un [false], 1, (fun y => law24_packet N y.1.1 y.2.1)⟩
theorem law24_packet_ctrs (N : Nat) : CtrsOk Tryd.prog (law24_packet_C N) := ctrs_of (Γ := law24_packet_C N) G_ifs_ok (by
 intro p hp
 simp only [law24_packet_C, List.mem_cons, List.not_mem_nil, or_false] at hp
 rcases hp with rfl | rfl | rfl
 · exact draw_Codes_Next_ok N
 · exact draw_Codes_Packet_ok N
 · exact ref22_Build_ok N)
theorem law24_packet_ok (N : Nat) : Ctr.ok Tryd.prog G_globs 72 (law24_packet_ctr N) :=
 ctr_fn (Γ := law24_packet_C N) (rfit := law24_packet_S1) (bs := [false]) (res := [4]) (by kernel_rfl) (tys_ok G_tys_ok) (law24_packet_ctrs N) Tryd.func72 (by kernel_rfl) (by kernel_rfl) Tryd.ntmps72 (by kernel_rfl) (by kernel_rfl) (by kernel_rfl) (by kernel_rfl) (fun E hb => law24_packet_b N hb)
/-! ipsecgate/ipsecgateref01.Number -/
abbrev ref01_Number_R : Type := ((UInt64 × Bool × Unit) × (Unit))
def ref01_Number_s3 (N : Nat) (b_0 : (List UInt8)) (at_1 : Int) (width_2 : Int) (v_8 : UInt64) (i_9 : Int) : Option (Lo (((List UInt8) × Int × Int × UInt64 × Int × Unit) × (Unit)) ((UInt64 × Unit) × (Unit)) ref01_Number_R) :=
 bif (decide (i_9 < (w64 (at_1 + width_2)))) then
 bif inR i_9 b_0.length then
 some (.go ((b_0, at_1, width_2, ((shl64 v_8 8) ||| (b_0.getD i_9.toNat (0 : UInt8)).toUInt64), (w64 (i_9 + (1 : Int))), ()), (())))
 else none
 else
 some (.br ((v_8, ()), (())))
def ref01_Number_4 (N : Nat) (v_8 : UInt64) : Option ref01_Number_R :=
 some ((v_8, true, ()), (()))
def ref01_Number_2 (N : Nat) (b_0 : (List UInt8)) (at_1 : Int) (width_2 : Int) (v_8 : UInt64) (i_9 : Int) : Option ref01_Number_R :=
 loopK N (fun y => ref01_Number_s3 N y.1.1 y.1.2.1 y.1.2.2.1 y.1.2.2.2.1 y.1.2.2.2.2.1) (fun (e : ((UInt64 × Unit) × (Unit))) => ref01_Number_4 N e.1.1) ((b_0, at_1, width_2, v_8, i_9, ()), (()))
def ref01_Number_1 (N : Nat) (b_0 : (List UInt8)) (at_1 : Int) (width_2 : Int) (t_33 : Bool) : Option ref01_Number_R :=
 bif t_33 then
 some (((0 : UInt64), false, ()), (()))
 else
 ref01_Number_2 N b_0 at_1 width_2 (0 : UInt64) at_1
def ref01_Number (N : Nat) (b_0 : (List UInt8)) (at_1 : Int) (width_2 : Int) : Option ref01_Number_R :=
 bif (decide (width_2 < (1 : Int))) then
 ref01_Number_1 N b_0 at_1 width_2 true
 else
 bif (decide ((8 : Int) < width_2)) then
 ref01_Number_1 N b_0 at_1 width_2 true
 else
 bif (decide (at_1 < (0 : Int))) then
 ref01_Number_1 N b_0 at_1 width_2 true
 else
 bif (decide ((b_0.length : Int) < at_1)) then
 ref01_Number_1 N b_0 at_1 width_2 true
 else
 ref01_Number_1 N b_0 at_1 width_2 (decide ((w64 ((b_0.length : Int) - at_1)) < width_2))
def ref01_Number_C (N : Nat) : Ctx := ⟨51, G_tys, [], G_globs, G_ifs⟩
def ref01_Number_S0 : Spec := ⟨[.val (.sl .u8), .val .i64, .val .i64, .val .u64, .val .i64], []⟩
def ref01_Number_S1 : Spec := ⟨[.val .u64], []⟩
def ref01_Number_S2 : Spec := ⟨[.val (.sl .u8), .val .i64, .val .i64, .val .bool], []⟩
def ref01_Number_S3 : Spec := ⟨[.val (.sl .u8), .val .i64, .val .i64], []⟩
def ref01_Number_S4 : Spec := ⟨[.val .u64, .val .bool], []⟩
def ref01_Number_K (_N : Nat) : XE → GS → Option ref01_Number_R := retK 0 [6, 7] [false, false] ref01_Number_S4
def ref01_Number_L : List Code := (bodyOf (some Tryd.f58))
def ref01_Number_L3 : List Code := (loopOf (ref01_Number_L[5]?))
def ref01_Number_K3 (N : Nat) : XE → GS → Option (Lo (((List UInt8) × Int × Int × UInt64 × Int × Unit) × (Unit)) ((UInt64 × Unit) × (Unit)) ref01_Number_R) := roundK (some 0) (fit 0 [0, 1, 2, 8, 9] ref01_Number_S0) (fit 0 [8] ref01_Number_S1) (ref01_Number_K N)
theorem ref01_Number_s3_b {E : Env} (N : Nat) (hb : Base Tryd.prog (ref01_Number_C N) E 0) : Blk Tryd.prog (ref01_Number_C N) E [0, 1, 2, 8, 9] ref01_Number_S0 (ref01_Number_L3.drop 0) (fun y => ref01_Number_s3 N y.1.1 y.1.2.1 y.1.2.2.1 y.1.2.2.2.1 y.1.2.2.2.2.1) (ref01_Number_K3 N) :=
 Blk.chunkAt hb 4 (X := (ref01_Number_K3 N .normal)) (NxOk.end (by kernel_rfl)) rfl (fun x => by kernel_rfl)
theorem ref01_Number_4_b {E : Env} (N : Nat) (hb : Base Tryd.prog (ref01_Number_C N) E 0) : Blk Tryd.prog (ref01_Number_C N) E [8] ref01_Number_S1 (ref01_Number_L.drop 6) (fun y => ref01_Number_4 N y.1.1) (ref01_Number_K N) :=
 Blk.chunkAt hb 2 (X := (ref01_Number_K N .normal)) (NxOk.end (by kernel_rfl)) rfl (fun x => by kernel_rfl)
theorem ref01_Number_2_b {E : Env} (N : Nat) (hb : Base Tryd.prog (ref01_Number_C N) E 0) : Blk Tryd.prog (ref01_Number_C N) E [0, 1, 2, 8, 9] ref01_Number_S0 (ref01_Number_L.drop 5) (fun y => ref01_Number_2 N y.1.1 y.1.2.1 y.1.2.2.1 y.1.2.2.2.1 y.1.2.2.2.2.1) (ref01_Number_K N) :=
 Blk.loopAt (Nf := N) (hns := [0, 1, 2, 8, 9]) (ans := [8]) (hc := ref01_Number_S0) (ac := ref01_Number_S1) (bid := 0) (step := (fun y => ref01_Number_s3 N y.1.1 y.1.2.1 y.1.2.2.1 y.1.2.2.2.1 y.1.2.2.2.2.1)) (J := (fun e => (goK 0 [8] ref01_Number_S1 (fun y => ref01_Number_4 N y.1.1)) (ref01_Number_S1.st [8] e))) hb (by kernel_rfl) (Blk.into (X := (goK 0 [8] ref01_Number_S1 (fun y => ref01_Number_4 N y.1.1))) (NxOk.go hb (ref01_Number_4_b N hb)) (fun x => by kernel_rfl)) (ref01_Number_s3_b N hb) (fun x => by kernel_rfl)
theorem ref01_Number_1_b {E : Env} (N : Nat) (hb : Base Tryd.prog (ref01_Number_C N) E 0) : Blk Tryd.prog (ref01_Number_C N) E [0, 1, 2, 33] ref01_Number_S2 (ref01_Number_L.drop 2) (fun y => ref01_Number_1 N y.1.1 y.1.2.1 y.1.2.2.1 y.1.2.2.2.1) (ref01_Number_K N) :=
 Blk.chunkAt hb 3 (X := (goK 0 [0, 1, 2, 8, 9] ref01_Number_S0 (fun y => ref01_Number_2 N y.1.1 y.1.2.1 y.1.2.2.1 y.1.2.2.2.1 y.1.2.2.2.2.1))) (NxOk.go hb (ref01_Number_2_b N hb)) rfl (fun x => by kernel_rfl)
theorem ref01_Number_b {E : Env} (N : Nat) (hb : Base Tryd.prog (ref01_Number_C N) E 0) : Blk Tryd.prog (ref01_Number_C N) E (List.range ref01_Number_S3.ks.length) ref01_Number_S3 (ref01_Number_L.drop 0) (fun y => ref01_Number N y.1.1 y.1.2.1 y.1.2.2.1) (ref01_Number_K N) :=
 Blk.chunkAt hb 2 (X := (goK 0 [0, 1, 2, 33] ref01_Number_S2 (fun y => ref01_Number_1 N y.1.1 y.1.2.1 y.1.2.2.1 y.1.2.2.2.1))) (NxOk.go hb (ref01_Number_1_b N hb)) rfl (fun x => by kernel_rfl)
def ref01_Number_ctr (N : Nat) : Ctr := ⟨ref01_Number_S3, ref01_Number_S4.un [false, false], 0, (fun y => ref01_Number N y.1.1 y.1.2.1 y.1.2.2.1)⟩
theorem ref01_Number_ctrs (N : Nat) : CtrsOk Tryd.prog (ref01_Number_C N) := ctrs_nil G_ifs_ok rfl
theorem ref01_Number_ok (N : Nat) : Ctr.ok Tryd.prog G_globs 58 (ref01_Number_ctr N) :=
 ctr_fn (Γ := ref01_Number_C N) (rfit := ref01_Number_S4) (bs := [false, false]) (res := [6, 7]) (by kernel_rfl) (tys_ok G_tys_ok) (ref01_Number_ctrs N) Tryd.func58 (by kernel_rfl) (by kernel_rfl) Tryd.ntmps58 (by kernel_rfl) (by kernel_rfl) (by kernel_rfl) (by kernel_rfl) (fun E hb => ref01_Number_b N hb)
/-! ipsecgate/ipsecgateref22.word -/
abbrev ref22_word_R : Type := ((Int × Unit) × (Unit))
def ref22_word (N : Nat) (b_0 : (List UInt8)) (at_1 : Int) : Option ref22_word_R :=
 Option.bind (ref01_Number N b_0 at_1 (2 : Int)) fun y1 =>
 some (((w64 (y1.1.1.toNat : Int)), ()), (()))
def ref22_word_C (N : Nat) : Ctx := ⟨15, G_tys, [(58, ref01_Number_ctr N)], G_globs, G_ifs⟩
def ref22_word_S0 : Spec := ⟨[.val (.sl .u8), .val .i64], []⟩
def ref22_word_S1 : Spec := ⟨[.val .i64], []⟩
def ref22_word_K (_N : Nat) : XE → GS → Option ref22_word_R := retK 0 [4] [false] ref22_word_S1
def ref22_word_L : List Code := (bodyOf (some Tryd.f137))
theorem ref22_word_b {E : Env} (N : Nat) (hb : Base Tryd.prog (ref22_word_C N) E 0) : Blk Tryd.prog (ref22_word_C N) E (List.range ref22_word_S0.ks.length) ref22_word_S0 (ref22_word_L.drop 0) (fun y => ref22_word N y.1.1 y.1.2.1) (ref22_word_K N) :=
 Blk.chunkAt hb 4 (X := (ref22_word_K N .normal)) (NxOk.end (by kernel_rfl)) rfl (fun x => by kernel_rfl)
def ref22_word_ctr (N : Nat) : Ctr := ⟨ref22_word_S0, ref22_word_S1.un [false], 0, (fun y => ref22_word N y.1.1 y.1.2.1)⟩
theorem ref22_word_ctrs (N : Nat) : CtrsOk Tryd.prog (ref22_word_C N) := ctrs_of (Γ := ref22_word_C N) G_ifs_ok (by
 intro p hp
 simp only [ref22_word_C, List.mem_cons, List.not_mem_nil, or_false] at hp
 rcases hp with rfl
 · exact ref01_Number_ok N)
theorem ref22_word_ok (N : Nat) : Ctr.ok Tryd.prog G_globs 137 (ref22_word_ctr N) :=
 ctr_fn (Γ := ref22_word_C N) (rfit := ref22_word_S1) (bs := [false]) (res := [4]) (by kernel_rfl) (tys_ok G_tys_ok) (ref22_word_ctrs N) Tryd.func137 (by kernel_rfl) (by kernel_rfl) Tryd.ntmps137 (by kernel_rfl) (by kernel_rfl) (by kernel_rfl) (by kernel_rfl) (fun E hb => ref22_word_b N hb)
/-! ipsecgate/ipsecgateref05.GetAddress -/
abbrev ref05_GetAddress_R : Type := ((D103 × Bool × Unit) × (Unit))
def ref05_GetAddress (N : Nat) (b_0 : (List UInt8)) (at_1 : Int) (family_2 : Int) : Option ref05_GetAddress_R :=
 bif (decide (family_2 = (4 : Int))) then
 Option.bind (ref01_Number N b_0 at_1 (4 : Int)) fun y2 =>
 some ((((4 : Int), (0 : UInt64), y2.1.1, ()), y2.1.2.1, ()), (()))
 else
 Option.bind (ref01_Number N b_0 at_1 (8 : Int)) fun y3 =>
 Option.bind (ref01_Number N b_0 (w64 (at_1 + (8 : Int))) (8 : Int)) fun y5 =>
 bif y3.1.2.1 then
 some ((((6 : Int), y3.1.1, y5.1.1, ()), y5.1.2.1, ()), (()))
 else
 some ((((6 : Int), y3.1.1, y5.1.1, ()), false, ()), (()))
def ref05_GetAddress_C (N : Nat) : Ctx := ⟨45, G_tys, [(58, ref01_Number_ctr N)], G_globs, G_ifs⟩
def ref05_GetAddress_S0 : Spec := ⟨[.val (.sl .u8), .val .i64, .val .i64], []⟩
def ref05_GetAddress_S1 : Spec := ⟨[.fp T103, .val .bool], []⟩
def ref05_GetAddress_K (_N : Nat) : XE → GS → Option ref05_GetAddress_R := retK 0 [6, 7] [true, false] ref05_GetAddress_S1
def ref05_GetAddress_L : List Code := (bodyOf (some Tryd.f181))
theorem ref05_GetAddress_b {E : Env} (N : Nat) (hb : Base Tryd.prog (ref05_GetAddress_C N) E 0) : Blk Tryd.prog (ref05_GetAddress_C N) E (List.range ref05_GetAddress_S0.ks.length) ref05_GetAddress_S0 (ref05_GetAddress_L.drop 0) (fun y => ref05_GetAddress N y.1.1 y.1.2.1 y.1.2.2.1) (ref05_GetAddress_K N) :=
 Blk.chunkAt hb 7 (X := (ref05_GetAddress_K N .normal)) (NxOk.end (by kernel_rfl)) rfl (fun x => by kernel_rfl)
def ref05_GetAddress_ctr (N : Nat) : Ctr := ⟨ref05_GetAddress_S0, ref05_GetAddress_S1.un [true, false], 0, (fun y => ref05_GetAddress N y.1.1 y.1.2.1 y.1.2.2.1)⟩
theorem ref05_GetAddress_ctrs (N : Nat) : CtrsOk Tryd.prog (ref05_GetAddress_C N) := ctrs_of (Γ := ref05_GetAddress_C N) G_ifs_ok (by
 intro p hp
 simp only [ref05_GetAddress_C, List.mem_cons, List.not_mem_nil, or_false] at hp
 rcases hp with rfl
 · exact ref01_Number_ok N)
theorem ref05_GetAddress_ok (N : Nat) : Ctr.ok Tryd.prog G_globs 181 (ref05_GetAddress_ctr N) :=
 ctr_fn (Γ := ref05_GetAddress_C N) (rfit := ref05_GetAddress_S1) (bs := [true, false]) (res := [6, 7]) (by kernel_rfl) (tys_ok G_tys_ok) (ref05_GetAddress_ctrs N) Tryd.func181 (by kernel_rfl) (by kernel_rfl) Tryd.ntmps181 (by kernel_rfl) (by kernel_rfl) (by kernel_rfl) (by kernel_rfl) (fun E hb => ref05_GetAddress_b N hb)
end
end Go.Proofs.YtofajgidjkjnpaaDoor