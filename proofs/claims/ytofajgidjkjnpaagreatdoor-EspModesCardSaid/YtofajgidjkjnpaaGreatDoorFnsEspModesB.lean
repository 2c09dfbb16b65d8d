/- Functions of the program as plain functions, each with the proof that the text computes it. -/
import Derived.Test.YtofajgidjkjnpaaGreatDoorFnsEspModesA
set_option linter.unusedVariables false
set_option linter.unusedSimpArgs false
namespace Go.Proofs.YtofajgidjkjnpaaGreatDoor
open Go
set_option maxRecDepth 100000
set_option linter.unusedVariables false
/-! ipsecgate/ipsecgateref05.GetAddress -/
abbrev ref05_GetAddress_R : Type := ((D28 × Bool × Unit) × (Unit))
noncomputable def ref05_GetAddress (N : Nat) (b_0 : (List UInt8)) (at_1 : Int) (family_2 : Int) : Option ref05_GetAddress_R :=
 bif (decide (family_2 = (4 : Int))) then
 Option.bind (ref01_Number N b_0 at_1 (4 : Int)) fun y2 =>
 some ((((4 : Int), (0 : UInt64), y2.1.1, ()), y2.1.2.1, ()), (()))
 else
 Option.bind (ref01_Number N b_0 at_1 (8 : Int)) fun y3 =>
 Option.bind (ref01_Number N b_0 (w64 (at_1 + (8 : Int))) (8 : Int)) fun y5 =>
 bif y3.1.2.1 then
 some ((((6 : Int), y3.1.1, y5.1.1, ()), y5.1.2.1, ()), (()))
 else
 some ((((6 : Int), y3.1.1, y5.1.1, ()), false, ()), (()))
noncomputable def ref05_GetAddress_C (N : Nat) : Ctx := ⟨45, G_tys, [(66, ref01_Number_ctr N)], G_globs, G_ifs⟩
noncomputable def ref05_GetAddress_S0 : Spec := ⟨[.val (.sl .u8), .val .i64, .val .i64], []⟩
noncomputable def ref05_GetAddress_S1 : Spec := ⟨[.fp T28, .val .bool], []⟩
noncomputable def ref05_GetAddress_K (_N : Nat) : XE → GS → Option ref05_GetAddress_R := retK 0 [6, 7] [true, false] ref05_GetAddress_S1
noncomputable def ref05_GetAddress_L : List Code := (bodyOf (some Tryz.f65))
theorem ref05_GetAddress_b {E : Env} (N : Nat) (hb : Base Tryz.prog (ref05_GetAddress_C N) E 0) : Blk Tryz.prog (ref05_GetAddress_C N) E (List.range ref05_GetAddress_S0.ks.length) ref05_GetAddress_S0 (ref05_GetAddress_L.drop 0) (fun y => ref05_GetAddress N y.1.1 y.1.2.1 y.1.2.2.1) (ref05_GetAddress_K N) :=
 Blk.chunkAt hb 7 (X := (ref05_GetAddress_K N .normal)) (NxOk.end (by kernel_rfl)) rfl (fun x => by kernel_rfl)
noncomputable def ref05_GetAddress_ctr (N : Nat) : Ctr := ⟨ref05_GetAddress_S0, ref05_GetAddress_S1.un [true, false], 0, (fun y => ref05_GetAddress N y.1.1 y.1.2.1 y.1.2.2.1)⟩
theorem ref05_GetAddress_ctrs (N : Nat) : CtrsOk Tryz.prog (ref05_GetAddress_C N) := ctrs_of (Γ := ref05_GetAddress_C N) G_ifs_ok (by
 intro p hp
 simp only [ref05_GetAddress_C, List.mem_cons, List.not_mem_nil, or_false] at hp
 rcases hp with rfl
 · exact ref01_Number_ok N)
theorem ref05_GetAddress_ok (N : Nat) : Ctr.ok Tryz.prog G_globs 65 (ref05_GetAddress_ctr N) :=
 ctr_fn (Γ := ref05_GetAddress_C N) (rfit := ref05_GetAddress_S1) (bs := [true, false]) (res := [6, 7]) (by kernel_rfl) (tys_ok G_tys_ok) (ref05_GetAddress_ctrs N) Tryz.func65 (by kernel_rfl) (by kernel_rfl) Tryz.ntmps65 (by kernel_rfl) (by kernel_rfl) (by kernel_rfl) (by kernel_rfl) (fun E hb => ref05_GetAddress_b N hb)
/-! ipsecgate/ipsecgateref22.four -/
abbrev ref22_four_R : Type := ((D53 × Int × Unit) × (Unit))
noncomputable def ref22_four_1 (N : Nat) (b_0 : (List UInt8)) (n_4 : Int) (t_31 : Bool) (t_2 : D53) : Option ref22_four_R :=
 bif t_31 then
 some ((((((0 : Int), (0 : UInt64), (0 : UInt64), ()), ((0 : Int), (0 : UInt64), (0 : UInt64), ()), (0 : Int), (0 : Int), (0 : Int), ()), (0 : Int), false, false, (0 : Int), ()), (2 : Int), ()), (()))
 else
 bif decide (0 ≤ (0 : Int)) && decide ((0 : Int) ≤ n_4) && decide (n_4 ≤ (b_0.length : Int)) && true then
 Option.bind (ref01_Checksum N (cut b_0 0 n_4.toNat)) fun y9 =>
 bif (!(decide (y9.1.1 = (0 : Int)))) then
 some ((((((0 : Int), (0 : UInt64), (0 : UInt64), ()), ((0 : Int), (0 : UInt64), (0 : UInt64), ()), (0 : Int), (0 : Int), (0 : Int), ()), (0 : Int), false, false, (0 : Int), ()), (12 : Int), ()), (()))
 else
 Option.bind (ref22_word N b_0 (6 : Int)) fun y11 =>
 bif inR (9 : Int) b_0.length then
 Option.bind (ref05_GetAddress N b_0 (12 : Int) (4 : Int)) fun y18 =>
 Option.bind (ref05_GetAddress N b_0 (16 : Int) (4 : Int)) fun y19 =>
 some ((((y18.1.1, y19.1.1, ((b_0.getD 9 (0 : UInt8)).toNat : Int), (0 : Int), (0 : Int), ()), (w64 ((and64 y11.1.1 (8191 : Int)) * (8 : Int))), (!(decide ((and64 y11.1.1 (8192 : Int)) = (0 : Int)))), false, n_4, ()), (0 : Int), ()), (()))
 else none
 else none
noncomputable def ref22_four (N : Nat) (b_0 : (List UInt8)) : Option ref22_four_R :=
 bif (decide ((b_0.length : Int) < (20 : Int))) then
 some ((((((0 : Int), (0 : UInt64), (0 : UInt64), ()), ((0 : Int), (0 : UInt64), (0 : UInt64), ()), (0 : Int), (0 : Int), (0 : Int), ()), (0 : Int), false, false, (0 : Int), ()), (1 : Int), ()), (()))
 else
 bif inR (0 : Int) b_0.length then
 let x6 := w64 ((((b_0.getD 0 (0 : UInt8)) &&& (15 : UInt8)).toNat : Int) * (4 : Int))
 bif (decide (x6 < (20 : Int))) then
 ref22_four_1 N b_0 x6 true ((((0 : Int), (0 : UInt64), (0 : UInt64), ()), ((0 : Int), (0 : UInt64), (0 : UInt64), ()), (0 : Int), (0 : Int), (0 : Int), ()), (0 : Int), false, false, (0 : Int), ())
 else
 bif (decide ((b_0.length : Int) < x6)) then
 ref22_four_1 N b_0 x6 true ((((0 : Int), (0 : UInt64), (0 : UInt64), ()), ((0 : Int), (0 : UInt64), (0 : UInt64), ()), (0 : Int), (0 : Int), (0 : Int), ()), (0 : Int), false, false, (0 : Int), ())
 else
 Option.bind (ref22_word N b_0 (2 : Int)) fun y22 =>
 ref22_four_1 N b_0 x6 (!(decide (y22.1.1 = (b_0.length : Int)))) ((((0 : Int), (0 : UInt64), (0 : UInt64), ()), ((0 : Int), (0 : UInt64), (0 : UInt64), ()), (0 : Int), (0 : Int), (0 : Int), ()), (0 : Int), false, false, (0 : Int), ())
 else none
noncomputable def ref22_four_C (N : Nat) : Ctx := ⟨70, G_tys, [(47, ref01_Checksum_ctr N), (50, ref22_word_ctr N), (65, ref05_GetAddress_ctr N)], G_globs, G_ifs⟩
noncomputable def ref22_four_S0 : Spec := ⟨[.val (.sl .u8), .ref 0 T53, .val .i64, .val .bool], [(.box 54 T53, .pos 1)]⟩
noncomputable def ref22_four_S1 : Spec := ⟨[.val (.sl .u8)], []⟩
noncomputable def ref22_four_S2 : Spec := ⟨[.fp T53, .val .i64], []⟩
noncomputable def ref22_four_K (_N : Nat) : XE → GS → Option ref22_four_R := retK 0 [2, 3] [true, false] ref22_four_S2
noncomputable def ref22_four_L : List Code := (bodyOf (some Tryz.f48))
theorem ref22_four_1_b {E : Env} (N : Nat) (hb : Base Tryz.prog (ref22_four_C N) E 0) : Blk Tryz.prog (ref22_four_C N) E [0, 2, 4, 31] ref22_four_S0 (ref22_four_L.drop 5) (fun y => ref22_four_1 N y.1.1 y.1.2.1 y.1.2.2.1 y.2.1) (ref22_four_K N) :=
 Blk.chunkAt hb 10 (X := (ref22_four_K N .normal)) (NxOk.end (by kernel_rfl)) rfl (fun x => by kernel_rfl)
theorem ref22_four_b {E : Env} (N : Nat) (hb : Base Tryz.prog (ref22_four_C N) E 0) : Blk Tryz.prog (ref22_four_C N) E (List.range ref22_four_S1.ks.length) ref22_four_S1 (ref22_four_L.drop 0) (fun y => ref22_four N y.1.1) (ref22_four_K N) :=
 Blk.chunkAt hb 5 (X := (goK 0 [0, 2, 4, 31] ref22_four_S0 (fun y => ref22_four_1 N y.1.1 y.1.2.1 y.1.2.2.1 y.2.1))) (NxOk.go hb (ref22_four_1_b N hb)) rfl (fun x => by kernel_rfl)
noncomputable def ref22_four_ctr (N : Nat) : Ctr := ⟨ref22_four_S1, ref22_four_S2.un [true, false], 0, (fun y => ref22_four N y.1.1)⟩
theorem ref22_four_ctrs (N : Nat) : CtrsOk Tryz.prog (ref22_four_C N) := ctrs_of (Γ := ref22_four_C N) G_ifs_ok (by
 intro p hp
 simp only [ref22_four_C, List.mem_cons, List.not_mem_nil, or_false] at hp
 rcases hp with rfl | rfl | rfl
 · exact ref01_Checksum_ok N
 · exact ref22_word_ok N
 · exact ref05_GetAddress_ok N)
theorem ref22_four_ok (N : Nat) : Ctr.ok Tryz.prog G_globs 48 (ref22_four_ctr N) :=
 ctr_fn (Γ := ref22_four_C N) (rfit := ref22_four_S2) (bs := [true, false]) (res := [2, 3]) (by kernel_rfl) (tys_ok G_tys_ok) (ref22_four_ctrs N) Tryz.func48 (by kernel_rfl) (by kernel_rfl) Tryz.ntmps48 (by kernel_rfl) (by kernel_rfl) (by kernel_rfl) (by kernel_rfl) (fun E hb => ref22_four_b N hb)
/-! ipsecgate/ipsecgateref22.six -/
abbrev ref22_six_R : Type := ((D53 × Int × Unit) × (Unit))
noncomputable def ref22_six_1 (N : Nat) (b_0 : (List UInt8)) (t_19 : Bool) (t_2 : D53) : Option ref22_six_R :=
 bif t_19 then
 some ((((((0 : Int), (0 : UInt64), (0 : UInt64), ()), ((0 : Int), (0 : UInt64), (0 : UInt64), ()), (0 : Int), (0 : Int), (0 : Int), ()), (0 : Int), false, false, (0 : Int), ()), (1 : Int), ()), (()))
 else
 Option.bind (ref22_word N b_0 (4 : Int)) fun y3 =>
 bif (!(decide (y3.1.1 = (w64 ((b_0.length : Int) - (40 : Int)))))) then
 some ((((((0 : Int), (0 : UInt64), (0 : UInt64), ()), ((0 : Int), (0 : UInt64), (0 : UInt64), ()), (0 : Int), (0 : Int), (0 : Int), ()), (0 : Int), false, false, (0 : Int), ()), (2 : Int), ()), (()))
 else
 bif inR (6 : Int) b_0.length then
 Option.bind (ref05_GetAddress N b_0 (8 : Int) (6 : Int)) fun y9 =>
 Option.bind (ref05_GetAddress N b_0 (24 : Int) (6 : Int)) fun y10 =>
 bif inR (6 : Int) b_0.length then
 bif (decide ((b_0.getD 6 (0 : UInt8)) = (44 : UInt8))) then
 Option.bind (ref22_word N b_0 (42 : Int)) fun y13 =>
 bif inR (40 : Int) b_0.length then
 some ((((y9.1.1, y10.1.1, ((b_0.getD 40 (0 : UInt8)).toNat : Int), (0 : Int), (0 : Int), ()), (andNot64 y13.1.1 (7 : Int)), (decide ((and64 y13.1.1 (1 : Int)) = (1 : Int))), false, (48 : Int), ()), (0 : Int), ()), (()))
 else none
 else
 some ((((y9.1.1, y10.1.1, ((b_0.getD 6 (0 : UInt8)).toNat : Int), (0 : Int), (0 : Int), ()), (0 : Int), false, false, (40 : Int), ()), (0 : Int), ()), (()))
 else none
 else none
noncomputable def ref22_six (N : Nat) (b_0 : (List UInt8)) : Option ref22_six_R :=
 bif (decide ((b_0.length : Int) < (40 : Int))) then
 ref22_six_1 N b_0 true ((((0 : Int), (0 : UInt64), (0 : UInt64), ()), ((0 : Int), (0 : UInt64), (0 : UInt64), ()), (0 : Int), (0 : Int), (0 : Int), ()), (0 : Int), false, false, (0 : Int), ())
 else
 bif inR (6 : Int) b_0.length then
 bif (decide ((b_0.getD 6 (0 : UInt8)) = (44 : UInt8))) then
 ref22_six_1 N b_0 (decide ((b_0.length : Int) < (48 : Int))) ((((0 : Int), (0 : UInt64), (0 : UInt64), ()), ((0 : Int), (0 : UInt64), (0 : UInt64), ()), (0 : Int), (0 : Int), (0 : Int), ()), (0 : Int), false, false, (0 : Int), ())
 else
 ref22_six_1 N b_0 false ((((0 : Int), (0 : UInt64), (0 : UInt64), ()), ((0 : Int), (0 : UInt64), (0 : UInt64), ()), (0 : Int), (0 : Int), (0 : Int), ()), (0 : Int), false, false, (0 : Int), ())
 else none
noncomputable def ref22_six_C (N : Nat) : Ctx := ⟨70, G_tys, [(50, ref22_word_ctr N), (65, ref05_GetAddress_ctr N)], G_globs, G_ifs⟩
noncomputable def ref22_six_S0 : Spec := ⟨[.val (.sl .u8), .ref 0 T53, .val .bool], [(.box 54 T53, .pos 1)]⟩
noncomputable def ref22_six_S1 : Spec := ⟨[.val (.sl .u8)], []⟩
noncomputable def ref22_six_S2 : Spec := ⟨[.fp T53, .val .i64], []⟩
noncomputable def ref22_six_K (_N : Nat) : XE → GS → Option ref22_six_R := retK 0 [2, 3] [true, false] ref22_six_S2
noncomputable def ref22_six_L : List Code := (bodyOf (some Tryz.f49))
theorem ref22_six_1_b {E : Env} (N : Nat) (hb : Base Tryz.prog (ref22_six_C N) E 0) : Blk Tryz.prog (ref22_six_C N) E [0, 2, 19] ref22_six_S0 (ref22_six_L.drop 2) (fun y => ref22_six_1 N y.1.1 y.1.2.1 y.2.1) (ref22_six_K N) :=
 Blk.chunkAt hb 11 (X := (ref22_six_K N .normal)) (NxOk.end (by kernel_rfl)) rfl (fun x => by kernel_rfl)
theorem ref22_six_b {E : Env} (N : Nat) (hb : Base Tryz.prog (ref22_six_C N) E 0) : Blk Tryz.prog (ref22_six_C N) E (List.range ref22_six_S1.ks.length) ref22_six_S1 (ref22_six_L.drop 0) (fun y => ref22_six N y.1.1) (ref22_six_K N) :=
 Blk.chunkAt hb 2 (X := (goK 0 [0, 2, 19] ref22_six_S0 (fun y => ref22_six_1 N y.1.1 y.1.2.1 y.2.1))) (NxOk.go hb (ref22_six_1_b N hb)) rfl (fun x => by kernel_rfl)
noncomputable def ref22_six_ctr (N : Nat) : Ctr := ⟨ref22_six_S1, ref22_six_S2.un [true, false], 0, (fun y => ref22_six N y.1.1)⟩
theorem ref22_six_ctrs (N : Nat) : CtrsOk Tryz.prog (ref22_six_C N) := ctrs_of (Γ := ref22_six_C N) G_ifs_ok (by
 intro p hp
 simp only [ref22_six_C, List.mem_cons, List.not_mem_nil, or_false] at hp
 rcases hp with rfl | rfl
 · exact ref22_word_ok N
 · exact ref05_GetAddress_ok N)
theorem ref22_six_ok (N : Nat) : Ctr.ok Tryz.prog G_globs 49 (ref22_six_ctr N) :=
 ctr_fn (Γ := ref22_six_C N) (rfit := ref22_six_S2) (bs := [true, false]) (res := [2, 3]) (by kernel_rfl) (tys_ok G_tys_ok) (ref22_six_ctrs N) Tryz.func49 (by kernel_rfl) (by kernel_rfl) Tryz.ntmps49 (by kernel_rfl) (by kernel_rfl) (by kernel_rfl) (by kernel_rfl) (fun E hb => ref22_six_b N hb)
/-! ipsecgate/ipsecgateref22.See -/
abbrev ref22_See_R : Type := ((D53 × Int × Unit) × (Unit))
noncomputable def ref22_See_4 (N : Nat) (b_0 : (List UInt8)) (t_2 : D53) (s_4 : D53) : Option ref22_See_R :=
 let x12 := w64 ((b_0.length : Int) - s_4.2.2.2.2.1)
 bif (decide (s_4.1.2.2.1 = (6 : Int))) then
 bif (decide (s_4.2.1 = (0 : Int))) then
 bif (decide ((4 : Int) ≤ x12)) then
 Option.bind (ref22_word N b_0 s_4.2.2.2.2.1) fun y16 =>
 Option.bind (ref22_word N b_0 (w64 (s_4.2.2.2.2.1 + (2 : Int)))) fun y18 =>
 some ((((s_4.1.1, s_4.1.2.1, s_4.1.2.2.1, y16.1.1, y18.1.1, ()), s_4.2.1, s_4.2.2.1, s_4.2.2.2.1, s_4.2.2.2.2.1, ()), (0 : Int), ()), (()))
 else
 some ((((s_4.1.1, s_4.1.2.1, s_4.1.2.2.1, (-1 : Int), (-1 : Int), ()), s_4.2.1, s_4.2.2.1, s_4.2.2.2.1, s_4.2.2.2.2.1, ()), (0 : Int), ()), (()))
 else
 some ((((s_4.1.1, s_4.1.2.1, s_4.1.2.2.1, (-1 : Int), (-1 : Int), ()), s_4.2.1, s_4.2.2.1, s_4.2.2.2.1, s_4.2.2.2.2.1, ()), (0 : Int), ()), (()))
 else
 bif (decide (s_4.1.2.2.1 = (17 : Int))) then
 bif (decide (s_4.2.1 = (0 : Int))) then
 bif (decide ((4 : Int) ≤ x12)) then
 Option.bind (ref22_word N b_0 s_4.2.2.2.2.1) fun y22 =>
 Option.bind (ref22_word N b_0 (w64 (s_4.2.2.2.2.1 + (2 : Int)))) fun y24 =>
 some ((((s_4.1.1, s_4.1.2.1, s_4.1.2.2.1, y22.1.1, y24.1.1, ()), s_4.2.1, s_4.2.2.1, s_4.2.2.2.1, s_4.2.2.2.2.1, ()), (0 : Int), ()), (()))
 else
 some ((((s_4.1.1, s_4.1.2.1, s_4.1.2.2.1, (-1 : Int), (-1 : Int), ()), s_4.2.1, s_4.2.2.1, s_4.2.2.2.1, s_4.2.2.2.2.1, ()), (0 : Int), ()), (()))
 else
 some ((((s_4.1.1, s_4.1.2.1, s_4.1.2.2.1, (-1 : Int), (-1 : Int), ()), s_4.2.1, s_4.2.2.1, s_4.2.2.2.1, s_4.2.2.2.2.1, ()), (0 : Int), ()), (()))
 else
 bif (decide (s_4.1.2.2.1 = (1 : Int))) then
 bif (decide (s_4.2.1 = (0 : Int))) then
 bif (decide ((2 : Int) ≤ x12)) then
 Option.bind (ref22_word N b_0 s_4.2.2.2.2.1) fun y28 =>
 some ((((s_4.1.1, s_4.1.2.1, s_4.1.2.2.1, y28.1.1, (-1 : Int), ()), s_4.2.1, s_4.2.2.1, s_4.2.2.2.1, s_4.2.2.2.2.1, ()), (0 : Int), ()), (()))
 else
 some ((((s_4.1.1, s_4.1.2.1, s_4.1.2.2.1, (-1 : Int), (-1 : Int), ()), s_4.2.1, s_4.2.2.1, s_4.2.2.2.1, s_4.2.2.2.2.1, ()), (0 : Int), ()), (()))
 else
 some ((((s_4.1.1, s_4.1.2.1, s_4.1.2.2.1, (-1 : Int), (-1 : Int), ()), s_4.2.1, s_4.2.2.1, s_4.2.2.2.1, s_4.2.2.2.2.1, ()), (0 : Int), ()), (()))
 else
 bif (decide (s_4.1.2.2.1 = (58 : Int))) then
 bif (decide (s_4.2.1 = (0 : Int))) then
 bif (decide ((2 : Int) ≤ x12)) then
 Option.bind (ref22_word N b_0 s_4.2.2.2.2.1) fun y32 =>
 some ((((s_4.1.1, s_4.1.2.1, s_4.1.2.2.1, y32.1.1, (-1 : Int), ()), s_4.2.1, s_4.2.2.1, s_4.2.2.2.1, s_4.2.2.2.2.1, ()), (0 : Int), ()), (()))
 else
 some ((((s_4.1.1, s_4.1.2.1, s_4.1.2.2.1, (-1 : Int), (-1 : Int), ()), s_4.2.1, s_4.2.2.1, s_4.2.2.2.1, s_4.2.2.2.2.1, ()), (0 : Int), ()), (()))
 else
 some ((((s_4.1.1, s_4.1.2.1, s_4.1.2.2.1, (-1 : Int), (-1 : Int), ()), s_4.2.1, s_4.2.2.1, s_4.2.2.2.1, s_4.2.2.2.2.1, ()), (0 : Int), ()), (()))
 else
 some ((((s_4.1.1, s_4.1.2.1, s_4.1.2.2.1, (-1 : Int), (-1 : Int), ()), s_4.2.1, s_4.2.2.1, s_4.2.2.2.1, s_4.2.2.2.2.1, ()), (0 : Int), ()), (()))
noncomputable def ref22_See_3 (N : Nat) (b_0 : (List UInt8)) (e_5 : Int) (t_2 : D53) (s_4 : D53) : Option ref22_See_R :=
 bif (!(decide (e_5 = (0 : Int)))) then
 some ((((((0 : Int), (0 : UInt64), (0 : UInt64), ()), ((0 : Int), (0 : UInt64), (0 : UInt64), ()), (0 : Int), (0 : Int), (0 : Int), ()), (0 : Int), false, false, (0 : Int), ()), e_5, ()), (()))
 else
 bif s_4.2.2.1 then
 ref22_See_4 N b_0 t_2 (s_4.1, s_4.2.1, s_4.2.2.1, true, s_4.2.2.2.2.1, ())
 else
 ref22_See_4 N b_0 t_2 (s_4.1, s_4.2.1, s_4.2.2.1, (!(decide (s_4.2.1 = (0 : Int)))), s_4.2.2.2.2.1, ())
noncomputable def ref22_See_2 (N : Nat) (b_0 : (List UInt8)) (e_5 : Int) (t_35 : Bool) (t_2 : D53) (s_4 : D53) : Option ref22_See_R :=
 bif t_35 then
 ref22_See_3 N b_0 (11 : Int) t_2 s_4
 else
 ref22_See_3 N b_0 e_5 t_2 s_4
noncomputable def ref22_See_1 (N : Nat) (b_0 : (List UInt8)) (e_5 : Int) (t_2 : D53) (s_4 : D53) : Option ref22_See_R :=
 bif (decide (e_5 = (0 : Int))) then
 ref22_See_2 N b_0 e_5 (decide ((4096 : Int) < (b_0.length : Int))) t_2 s_4
 else
 ref22_See_2 N b_0 e_5 false t_2 s_4
noncomputable def ref22_See (N : Nat) (b_0 : (List UInt8)) : Option ref22_See_R :=
 bif (decide ((b_0.length : Int) = (0 : Int))) then
 some ((((((0 : Int), (0 : UInt64), (0 : UInt64), ()), ((0 : Int), (0 : UInt64), (0 : UInt64), ()), (0 : Int), (0 : Int), (0 : Int), ()), (0 : Int), false, false, (0 : Int), ()), (1 : Int), ()), (()))
 else
 bif inR (0 : Int) b_0.length then
 let x3 := b_0.getD 0 (0 : UInt8)
 bif (decide ((shr8 x3 4) = (4 : UInt8))) then
 Option.bind (ref22_four N b_0) fun y6 =>
 ref22_See_1 N b_0 y6.1.2.1 ((((0 : Int), (0 : UInt64), (0 : UInt64), ()), ((0 : Int), (0 : UInt64), (0 : UInt64), ()), (0 : Int), (0 : Int), (0 : Int), ()), (0 : Int), false, false, (0 : Int), ()) y6.1.1
 else
 bif (decide ((shr8 x3 4) = (6 : UInt8))) then
 Option.bind (ref22_six N b_0) fun y35 =>
 ref22_See_1 N b_0 y35.1.2.1 ((((0 : Int), (0 : UInt64), (0 : UInt64), ()), ((0 : Int), (0 : UInt64), (0 : UInt64), ()), (0 : Int), (0 : Int), (0 : Int), ()), (0 : Int), false, false, (0 : Int), ()) y35.1.1
 else
 ref22_See_1 N b_0 (3 : Int) ((((0 : Int), (0 : UInt64), (0 : UInt64), ()), ((0 : Int), (0 : UInt64), (0 : UInt64), ()), (0 : Int), (0 : Int), (0 : Int), ()), (0 : Int), false, false, (0 : Int), ()) ((((0 : Int), (0 : UInt64), (0 : UInt64), ()), ((0 : Int), (0 : UInt64), (0 : UInt64), ()), (0 : Int), (0 : Int), (0 : Int), ()), (0 : Int), false, false, (0 : Int), ())
 else none
noncomputable def ref22_See_C (N : Nat) : Ctx := ⟨100, G_tys, [(48, ref22_four_ctr N), (50, ref22_word_ctr N), (49, ref22_six_ctr N)], G_globs, G_ifs⟩
noncomputable def ref22_See_S0 : Spec := ⟨[.val (.sl .u8), .ref 0 T53, .ref 1 T53], [(.box 54 T53, .pos 1), (.box 54 T53, .pos 2)]⟩
noncomputable def ref22_See_S1 : Spec := ⟨[.val (.sl .u8), .ref 0 T53, .ref 1 T53, .val .i64], [(.box 54 T53, .pos 1), (.box 54 T53, .pos 2)]⟩
noncomputable def ref22_See_S2 : Spec := ⟨[.val (.sl .u8), .ref 0 T53, .ref 1 T53, .val .i64, .val .bool], [(.box 54 T53, .pos 1), (.box 54 T53, .pos 2)]⟩
noncomputable def ref22_See_S3 : Spec := ⟨[.val (.sl .u8)], []⟩
noncomputable def ref22_See_S4 : Spec := ⟨[.fp T53, .val .i64], []⟩
noncomputable def ref22_See_K (_N : Nat) : XE → GS → Option ref22_See_R := retK 0 [2, 3] [true, false] ref22_See_S4
noncomputable def ref22_See_L : List Code := (bodyOf (some Tryz.f24))
theorem ref22_See_4_b {E : Env} (N : Nat) (hb : Base Tryz.prog (ref22_See_C N) E 0) : Blk Tryz.prog (ref22_See_C N) E [0, 2, 4] ref22_See_S0 (ref22_See_L.drop 12) (fun y => ref22_See_4 N y.1.1 y.2.1 y.2.2.1) (ref22_See_K N) :=
 Blk.chunkAt hb 6 (X := (ref22_See_K N .normal)) (NxOk.end (by kernel_rfl)) rfl (fun x => by kernel_rfl)
theorem ref22_See_3_b {E : Env} (N : Nat) (hb : Base Tryz.prog (ref22_See_C N) E 0) : Blk Tryz.prog (ref22_See_C N) E [0, 2, 4, 5] ref22_See_S1 (ref22_See_L.drop 9) (fun y => ref22_See_3 N y.1.1 y.1.2.1 y.2.1 y.2.2.1) (ref22_See_K N) :=
 Blk.chunkAt hb 3 (X := (goK 0 [0, 2, 4] ref22_See_S0 (fun y => ref22_See_4 N y.1.1 y.2.1 y.2.2.1))) (NxOk.go hb (ref22_See_4_b N hb)) rfl (fun x => by kernel_rfl)
theorem ref22_See_2_b {E : Env} (N : Nat) (hb : Base Tryz.prog (ref22_See_C N) E 0) : Blk Tryz.prog (ref22_See_C N) E [0, 2, 4, 5, 35] ref22_See_S2 (ref22_See_L.drop 8) (fun y => ref22_See_2 N y.1.1 y.1.2.1 y.1.2.2.1 y.2.1 y.2.2.1) (ref22_See_K N) :=
 Blk.chunkAt hb 1 (X := (goK 0 [0, 2, 4, 5] ref22_See_S1 (fun y => ref22_See_3 N y.1.1 y.1.2.1 y.2.1 y.2.2.1))) (NxOk.go hb (ref22_See_3_b N hb)) rfl (fun x => by kernel_rfl)
theorem ref22_See_1_b {E : Env} (N : Nat) (hb : Base Tryz.prog (ref22_See_C N) E 0) : Blk Tryz.prog (ref22_See_C N) E [0, 2, 4, 5] ref22_See_S1 (ref22_See_L.drop 7) (fun y => ref22_See_1 N y.1.1 y.1.2.1 y.2.1 y.2.2.1) (ref22_See_K N) :=
 Blk.chunkAt hb 1 (X := (goK 0 [0, 2, 4, 5, 35] ref22_See_S2 (fun y => ref22_See_2 N y.1.1 y.1.2.1 y.1.2.2.1 y.2.1 y.2.2.1))) (NxOk.go hb (ref22_See_2_b N hb)) rfl (fun x => by kernel_rfl)
theorem ref22_See_b {E : Env} (N : Nat) (hb : Base Tryz.prog (ref22_See_C N) E 0) : Blk Tryz.prog (ref22_See_C N) E (List.range ref22_See_S3.ks.length) ref22_See_S3 (ref22_See_L.drop 0) (fun y => ref22_See N y.1.1) (ref22_See_K N) :=
 Blk.chunkAt hb 7 (X := (goK 0 [0, 2, 4, 5] ref22_See_S1 (fun y => ref22_See_1 N y.1.1 y.1.2.1 y.2.1 y.2.2.1))) (NxOk.go hb (ref22_See_1_b N hb)) rfl (fun x => by kernel_rfl)
noncomputable def ref22_See_ctr (N : Nat) : Ctr := ⟨ref22_See_S3, ref22_See_S4.un [true, false], 0, (fun y => ref22_See N y.1.1)⟩
theorem ref22_See_ctrs (N : Nat) : CtrsOk Tryz.prog (ref22_See_C N) := ctrs_of (Γ := ref22_See_C N) G_ifs_ok (by
 intro p hp
 simp only [ref22_See_C, List.mem_cons, List.not_mem_nil, or_false] at hp
 rcases hp with rfl | rfl | rfl
 · exact ref22_four_ok N
 · exact ref22_word_ok N
 · exact ref22_six_ok N)
theorem ref22_See_ok (N : Nat) : Ctr.ok Tryz.prog G_globs 24 (ref22_See_ctr N) :=
 ctr_fn (Γ := ref22_See_C N) (rfit := ref22_See_S4) (bs := [true, false]) (res := [2, 3]) (by kernel_rfl) (tys_ok G_tys_ok) (ref22_See_ctrs N) Tryz.func24 (by kernel_rfl) (by kernel_rfl) Tryz.ntmps24 (by kernel_rfl) (by kernel_rfl) (by kernel_rfl) (by kernel_rfl) (fun E hb => ref22_See_b N hb)
/-! ipsecgate/ipsecgateref24.put -/
abbrev ref24_put_R : Type := ((Unit) × ((List UInt8) × Unit))
noncomputable def ref24_put_s2 (N : Nat) (v_1 : UInt64) (k_7 : Int) (b_0 : (List UInt8)) : Option (Lo ((UInt64 × Int × Unit) × ((List UInt8) × Unit)) ((Unit) × ((List UInt8) × Unit)) ref24_put_R) :=
 bif (decide ((0 : Int) ≤ k_7)) then
 let x3 := w64 ((8 : Int) * k_7)
 bif decide (0 ≤ x3) then
 let x4 := shr64 v_1 x3.toNat
 bif room (b_0.length + ([x4.toUInt8] : List UInt8).length) 1 then
 some (.go ((v_1, (w64 (k_7 - (1 : Int))), ()), ((b_0 ++ ([x4.toUInt8] : List UInt8)), ())))
 else none
 else none
 else
 some (.br ((()), (b_0, ())))
noncomputable def ref24_put_3 (N : Nat) (b_0 : (List UInt8)) : Option ref24_put_R :=
 some ((()), (b_0, ()))
noncomputable def ref24_put_1 (N : Nat) (v_1 : UInt64) (k_7 : Int) (b_0 : (List UInt8)) : Option ref24_put_R :=
 loopK N (fun y => ref24_put_s2 N y.1.1 y.1.2.1 y.2.1) (fun (e : ((Unit) × ((List UInt8) × Unit))) => ref24_put_3 N e.2.1) ((v_1, k_7, ()), (b_0, ()))
noncomputable def ref24_put (N : Nat) (v_1 : UInt64) (width_2 : Int) (b_0 : (List UInt8)) : Option ref24_put_R :=
 ref24_put_1 N v_1 (w64 (width_2 - (1 : Int))) b_0
noncomputable def ref24_put_C (N : Nat) : Ctx := ⟨23, G_tys, [], G_globs, G_ifs⟩
noncomputable def ref24_put_S0 : Spec := ⟨[.row 0, .val .u64, .val .i64], [(.row 5 .u8, .pos 0)]⟩
noncomputable def ref24_put_S1 : Spec := ⟨[.row 0], [(.row 5 .u8, .pos 0)]⟩
noncomputable def ref24_put_K (_N : Nat) : XE → GS → Option ref24_put_R := retK 0 [6] [false] ref24_put_S1
noncomputable def ref24_put_L : List Code := (bodyOf (some Tryz.f52))
noncomputable def ref24_put_L2 : List Code := (loopOf (ref24_put_L[2]?))
noncomputable def ref24_put_K2 (N : Nat) : XE → GS → Option (Lo ((UInt64 × Int × Unit) × ((List UInt8) × Unit)) ((Unit) × ((List UInt8) × Unit)) ref24_put_R) := roundK (some 0) (fit 0 [0, 1, 7] ref24_put_S0) (fit 0 [0] ref24_put_S1) (ref24_put_K N)
theorem ref24_put_s2_b {E : Env} (N : Nat) (hb : Base Tryz.prog (ref24_put_C N) E 0) : Blk Tryz.prog (ref24_put_C N) E [0, 1, 7] ref24_put_S0 (ref24_put_L2.drop 0) (fun y => ref24_put_s2 N y.1.1 y.1.2.1 y.2.1) (ref24_put_K2 N) :=
 Blk.chunkAt hb 4 (X := (ref24_put_K2 N .normal)) (NxOk.end (by kernel_rfl)) rfl (fun x => by kernel_rfl)
theorem ref24_put_3_b {E : Env} (N : Nat) (hb : Base Tryz.prog (ref24_put_C N) E 0) : Blk Tryz.prog (ref24_put_C N) E [0] ref24_put_S1 (ref24_put_L.drop 3) (fun y => ref24_put_3 N y.2.1) (ref24_put_K N) :=
 Blk.chunkAt hb 2 (X := (ref24_put_K N .normal)) (NxOk.end (by kernel_rfl)) rfl (fun x => by kernel_rfl)
theorem ref24_put_1_b {E : Env} (N : Nat) (hb : Base Tryz.prog (ref24_put_C N) E 0) : Blk Tryz.prog (ref24_put_C N) E [0, 1, 7] ref24_put_S0 (ref24_put_L.drop 2) (fun y => ref24_put_1 N y.1.1 y.1.2.1 y.2.1) (ref24_put_K N) :=
 Blk.loopAt (Nf := N) (hns := [0, 1, 7]) (ans := [0]) (hc := ref24_put_S0) (ac := ref24_put_S1) (bid := 0) (step := (fun y => ref24_put_s2 N y.1.1 y.1.2.1 y.2.1)) (J := (fun e => (goK 0 [0] ref24_put_S1 (fun y => ref24_put_3 N y.2.1)) (ref24_put_S1.st [0] e))) hb (by kernel_rfl) (Blk.into (X := (goK 0 [0] ref24_put_S1 (fun y => ref24_put_3 N y.2.1))) (NxOk.go hb (ref24_put_3_b N hb)) (fun x => by kernel_rfl)) (ref24_put_s2_b N hb) (fun x => by kernel_rfl)
theorem ref24_put_b {E : Env} (N : Nat) (hb : Base Tryz.prog (ref24_put_C N) E 0) : Blk Tryz.prog (ref24_put_C N) E (List.range ref24_put_S0.ks.length) ref24_put_S0 (ref24_put_L.drop 0) (fun y => ref24_put N y.1.1 y.1.2.1 y.2.1) (ref24_put_K N) :=
 Blk.chunkAt hb 2 (X := (goK 0 [0, 1, 7] ref24_put_S0 (fun y => ref24_put_1 N y.1.1 y.1.2.1 y.2.1))) (NxOk.go hb (ref24_put_1_b N hb)) rfl (fun x => by kernel_rfl)
noncomputable def ref24_put_ctr (N : Nat) : Ctr := ⟨ref24_put_S0, ref24_put_S1.un [false], 0, (fun y => ref24_put N y.1.1 y.1.2.1 y.2.1)⟩
theorem ref24_put_ctrs (N : Nat) : CtrsOk Tryz.prog (ref24_put_C N) := ctrs_nil G_ifs_ok rfl
theorem ref24_put_ok (N : Nat) : Ctr.ok Tryz.prog G_globs 52 (ref24_put_ctr N) :=
 ctr_fn (Γ := ref24_put_C N) (rfit := ref24_put_S1) (bs := [false]) (res := [6]) (by kernel_rfl) (tys_ok G_tys_ok) (ref24_put_ctrs N) Tryz.func52 (by kernel_rfl) (by kernel_rfl) Tryz.ntmps52 (by kernel_rfl) (by kernel_rfl) (by kernel_rfl) (by kernel_rfl) (fun E hb => ref24_put_b N hb)
/-! ipsecgate/ipsecgateref10.word -/
abbrev ref10_word_R : Type := ((UInt32 × Unit) × (Unit))
noncomputable def ref10_word (N : Nat) (b_0 : (List UInt8)) (i_1 : Int) : Option ref10_word_R :=
 let x1 := w64 ((4 : Int) * i_1)
 bif inR x1 b_0.length then
 let x4 := w64 ((w64 ((4 : Int) * i_1)) + (1 : Int))
 bif inR x4 b_0.length then
 let x9 := w64 ((w64 ((4 : Int) * i_1)) + (2 : Int))
 bif inR x9 b_0.length then
 let x14 := w64 ((w64 ((4 : Int) * i_1)) + (3 : Int))
 bif inR x14 b_0.length then
 some ((((((b_0.getD x1.toNat (0 : UInt8)).toUInt32 ||| (shl32 (b_0.getD x4.toNat (0 : UInt8)).toUInt32 8)) ||| (shl32 (b_0.getD x9.toNat (0 : UInt8)).toUInt32 16)) ||| (shl32 (b_0.getD x14.toNat (0 : UInt8)).toUInt32 24)), ()), (()))
 else none
 else none
 else none
 else none
noncomputable def ref10_word_C (N : Nat) : Ctx := ⟨38, G_tys, [], G_globs, G_ifs⟩
noncomputable def ref10_word_S0 : Spec := ⟨[.val (.sl .u8), .val .i64], []⟩
noncomputable def ref10_word_S1 : Spec := ⟨[.val .u32], []⟩
noncomputable def ref10_word_K (_N : Nat) : XE → GS → Option ref10_word_R := retK 0 [4] [false] ref10_word_S1
noncomputable def ref10_word_L : List Code := (bodyOf (some Tryz.f90))
theorem ref10_word_b {E : Env} (N : Nat) (hb : Base Tryz.prog (ref10_word_C N) E 0) : Blk Tryz.prog (ref10_word_C N) E (List.range ref10_word_S0.ks.length) ref10_word_S0 (ref10_word_L.drop 0) (fun y => ref10_word N y.1.1 y.1.2.1) (ref10_word_K N) :=
 Blk.chunkAt hb 3 (X := (ref10_word_K N .normal)) (NxOk.end (by kernel_rfl)) rfl (fun x => by kernel_rfl)
noncomputable def ref10_word_ctr (N : Nat) : Ctr := ⟨ref10_word_S0, ref10_word_S1.un [false], 0, (fun y => ref10_word N y.1.1 y.1.2.1)⟩
theorem ref10_word_ctrs (N : Nat) : CtrsOk Tryz.prog (ref10_word_C N) := ctrs_nil G_ifs_ok rfl
theorem ref10_word_ok (N : Nat) : Ctr.ok Tryz.prog G_globs 90 (ref10_word_ctr N) :=
 ctr_fn (Γ := ref10_word_C N) (rfit := ref10_word_S1) (bs := [false]) (res := [4]) (by kernel_rfl) (tys_ok G_tys_ok) (ref10_word_ctrs N) Tryz.func90 (by kernel_rfl) (by kernel_rfl) Tryz.ntmps90 (by kernel_rfl) (by kernel_rfl) (by kernel_rfl) (by kernel_rfl) (fun E hb => ref10_word_b N hb)
/-! ipsecgate/ipsecgateref10.turn -/
abbrev ref10_turn_R : Type := ((UInt32 × Unit) × (Unit))
noncomputable def ref10_turn (N : Nat) (x_0 : UInt32) (n_1 : UInt64) : Option ref10_turn_R :=
 some ((((shl32 x_0 n_1.toNat) ||| (shr32 x_0 ((32 : UInt64) - n_1).toNat)), ()), (()))
noncomputable def ref10_turn_C (N : Nat) : Ctx := ⟨13, G_tys, [], G_globs, G_ifs⟩
noncomputable def ref10_turn_S0 : Spec := ⟨[.val .u32, .val .u64], []⟩
noncomputable def ref10_turn_S1 : Spec := ⟨[.val .u32], []⟩
noncomputable def ref10_turn_K (_N : Nat) : XE → GS → Option ref10_turn_R := retK 0 [4] [false] ref10_turn_S1
noncomputable def ref10_turn_L : List Code := (bodyOf (some Tryz.f98))
theorem ref10_turn_b {E : Env} (N : Nat) (hb : Base Tryz.prog (ref10_turn_C N) E 0) : Blk Tryz.prog (ref10_turn_C N) E (List.range ref10_turn_S0.ks.length) ref10_turn_S0 (ref10_turn_L.drop 0) (fun y => ref10_turn N y.1.1 y.1.2.1) (ref10_turn_K N) :=
 Blk.chunkAt hb 3 (X := (ref10_turn_K N .normal)) (NxOk.end (by kernel_rfl)) rfl (fun x => by kernel_rfl)
noncomputable def ref10_turn_ctr (N : Nat) : Ctr := ⟨ref10_turn_S0, ref10_turn_S1.un [false], 0, (fun y => ref10_turn N y.1.1 y.1.2.1)⟩
theorem ref10_turn_ctrs (N : Nat) : CtrsOk Tryz.prog (ref10_turn_C N) := ctrs_nil G_ifs_ok rfl
theorem ref10_turn_ok (N : Nat) : Ctr.ok Tryz.prog G_globs 98 (ref10_turn_ctr N) :=
 ctr_fn (Γ := ref10_turn_C N) (rfit := ref10_turn_S1) (bs := [false]) (res := [4]) (by kernel_rfl) (tys_ok G_tys_ok) (ref10_turn_ctrs N) Tryz.func98 (by kernel_rfl) (by kernel_rfl) Tryz.ntmps98 (by kernel_rfl) (by kernel_rfl) (by kernel_rfl) (by kernel_rfl) (fun E hb => ref10_turn_b N hb)
/-! ipsecgate/ipsecgateref10.Quarter -/
abbrev ref10_Quarter_R : Type := ((UInt32 × UInt32 × UInt32 × UInt32 × Unit) × (Unit))
noncomputable def ref10_Quarter (N : Nat) (a_0 : UInt32) (b_1 : UInt32) (c_2 : UInt32) (d_3 : UInt32) : Option ref10_Quarter_R :=
 Option.bind (ref10_turn N (d_3 ^^^ (a_0 + b_1)) (16 : UInt64)) fun y3 =>
 Option.bind (ref10_turn N (b_1 ^^^ (c_2 + y3.1.1)) (12 : UInt64)) fun y6 =>
 Option.bind (ref10_turn N (y3.1.1 ^^^ ((a_0 + b_1) + y6.1.1)) (8 : UInt64)) fun y9 =>
 Option.bind (ref10_turn N (y6.1.1 ^^^ ((c_2 + y3.1.1) + y9.1.1)) (7 : UInt64)) fun y12 =>
 some ((((a_0 + b_1) + y6.1.1), y12.1.1, ((c_2 + y3.1.1) + y9.1.1), y9.1.1, ()), (()))
noncomputable def ref10_Quarter_C (N : Nat) : Ctx := ⟨44, G_tys, [(98, ref10_turn_ctr N)], G_globs, G_ifs⟩
noncomputable def ref10_Quarter_S0 : Spec := ⟨[.val .u32, .val .u32, .val .u32, .val .u32], []⟩
noncomputable def ref10_Quarter_K (_N : Nat) : XE → GS → Option ref10_Quarter_R := retK 0 [8, 9, 10, 11] [false, false, false, false] ref10_Quarter_S0
noncomputable def ref10_Quarter_L : List Code := (bodyOf (some Tryz.f97))
theorem ref10_Quarter_b {E : Env} (N : Nat) (hb : Base Tryz.prog (ref10_Quarter_C N) E 0) : Blk Tryz.prog (ref10_Quarter_C N) E (List.range ref10_Quarter_S0.ks.length) ref10_Quarter_S0 (ref10_Quarter_L.drop 0) (fun y => ref10_Quarter N y.1.1 y.1.2.1 y.1.2.2.1 y.1.2.2.2.1) (ref10_Quarter_K N) :=
 Blk.chunkAt hb 11 (X := (ref10_Quarter_K N .normal)) (NxOk.end (by kernel_rfl)) rfl (fun x => by kernel_rfl)
noncomputable def ref10_Quarter_ctr (N : Nat) : Ctr := ⟨ref10_Quarter_S0, ref10_Quarter_S0.un [false, false, false, false], 0, (fun y => ref10_Quarter N y.1.1 y.1.2.1 y.1.2.2.1 y.1.2.2.2.1)⟩
theorem ref10_Quarter_ctrs (N : Nat) : CtrsOk Tryz.prog (ref10_Quarter_C N) := ctrs_of (Γ := ref10_Quarter_C N) G_ifs_ok (by
 intro p hp
 simp only [ref10_Quarter_C, List.mem_cons, List.not_mem_nil, or_false] at hp
 rcases hp with rfl
 · exact ref10_turn_ok N)
theorem ref10_Quarter_ok (N : Nat) : Ctr.ok Tryz.prog G_globs 97 (ref10_Quarter_ctr N) :=
 ctr_fn (Γ := ref10_Quarter_C N) (rfit := ref10_Quarter_S0) (bs := [false, false, false, false]) (res := [8, 9, 10, 11]) (by kernel_rfl) (tys_ok G_tys_ok) (ref10_Quarter_ctrs N) Tryz.func97 (by kernel_rfl) (by kernel_rfl) Tryz.ntmps97 (by kernel_rfl) (by kernel_rfl) (by kernel_rfl) (by kernel_rfl) (fun E hb => ref10_Quarter_b N hb)
/-! ipsecgate/ipsecgateref10.mix -/
abbrev ref10_mix_R : Type := (((List UInt32) × Unit) × (Unit))
noncomputable def ref10_mix (N : Nat) (s_0 : (List UInt32)) (i_1 : Int) (j_2 : Int) (k_3 : Int) (l_4 : Int) : Option ref10_mix_R :=
 bif inR i_1 16 then
 bif inR j_2 16 then
 bif inR k_3 16 then
 bif inR l_4 16 then
 Option.bind (ref10_Quarter N (s_0.getD i_1.toNat (0 : UInt32)) (s_0.getD j_2.toNat (0 : UInt32)) (s_0.getD k_3.toNat (0 : UInt32)) (s_0.getD l_4.toNat (0 : UInt32))) fun y5 =>
 bif inR i_1 16 then
 bif inR j_2 16 then
 bif inR k_3 16 then
 bif inR l_4 16 then
 some ((((((s_0.set i_1.toNat y5.1.1).set j_2.toNat y5.1.2.1).set k_3.toNat y5.1.2.2.1).set l_4.toNat y5.1.2.2.2.1), ()), (()))
 else none
 else none
 else none
 else none
 else none
 else none
 else none
 else none
noncomputable def ref10_mix_C (N : Nat) : Ctx := ⟨46, G_tys, [(97, ref10_Quarter_ctr N)], G_globs, G_ifs⟩
noncomputable def ref10_mix_S0 : Spec := ⟨[.val (.arr 16 .u32), .val .i64, .val .i64, .val .i64, .val .i64], []⟩
noncomputable def ref10_mix_S1 : Spec := ⟨[.fp (.arr 16 .u32)], []⟩
noncomputable def ref10_mix_K (_N : Nat) : XE → GS → Option ref10_mix_R := retK 0 [10] [true] ref10_mix_S1
noncomputable def ref10_mix_L : List Code := (bodyOf (some Tryz.f91))
theorem ref10_mix_b {E : Env} (N : Nat) (hb : Base Tryz.prog (ref10_mix_C N) E 0) : Blk Tryz.prog (ref10_mix_C N) E (List.range ref10_mix_S0.ks.length) ref10_mix_S0 (ref10_mix_L.drop 0) (fun y => ref10_mix N y.1.1 y.1.2.1 y.1.2.2.1 y.1.2.2.2.1 y.1.2.2.2.2.1) (ref10_mix_K N) :=
 Blk.chunkAt hb 8 (X := (ref10_mix_K N .normal)) (NxOk.end (by kernel_rfl)) rfl (fun x => by kernel_rfl)
noncomputable def ref10_mix_ctr (N : Nat) : Ctr := ⟨ref10_mix_S0, ref10_mix_S1.un [true], 0, (fun y => ref10_mix N y.1.1 y.1.2.1 y.1.2.2.1 y.1.2.2.2.1 y.1.2.2.2.2.1)⟩
theorem ref10_mix_ctrs (N : Nat) : CtrsOk Tryz.prog (ref10_mix_C N) := ctrs_of (Γ := ref10_mix_C N) G_ifs_ok (by
 intro p hp
 simp only [ref10_mix_C, List.mem_cons, List.not_mem_nil, or_false] at hp
 rcases hp with rfl
 · exact ref10_Quarter_ok N)
theorem ref10_mix_ok (N : Nat) : Ctr.ok Tryz.prog G_globs 91 (ref10_mix_ctr N) :=
 ctr_fn (Γ := ref10_mix_C N) (rfit := ref10_mix_S1) (bs := [true]) (res := [10]) (by kernel_rfl) (tys_ok G_tys_ok) (ref10_mix_ctrs N) Tryz.func91 (by kernel_rfl) (by kernel_rfl) Tryz.ntmps91 (by kernel_rfl) (by kernel_rfl) (by kernel_rfl) (by kernel_rfl) (fun E hb => ref10_mix_b N hb)
/-! ipsecgate/ipsecgateref10.Block -/
abbrev ref10_Block_R : Type := ((Bool × Unit) × ((List UInt8) × Unit))
noncomputable def ref10_Block_s3 (N : Nat) (key_0 : (List UInt8)) (counter_1 : UInt32) (nonce_2 : (List UInt8)) (i_9 : Int) (first_8 : (List UInt32)) : Option (Lo (((List UInt8) × UInt32 × (List UInt8) × Int × Unit) × ((List UInt32) × Unit)) ((UInt32 × (List UInt8) × Unit) × ((List UInt32) × Unit)) ref10_Block_R) :=
 bif (decide (i_9 < (8 : Int))) then
 let x5 := w64 ((4 : Int) + i_9)
 Option.bind (ref10_word N key_0 i_9) fun y6 =>
 bif inR x5 16 then
 some (.go ((key_0, counter_1, nonce_2, (w64 (i_9 + (1 : Int))), ()), ((first_8.set x5.toNat y6.1.1), ())))
 else none
 else
 some (.br ((counter_1, nonce_2, ()), (first_8, ())))
noncomputable def ref10_Block_s6 (N : Nat) (nonce_2 : (List UInt8)) (i_10 : Int) (first_8 : (List UInt32)) : Option (Lo (((List UInt8) × Int × Unit) × ((List UInt32) × Unit)) ((Unit) × ((List UInt32) × Unit)) ref10_Block_R) :=
 bif (decide (i_10 < (3 : Int))) then
 let x11 := w64 ((13 : Int) + i_10)
 Option.bind (ref10_word N nonce_2 i_10) fun y12 =>
 bif inR x11 16 then
 some (.go ((nonce_2, (w64 (i_10 + (1 : Int))), ()), ((first_8.set x11.toNat y12.1.1), ())))
 else none
 else
 some (.br ((()), (first_8, ())))
noncomputable def ref10_Block_s14 (N : Nat) (round_12 : Int) (i_13 : Int) (first_8 : (List UInt32)) (s_11 : (List UInt32)) : Option (Lo ((Int × Int × Unit) × ((List UInt32) × (List UInt32) × Unit)) ((Int × Unit) × ((List UInt32) × (List UInt32) × Unit)) (Lo ((Int × Unit) × ((List UInt32) × (List UInt32) × Unit)) ((Unit) × ((List UInt32) × (List UInt32) × Unit)) ref10_Block_R)) :=
 bif (decide (i_13 < (4 : Int))) then
 Option.bind (ref10_mix N s_11 i_13 (w64 ((4 : Int) + i_13)) (w64 ((8 : Int) + i_13)) (w64 ((12 : Int) + i_13))) fun y20 =>
 some (.go ((round_12, (w64 (i_13 + (1 : Int))), ()), (first_8, y20.1.1, ())))
 else
 some (.br ((round_12, ()), (first_8, s_11, ())))
noncomputable def ref10_Block_s17 (N : Nat) (round_12 : Int) (i_14 : Int) (first_8 : (List UInt32)) (s_11 : (List UInt32)) : Option (Lo ((Int × Int × Unit) × ((List UInt32) × (List UInt32) × Unit)) ((Int × Unit) × ((List UInt32) × (List UInt32) × Unit)) (Lo ((Int × Unit) × ((List UInt32) × (List UInt32) × Unit)) ((Unit) × ((List UInt32) × (List UInt32) × Unit)) ref10_Block_R)) :=
 bif (decide (i_14 < (4 : Int))) then
 Option.bind (ref10_mix N s_11 i_14 (w64 ((4 : Int) + ((w64 (i_14 + (1 : Int))).tmod (4 : Int)))) (w64 ((8 : Int) + ((w64 (i_14 + (2 : Int))).tmod (4 : Int)))) (w64 ((12 : Int) + ((w64 (i_14 + (3 : Int))).tmod (4 : Int))))) fun y32 =>
 some (.go ((round_12, (w64 (i_14 + (1 : Int))), ()), (first_8, y32.1.1, ())))
 else
 some (.br ((round_12, ()), (first_8, s_11, ())))
noncomputable def ref10_Block_18 (N : Nat) (round_12 : Int) (first_8 : (List UInt32)) (s_11 : (List UInt32)) : Option (Lo ((Int × Unit) × ((List UInt32) × (List UInt32) × Unit)) ((Unit) × ((List UInt32) × (List UInt32) × Unit)) ref10_Block_R) :=
 some (.go (((w64 (round_12 + (1 : Int))), ()), (first_8, s_11, ())))
noncomputable def ref10_Block_16 (N : Nat) (round_12 : Int) (i_14 : Int) (first_8 : (List UInt32)) (s_11 : (List UInt32)) : Option (Lo ((Int × Unit) × ((List UInt32) × (List UInt32) × Unit)) ((Unit) × ((List UInt32) × (List UInt32) × Unit)) ref10_Block_R) :=
 loopK N (fun y => ref10_Block_s17 N y.1.1 y.1.2.1 y.2.1 y.2.2.1) (fun (e : ((Int × Unit) × ((List UInt32) × (List UInt32) × Unit))) => ref10_Block_18 N e.1.1 e.2.1 e.2.2.1) ((round_12, i_14, ()), (first_8, s_11, ()))
noncomputable def ref10_Block_15 (N : Nat) (round_12 : Int) (first_8 : (List UInt32)) (s_11 : (List UInt32)) : Option (Lo ((Int × Unit) × ((List UInt32) × (List UInt32) × Unit)) ((Unit) × ((List UInt32) × (List UInt32) × Unit)) ref10_Block_R) :=
 ref10_Block_16 N round_12 (0 : Int) first_8 s_11
noncomputable def ref10_Block_13 (N : Nat) (round_12 : Int) (i_13 : Int) (first_8 : (List UInt32)) (s_11 : (List UInt32)) : Option (Lo ((Int × Unit) × ((List UInt32) × (List UInt32) × Unit)) ((Unit) × ((List UInt32) × (List UInt32) × Unit)) ref10_Block_R) :=
 loopK N (fun y => ref10_Block_s14 N y.1.1 y.1.2.1 y.2.1 y.2.2.1) (fun (e : ((Int × Unit) × ((List UInt32) × (List UInt32) × Unit))) => ref10_Block_15 N e.1.1 e.2.1 e.2.2.1) ((round_12, i_13, ()), (first_8, s_11, ()))
noncomputable def ref10_Block_12 (N : Nat) (round_12 : Int) (first_8 : (List UInt32)) (s_11 : (List UInt32)) : Option (Lo ((Int × Unit) × ((List UInt32) × (List UInt32) × Unit)) ((Unit) × ((List UInt32) × (List UInt32) × Unit)) ref10_Block_R) :=
 ref10_Block_13 N round_12 (0 : Int) first_8 s_11
noncomputable def ref10_Block_10 (N : Nat) (round_12 : Int) (first_8 : (List UInt32)) (s_11 : (List UInt32)) : Option (Lo ((Int × Unit) × ((List UInt32) × (List UInt32) × Unit)) ((Unit) × ((List UInt32) × (List UInt32) × Unit)) ref10_Block_R) :=
 ref10_Block_12 N round_12 first_8 s_11
noncomputable def ref10_Block_s9 (N : Nat) (round_12 : Int) (first_8 : (List UInt32)) (s_11 : (List UInt32)) : Option (Lo ((Int × Unit) × ((List UInt32) × (List UInt32) × Unit)) ((Unit) × ((List UInt32) × (List UInt32) × Unit)) ref10_Block_R) :=
 bif (decide (round_12 < (10 : Int))) then
 ref10_Block_10 N round_12 first_8 s_11
 else
 some (.br ((()), (first_8, s_11, ())))
noncomputable def ref10_Block_s21 (N : Nat) (i_16 : Int) (first_8 : (List UInt32)) (s_11 : (List UInt32)) (out_15 : (List UInt8)) : Option (Lo ((Int × Unit) × ((List UInt32) × (List UInt32) × (List UInt8) × Unit)) ((Unit) × ((List UInt8) × Unit)) ref10_Block_R) :=
 bif (decide (i_16 < (16 : Int))) then
 bif inR i_16 16 then
 let x36 := (s_11.getD i_16.toNat (0 : UInt32))
 bif inR i_16 16 then
 let x37 := (first_8.getD i_16.toNat (0 : UInt32))
 bif room (out_15.length + ([(x36 + x37).toUInt8, (shr32 (x36 + x37) 8).toUInt8, (shr32 (x36 + x37) 16).toUInt8, (shr32 (x36 + x37) 24).toUInt8] : List UInt8).length) 1 then
 some (.go (((w64 (i_16 + (1 : Int))), ()), (first_8, s_11, (out_15 ++ ([(x36 + x37).toUInt8, (shr32 (x36 + x37) 8).toUInt8, (shr32 (x36 + x37) 16).toUInt8, (shr32 (x36 + x37) 24).toUInt8] : List UInt8)), ())))
 else none
 else none
 else none
 else
 some (.br ((()), (out_15, ())))
noncomputable def ref10_Block_22 (N : Nat) (out_15 : (List UInt8)) : Option ref10_Block_R :=
 some ((true, ()), (out_15, ()))
noncomputable def ref10_Block_20 (N : Nat) (i_16 : Int) (first_8 : (List UInt32)) (s_11 : (List UInt32)) (out_15 : (List UInt8)) : Option ref10_Block_R :=
 loopK N (fun y => ref10_Block_s21 N y.1.1 y.2.1 y.2.2.1 y.2.2.2.1) (fun (e : ((Unit) × ((List UInt8) × Unit))) => ref10_Block_22 N e.2.1) ((i_16, ()), (first_8, s_11, out_15, ()))
noncomputable def ref10_Block_19 (N : Nat) (first_8 : (List UInt32)) (s_11 : (List UInt32)) : Option ref10_Block_R :=
 ref10_Block_20 N (0 : Int) first_8 s_11 ([] : List UInt8)
noncomputable def ref10_Block_8 (N : Nat) (round_12 : Int) (first_8 : (List UInt32)) (s_11 : (List UInt32)) : Option ref10_Block_R :=
 loopK N (fun y => ref10_Block_s9 N y.1.1 y.2.1 y.2.2.1) (fun (e : ((Unit) × ((List UInt32) × (List UInt32) × Unit))) => ref10_Block_19 N e.2.1 e.2.2.1) ((round_12, ()), (first_8, s_11, ()))
noncomputable def ref10_Block_7 (N : Nat) (first_8 : (List UInt32)) : Option ref10_Block_R :=
 ref10_Block_8 N (0 : Int) first_8 first_8
noncomputable def ref10_Block_5 (N : Nat) (nonce_2 : (List UInt8)) (i_10 : Int) (first_8 : (List UInt32)) : Option ref10_Block_R :=
 loopK N (fun y => ref10_Block_s6 N y.1.1 y.1.2.1 y.2.1) (fun (e : ((Unit) × ((List UInt32) × Unit))) => ref10_Block_7 N e.2.1) ((nonce_2, i_10, ()), (first_8, ()))
noncomputable def ref10_Block_4 (N : Nat) (counter_1 : UInt32) (nonce_2 : (List UInt8)) (first_8 : (List UInt32)) : Option ref10_Block_R :=
 ref10_Block_5 N nonce_2 (0 : Int) (first_8.set 12 counter_1)
noncomputable def ref10_Block_2 (N : Nat) (key_0 : (List UInt8)) (counter_1 : UInt32) (nonce_2 : (List UInt8)) (i_9 : Int) (first_8 : (List UInt32)) : Option ref10_Block_R :=
 loopK N (fun y => ref10_Block_s3 N y.1.1 y.1.2.1 y.1.2.2.1 y.1.2.2.2.1 y.2.1) (fun (e : ((UInt32 × (List UInt8) × Unit) × ((List UInt32) × Unit))) => ref10_Block_4 N e.1.1 e.1.2.1 e.2.1) ((key_0, counter_1, nonce_2, i_9, ()), (first_8, ()))
noncomputable def ref10_Block_1 (N : Nat) (key_0 : (List UInt8)) (counter_1 : UInt32) (nonce_2 : (List UInt8)) (t_25 : Bool) : Option ref10_Block_R :=
 bif t_25 then
 some ((false, ()), (([] : List UInt8), ()))
 else
 ref10_Block_2 N key_0 counter_1 nonce_2 (0 : Int) (((((List.replicate 16 (0 : UInt32)).set 0 (1634760805 : UInt32)).set 1 (857760878 : UInt32)).set 2 (2036477234 : UInt32)).set 3 (1797285236 : UInt32))
noncomputable def ref10_Block (N : Nat) (key_0 : (List UInt8)) (counter_1 : UInt32) (nonce_2 : (List UInt8)) : Option ref10_Block_R :=
 bif (!(decide ((key_0.length : Int) = (32 : Int)))) then
 ref10_Block_1 N key_0 counter_1 nonce_2 true
 else
 ref10_Block_1 N key_0 counter_1 nonce_2 (!(decide ((nonce_2.length : Int) = (12 : Int))))
noncomputable def ref10_Block_C (N : Nat) : Ctx := ⟨112, G_tys, [(90, ref10_word_ctr N), (91, ref10_mix_ctr N)], G_globs, G_ifs⟩
noncomputable def ref10_Block_S0 : Spec := ⟨[.val (.sl .u8), .val .u32, .val (.sl .u8), .ref 0 (.arr 16 .u32), .val .i64], [(.box 94 (.arr 16 .u32), .pos 3)]⟩
noncomputable def ref10_Block_S1 : Spec := ⟨[.val (.sl .u8), .ref 0 (.arr 16 .u32), .val .i64], [(.box 94 (.arr 16 .u32), .pos 1)]⟩
noncomputable def ref10_Block_S2 : Spec := ⟨[.ref 0 (.arr 16 .u32), .ref 1 (.arr 16 .u32), .val .i64, .val .i64], [(.box 94 (.arr 16 .u32), .pos 0), (.box 94 (.arr 16 .u32), .pos 1)]⟩
noncomputable def ref10_Block_S3 : Spec := ⟨[.ref 0 (.arr 16 .u32), .ref 1 (.arr 16 .u32), .val .i64], [(.box 94 (.arr 16 .u32), .pos 0), (.box 94 (.arr 16 .u32), .pos 1)]⟩
noncomputable def ref10_Block_S4 : Spec := ⟨[.ref 0 (.arr 16 .u32), .ref 1 (.arr 16 .u32), .row 2, .val .i64], [(.box 94 (.arr 16 .u32), .pos 0), (.box 94 (.arr 16 .u32), .pos 1), (.row 5 .u8, .pos 2)]⟩
noncomputable def ref10_Block_S5 : Spec := ⟨[.row 0], [(.row 5 .u8, .pos 0)]⟩
noncomputable def ref10_Block_S6 : Spec := ⟨[.ref 0 (.arr 16 .u32), .ref 1 (.arr 16 .u32)], [(.box 94 (.arr 16 .u32), .pos 0), (.box 94 (.arr 16 .u32), .pos 1)]⟩
noncomputable def ref10_Block_S7 : Spec := ⟨[.ref 0 (.arr 16 .u32)], [(.box 94 (.arr 16 .u32), .pos 0)]⟩
noncomputable def ref10_Block_S8 : Spec := ⟨[.val .u32, .val (.sl .u8), .ref 0 (.arr 16 .u32)], [(.box 94 (.arr 16 .u32), .pos 2)]⟩
noncomputable def ref10_Block_S9 : Spec := ⟨[.val (.sl .u8), .val .u32, .val (.sl .u8), .val .bool], []⟩
noncomputable def ref10_Block_S10 : Spec := ⟨[.val (.sl .u8), .val .u32, .val (.sl .u8)], []⟩
noncomputable def ref10_Block_S11 : Spec := ⟨[.row 0, .val .bool], [(.row 5 .u8, .pos 0)]⟩
noncomputable def ref10_Block_K (_N : Nat) : XE → GS → Option ref10_Block_R := retK 0 [6, 7] [false, false] ref10_Block_S11
noncomputable def ref10_Block_L : List Code := (bodyOf (some Tryz.f77))
noncomputable def ref10_Block_L3 : List Code := (loopOf (ref10_Block_L[5]?))
noncomputable def ref10_Block_L6 : List Code := (loopOf (ref10_Block_L[8]?))
noncomputable def ref10_Block_L9 : List Code := (loopOf (ref10_Block_L[11]?))
noncomputable def ref10_Block_L11b : List Code := (blockOf (ref10_Block_L9[2]?))
noncomputable def ref10_Block_L14 : List Code := (loopOf (ref10_Block_L11b[1]?))
noncomputable def ref10_Block_L17 : List Code := (loopOf (ref10_Block_L11b[3]?))
noncomputable def ref10_Block_L21 : List Code := (loopOf (ref10_Block_L[14]?))
noncomputable def ref10_Block_K3 (N : Nat) : XE → GS → Option (Lo (((List UInt8) × UInt32 × (List UInt8) × Int × Unit) × ((List UInt32) × Unit)) ((UInt32 × (List UInt8) × Unit) × ((List UInt32) × Unit)) ref10_Block_R) := roundK (some 0) (fit 0 [0, 1, 2, 8, 9] ref10_Block_S0) (fit 0 [1, 2, 8] ref10_Block_S8) (ref10_Block_K N)
noncomputable def ref10_Block_K6 (N : Nat) : XE → GS → Option (Lo (((List UInt8) × Int × Unit) × ((List UInt32) × Unit)) ((Unit) × ((List UInt32) × Unit)) ref10_Block_R) := roundK (some 2) (fit 0 [2, 8, 10] ref10_Block_S1) (fit 0 [8] ref10_Block_S7) (ref10_Block_K N)
noncomputable def ref10_Block_K9 (N : Nat) : XE → GS → Option (Lo ((Int × Unit) × ((List UInt32) × (List UInt32) × Unit)) ((Unit) × ((List UInt32) × (List UInt32) × Unit)) ref10_Block_R) := roundK (some 4) (fit 0 [8, 11, 12] ref10_Block_S3) (fit 0 [8, 11] ref10_Block_S6) (ref10_Block_K N)
noncomputable def ref10_Block_K21 (N : Nat) : XE → GS → Option (Lo ((Int × Unit) × ((List UInt32) × (List UInt32) × (List UInt8) × Unit)) ((Unit) × ((List UInt8) × Unit)) ref10_Block_R) := roundK (some 10) (fit 0 [8, 11, 15, 16] ref10_Block_S4) (fit 0 [15] ref10_Block_S5) (ref10_Block_K N)
noncomputable def ref10_Block_K11 (N : Nat) : XE → GS → Option (Lo ((Int × Unit) × ((List UInt32) × (List UInt32) × Unit)) ((Unit) × ((List UInt32) × (List UInt32) × Unit)) ref10_Block_R) := blockK 5 (goK 0 [8, 11, 12] ref10_Block_S3 (fun y => ref10_Block_18 N y.1.1 y.2.1 y.2.2.1)) (ref10_Block_K9 N)
noncomputable def ref10_Block_K14 (N : Nat) : XE → GS → Option (Lo ((Int × Int × Unit) × ((List UInt32) × (List UInt32) × Unit)) ((Int × Unit) × ((List UInt32) × (List UInt32) × Unit)) (Lo ((Int × Unit) × ((List UInt32) × (List UInt32) × Unit)) ((Unit) × ((List UInt32) × (List UInt32) × Unit)) ref10_Block_R)) := roundK (some 6) (fit 0 [8, 11, 12, 13] ref10_Block_S2) (fit 0 [8, 11, 12] ref10_Block_S3) (ref10_Block_K11 N)
noncomputable def ref10_Block_K17 (N : Nat) : XE → GS → Option (Lo ((Int × Int × Unit) × ((List UInt32) × (List UInt32) × Unit)) ((Int × Unit) × ((List UInt32) × (List UInt32) × Unit)) (Lo ((Int × Unit) × ((List UInt32) × (List UInt32) × Unit)) ((Unit) × ((List UInt32) × (List UInt32) × Unit)) ref10_Block_R)) := roundK (some 8) (fit 0 [8, 11, 12, 14] ref10_Block_S2) (fit 0 [8, 11, 12] ref10_Block_S3) (ref10_Block_K11 N)
theorem ref10_Block_s3_b {E : Env} (N : Nat) (hb : Base Tryz.prog (ref10_Block_C N) E 0) : Blk Tryz.prog (ref10_Block_C N) E [0, 1, 2, 8, 9] ref10_Block_S0 (ref10_Block_L3.drop 0) (fun y => ref10_Block_s3 N y.1.1 y.1.2.1 y.1.2.2.1 y.1.2.2.2.1 y.2.1) (ref10_Block_K3 N) :=
 Blk.chunkAt hb 4 (X := (ref10_Block_K3 N .normal)) (NxOk.end (by kernel_rfl)) rfl (fun x => by kernel_rfl)
theorem ref10_Block_s6_b {E : Env} (N : Nat) (hb : Base Tryz.prog (ref10_Block_C N) E 0) : Blk Tryz.prog (ref10_Block_C N) E [2, 8, 10] ref10_Block_S1 (ref10_Block_L6.drop 0) (fun y => ref10_Block_s6 N y.1.1 y.1.2.1 y.2.1) (ref10_Block_K6 N) :=
 Blk.chunkAt hb 4 (X := (ref10_Block_K6 N .normal)) (NxOk.end (by kernel_rfl)) rfl (fun x => by kernel_rfl)
theorem ref10_Block_s14_b {E : Env} (N : Nat) (hb : Base Tryz.prog (ref10_Block_C N) E 0) : Blk Tryz.prog (ref10_Block_C N) E [8, 11, 12, 13] ref10_Block_S2 (ref10_Block_L14.drop 0) (fun y => ref10_Block_s14 N y.1.1 y.1.2.1 y.2.1 y.2.2.1) (ref10_Block_K14 N) :=
 Blk.chunkAt hb 4 (X := (ref10_Block_K14 N .normal)) (NxOk.end (by kernel_rfl)) rfl (fun x => by kernel_rfl)
theorem ref10_Block_s17_b {E : Env} (N : Nat) (hb : Base Tryz.prog (ref10_Block_C N) E 0) : Blk Tryz.prog (ref10_Block_C N) E [8, 11, 12, 14] ref10_Block_S2 (ref10_Block_L17.drop 0) (fun y => ref10_Block_s17 N y.1.1 y.1.2.1 y.2.1 y.2.2.1) (ref10_Block_K17 N) :=
 Blk.chunkAt hb 4 (X := (ref10_Block_K17 N .normal)) (NxOk.end (by kernel_rfl)) rfl (fun x => by kernel_rfl)
theorem ref10_Block_18_b {E : Env} (N : Nat) (hb : Base Tryz.prog (ref10_Block_C N) E 0) : Blk Tryz.prog (ref10_Block_C N) E [8, 11, 12] ref10_Block_S3 (ref10_Block_L9.drop 3) (fun y => ref10_Block_18 N y.1.1 y.2.1 y.2.2.1) (ref10_Block_K9 N) :=
 Blk.chunkAt hb 1 (X := (ref10_Block_K9 N .normal)) (NxOk.end (by kernel_rfl)) rfl (fun x => by kernel_rfl)
theorem ref10_Block_16_b {E : Env} (N : Nat) (hb : Base Tryz.prog (ref10_Block_C N) E 0) : Blk Tryz.prog (ref10_Block_C N) E [8, 11, 12, 14] ref10_Block_S2 (ref10_Block_L11b.drop 3) (fun y => ref10_Block_16 N y.1.1 y.1.2.1 y.2.1 y.2.2.1) (ref10_Block_K11 N) :=
 Blk.loopAt (Nf := N) (hns := [8, 11, 12, 14]) (ans := [8, 11, 12]) (hc := ref10_Block_S2) (ac := ref10_Block_S3) (bid := 8) (step := (fun y => ref10_Block_s17 N y.1.1 y.1.2.1 y.2.1 y.2.2.1)) (J := (fun e => (ref10_Block_K11 N .normal) (ref10_Block_S3.st [8, 11, 12] e))) hb (by kernel_rfl) (Blk.into (X := (ref10_Block_K11 N .normal)) (NxOk.end (by kernel_rfl)) (fun x => by kernel_rfl)) (ref10_Block_s17_b N hb) (fun x => by kernel_rfl)
theorem ref10_Block_15_b {E : Env} (N : Nat) (hb : Base Tryz.prog (ref10_Block_C N) E 0) : Blk Tryz.prog (ref10_Block_C N) E [8, 11, 12] ref10_Block_S3 (ref10_Block_L11b.drop 2) (fun y => ref10_Block_15 N y.1.1 y.2.1 y.2.2.1) (ref10_Block_K11 N) :=
 Blk.chunkAt hb 1 (X := (goK 0 [8, 11, 12, 14] ref10_Block_S2 (fun y => ref10_Block_16 N y.1.1 y.1.2.1 y.2.1 y.2.2.1))) (NxOk.go hb (ref10_Block_16_b N hb)) rfl (fun x => by kernel_rfl)
theorem ref10_Block_13_b {E : Env} (N : Nat) (hb : Base Tryz.prog (ref10_Block_C N) E 0) : Blk Tryz.prog (ref10_Block_C N) E [8, 11, 12, 13] ref10_Block_S2 (ref10_Block_L11b.drop 1) (fun y => ref10_Block_13 N y.1.1 y.1.2.1 y.2.1 y.2.2.1) (ref10_Block_K11 N) :=
 Blk.loopAt (Nf := N) (hns := [8, 11, 12, 13]) (ans := [8, 11, 12]) (hc := ref10_Block_S2) (ac := ref10_Block_S3) (bid := 6) (step := (fun y => ref10_Block_s14 N y.1.1 y.1.2.1 y.2.1 y.2.2.1)) (J := (fun e => (goK 0 [8, 11, 12] ref10_Block_S3 (fun y => ref10_Block_15 N y.1.1 y.2.1 y.2.2.1)) (ref10_Block_S3.st [8, 11, 12] e))) hb (by kernel_rfl) (Blk.into (X := (goK 0 [8, 11, 12] ref10_Block_S3 (fun y => ref10_Block_15 N y.1.1 y.2.1 y.2.2.1))) (NxOk.go hb (ref10_Block_15_b N hb)) (fun x => by kernel_rfl)) (ref10_Block_s14_b N hb) (fun x => by kernel_rfl)
theorem ref10_Block_12_b {E : Env} (N : Nat) (hb : Base Tryz.prog (ref10_Block_C N) E 0) : Blk Tryz.prog (ref10_Block_C N) E [8, 11, 12] ref10_Block_S3 (ref10_Block_L11b.drop 0) (fun y => ref10_Block_12 N y.1.1 y.2.1 y.2.2.1) (ref10_Block_K11 N) :=
 Blk.chunkAt hb 1 (X := (goK 0 [8, 11, 12, 13] ref10_Block_S2 (fun y => ref10_Block_13 N y.1.1 y.1.2.1 y.2.1 y.2.2.1))) (NxOk.go hb (ref10_Block_13_b N hb)) rfl (fun x => by kernel_rfl)
theorem ref10_Block_10_b {E : Env} (N : Nat) (hb : Base Tryz.prog (ref10_Block_C N) E 0) : Blk Tryz.prog (ref10_Block_C N) E [8, 11, 12] ref10_Block_S3 (ref10_Block_L9.drop 2) (fun y => ref10_Block_10 N y.1.1 y.2.1 y.2.2.1) (ref10_Block_K9 N) :=
 Blk.blockAt (bid := 5) (X := (goK 0 [8, 11, 12] ref10_Block_S3 (fun y => ref10_Block_18 N y.1.1 y.2.1 y.2.2.1))) (Y := (goK 0 [8, 11, 12] ref10_Block_S3 (fun y => ref10_Block_12 N y.1.1 y.2.1 y.2.2.1))) (by kernel_rfl) (NxOk.go hb (ref10_Block_18_b N hb)) (NxOk.go hb (ref10_Block_12_b N hb)) (fun x => by kernel_rfl)
theorem ref10_Block_s9_b {E : Env} (N : Nat) (hb : Base Tryz.prog (ref10_Block_C N) E 0) : Blk Tryz.prog (ref10_Block_C N) E [8, 11, 12] ref10_Block_S3 (ref10_Block_L9.drop 0) (fun y => ref10_Block_s9 N y.1.1 y.2.1 y.2.2.1) (ref10_Block_K9 N) :=
 Blk.chunkAt hb 2 (X := (goK 0 [8, 11, 12] ref10_Block_S3 (fun y => ref10_Block_10 N y.1.1 y.2.1 y.2.2.1))) (NxOk.go hb (ref10_Block_10_b N hb)) rfl (fun x => by kernel_rfl)
theorem ref10_Block_s21_b {E : Env} (N : Nat) (hb : Base Tryz.prog (ref10_Block_C N) E 0) : Blk Tryz.prog (ref10_Block_C N) E [8, 11, 15, 16] ref10_Block_S4 (ref10_Block_L21.drop 0) (fun y => ref10_Block_s21 N y.1.1 y.2.1 y.2.2.1 y.2.2.2.1) (ref10_Block_K21 N) :=
 Blk.chunkAt hb 4 (X := (ref10_Block_K21 N .normal)) (NxOk.end (by kernel_rfl)) rfl (fun x => by kernel_rfl)
theorem ref10_Block_22_b {E : Env} (N : Nat) (hb : Base Tryz.prog (ref10_Block_C N) E 0) : Blk Tryz.prog (ref10_Block_C N) E [15] ref10_Block_S5 (ref10_Block_L.drop 15) (fun y => ref10_Block_22 N y.2.1) (ref10_Block_K N) :=
 Blk.chunkAt hb 2 (X := (ref10_Block_K N .normal)) (NxOk.end (by kernel_rfl)) rfl (fun x => by kernel_rfl)
theorem ref10_Block_20_b {E : Env} (N : Nat) (hb : Base Tryz.prog (ref10_Block_C N) E 0) : Blk Tryz.prog (ref10_Block_C N) E [8, 11, 15, 16] ref10_Block_S4 (ref10_Block_L.drop 14) (fun y => ref10_Block_20 N y.1.1 y.2.1 y.2.2.1 y.2.2.2.1) (ref10_Block_K N) :=
 Blk.loopAt (Nf := N) (hns := [8, 11, 15, 16]) (ans := [15]) (hc := ref10_Block_S4) (ac := ref10_Block_S5) (bid := 10) (step := (fun y => ref10_Block_s21 N y.1.1 y.2.1 y.2.2.1 y.2.2.2.1)) (J := (fun e => (goK 0 [15] ref10_Block_S5 (fun y => ref10_Block_22 N y.2.1)) (ref10_Block_S5.st [15] e))) hb (by kernel_rfl) (Blk.into (X := (goK 0 [15] ref10_Block_S5 (fun y => ref10_Block_22 N y.2.1))) (NxOk.go hb (ref10_Block_22_b N hb)) (fun x => by kernel_rfl)) (ref10_Block_s21_b N hb) (fun x => by kernel_rfl)
theorem ref10_Block_19_b {E : Env} (N : Nat) (hb : Base Tryz.prog (ref10_Block_C N) E 0) : Blk Tryz.prog (ref10_Block_C N) E [8, 11] ref10_Block_S6 (ref10_Block_L.drop 12) (fun y => ref10_Block_19 N y.2.1 y.2.2.1) (ref10_Block_K N) :=
 Blk.chunkAt hb 2 (X := (goK 0 [8, 11, 15, 16] ref10_Block_S4 (fun y => ref10_Block_20 N y.1.1 y.2.1 y.2.2.1 y.2.2.2.1))) (NxOk.go hb (ref10_Block_20_b N hb)) rfl (fun x => by kernel_rfl)
theorem ref10_Block_8_b {E : Env} (N : Nat) (hb : Base Tryz.prog (ref10_Block_C N) E 0) : Blk Tryz.prog (ref10_Block_C N) E [8, 11, 12] ref10_Block_S3 (ref10_Block_L.drop 11) (fun y => ref10_Block_8 N y.1.1 y.2.1 y.2.2.1) (ref10_Block_K N) :=
 Blk.loopAt (Nf := N) (hns := [8, 11, 12]) (ans := [8, 11]) (hc := ref10_Block_S3) (ac := ref10_Block_S6) (bid := 4) (step := (fun y => ref10_Block_s9 N y.1.1 y.2.1 y.2.2.1)) (J := (fun e => (goK 0 [8, 11] ref10_Block_S6 (fun y => ref10_Block_19 N y.2.1 y.2.2.1)) (ref10_Block_S6.st [8, 11] e))) hb (by kernel_rfl) (Blk.into (X := (goK 0 [8, 11] ref10_Block_S6 (fun y => ref10_Block_19 N y.2.1 y.2.2.1))) (NxOk.go hb (ref10_Block_19_b N hb)) (fun x => by kernel_rfl)) (ref10_Block_s9_b N hb) (fun x => by kernel_rfl)
theorem ref10_Block_7_b {E : Env} (N : Nat) (hb : Base Tryz.prog (ref10_Block_C N) E 0) : Blk Tryz.prog (ref10_Block_C N) E [8] ref10_Block_S7 (ref10_Block_L.drop 9) (fun y => ref10_Block_7 N y.2.1) (ref10_Block_K N) :=
 Blk.chunkAt hb 2 (X := (goK 0 [8, 11, 12] ref10_Block_S3 (fun y => ref10_Block_8 N y.1.1 y.2.1 y.2.2.1))) (NxOk.go hb (ref10_Block_8_b N hb)) rfl (fun x => by kernel_rfl)
theorem ref10_Block_5_b {E : Env} (N : Nat) (hb : Base Tryz.prog (ref10_Block_C N) E 0) : Blk Tryz.prog (ref10_Block_C N) E [2, 8, 10] ref10_Block_S1 (ref10_Block_L.drop 8) (fun y => ref10_Block_5 N y.1.1 y.1.2.1 y.2.1) (ref10_Block_K N) :=
 Blk.loopAt (Nf := N) (hns := [2, 8, 10]) (ans := [8]) (hc := ref10_Block_S1) (ac := ref10_Block_S7) (bid := 2) (step := (fun y => ref10_Block_s6 N y.1.1 y.1.2.1 y.2.1)) (J := (fun e => (goK 0 [8] ref10_Block_S7 (fun y => ref10_Block_7 N y.2.1)) (ref10_Block_S7.st [8] e))) hb (by kernel_rfl) (Blk.into (X := (goK 0 [8] ref10_Block_S7 (fun y => ref10_Block_7 N y.2.1))) (NxOk.go hb (ref10_Block_7_b N hb)) (fun x => by kernel_rfl)) (ref10_Block_s6_b N hb) (fun x => by kernel_rfl)
theorem ref10_Block_4_b {E : Env} (N : Nat) (hb : Base Tryz.prog (ref10_Block_C N) E 0) : Blk Tryz.prog (ref10_Block_C N) E [1, 2, 8] ref10_Block_S8 (ref10_Block_L.drop 6) (fun y => ref10_Block_4 N y.1.1 y.1.2.1 y.2.1) (ref10_Block_K N) :=
 Blk.chunkAt hb 2 (X := (goK 0 [2, 8, 10] ref10_Block_S1 (fun y => ref10_Block_5 N y.1.1 y.1.2.1 y.2.1))) (NxOk.go hb (ref10_Block_5_b N hb)) rfl (fun x => by kernel_rfl)
theorem ref10_Block_2_b {E : Env} (N : Nat) (hb : Base Tryz.prog (ref10_Block_C N) E 0) : Blk Tryz.prog (ref10_Block_C N) E [0, 1, 2, 8, 9] ref10_Block_S0 (ref10_Block_L.drop 5) (fun y => ref10_Block_2 N y.1.1 y.1.2.1 y.1.2.2.1 y.1.2.2.2.1 y.2.1) (ref10_Block_K N) :=
 Blk.loopAt (Nf := N) (hns := [0, 1, 2, 8, 9]) (ans := [1, 2, 8]) (hc := ref10_Block_S0) (ac := ref10_Block_S8) (bid := 0) (step := (fun y => ref10_Block_s3 N y.1.1 y.1.2.1 y.1.2.2.1 y.1.2.2.2.1 y.2.1)) (J := (fun e => (goK 0 [1, 2, 8] ref10_Block_S8 (fun y => ref10_Block_4 N y.1.1 y.1.2.1 y.2.1)) (ref10_Block_S8.st [1, 2, 8] e))) hb (by kernel_rfl) (Blk.into (X := (goK 0 [1, 2, 8] ref10_Block_S8 (fun y => ref10_Block_4 N y.1.1 y.1.2.1 y.2.1))) (NxOk.go hb (ref10_Block_4_b N hb)) (fun x => by kernel_rfl)) (ref10_Block_s3_b N hb) (fun x => by kernel_rfl)
theorem ref10_Block_1_b {E : Env} (N : Nat) (hb : Base Tryz.prog (ref10_Block_C N) E 0) : Blk Tryz.prog (ref10_Block_C N) E [0, 1, 2, 25] ref10_Block_S9 (ref10_Block_L.drop 2) (fun y => ref10_Block_1 N y.1.1 y.1.2.1 y.1.2.2.1 y.1.2.2.2.1) (ref10_Block_K N) :=
 Blk.chunkAt hb 3 (X := (goK 0 [0, 1, 2, 8, 9] ref10_Block_S0 (fun y => ref10_Block_2 N y.1.1 y.1.2.1 y.1.2.2.1 y.1.2.2.2.1 y.2.1))) (NxOk.go hb (ref10_Block_2_b N hb)) rfl (fun x => by kernel_rfl)
theorem ref10_Block_b {E : Env} (N : Nat) (hb : Base Tryz.prog (ref10_Block_C N) E 0) : Blk Tryz.prog (ref10_Block_C N) E (List.range ref10_Block_S10.ks.length) ref10_Block_S10 (ref10_Block_L.drop 0) (fun y => ref10_Block N y.1.1 y.1.2.1 y.1.2.2.1) (ref10_Block_K N) :=
 Blk.chunkAt hb 2 (X := (goK 0 [0, 1, 2, 25] ref10_Block_S9 (fun y => ref10_Block_1 N y.1.1 y.1.2.1 y.1.2.2.1 y.1.2.2.2.1))) (NxOk.go hb (ref10_Block_1_b N hb)) rfl (fun x => by kernel_rfl)
noncomputable def ref10_Block_ctr (N : Nat) : Ctr := ⟨ref10_Block_S10, ref10_Block_S11.un [false, false], 0, (fun y => ref10_Block N y.1.1 y.1.2.1 y.1.2.2.1)⟩
theorem ref10_Block_ctrs (N : Nat) : CtrsOk Tryz.prog (ref10_Block_C N) := ctrs_of (Γ := ref10_Block_C N) G_ifs_ok (by
 intro p hp
 simp only [ref10_Block_C, List.mem_cons, List.not_mem_nil, or_false] at hp
 rcases hp with rfl | rfl
 · exact ref10_word_ok N
 · exact ref10_mix_ok N)
theorem ref10_Block_ok (N : Nat) : Ctr.ok Tryz.prog G_globs 77 (ref10_Block_ctr N) :=
 ctr_fn (Γ := ref10_Block_C N) (rfit := ref10_Block_S11) (bs := [false, false]) (res := [6, 7]) (by kernel_rfl) (tys_ok G_tys_ok) (ref10_Block_ctrs N) Tryz.func77 (by kernel_rfl) (by kernel_rfl) Tryz.ntmps77 (by kernel_rfl) (by kernel_rfl) (by kernel_rfl) (by kernel_rfl) (fun E hb => ref10_Block_b N hb)
/-! ipsecgate/ipsecgateref10.Xor -/
abbrev ref10_Xor_R : Type := ((Bool × Unit) × ((List UInt8) × Unit))
noncomputable def ref10_Xor_9 (N : Nat) (key_0 : (List UInt8)) (counter_1 : UInt32) (nonce_2 : (List UInt8)) (b_3 : (List UInt8)) (at_11 : Int) (i_14 : Int) (t_52 : Bool) (out_10 : (List UInt8)) (s_12 : (List UInt8)) : Option (Lo (((List UInt8) × UInt32 × (List UInt8) × (List UInt8) × Int × Int × Unit) × ((List UInt8) × (List UInt8) × Unit)) (((List UInt8) × UInt32 × (List UInt8) × (List UInt8) × Int × Unit) × ((List UInt8) × Unit)) (Lo (((List UInt8) × UInt32 × (List UInt8) × (List UInt8) × Int × Unit) × ((List UInt8) × Unit)) ((Unit) × ((List UInt8) × Unit)) ref10_Xor_R)) :=
 bif t_52 then
 bif inR i_14 out_10.length then
 let x14 := w64 (i_14 - at_11)
 bif inR x14 s_12.length then
 bif inR i_14 out_10.length then
 some (.go ((key_0, counter_1, nonce_2, b_3, at_11, (w64 (i_14 + (1 : Int))), ()), ((out_10.set i_14.toNat ((out_10.getD i_14.toNat (0 : UInt8)) ^^^ (s_12.getD x14.toNat (0 : UInt8)))), s_12, ())))
 else none
 else none
 else none
 else
 some (.br ((key_0, counter_1, nonce_2, b_3, at_11, ()), (out_10, ())))
noncomputable def ref10_Xor_s8 (N : Nat) (key_0 : (List UInt8)) (counter_1 : UInt32) (nonce_2 : (List UInt8)) (b_3 : (List UInt8)) (at_11 : Int) (i_14 : Int) (out_10 : (List UInt8)) (s_12 : (List UInt8)) : Option (Lo (((List UInt8) × UInt32 × (List UInt8) × (List UInt8) × Int × Int × Unit) × ((List UInt8) × (List UInt8) × Unit)) (((List UInt8) × UInt32 × (List UInt8) × (List UInt8) × Int × Unit) × ((List UInt8) × Unit)) (Lo (((List UInt8) × UInt32 × (List UInt8) × (List UInt8) × Int × Unit) × ((List UInt8) × Unit)) ((Unit) × ((List UInt8) × Unit)) ref10_Xor_R)) :=
 bif (decide (i_14 < (b_3.length : Int))) then
 ref10_Xor_9 N key_0 counter_1 nonce_2 b_3 at_11 i_14 (decide (i_14 < (w64 (at_11 + (64 : Int))))) out_10 s_12
 else
 ref10_Xor_9 N key_0 counter_1 nonce_2 b_3 at_11 i_14 false out_10 s_12
noncomputable def ref10_Xor_10 (N : Nat) (key_0 : (List UInt8)) (counter_1 : UInt32) (nonce_2 : (List UInt8)) (b_3 : (List UInt8)) (at_11 : Int) (out_10 : (List UInt8)) : Option (Lo (((List UInt8) × UInt32 × (List UInt8) × (List UInt8) × Int × Unit) × ((List UInt8) × Unit)) ((Unit) × ((List UInt8) × Unit)) ref10_Xor_R) :=
 some (.go ((key_0, counter_1, nonce_2, b_3, (w64 (at_11 + (64 : Int))), ()), (out_10, ())))
noncomputable def ref10_Xor_7 (N : Nat) (key_0 : (List UInt8)) (counter_1 : UInt32) (nonce_2 : (List UInt8)) (b_3 : (List UInt8)) (at_11 : Int) (i_14 : Int) (out_10 : (List UInt8)) (s_12 : (List UInt8)) : Option (Lo (((List UInt8) × UInt32 × (List UInt8) × (List UInt8) × Int × Unit) × ((List UInt8) × Unit)) ((Unit) × ((List UInt8) × Unit)) ref10_Xor_R) :=
 loopK N (fun y => ref10_Xor_s8 N y.1.1 y.1.2.1 y.1.2.2.1 y.1.2.2.2.1 y.1.2.2.2.2.1 y.1.2.2.2.2.2.1 y.2.1 y.2.2.1) (fun (e : (((List UInt8) × UInt32 × (List UInt8) × (List UInt8) × Int × Unit) × ((List UInt8) × Unit))) => ref10_Xor_10 N e.1.1 e.1.2.1 e.1.2.2.1 e.1.2.2.2.1 e.1.2.2.2.2.1 e.2.1) ((key_0, counter_1, nonce_2, b_3, at_11, i_14, ()), (out_10, s_12, ()))
noncomputable def ref10_Xor_6 (N : Nat) (key_0 : (List UInt8)) (counter_1 : UInt32) (nonce_2 : (List UInt8)) (b_3 : (List UInt8)) (at_11 : Int) (out_10 : (List UInt8)) : Option (Lo (((List UInt8) × UInt32 × (List UInt8) × (List UInt8) × Int × Unit) × ((List UInt8) × Unit)) ((Unit) × ((List UInt8) × Unit)) ref10_Xor_R) :=
 Option.bind (ref10_Block N key_0 (counter_1 + (iu32 (w64 (at_11.tdiv (64 : Int))))) nonce_2) fun y8 =>
 ref10_Xor_7 N key_0 counter_1 nonce_2 b_3 at_11 at_11 out_10 y8.2.1
noncomputable def ref10_Xor_4 (N : Nat) (key_0 : (List UInt8)) (counter_1 : UInt32) (nonce_2 : (List UInt8)) (b_3 : (List UInt8)) (at_11 : Int) (out_10 : (List UInt8)) : Option (Lo (((List UInt8) × UInt32 × (List UInt8) × (List UInt8) × Int × Unit) × ((List UInt8) × Unit)) ((Unit) × ((List UInt8) × Unit)) ref10_Xor_R) :=
 ref10_Xor_6 N key_0 counter_1 nonce_2 b_3 at_11 out_10
noncomputable def ref10_Xor_s3 (N : Nat) (key_0 : (List UInt8)) (counter_1 : UInt32) (nonce_2 : (List UInt8)) (b_3 : (List UInt8)) (at_11 : Int) (out_10 : (List UInt8)) : Option (Lo (((List UInt8) × UInt32 × (List UInt8) × (List UInt8) × Int × Unit) × ((List UInt8) × Unit)) ((Unit) × ((List UInt8) × Unit)) ref10_Xor_R) :=
 bif (decide (at_11 < (b_3.length : Int))) then
 ref10_Xor_4 N key_0 counter_1 nonce_2 b_3 at_11 out_10
 else
 some (.br ((()), (out_10, ())))
noncomputable def ref10_Xor_11 (N : Nat) (out_10 : (List UInt8)) : Option ref10_Xor_R :=
 some ((true, ()), (out_10, ()))
noncomputable def ref10_Xor_2 (N : Nat) (key_0 : (List UInt8)) (counter_1 : UInt32) (nonce_2 : (List UInt8)) (b_3 : (List UInt8)) (at_11 : Int) (out_10 : (List UInt8)) : Option ref10_Xor_R :=
 loopK N (fun y => ref10_Xor_s3 N y.1.1 y.1.2.1 y.1.2.2.1 y.1.2.2.2.1 y.1.2.2.2.2.1 y.2.1) (fun (e : ((Unit) × ((List UInt8) × Unit))) => ref10_Xor_11 N e.2.1) ((key_0, counter_1, nonce_2, b_3, at_11, ()), (out_10, ()))
noncomputable def ref10_Xor_1 (N : Nat) (key_0 : (List UInt8)) (counter_1 : UInt32) (nonce_2 : (List UInt8)) (b_3 : (List UInt8)) (t_22 : Bool) : Option ref10_Xor_R :=
 bif t_22 then
 some ((false, ()), (([] : List UInt8), ()))
 else
 bif room (0 + b_3.length) 1 then
 ref10_Xor_2 N key_0 counter_1 nonce_2 b_3 (0 : Int) b_3
 else none
noncomputable def ref10_Xor (N : Nat) (key_0 : (List UInt8)) (counter_1 : UInt32) (nonce_2 : (List UInt8)) (b_3 : (List UInt8)) : Option ref10_Xor_R :=
 bif (!(decide ((key_0.length : Int) = (32 : Int)))) then
 ref10_Xor_1 N key_0 counter_1 nonce_2 b_3 true
 else
 ref10_Xor_1 N key_0 counter_1 nonce_2 b_3 (!(decide ((nonce_2.length : Int) = (12 : Int))))
noncomputable def ref10_Xor_C (N : Nat) : Ctx := ⟨68, G_tys, [(77, ref10_Block_ctr N)], G_globs, G_ifs⟩
noncomputable def ref10_Xor_S0 : Spec := ⟨[.val (.sl .u8), .val .u32, .val (.sl .u8), .val (.sl .u8), .row 0, .val .i64, .row 1, .val .i64, .val .bool], [(.row 5 .u8, .pos 4), (.row 5 .u8, .pos 6)]⟩
noncomputable def ref10_Xor_S1 : Spec := ⟨[.val (.sl .u8), .val .u32, .val (.sl .u8), .val (.sl .u8), .row 0, .val .i64, .row 1, .val .i64], [(.row 5 .u8, .pos 4), (.row 5 .u8, .pos 6)]⟩
noncomputable def ref10_Xor_S2 : Spec := ⟨[.val (.sl .u8), .val .u32, .val (.sl .u8), .val (.sl .u8), .row 0, .val .i64], [(.row 5 .u8, .pos 4)]⟩
noncomputable def ref10_Xor_S3 : Spec := ⟨[.row 0], [(.row 5 .u8, .pos 0)]⟩
noncomputable def ref10_Xor_S4 : Spec := ⟨[.val (.sl .u8), .val .u32, .val (.sl .u8), .val (.sl .u8), .val .bool], []⟩
noncomputable def ref10_Xor_S5 : Spec := ⟨[.val (.sl .u8), .val .u32, .val (.sl .u8), .val (.sl .u8)], []⟩
noncomputable def ref10_Xor_S6 : Spec := ⟨[.row 0, .val .bool], [(.row 5 .u8, .pos 0)]⟩
noncomputable def ref10_Xor_K (_N : Nat) : XE → GS → Option ref10_Xor_R := retK 0 [8, 9] [false, false] ref10_Xor_S6
noncomputable def ref10_Xor_L : List Code := (bodyOf (some Tryz.f67))
noncomputable def ref10_Xor_L3 : List Code := (loopOf (ref10_Xor_L[5]?))
noncomputable def ref10_Xor_L5b : List Code := (blockOf (ref10_Xor_L3[2]?))
noncomputable def ref10_Xor_L8 : List Code := (loopOf (ref10_Xor_L5b[2]?))
noncomputable def ref10_Xor_K3 (N : Nat) : XE → GS → Option (Lo (((List UInt8) × UInt32 × (List UInt8) × (List UInt8) × Int × Unit) × ((List UInt8) × Unit)) ((Unit) × ((List UInt8) × Unit)) ref10_Xor_R) := roundK (some 0) (fit 0 [0, 1, 2, 3, 10, 11] ref10_Xor_S2) (fit 0 [10] ref10_Xor_S3) (ref10_Xor_K N)
noncomputable def ref10_Xor_K5 (N : Nat) : XE → GS → Option (Lo (((List UInt8) × UInt32 × (List UInt8) × (List UInt8) × Int × Unit) × ((List UInt8) × Unit)) ((Unit) × ((List UInt8) × Unit)) ref10_Xor_R) := blockK 1 (goK 0 [0, 1, 2, 3, 10, 11] ref10_Xor_S2 (fun y => ref10_Xor_10 N y.1.1 y.1.2.1 y.1.2.2.1 y.1.2.2.2.1 y.1.2.2.2.2.1 y.2.1)) (ref10_Xor_K3 N)
noncomputable def ref10_Xor_K8 (N : Nat) : XE → GS → Option (Lo (((List UInt8) × UInt32 × (List UInt8) × (List UInt8) × Int × Int × Unit) × ((List UInt8) × (List UInt8) × Unit)) (((List UInt8) × UInt32 × (List UInt8) × (List UInt8) × Int × Unit) × ((List UInt8) × Unit)) (Lo (((List UInt8) × UInt32 × (List UInt8) × (List UInt8) × Int × Unit) × ((List UInt8) × Unit)) ((Unit) × ((List UInt8) × Unit)) ref10_Xor_R)) := roundK (some 2) (fit 0 [0, 1, 2, 3, 10, 11, 12, 14] ref10_Xor_S1) (fit 0 [0, 1, 2, 3, 10, 11] ref10_Xor_S2) (ref10_Xor_K5 N)
theorem ref10_Xor_9_b {E : Env} (N : Nat) (hb : Base Tryz.prog (ref10_Xor_C N) E 0) : Blk Tryz.prog (ref10_Xor_C N) E [0, 1, 2, 3, 10, 11, 12, 14, 52] ref10_Xor_S0 (ref10_Xor_L8.drop 1) (fun y => ref10_Xor_9 N y.1.1 y.1.2.1 y.1.2.2.1 y.1.2.2.2.1 y.1.2.2.2.2.1 y.1.2.2.2.2.2.1 y.1.2.2.2.2.2.2.1 y.2.1 y.2.2.1) (ref10_Xor_K8 N) :=
 Blk.chunkAt hb 3 (X := (ref10_Xor_K8 N .normal)) (NxOk.end (by kernel_rfl)) rfl (fun x => by kernel_rfl)
theorem ref10_Xor_s8_b {E : Env} (N : Nat) (hb : Base Tryz.prog (ref10_Xor_C N) E 0) : Blk Tryz.prog (ref10_Xor_C N) E [0, 1, 2, 3, 10, 11, 12, 14] ref10_Xor_S1 (ref10_Xor_L8.drop 0) (fun y => ref10_Xor_s8 N y.1.1 y.1.2.1 y.1.2.2.1 y.1.2.2.2.1 y.1.2.2.2.2.1 y.1.2.2.2.2.2.1 y.2.1 y.2.2.1) (ref10_Xor_K8 N) :=
 Blk.chunkAt hb 1 (X := (goK 0 [0, 1, 2, 3, 10, 11, 12, 14, 52] ref10_Xor_S0 (fun y => ref10_Xor_9 N y.1.1 y.1.2.1 y.1.2.2.1 y.1.2.2.2.1 y.1.2.2.2.2.1 y.1.2.2.2.2.2.1 y.1.2.2.2.2.2.2.1 y.2.1 y.2.2.1))) (NxOk.go hb (ref10_Xor_9_b N hb)) rfl (fun x => by kernel_rfl)
theorem ref10_Xor_10_b {E : Env} (N : Nat) (hb : Base Tryz.prog (ref10_Xor_C N) E 0) : Blk Tryz.prog (ref10_Xor_C N) E [0, 1, 2, 3, 10, 11] ref10_Xor_S2 (ref10_Xor_L3.drop 3) (fun y => ref10_Xor_10 N y.1.1 y.1.2.1 y.1.2.2.1 y.1.2.2.2.1 y.1.2.2.2.2.1 y.2.1) (ref10_Xor_K3 N) :=
 Blk.chunkAt hb 1 (X := (ref10_Xor_K3 N .normal)) (NxOk.end (by kernel_rfl)) rfl (fun x => by kernel_rfl)
theorem ref10_Xor_7_b {E : Env} (N : Nat) (hb : Base Tryz.prog (ref10_Xor_C N) E 0) : Blk Tryz.prog (ref10_Xor_C N) E [0, 1, 2, 3, 10, 11, 12, 14] ref10_Xor_S1 (ref10_Xor_L5b.drop 2) (fun y => ref10_Xor_7 N y.1.1 y.1.2.1 y.1.2.2.1 y.1.2.2.2.1 y.1.2.2.2.2.1 y.1.2.2.2.2.2.1 y.2.1 y.2.2.1) (ref10_Xor_K5 N) :=
 Blk.loopAt (Nf := N) (hns := [0, 1, 2, 3, 10, 11, 12, 14]) (ans := [0, 1, 2, 3, 10, 11]) (hc := ref10_Xor_S1) (ac := ref10_Xor_S2) (bid := 2) (step := (fun y => ref10_Xor_s8 N y.1.1 y.1.2.1 y.1.2.2.1 y.1.2.2.2.1 y.1.2.2.2.2.1 y.1.2.2.2.2.2.1 y.2.1 y.2.2.1)) (J := (fun e => (ref10_Xor_K5 N .normal) (ref10_Xor_S2.st [0, 1, 2, 3, 10, 11] e))) hb (by kernel_rfl) (Blk.into (X := (ref10_Xor_K5 N .normal)) (NxOk.end (by kernel_rfl)) (fun x => by kernel_rfl)) (ref10_Xor_s8_b N hb) (fun x => by kernel_rfl)
theorem ref10_Xor_6_b {E : Env} (N : Nat) (hb : Base Tryz.prog (ref10_Xor_C N) E 0) : Blk Tryz.prog (ref10_Xor_C N) E [0, 1, 2, 3, 10, 11] ref10_Xor_S2 (ref10_Xor_L5b.drop 0) (fun y => ref10_Xor_6 N y.1.1 y.1.2.1 y.1.2.2.1 y.1.2.2.2.1 y.1.2.2.2.2.1 y.2.1) (ref10_Xor_K5 N) :=
 Blk.chunkAt hb 2 (X := (goK 0 [0, 1, 2, 3, 10, 11, 12, 14] ref10_Xor_S1 (fun y => ref10_Xor_7 N y.1.1 y.1.2.1 y.1.2.2.1 y.1.2.2.2.1 y.1.2.2.2.2.1 y.1.2.2.2.2.2.1 y.2.1 y.2.2.1))) (NxOk.go hb (ref10_Xor_7_b N hb)) rfl (fun x => by kernel_rfl)
theorem ref10_Xor_4_b {E : Env} (N : Nat) (hb : Base Tryz.prog (ref10_Xor_C N) E 0) : Blk Tryz.prog (ref10_Xor_C N) E [0, 1, 2, 3, 10, 11] ref10_Xor_S2 (ref10_Xor_L3.drop 2) (fun y => ref10_Xor_4 N y.1.1 y.1.2.1 y.1.2.2.1 y.1.2.2.2.1 y.1.2.2.2.2.1 y.2.1) (ref10_Xor_K3 N) :=
 Blk.blockAt (bid := 1) (X := (goK 0 [0, 1, 2, 3, 10, 11] ref10_Xor_S2 (fun y => ref10_Xor_10 N y.1.1 y.1.2.1 y.1.2.2.1 y.1.2.2.2.1 y.1.2.2.2.2.1 y.2.1))) (Y := (goK 0 [0, 1, 2, 3, 10, 11] ref10_Xor_S2 (fun y => ref10_Xor_6 N y.1.1 y.1.2.1 y.1.2.2.1 y.1.2.2.2.1 y.1.2.2.2.2.1 y.2.1))) (by kernel_rfl) (NxOk.go hb (ref10_Xor_10_b N hb)) (NxOk.go hb (ref10_Xor_6_b N hb)) (fun x => by kernel_rfl)
theorem ref10_Xor_s3_b {E : Env} (N : Nat) (hb : Base Tryz.prog (ref10_Xor_C N) E 0) : Blk Tryz.prog (ref10_Xor_C N) E [0, 1, 2, 3, 10, 11] ref10_Xor_S2 (ref10_Xor_L3.drop 0) (fun y => ref10_Xor_s3 N y.1.1 y.1.2.1 y.1.2.2.1 y.1.2.2.2.1 y.1.2.2.2.2.1 y.2.1) (ref10_Xor_K3 N) :=
 Blk.chunkAt hb 2 (X := (goK 0 [0, 1, 2, 3, 10, 11] ref10_Xor_S2 (fun y => ref10_Xor_4 N y.1.1 y.1.2.1 y.1.2.2.1 y.1.2.2.2.1 y.1.2.2.2.2.1 y.2.1))) (NxOk.go hb (ref10_Xor_4_b N hb)) rfl (fun x => by kernel_rfl)
theorem ref10_Xor_11_b {E : Env} (N : Nat) (hb : Base Tryz.prog (ref10_Xor_C N) E 0) : Blk Tryz.prog (ref10_Xor_C N) E [10] ref10_Xor_S3 (ref10_Xor_L.drop 6) (fun y => ref10_Xor_11 N y.2.1) (ref10_Xor_K N) :=
 Blk.chunkAt hb 2 (X := (ref10_Xor_K N .normal)) (NxOk.end (by kernel_rfl)) rfl (fun x => by kernel_rfl)
theorem ref10_Xor_2_b {E : Env} (N : Nat) (hb : Base Tryz.prog (ref10_Xor_C N) E 0) : Blk Tryz.prog (ref10_Xor_C N) E [0, 1, 2, 3, 10, 11] ref10_Xor_S2 (ref10_Xor_L.drop 5) (fun y => ref10_Xor_2 N y.1.1 y.1.2.1 y.1.2.2.1 y.1.2.2.2.1 y.1.2.2.2.2.1 y.2.1) (ref10_Xor_K N) :=
 Blk.loopAt (Nf := N) (hns := [0, 1, 2, 3, 10, 11]) (ans := [10]) (hc := ref10_Xor_S2) (ac := ref10_Xor_S3) (bid := 0) (step := (fun y => ref10_Xor_s3 N y.1.1 y.1.2.1 y.1.2.2.1 y.1.2.2.2.1 y.1.2.2.2.2.1 y.2.1)) (J := (fun e => (goK 0 [10] ref10_Xor_S3 (fun y => ref10_Xor_11 N y.2.1)) (ref10_Xor_S3.st [10] e))) hb (by kernel_rfl) (Blk.into (X := (goK 0 [10] ref10_Xor_S3 (fun y => ref10_Xor_11 N y.2.1))) (NxOk.go hb (ref10_Xor_11_b N hb)) (fun x => by kernel_rfl)) (ref10_Xor_s3_b N hb) (fun x => by kernel_rfl)
theorem ref10_Xor_1_b {E : Env} (N : Nat) (hb : Base Tryz.prog (ref10_Xor_C N) E 0) : Blk Tryz.prog (ref10_Xor_C N) E [0, 1, 2, 3, 22] ref10_Xor_S4 (ref10_Xor_L.drop 2) (fun y => ref10_Xor_1 N y.1.1 y.1.2.1 y.1.2.2.1 y.1.2.2.2.1 y.1.2.2.2.2.1) (ref10_Xor_K N) :=
 Blk.chunkAt hb 3 (X := (goK 0 [0, 1, 2, 3, 10, 11] ref10_Xor_S2 (fun y => ref10_Xor_2 N y.1.1 y.1.2.1 y.1.2.2.1 y.1.2.2.2.1 y.1.2.2.2.2.1 y.2.1))) (NxOk.go hb (ref10_Xor_2_b N hb)) rfl (fun x => by kernel_rfl)
theorem ref10_Xor_b {E : Env} (N : Nat) (hb : Base Tryz.prog (ref10_Xor_C N) E 0) : Blk Tryz.prog (ref10_Xor_C N) E (List.range ref10_Xor_S5.ks.length) ref10_Xor_S5 (ref10_Xor_L.drop 0) (fun y => ref10_Xor N y.1.1 y.1.2.1 y.1.2.2.1 y.1.2.2.2.1) (ref10_Xor_K N) :=
 Blk.chunkAt hb 2 (X := (goK 0 [0, 1, 2, 3, 22] ref10_Xor_S4 (fun y => ref10_Xor_1 N y.1.1 y.1.2.1 y.1.2.2.1 y.1.2.2.2.1 y.1.2.2.2.2.1))) (NxOk.go hb (ref10_Xor_1_b N hb)) rfl (fun x => by kernel_rfl)
noncomputable def ref10_Xor_ctr (N : Nat) : Ctr := ⟨ref10_Xor_S5, ref10_Xor_S6.un [false, false], 0, (fun y => ref10_Xor N y.1.1 y.1.2.1 y.1.2.2.1 y.1.2.2.2.1)⟩
theorem ref10_Xor_ctrs (N : Nat) : CtrsOk Tryz.prog (ref10_Xor_C N) := ctrs_of (Γ := ref10_Xor_C N) G_ifs_ok (by
 intro p hp
 simp only [ref10_Xor_C, List.mem_cons, List.not_mem_nil, or_false] at hp
 rcases hp with rfl
 · exact ref10_Block_ok N)
theorem ref10_Xor_ok (N : Nat) : Ctr.ok Tryz.prog G_globs 67 (ref10_Xor_ctr N) :=
 ctr_fn (Γ := ref10_Xor_C N) (rfit := ref10_Xor_S6) (bs := [false, false]) (res := [8, 9]) (by kernel_rfl) (tys_ok G_tys_ok) (ref10_Xor_ctrs N) Tryz.func67 (by kernel_rfl) (by kernel_rfl) Tryz.ntmps67 (by kernel_rfl) (by kernel_rfl) (by kernel_rfl) (by kernel_rfl) (fun E hb => ref10_Xor_b N hb)
/-! ipsecgate/ipsecgateref12.pad -/
abbrev ref12_pad_R : Type := ((Unit) × ((List UInt8) × Unit))
noncomputable def ref12_pad_s2 (N : Nat) (out_3 : (List UInt8)) : Option (Lo ((Unit) × ((List UInt8) × Unit)) ((Unit) × ((List UInt8) × Unit)) ref12_pad_R) :=
 bif (!(decide (((out_3.length : Int).tmod (16 : Int)) = (0 : Int)))) then
 bif room (out_3.length + ([(0 : UInt8)] : List UInt8).length) 1 then
 some (.go ((()), ((out_3 ++ ([(0 : UInt8)] : List UInt8)), ())))
 else none
 else
 some (.br ((()), (out_3, ())))
noncomputable def ref12_pad_3 (N : Nat) (out_3 : (List UInt8)) : Option ref12_pad_R :=
 some ((()), (out_3, ()))
noncomputable def ref12_pad_1 (N : Nat) (out_3 : (List UInt8)) : Option ref12_pad_R :=
 loopK N (fun y => ref12_pad_s2 N y.2.1) (fun (e : ((Unit) × ((List UInt8) × Unit))) => ref12_pad_3 N e.2.1) ((()), (out_3, ()))
noncomputable def ref12_pad (N : Nat) (b_0 : (List UInt8)) : Option ref12_pad_R :=
 bif room (0 + b_0.length) 1 then
 ref12_pad_1 N b_0
 else none
noncomputable def ref12_pad_C (N : Nat) : Ctx := ⟨14, G_tys, [], G_globs, G_ifs⟩
noncomputable def ref12_pad_S0 : Spec := ⟨[.row 0], [(.row 5 .u8, .pos 0)]⟩
noncomputable def ref12_pad_S1 : Spec := ⟨[.val (.sl .u8)], []⟩
noncomputable def ref12_pad_K (_N : Nat) : XE → GS → Option ref12_pad_R := retK 0 [2] [false] ref12_pad_S0
noncomputable def ref12_pad_L : List Code := (bodyOf (some Tryz.f78))
noncomputable def ref12_pad_L2 : List Code := (loopOf (ref12_pad_L[2]?))
noncomputable def ref12_pad_K2 (N : Nat) : XE → GS → Option (Lo ((Unit) × ((List UInt8) × Unit)) ((Unit) × ((List UInt8) × Unit)) ref12_pad_R) := roundK (some 0) (fit 0 [3] ref12_pad_S0) (fit 0 [3] ref12_pad_S0) (ref12_pad_K N)
theorem ref12_pad_s2_b {E : Env} (N : Nat) (hb : Base Tryz.prog (ref12_pad_C N) E 0) : Blk Tryz.prog (ref12_pad_C N) E [3] ref12_pad_S0 (ref12_pad_L2.drop 0) (fun y => ref12_pad_s2 N y.2.1) (ref12_pad_K2 N) :=
 Blk.chunkAt hb 3 (X := (ref12_pad_K2 N .normal)) (NxOk.end (by kernel_rfl)) rfl (fun x => by kernel_rfl)
theorem ref12_pad_3_b {E : Env} (N : Nat) (hb : Base Tryz.prog (ref12_pad_C N) E 0) : Blk Tryz.prog (ref12_pad_C N) E [3] ref12_pad_S0 (ref12_pad_L.drop 3) (fun y => ref12_pad_3 N y.2.1) (ref12_pad_K N) :=
 Blk.chunkAt hb 2 (X := (ref12_pad_K N .normal)) (NxOk.end (by kernel_rfl)) rfl (fun x => by kernel_rfl)
theorem ref12_pad_1_b {E : Env} (N : Nat) (hb : Base Tryz.prog (ref12_pad_C N) E 0) : Blk Tryz.prog (ref12_pad_C N) E [3] ref12_pad_S0 (ref12_pad_L.drop 2) (fun y => ref12_pad_1 N y.2.1) (ref12_pad_K N) :=
 Blk.loopAt (Nf := N) (hns := [3]) (ans := [3]) (hc := ref12_pad_S0) (ac := ref12_pad_S0) (bid := 0) (step := (fun y => ref12_pad_s2 N y.2.1)) (J := (fun e => (goK 0 [3] ref12_pad_S0 (fun y => ref12_pad_3 N y.2.1)) (ref12_pad_S0.st [3] e))) hb (by kernel_rfl) (Blk.into (X := (goK 0 [3] ref12_pad_S0 (fun y => ref12_pad_3 N y.2.1))) (NxOk.go hb (ref12_pad_3_b N hb)) (fun x => by kernel_rfl)) (ref12_pad_s2_b N hb) (fun x => by kernel_rfl)
theorem ref12_pad_b {E : Env} (N : Nat) (hb : Base Tryz.prog (ref12_pad_C N) E 0) : Blk Tryz.prog (ref12_pad_C N) E (List.range ref12_pad_S1.ks.length) ref12_pad_S1 (ref12_pad_L.drop 0) (fun y => ref12_pad N y.1.1) (ref12_pad_K N) :=
 Blk.chunkAt hb 2 (X := (goK 0 [3] ref12_pad_S0 (fun y => ref12_pad_1 N y.2.1))) (NxOk.go hb (ref12_pad_1_b N hb)) rfl (fun x => by kernel_rfl)
noncomputable def ref12_pad_ctr (N : Nat) : Ctr := ⟨ref12_pad_S1, ref12_pad_S0.un [false], 0, (fun y => ref12_pad N y.1.1)⟩
theorem ref12_pad_ctrs (N : Nat) : CtrsOk Tryz.prog (ref12_pad_C N) := ctrs_nil G_ifs_ok rfl
theorem ref12_pad_ok (N : Nat) : Ctr.ok Tryz.prog G_globs 78 (ref12_pad_ctr N) :=
 ctr_fn (Γ := ref12_pad_C N) (rfit := ref12_pad_S0) (bs := [false]) (res := [2]) (by kernel_rfl) (tys_ok G_tys_ok) (ref12_pad_ctrs N) Tryz.func78 (by kernel_rfl) (by kernel_rfl) Tryz.ntmps78 (by kernel_rfl) (by kernel_rfl) (by kernel_rfl) (by kernel_rfl) (fun E hb => ref12_pad_b N hb)
/-! ipsecgate/ipsecgateref12.little -/
abbrev ref12_little_R : Type := ((Unit) × ((List UInt8) × Unit))
noncomputable def ref12_little_s2 (N : Nat) (v_1 : UInt64) (i_5 : Int) (b_0 : (List UInt8)) : Option (Lo ((UInt64 × Int × Unit) × ((List UInt8) × Unit)) ((Unit) × ((List UInt8) × Unit)) ref12_little_R) :=
 bif (decide (i_5 < (8 : Int))) then
 let x4 := shr64 v_1 (iu64 (w64 ((8 : Int) * i_5))).toNat
 bif room (b_0.length + ([x4.toUInt8] : List UInt8).length) 1 then
 some (.go ((v_1, (w64 (i_5 + (1 : Int))), ()), ((b_0 ++ ([x4.toUInt8] : List UInt8)), ())))
 else none
 else
 some (.br ((()), (b_0, ())))
noncomputable def ref12_little_3 (N : Nat) (b_0 : (List UInt8)) : Option ref12_little_R :=
 some ((()), (b_0, ()))
noncomputable def ref12_little_1 (N : Nat) (v_1 : UInt64) (i_5 : Int) (b_0 : (List UInt8)) : Option ref12_little_R :=
 loopK N (fun y => ref12_little_s2 N y.1.1 y.1.2.1 y.2.1) (fun (e : ((Unit) × ((List UInt8) × Unit))) => ref12_little_3 N e.2.1) ((v_1, i_5, ()), (b_0, ()))
noncomputable def ref12_little (N : Nat) (v_1 : UInt64) (b_0 : (List UInt8)) : Option ref12_little_R :=
 ref12_little_1 N v_1 (0 : Int) b_0
noncomputable def ref12_little_C (N : Nat) : Ctx := ⟨20, G_tys, [], G_globs, G_ifs⟩
noncomputable def ref12_little_S0 : Spec := ⟨[.row 0, .val .u64, .val .i64], [(.row 5 .u8, .pos 0)]⟩
noncomputable def ref12_little_S1 : Spec := ⟨[.row 0], [(.row 5 .u8, .pos 0)]⟩
noncomputable def ref12_little_S2 : Spec := ⟨[.row 0, .val .u64], [(.row 5 .u8, .pos 0)]⟩
noncomputable def ref12_little_K (_N : Nat) : XE → GS → Option ref12_little_R := retK 0 [4] [false] ref12_little_S1
noncomputable def ref12_little_L : List Code := (bodyOf (some Tryz.f79))
noncomputable def ref12_little_L2 : List Code := (loopOf (ref12_little_L[2]?))
noncomputable def ref12_little_K2 (N : Nat) : XE → GS → Option (Lo ((UInt64 × Int × Unit) × ((List UInt8) × Unit)) ((Unit) × ((List UInt8) × Unit)) ref12_little_R) := roundK (some 0) (fit 0 [0, 1, 5] ref12_little_S0) (fit 0 [0] ref12_little_S1) (ref12_little_K N)
theorem ref12_little_s2_b {E : Env} (N : Nat) (hb : Base Tryz.prog (ref12_little_C N) E 0) : Blk Tryz.prog (ref12_little_C N) E [0, 1, 5] ref12_little_S0 (ref12_little_L2.drop 0) (fun y => ref12_little_s2 N y.1.1 y.1.2.1 y.2.1) (ref12_little_K2 N) :=
 Blk.chunkAt hb 4 (X := (ref12_little_K2 N .normal)) (NxOk.end (by kernel_rfl)) rfl (fun x => by kernel_rfl)
theorem ref12_little_3_b {E : Env} (N : Nat) (hb : Base Tryz.prog (ref12_little_C N) E 0) : Blk Tryz.prog (ref12_little_C N) E [0] ref12_little_S1 (ref12_little_L.drop 3) (fun y => ref12_little_3 N y.2.1) (ref12_little_K N) :=
 Blk.chunkAt hb 2 (X := (ref12_little_K N .normal)) (NxOk.end (by kernel_rfl)) rfl (fun x => by kernel_rfl)
theorem ref12_little_1_b {E : Env} (N : Nat) (hb : Base Tryz.prog (ref12_little_C N) E 0) : Blk Tryz.prog (ref12_little_C N) E [0, 1, 5] ref12_little_S0 (ref12_little_L.drop 2) (fun y => ref12_little_1 N y.1.1 y.1.2.1 y.2.1) (ref12_little_K N) :=
 Blk.loopAt (Nf := N) (hns := [0, 1, 5]) (ans := [0]) (hc := ref12_little_S0) (ac := ref12_little_S1) (bid := 0) (step := (fun y => ref12_little_s2 N y.1.1 y.1.2.1 y.2.1)) (J := (fun e => (goK 0 [0] ref12_little_S1 (fun y => ref12_little_3 N y.2.1)) (ref12_little_S1.st [0] e))) hb (by kernel_rfl) (Blk.into (X := (goK 0 [0] ref12_little_S1 (fun y => ref12_little_3 N y.2.1))) (NxOk.go hb (ref12_little_3_b N hb)) (fun x => by kernel_rfl)) (ref12_little_s2_b N hb) (fun x => by kernel_rfl)
theorem ref12_little_b {E : Env} (N : Nat) (hb : Base Tryz.prog (ref12_little_C N) E 0) : Blk Tryz.prog (ref12_little_C N) E (List.range ref12_little_S2.ks.length) ref12_little_S2 (ref12_little_L.drop 0) (fun y => ref12_little N y.1.1 y.2.1) (ref12_little_K N) :=
 Blk.chunkAt hb 2 (X := (goK 0 [0, 1, 5] ref12_little_S0 (fun y => ref12_little_1 N y.1.1 y.1.2.1 y.2.1))) (NxOk.go hb (ref12_little_1_b N hb)) rfl (fun x => by kernel_rfl)
noncomputable def ref12_little_ctr (N : Nat) : Ctr := ⟨ref12_little_S2, ref12_little_S1.un [false], 0, (fun y => ref12_little N y.1.1 y.2.1)⟩
theorem ref12_little_ctrs (N : Nat) : CtrsOk Tryz.prog (ref12_little_C N) := ctrs_nil G_ifs_ok rfl
theorem ref12_little_ok (N : Nat) : Ctr.ok Tryz.prog G_globs 79 (ref12_little_ctr N) :=
 ctr_fn (Γ := ref12_little_C N) (rfit := ref12_little_S1) (bs := [false]) (res := [4]) (by kernel_rfl) (tys_ok G_tys_ok) (ref12_little_ctrs N) Tryz.func79 (by kernel_rfl) (by kernel_rfl) Tryz.ntmps79 (by kernel_rfl) (by kernel_rfl) (by kernel_rfl) (by kernel_rfl) (fun E hb => ref12_little_b N hb)
/-! ipsecgate/ipsecgateref11.clamp -/
abbrev ref11_clamp_R : Type := (((List UInt32) × Unit) × (Unit))
noncomputable def ref11_clamp_s2 (N : Nat) (key_0 : (List UInt8)) (i_4 : Int) (t_2 : (List UInt32)) (r_3 : (List UInt32)) : Option (Lo (((List UInt8) × Int × Unit) × ((List UInt32) × (List UInt32) × Unit)) ((Unit) × ((List UInt32) × (List UInt32) × Unit)) ref11_clamp_R) :=
 bif (decide (i_4 < (16 : Int))) then
 bif inR i_4 key_0.length then
 bif inR i_4 17 then
 let x3 := (r_3.set i_4.toNat (key_0.getD i_4.toNat (0 : UInt8)).toUInt32)
 bif (decide ((i_4.tmod (4 : Int)) = (3 : Int))) then
 bif inR i_4 17 then
 bif inR i_4 17 then
 let x8 := (x3.set i_4.toNat ((x3.getD i_4.toNat (0 : UInt32)) &&& (15 : UInt32)))
 bif (decide ((i_4.tmod (4 : Int)) = (0 : Int))) then
 bif (decide ((0 : Int) < i_4)) then
 bif inR i_4 17 then
 bif inR i_4 17 then
 some (.go ((key_0, (w64 (i_4 + (1 : Int))), ()), (t_2, (x8.set i_4.toNat ((x8.getD i_4.toNat (0 : UInt32)) &&& (252 : UInt32))), ())))
 else none
 else none
 else
 some (.go ((key_0, (w64 (i_4 + (1 : Int))), ()), (t_2, x8, ())))
 else
 some (.go ((key_0, (w64 (i_4 + (1 : Int))), ()), (t_2, x8, ())))
 else none
 else none
 else
 bif (decide ((i_4.tmod (4 : Int)) = (0 : Int))) then
 bif (decide ((0 : Int) < i_4)) then
 bif inR i_4 17 then
 bif inR i_4 17 then
 some (.go ((key_0, (w64 (i_4 + (1 : Int))), ()), (t_2, (x3.set i_4.toNat ((x3.getD i_4.toNat (0 : UInt32)) &&& (252 : UInt32))), ())))
 else none
 else none
 else
 some (.go ((key_0, (w64 (i_4 + (1 : Int))), ()), (t_2, x3, ())))
 else
 some (.go ((key_0, (w64 (i_4 + (1 : Int))), ()), (t_2, x3, ())))
 else none
 else none
 else
 some (.br ((()), (t_2, r_3, ())))
noncomputable def ref11_clamp_3 (N : Nat) (t_2 : (List UInt32)) (r_3 : (List UInt32)) : Option ref11_clamp_R :=
 some ((r_3, ()), (()))
noncomputable def ref11_clamp_1 (N : Nat) (key_0 : (List UInt8)) (i_4 : Int) (t_2 : (List UInt32)) (r_3 : (List UInt32)) : Option ref11_clamp_R :=
 loopK N (fun y => ref11_clamp_s2 N y.1.1 y.1.2.1 y.2.1 y.2.2.1) (fun (e : ((Unit) × ((List UInt32) × (List UInt32) × Unit))) => ref11_clamp_3 N e.2.1 e.2.2.1) ((key_0, i_4, ()), (t_2, r_3, ()))
noncomputable def ref11_clamp (N : Nat) (key_0 : (List UInt8)) : Option ref11_clamp_R :=
 ref11_clamp_1 N key_0 (0 : Int) (List.replicate 17 (0 : UInt32)) (List.replicate 17 (0 : UInt32))
noncomputable def ref11_clamp_C (N : Nat) : Ctx := ⟨37, G_tys, [], G_globs, G_ifs⟩
noncomputable def ref11_clamp_S0 : Spec := ⟨[.val (.sl .u8), .ref 0 (.arr 17 .u32), .ref 1 (.arr 17 .u32), .val .i64], [(.box 117 (.arr 17 .u32), .pos 1), (.box 117 (.arr 17 .u32), .pos 2)]⟩
noncomputable def ref11_clamp_S1 : Spec := ⟨[.ref 0 (.arr 17 .u32), .ref 1 (.arr 17 .u32)], [(.box 117 (.arr 17 .u32), .pos 0), (.box 117 (.arr 17 .u32), .pos 1)]⟩
noncomputable def ref11_clamp_S2 : Spec := ⟨[.val (.sl .u8)], []⟩
noncomputable def ref11_clamp_S3 : Spec := ⟨[.fp (.arr 17 .u32)], []⟩
noncomputable def ref11_clamp_K (_N : Nat) : XE → GS → Option ref11_clamp_R := retK 0 [2] [true] ref11_clamp_S3
noncomputable def ref11_clamp_L : List Code := (bodyOf (some Tryz.f92))
noncomputable def ref11_clamp_L2 : List Code := (loopOf (ref11_clamp_L[3]?))
noncomputable def ref11_clamp_K2 (N : Nat) : XE → GS → Option (Lo (((List UInt8) × Int × Unit) × ((List UInt32) × (List UInt32) × Unit)) ((Unit) × ((List UInt32) × (List UInt32) × Unit)) ref11_clamp_R) := roundK (some 0) (fit 0 [0, 2, 3, 4] ref11_clamp_S0) (fit 0 [2, 3] ref11_clamp_S1) (ref11_clamp_K N)
theorem ref11_clamp_s2_b {E : Env} (N : Nat) (hb : Base Tryz.prog (ref11_clamp_C N) E 0) : Blk Tryz.prog (ref11_clamp_C N) E [0, 2, 3, 4] ref11_clamp_S0 (ref11_clamp_L2.drop 0) (fun y => ref11_clamp_s2 N y.1.1 y.1.2.1 y.2.1 y.2.2.1) (ref11_clamp_K2 N) :=
 Blk.chunkAt hb 4 (X := (ref11_clamp_K2 N .normal)) (NxOk.end (by kernel_rfl)) rfl (fun x => by kernel_rfl)
theorem ref11_clamp_3_b {E : Env} (N : Nat) (hb : Base Tryz.prog (ref11_clamp_C N) E 0) : Blk Tryz.prog (ref11_clamp_C N) E [2, 3] ref11_clamp_S1 (ref11_clamp_L.drop 4) (fun y => ref11_clamp_3 N y.2.1 y.2.2.1) (ref11_clamp_K N) :=
 Blk.chunkAt hb 2 (X := (ref11_clamp_K N .normal)) (NxOk.end (by kernel_rfl)) rfl (fun x => by kernel_rfl)
theorem ref11_clamp_1_b {E : Env} (N : Nat) (hb : Base Tryz.prog (ref11_clamp_C N) E 0) : Blk Tryz.prog (ref11_clamp_C N) E [0, 2, 3, 4] ref11_clamp_S0 (ref11_clamp_L.drop 3) (fun y => ref11_clamp_1 N y.1.1 y.1.2.1 y.2.1 y.2.2.1) (ref11_clamp_K N) :=
 Blk.loopAt (Nf := N) (hns := [0, 2, 3, 4]) (ans := [2, 3]) (hc := ref11_clamp_S0) (ac := ref11_clamp_S1) (bid := 0) (step := (fun y => ref11_clamp_s2 N y.1.1 y.1.2.1 y.2.1 y.2.2.1)) (J := (fun e => (goK 0 [2, 3] ref11_clamp_S1 (fun y => ref11_clamp_3 N y.2.1 y.2.2.1)) (ref11_clamp_S1.st [2, 3] e))) hb (by kernel_rfl) (Blk.into (X := (goK 0 [2, 3] ref11_clamp_S1 (fun y => ref11_clamp_3 N y.2.1 y.2.2.1))) (NxOk.go hb (ref11_clamp_3_b N hb)) (fun x => by kernel_rfl)) (ref11_clamp_s2_b N hb) (fun x => by kernel_rfl)
theorem ref11_clamp_b {E : Env} (N : Nat) (hb : Base Tryz.prog (ref11_clamp_C N) E 0) : Blk Tryz.prog (ref11_clamp_C N) E (List.range ref11_clamp_S2.ks.length) ref11_clamp_S2 (ref11_clamp_L.drop 0) (fun y => ref11_clamp N y.1.1) (ref11_clamp_K N) :=
 Blk.chunkAt hb 3 (X := (goK 0 [0, 2, 3, 4] ref11_clamp_S0 (fun y => ref11_clamp_1 N y.1.1 y.1.2.1 y.2.1 y.2.2.1))) (NxOk.go hb (ref11_clamp_1_b N hb)) rfl (fun x => by kernel_rfl)
noncomputable def ref11_clamp_ctr (N : Nat) : Ctr := ⟨ref11_clamp_S2, ref11_clamp_S3.un [true], 0, (fun y => ref11_clamp N y.1.1)⟩
theorem ref11_clamp_ctrs (N : Nat) : CtrsOk Tryz.prog (ref11_clamp_C N) := ctrs_nil G_ifs_ok rfl
theorem ref11_clamp_ok (N : Nat) : Ctr.ok Tryz.prog G_globs 92 (ref11_clamp_ctr N) :=
 ctr_fn (Γ := ref11_clamp_C N) (rfit := ref11_clamp_S3) (bs := [true]) (res := [2]) (by kernel_rfl) (tys_ok G_tys_ok) (ref11_clamp_ctrs N) Tryz.func92 (by kernel_rfl) (by kernel_rfl) Tryz.ntmps92 (by kernel_rfl) (by kernel_rfl) (by kernel_rfl) (by kernel_rfl) (fun E hb => ref11_clamp_b N hb)
/-! ipsecgate/ipsecgateref11.carry -/
abbrev ref11_carry_R : Type := (((List UInt32) × Unit) × (Unit))
noncomputable def ref11_carry_s7 (N : Nat) (round_3 : Int) (u_4 : UInt32) (i_5 : Int) (h_1 : (List UInt32)) (t_2 : (List UInt32)) : Option (Lo ((Int × UInt32 × Int × Unit) × ((List UInt32) × (List UInt32) × Unit)) ((Int × UInt32 × Unit) × ((List UInt32) × (List UInt32) × Unit)) (Lo ((Int × Unit) × ((List UInt32) × (List UInt32) × Unit)) ((Unit) × ((List UInt32) × (List UInt32) × Unit)) ref11_carry_R)) :=
 bif (decide (i_5 < (17 : Int))) then
 bif inR i_5 17 then
 let x3 := (h_1.getD i_5.toNat (0 : UInt32))
 bif inR i_5 17 then
 let x6 := (h_1.set i_5.toNat ((u_4 + x3) &&& (255 : UInt32)))
 bif (decide (i_5 = (16 : Int))) then
 bif inR i_5 17 then
 some (.go ((round_3, ((5 : UInt32) * (shr32 (u_4 + x3) 2)), (w64 (i_5 + (1 : Int))), ()), ((x6.set i_5.toNat ((u_4 + x3) &&& (3 : UInt32))), t_2, ())))
 else none
 else
 some (.go ((round_3, (shr32 (u_4 + x3) 8), (w64 (i_5 + (1 : Int))), ()), (x6, t_2, ())))
 else none
 else none
 else
 some (.br ((round_3, u_4, ()), (h_1, t_2, ())))
noncomputable def ref11_carry_9 (N : Nat) (round_3 : Int) (h_1 : (List UInt32)) (t_2 : (List UInt32)) : Option (Lo ((Int × Unit) × ((List UInt32) × (List UInt32) × Unit)) ((Unit) × ((List UInt32) × (List UInt32) × Unit)) ref11_carry_R) :=
 some (.go (((w64 (round_3 + (1 : Int))), ()), (h_1, t_2, ())))
noncomputable def ref11_carry_8 (N : Nat) (round_3 : Int) (u_4 : UInt32) (h_1 : (List UInt32)) (t_2 : (List UInt32)) : Option (Lo ((Int × Unit) × ((List UInt32) × (List UInt32) × Unit)) ((Unit) × ((List UInt32) × (List UInt32) × Unit)) ref11_carry_R) :=
 ref11_carry_9 N round_3 (h_1.set 0 ((h_1.getD 0 (0 : UInt32)) + u_4)) t_2
noncomputable def ref11_carry_6 (N : Nat) (round_3 : Int) (u_4 : UInt32) (i_5 : Int) (h_1 : (List UInt32)) (t_2 : (List UInt32)) : Option (Lo ((Int × Unit) × ((List UInt32) × (List UInt32) × Unit)) ((Unit) × ((List UInt32) × (List UInt32) × Unit)) ref11_carry_R) :=
 loopK N (fun y => ref11_carry_s7 N y.1.1 y.1.2.1 y.1.2.2.1 y.2.1 y.2.2.1) (fun (e : ((Int × UInt32 × Unit) × ((List UInt32) × (List UInt32) × Unit))) => ref11_carry_8 N e.1.1 e.1.2.1 e.2.1 e.2.2.1) ((round_3, u_4, i_5, ()), (h_1, t_2, ()))
noncomputable def ref11_carry_5 (N : Nat) (round_3 : Int) (h_1 : (List UInt32)) (t_2 : (List UInt32)) : Option (Lo ((Int × Unit) × ((List UInt32) × (List UInt32) × Unit)) ((Unit) × ((List UInt32) × (List UInt32) × Unit)) ref11_carry_R) :=
 ref11_carry_6 N round_3 (0 : UInt32) (0 : Int) h_1 t_2
noncomputable def ref11_carry_3 (N : Nat) (round_3 : Int) (h_1 : (List UInt32)) (t_2 : (List UInt32)) : Option (Lo ((Int × Unit) × ((List UInt32) × (List UInt32) × Unit)) ((Unit) × ((List UInt32) × (List UInt32) × Unit)) ref11_carry_R) :=
 ref11_carry_5 N round_3 h_1 t_2
noncomputable def ref11_carry_s2 (N : Nat) (round_3 : Int) (h_1 : (List UInt32)) (t_2 : (List UInt32)) : Option (Lo ((Int × Unit) × ((List UInt32) × (List UInt32) × Unit)) ((Unit) × ((List UInt32) × (List UInt32) × Unit)) ref11_carry_R) :=
 bif (decide (round_3 < (3 : Int))) then
 ref11_carry_3 N round_3 h_1 t_2
 else
 some (.br ((()), (h_1, t_2, ())))
noncomputable def ref11_carry_10 (N : Nat) (h_1 : (List UInt32)) (t_2 : (List UInt32)) : Option ref11_carry_R :=
 some ((h_1, ()), (()))
noncomputable def ref11_carry_1 (N : Nat) (round_3 : Int) (h_1 : (List UInt32)) (t_2 : (List UInt32)) : Option ref11_carry_R :=
 loopK N (fun y => ref11_carry_s2 N y.1.1 y.2.1 y.2.2.1) (fun (e : ((Unit) × ((List UInt32) × (List UInt32) × Unit))) => ref11_carry_10 N e.2.1 e.2.2.1) ((round_3, ()), (h_1, t_2, ()))
noncomputable def ref11_carry (N : Nat) (h_0 : (List UInt32)) : Option ref11_carry_R :=
 ref11_carry_1 N (0 : Int) h_0 (List.replicate 17 (0 : UInt32))
noncomputable def ref11_carry_C (N : Nat) : Ctx := ⟨40, G_tys, [], G_globs, G_ifs⟩
noncomputable def ref11_carry_S0 : Spec := ⟨[.ref 0 (.arr 17 .u32), .ref 1 (.arr 17 .u32), .val .i64, .val .u32, .val .i64], [(.box 117 (.arr 17 .u32), .pos 0), (.box 117 (.arr 17 .u32), .pos 1)]⟩
noncomputable def ref11_carry_S1 : Spec := ⟨[.ref 0 (.arr 17 .u32), .ref 1 (.arr 17 .u32), .val .i64], [(.box 117 (.arr 17 .u32), .pos 0), (.box 117 (.arr 17 .u32), .pos 1)]⟩
noncomputable def ref11_carry_S2 : Spec := ⟨[.ref 0 (.arr 17 .u32), .ref 1 (.arr 17 .u32), .val .i64, .val .u32], [(.box 117 (.arr 17 .u32), .pos 0), (.box 117 (.arr 17 .u32), .pos 1)]⟩
noncomputable def ref11_carry_S3 : Spec := ⟨[.ref 0 (.arr 17 .u32), .ref 1 (.arr 17 .u32)], [(.box 117 (.arr 17 .u32), .pos 0), (.box 117 (.arr 17 .u32), .pos 1)]⟩
noncomputable def ref11_carry_S4 : Spec := ⟨[.val (.arr 17 .u32)], []⟩
noncomputable def ref11_carry_S5 : Spec := ⟨[.fp (.arr 17 .u32)], []⟩
noncomputable def ref11_carry_K (_N : Nat) : XE → GS → Option ref11_carry_R := retK 0 [2] [true] ref11_carry_S5
noncomputable def ref11_carry_L : List Code := (bodyOf (some Tryz.f94))
noncomputable def ref11_carry_L2 : List Code := (loopOf (ref11_carry_L[2]?))
noncomputable def ref11_carry_L4b : List Code := (blockOf (ref11_carry_L2[2]?))
noncomputable def ref11_carry_L7 : List Code := (loopOf (ref11_carry_L4b[2]?))
noncomputable def ref11_carry_K2 (N : Nat) : XE → GS → Option (Lo ((Int × Unit) × ((List UInt32) × (List UInt32) × Unit)) ((Unit) × ((List UInt32) × (List UInt32) × Unit)) ref11_carry_R) := roundK (some 0) (fit 0 [1, 2, 3] ref11_carry_S1) (fit 0 [1, 2] ref11_carry_S3) (ref11_carry_K N)
noncomputable def ref11_carry_K4 (N : Nat) : XE → GS → Option (Lo ((Int × Unit) × ((List UInt32) × (List UInt32) × Unit)) ((Unit) × ((List UInt32) × (List UInt32) × Unit)) ref11_carry_R) := blockK 1 (goK 0 [1, 2, 3] ref11_carry_S1 (fun y => ref11_carry_9 N y.1.1 y.2.1 y.2.2.1)) (ref11_carry_K2 N)
noncomputable def ref11_carry_K7 (N : Nat) : XE → GS → Option (Lo ((Int × UInt32 × Int × Unit) × ((List UInt32) × (List UInt32) × Unit)) ((Int × UInt32 × Unit) × ((List UInt32) × (List UInt32) × Unit)) (Lo ((Int × Unit) × ((List UInt32) × (List UInt32) × Unit)) ((Unit) × ((List UInt32) × (List UInt32) × Unit)) ref11_carry_R)) := roundK (some 2) (fit 0 [1, 2, 3, 4, 5] ref11_carry_S0) (fit 0 [1, 2, 3, 4] ref11_carry_S2) (ref11_carry_K4 N)
theorem ref11_carry_s7_b {E : Env} (N : Nat) (hb : Base Tryz.prog (ref11_carry_C N) E 0) : Blk Tryz.prog (ref11_carry_C N) E [1, 2, 3, 4, 5] ref11_carry_S0 (ref11_carry_L7.drop 0) (fun y => ref11_carry_s7 N y.1.1 y.1.2.1 y.1.2.2.1 y.2.1 y.2.2.1) (ref11_carry_K7 N) :=
 Blk.chunkAt hb 4 (X := (ref11_carry_K7 N .normal)) (NxOk.end (by kernel_rfl)) rfl (fun x => by kernel_rfl)
theorem ref11_carry_9_b {E : Env} (N : Nat) (hb : Base Tryz.prog (ref11_carry_C N) E 0) : Blk Tryz.prog (ref11_carry_C N) E [1, 2, 3] ref11_carry_S1 (ref11_carry_L2.drop 3) (fun y => ref11_carry_9 N y.1.1 y.2.1 y.2.2.1) (ref11_carry_K2 N) :=
 Blk.chunkAt hb 1 (X := (ref11_carry_K2 N .normal)) (NxOk.end (by kernel_rfl)) rfl (fun x => by kernel_rfl)
theorem ref11_carry_8_b {E : Env} (N : Nat) (hb : Base Tryz.prog (ref11_carry_C N) E 0) : Blk Tryz.prog (ref11_carry_C N) E [1, 2, 3, 4] ref11_carry_S2 (ref11_carry_L4b.drop 3) (fun y => ref11_carry_8 N y.1.1 y.1.2.1 y.2.1 y.2.2.1) (ref11_carry_K4 N) :=
 Blk.chunkAt hb 1 (X := (ref11_carry_K4 N .normal)) (NxOk.end (by kernel_rfl)) rfl (fun x => by kernel_rfl)
theorem ref11_carry_6_b {E : Env} (N : Nat) (hb : Base Tryz.prog (ref11_carry_C N) E 0) : Blk Tryz.prog (ref11_carry_C N) E [1, 2, 3, 4, 5] ref11_carry_S0 (ref11_carry_L4b.drop 2) (fun y => ref11_carry_6 N y.1.1 y.1.2.1 y.1.2.2.1 y.2.1 y.2.2.1) (ref11_carry_K4 N) :=
 Blk.loopAt (Nf := N) (hns := [1, 2, 3, 4, 5]) (ans := [1, 2, 3, 4]) (hc := ref11_carry_S0) (ac := ref11_carry_S2) (bid := 2) (step := (fun y => ref11_carry_s7 N y.1.1 y.1.2.1 y.1.2.2.1 y.2.1 y.2.2.1)) (J := (fun e => (goK 0 [1, 2, 3, 4] ref11_carry_S2 (fun y => ref11_carry_8 N y.1.1 y.1.2.1 y.2.1 y.2.2.1)) (ref11_carry_S2.st [1, 2, 3, 4] e))) hb (by kernel_rfl) (Blk.into (X := (goK 0 [1, 2, 3, 4] ref11_carry_S2 (fun y => ref11_carry_8 N y.1.1 y.1.2.1 y.2.1 y.2.2.1))) (NxOk.go hb (ref11_carry_8_b N hb)) (fun x => by kernel_rfl)) (ref11_carry_s7_b N hb) (fun x => by kernel_rfl)
theorem ref11_carry_5_b {E : Env} (N : Nat) (hb : Base Tryz.prog (ref11_carry_C N) E 0) : Blk Tryz.prog (ref11_carry_C N) E [1, 2, 3] ref11_carry_S1 (ref11_carry_L4b.drop 0) (fun y => ref11_carry_5 N y.1.1 y.2.1 y.2.2.1) (ref11_carry_K4 N) :=
 Blk.chunkAt hb 2 (X := (goK 0 [1, 2, 3, 4, 5] ref11_carry_S0 (fun y => ref11_carry_6 N y.1.1 y.1.2.1 y.1.2.2.1 y.2.1 y.2.2.1))) (NxOk.go hb (ref11_carry_6_b N hb)) rfl (fun x => by kernel_rfl)
theorem ref11_carry_3_b {E : Env} (N : Nat) (hb : Base Tryz.prog (ref11_carry_C N) E 0) : Blk Tryz.prog (ref11_carry_C N) E [1, 2, 3] ref11_carry_S1 (ref11_carry_L2.drop 2) (fun y => ref11_carry_3 N y.1.1 y.2.1 y.2.2.1) (ref11_carry_K2 N) :=
 Blk.blockAt (bid := 1) (X := (goK 0 [1, 2, 3] ref11_carry_S1 (fun y => ref11_carry_9 N y.1.1 y.2.1 y.2.2.1))) (Y := (goK 0 [1, 2, 3] ref11_carry_S1 (fun y => ref11_carry_5 N y.1.1 y.2.1 y.2.2.1))) (by kernel_rfl) (NxOk.go hb (ref11_carry_9_b N hb)) (NxOk.go hb (ref11_carry_5_b N hb)) (fun x => by kernel_rfl)
theorem ref11_carry_s2_b {E : Env} (N : Nat) (hb : Base Tryz.prog (ref11_carry_C N) E 0) : Blk Tryz.prog (ref11_carry_C N) E [1, 2, 3] ref11_carry_S1 (ref11_carry_L2.drop 0) (fun y => ref11_carry_s2 N y.1.1 y.2.1 y.2.2.1) (ref11_carry_K2 N) :=
 Blk.chunkAt hb 2 (X := (goK 0 [1, 2, 3] ref11_carry_S1 (fun y => ref11_carry_3 N y.1.1 y.2.1 y.2.2.1))) (NxOk.go hb (ref11_carry_3_b N hb)) rfl (fun x => by kernel_rfl)
theorem ref11_carry_10_b {E : Env} (N : Nat) (hb : Base Tryz.prog (ref11_carry_C N) E 0) : Blk Tryz.prog (ref11_carry_C N) E [1, 2] ref11_carry_S3 (ref11_carry_L.drop 3) (fun y => ref11_carry_10 N y.2.1 y.2.2.1) (ref11_carry_K N) :=
 Blk.chunkAt hb 2 (X := (ref11_carry_K N .normal)) (NxOk.end (by kernel_rfl)) rfl (fun x => by kernel_rfl)
theorem ref11_carry_1_b {E : Env} (N : Nat) (hb : Base Tryz.prog (ref11_carry_C N) E 0) : Blk Tryz.prog (ref11_carry_C N) E [1, 2, 3] ref11_carry_S1 (ref11_carry_L.drop 2) (fun y => ref11_carry_1 N y.1.1 y.2.1 y.2.2.1) (ref11_carry_K N) :=
 Blk.loopAt (Nf := N) (hns := [1, 2, 3]) (ans := [1, 2]) (hc := ref11_carry_S1) (ac := ref11_carry_S3) (bid := 0) (step := (fun y => ref11_carry_s2 N y.1.1 y.2.1 y.2.2.1)) (J := (fun e => (goK 0 [1, 2] ref11_carry_S3 (fun y => ref11_carry_10 N y.2.1 y.2.2.1)) (ref11_carry_S3.st [1, 2] e))) hb (by kernel_rfl) (Blk.into (X := (goK 0 [1, 2] ref11_carry_S3 (fun y => ref11_carry_10 N y.2.1 y.2.2.1))) (NxOk.go hb (ref11_carry_10_b N hb)) (fun x => by kernel_rfl)) (ref11_carry_s2_b N hb) (fun x => by kernel_rfl)
theorem ref11_carry_b {E : Env} (N : Nat) (hb : Base Tryz.prog (ref11_carry_C N) E 0) : Blk Tryz.prog (ref11_carry_C N) E (List.range ref11_carry_S4.ks.length) ref11_carry_S4 (ref11_carry_L.drop 0) (fun y => ref11_carry N y.1.1) (ref11_carry_K N) :=
 Blk.chunkAt hb 2 (X := (goK 0 [1, 2, 3] ref11_carry_S1 (fun y => ref11_carry_1 N y.1.1 y.2.1 y.2.2.1))) (NxOk.go hb (ref11_carry_1_b N hb)) rfl (fun x => by kernel_rfl)
noncomputable def ref11_carry_ctr (N : Nat) : Ctr := ⟨ref11_carry_S4, ref11_carry_S5.un [true], 0, (fun y => ref11_carry N y.1.1)⟩
theorem ref11_carry_ctrs (N : Nat) : CtrsOk Tryz.prog (ref11_carry_C N) := ctrs_nil G_ifs_ok rfl
theorem ref11_carry_ok (N : Nat) : Ctr.ok Tryz.prog G_globs 94 (ref11_carry_ctr N) :=
 ctr_fn (Γ := ref11_carry_C N) (rfit := ref11_carry_S5) (bs := [true]) (res := [2]) (by kernel_rfl) (tys_ok G_tys_ok) (ref11_carry_ctrs N) Tryz.func94 (by kernel_rfl) (by kernel_rfl) Tryz.ntmps94 (by kernel_rfl) (by kernel_rfl) (by kernel_rfl) (by kernel_rfl) (fun E hb => ref11_carry_b N hb)
/-! ipsecgate/ipsecgateref11.product -/
abbrev ref11_product_R : Type := (((List UInt32) × Unit) × (Unit))
noncomputable def ref11_product_s7 (N : Nat) (i_6 : Int) (u_7 : UInt32) (j_8 : Int) (a_2 : (List UInt32)) (b_3 : (List UInt32)) (t_4 : (List UInt32)) (out_5 : (List UInt32)) : Option (Lo ((Int × UInt32 × Int × Unit) × ((List UInt32) × (List UInt32) × (List UInt32) × (List UInt32) × Unit)) ((Int × UInt32 × Unit) × ((List UInt32) × (List UInt32) × (List UInt32) × (List UInt32) × Unit)) (Lo ((Int × Unit) × ((List UInt32) × (List UInt32) × (List UInt32) × (List UInt32) × Unit)) ((Unit) × ((List UInt32) × (List UInt32) × Unit)) ref11_product_R)) :=
 bif (decide (j_8 < (17 : Int))) then
 bif (decide (j_8 ≤ i_6)) then
 bif inR j_8 17 then
 let x5 := w64 (i_6 - j_8)
 bif inR x5 17 then
 some (.go ((i_6, (u_7 + ((a_2.getD j_8.toNat (0 : UInt32)) * (b_3.getD x5.toNat (0 : UInt32)))), (w64 (j_8 + (1 : Int))), ()), (a_2, b_3, t_4, out_5, ())))
 else none
 else none
 else
 bif inR j_8 17 then
 let x13 := w64 ((w64 ((17 : Int) + i_6)) - j_8)
 bif inR x13 17 then
 some (.go ((i_6, (u_7 + (((320 : UInt32) * (a_2.getD j_8.toNat (0 : UInt32))) * (b_3.getD x13.toNat (0 : UInt32)))), (w64 (j_8 + (1 : Int))), ()), (a_2, b_3, t_4, out_5, ())))
 else none
 else none
 else
 some (.br ((i_6, u_7, ()), (a_2, b_3, t_4, out_5, ())))
noncomputable def ref11_product_9 (N : Nat) (i_6 : Int) (a_2 : (List UInt32)) (b_3 : (List UInt32)) (t_4 : (List UInt32)) (out_5 : (List UInt32)) : Option (Lo ((Int × Unit) × ((List UInt32) × (List UInt32) × (List UInt32) × (List UInt32) × Unit)) ((Unit) × ((List UInt32) × (List UInt32) × Unit)) ref11_product_R) :=
 some (.go (((w64 (i_6 + (1 : Int))), ()), (a_2, b_3, t_4, out_5, ())))
noncomputable def ref11_product_8 (N : Nat) (i_6 : Int) (u_7 : UInt32) (a_2 : (List UInt32)) (b_3 : (List UInt32)) (t_4 : (List UInt32)) (out_5 : (List UInt32)) : Option (Lo ((Int × Unit) × ((List UInt32) × (List UInt32) × (List UInt32) × (List UInt32) × Unit)) ((Unit) × ((List UInt32) × (List UInt32) × Unit)) ref11_product_R) :=
 bif inR i_6 17 then
 ref11_product_9 N i_6 a_2 b_3 t_4 (out_5.set i_6.toNat u_7)
 else none
noncomputable def ref11_product_6 (N : Nat) (i_6 : Int) (u_7 : UInt32) (j_8 : Int) (a_2 : (List UInt32)) (b_3 : (List UInt32)) (t_4 : (List UInt32)) (out_5 : (List UInt32)) : Option (Lo ((Int × Unit) × ((List UInt32) × (List UInt32) × (List UInt32) × (List UInt32) × Unit)) ((Unit) × ((List UInt32) × (List UInt32) × Unit)) ref11_product_R) :=
 loopK N (fun y => ref11_product_s7 N y.1.1 y.1.2.1 y.1.2.2.1 y.2.1 y.2.2.1 y.2.2.2.1 y.2.2.2.2.1) (fun (e : ((Int × UInt32 × Unit) × ((List UInt32) × (List UInt32) × (List UInt32) × (List UInt32) × Unit))) => ref11_product_8 N e.1.1 e.1.2.1 e.2.1 e.2.2.1 e.2.2.2.1 e.2.2.2.2.1) ((i_6, u_7, j_8, ()), (a_2, b_3, t_4, out_5, ()))
noncomputable def ref11_product_5 (N : Nat) (i_6 : Int) (a_2 : (List UInt32)) (b_3 : (List UInt32)) (t_4 : (List UInt32)) (out_5 : (List UInt32)) : Option (Lo ((Int × Unit) × ((List UInt32) × (List UInt32) × (List UInt32) × (List UInt32) × Unit)) ((Unit) × ((List UInt32) × (List UInt32) × Unit)) ref11_product_R) :=
 ref11_product_6 N i_6 (0 : UInt32) (0 : Int) a_2 b_3 t_4 out_5
noncomputable def ref11_product_3 (N : Nat) (i_6 : Int) (a_2 : (List UInt32)) (b_3 : (List UInt32)) (t_4 : (List UInt32)) (out_5 : (List UInt32)) : Option (Lo ((Int × Unit) × ((List UInt32) × (List UInt32) × (List UInt32) × (List UInt32) × Unit)) ((Unit) × ((List UInt32) × (List UInt32) × Unit)) ref11_product_R) :=
 ref11_product_5 N i_6 a_2 b_3 t_4 out_5
noncomputable def ref11_product_s2 (N : Nat) (i_6 : Int) (a_2 : (List UInt32)) (b_3 : (List UInt32)) (t_4 : (List UInt32)) (out_5 : (List UInt32)) : Option (Lo ((Int × Unit) × ((List UInt32) × (List UInt32) × (List UInt32) × (List UInt32) × Unit)) ((Unit) × ((List UInt32) × (List UInt32) × Unit)) ref11_product_R) :=
 bif (decide (i_6 < (17 : Int))) then
 ref11_product_3 N i_6 a_2 b_3 t_4 out_5
 else
 some (.br ((()), (t_4, out_5, ())))
noncomputable def ref11_product_10 (N : Nat) (t_4 : (List UInt32)) (out_5 : (List UInt32)) : Option ref11_product_R :=
 Option.bind (ref11_carry N out_5) fun y20 =>
 some ((y20.1.1, ()), (()))
noncomputable def ref11_product_1 (N : Nat) (i_6 : Int) (a_2 : (List UInt32)) (b_3 : (List UInt32)) (t_4 : (List UInt32)) (out_5 : (List UInt32)) : Option ref11_product_R :=
 loopK N (fun y => ref11_product_s2 N y.1.1 y.2.1 y.2.2.1 y.2.2.2.1 y.2.2.2.2.1) (fun (e : ((Unit) × ((List UInt32) × (List UInt32) × Unit))) => ref11_product_10 N e.2.1 e.2.2.1) ((i_6, ()), (a_2, b_3, t_4, out_5, ()))
noncomputable def ref11_product (N : Nat) (a_0 : (List UInt32)) (b_1 : (List UInt32)) : Option ref11_product_R :=
 ref11_product_1 N (0 : Int) a_0 b_1 (List.replicate 17 (0 : UInt32)) (List.replicate 17 (0 : UInt32))
noncomputable def ref11_product_C (N : Nat) : Ctx := ⟨49, G_tys, [(94, ref11_carry_ctr N)], G_globs, G_ifs⟩
noncomputable def ref11_product_S0 : Spec := ⟨[.ref 0 (.arr 17 .u32), .ref 1 (.arr 17 .u32), .ref 2 (.arr 17 .u32), .ref 3 (.arr 17 .u32), .val .i64, .val .u32, .val .i64], [(.box 117 (.arr 17 .u32), .pos 0), (.box 117 (.arr 17 .u32), .pos 1), (.box 117 (.arr 17 .u32), .pos 2), (.box 117 (.arr 17 .u32), .pos 3)]⟩
noncomputable def ref11_product_S1 : Spec := ⟨[.ref 0 (.arr 17 .u32), .ref 1 (.arr 17 .u32), .ref 2 (.arr 17 .u32), .ref 3 (.arr 17 .u32), .val .i64], [(.box 117 (.arr 17 .u32), .pos 0), (.box 117 (.arr 17 .u32), .pos 1), (.box 117 (.arr 17 .u32), .pos 2), (.box 117 (.arr 17 .u32), .pos 3)]⟩
noncomputable def ref11_product_S2 : Spec := ⟨[.ref 0 (.arr 17 .u32), .ref 1 (.arr 17 .u32), .ref 2 (.arr 17 .u32), .ref 3 (.arr 17 .u32), .val .i64, .val .u32], [(.box 117 (.arr 17 .u32), .pos 0), (.box 117 (.arr 17 .u32), .pos 1), (.box 117 (.arr 17 .u32), .pos 2), (.box 117 (.arr 17 .u32), .pos 3)]⟩
noncomputable def ref11_product_S3 : Spec := ⟨[.ref 0 (.arr 17 .u32), .ref 1 (.arr 17 .u32)], [(.box 117 (.arr 17 .u32), .pos 0), (.box 117 (.arr 17 .u32), .pos 1)]⟩
noncomputable def ref11_product_S4 : Spec := ⟨[.val (.arr 17 .u32), .val (.arr 17 .u32)], []⟩
noncomputable def ref11_product_S5 : Spec := ⟨[.fp (.arr 17 .u32)], []⟩
noncomputable def ref11_product_K (_N : Nat) : XE → GS → Option ref11_product_R := retK 0 [4] [true] ref11_product_S5
noncomputable def ref11_product_L : List Code := (bodyOf (some Tryz.f93))
noncomputable def ref11_product_L2 : List Code := (loopOf (ref11_product_L[3]?))
noncomputable def ref11_product_L4b : List Code := (blockOf (ref11_product_L2[2]?))
noncomputable def ref11_product_L7 : List Code := (loopOf (ref11_product_L4b[2]?))
noncomputable def ref11_product_K2 (N : Nat) : XE → GS → Option (Lo ((Int × Unit) × ((List UInt32) × (List UInt32) × (List UInt32) × (List UInt32) × Unit)) ((Unit) × ((List UInt32) × (List UInt32) × Unit)) ref11_product_R) := roundK (some 0) (fit 0 [2, 3, 4, 5, 6] ref11_product_S1) (fit 0 [4, 5] ref11_product_S3) (ref11_product_K N)
noncomputable def ref11_product_K4 (N : Nat) : XE → GS → Option (Lo ((Int × Unit) × ((List UInt32) × (List UInt32) × (List UInt32) × (List UInt32) × Unit)) ((Unit) × ((List UInt32) × (List UInt32) × Unit)) ref11_product_R) := blockK 1 (goK 0 [2, 3, 4, 5, 6] ref11_product_S1 (fun y => ref11_product_9 N y.1.1 y.2.1 y.2.2.1 y.2.2.2.1 y.2.2.2.2.1)) (ref11_product_K2 N)
noncomputable def ref11_product_K7 (N : Nat) : XE → GS → Option (Lo ((Int × UInt32 × Int × Unit) × ((List UInt32) × (List UInt32) × (List UInt32) × (List UInt32) × Unit)) ((Int × UInt32 × Unit) × ((List UInt32) × (List UInt32) × (List UInt32) × (List UInt32) × Unit)) (Lo ((Int × Unit) × ((List UInt32) × (List UInt32) × (List UInt32) × (List UInt32) × Unit)) ((Unit) × ((List UInt32) × (List UInt32) × Unit)) ref11_product_R)) := roundK (some 2) (fit 0 [2, 3, 4, 5, 6, 7, 8] ref11_product_S0) (fit 0 [2, 3, 4, 5, 6, 7] ref11_product_S2) (ref11_product_K4 N)
theorem ref11_product_s7_b {E : Env} (N : Nat) (hb : Base Tryz.prog (ref11_product_C N) E 0) : Blk Tryz.prog (ref11_product_C N) E [2, 3, 4, 5, 6, 7, 8] ref11_product_S0 (ref11_product_L7.drop 0) (fun y => ref11_product_s7 N y.1.1 y.1.2.1 y.1.2.2.1 y.2.1 y.2.2.1 y.2.2.2.1 y.2.2.2.2.1) (ref11_product_K7 N) :=
 Blk.chunkAt hb 4 (X := (ref11_product_K7 N .normal)) (NxOk.end (by kernel_rfl)) rfl (fun x => by kernel_rfl)
theorem ref11_product_9_b {E : Env} (N : Nat) (hb : Base Tryz.prog (ref11_product_C N) E 0) : Blk Tryz.prog (ref11_product_C N) E [2, 3, 4, 5, 6] ref11_product_S1 (ref11_product_L2.drop 3) (fun y => ref11_product_9 N y.1.1 y.2.1 y.2.2.1 y.2.2.2.1 y.2.2.2.2.1) (ref11_product_K2 N) :=
 Blk.chunkAt hb 1 (X := (ref11_product_K2 N .normal)) (NxOk.end (by kernel_rfl)) rfl (fun x => by kernel_rfl)
theorem ref11_product_8_b {E : Env} (N : Nat) (hb : Base Tryz.prog (ref11_product_C N) E 0) : Blk Tryz.prog (ref11_product_C N) E [2, 3, 4, 5, 6, 7] ref11_product_S2 (ref11_product_L4b.drop 3) (fun y => ref11_product_8 N y.1.1 y.1.2.1 y.2.1 y.2.2.1 y.2.2.2.1 y.2.2.2.2.1) (ref11_product_K4 N) :=
 Blk.chunkAt hb 1 (X := (ref11_product_K4 N .normal)) (NxOk.end (by kernel_rfl)) rfl (fun x => by kernel_rfl)
theorem ref11_product_6_b {E : Env} (N : Nat) (hb : Base Tryz.prog (ref11_product_C N) E 0) : Blk Tryz.prog (ref11_product_C N) E [2, 3, 4, 5, 6, 7, 8] ref11_product_S0 (ref11_product_L4b.drop 2) (fun y => ref11_product_6 N y.1.1 y.1.2.1 y.1.2.2.1 y.2.1 y.2.2.1 y.2.2.2.1 y.2.2.2.2.1) (ref11_product_K4 N) :=
 Blk.loopAt (Nf := N) (hns := [2, 3, 4, 5, 6, 7, 8]) (ans := [2, 3, 4, 5, 6, 7]) (hc := ref11_product_S0) (ac := ref11_product_S2) (bid := 2) (step := (fun y => ref11_product_s7 N y.1.1 y.1.2.1 y.1.2.2.1 y.2.1 y.2.2.1 y.2.2.2.1 y.2.2.2.2.1)) (J := (fun e => (goK 0 [2, 3, 4, 5, 6, 7] ref11_product_S2 (fun y => ref11_product_8 N y.1.1 y.1.2.1 y.2.1 y.2.2.1 y.2.2.2.1 y.2.2.2.2.1)) (ref11_product_S2.st [2, 3, 4, 5, 6, 7] e))) hb (by kernel_rfl) (Blk.into (X := (goK 0 [2, 3, 4, 5, 6, 7] ref11_product_S2 (fun y => ref11_product_8 N y.1.1 y.1.2.1 y.2.1 y.2.2.1 y.2.2.2.1 y.2.2.2.2.1))) (NxOk.go hb (ref11_product_8_b N hb)) (fun x => by kernel_rfl)) (ref11_product_s7_b N hb) (fun x => by kernel_rfl)
theorem ref11_product_5_b {E : Env} (N : Nat) (hb : Base Tryz.prog (ref11_product_C N) E 0) : Blk Tryz.prog (ref11_product_C N) E [2, 3, 4, 5, 6] ref11_product_S1 (ref11_product_L4b.drop 0) (fun y => ref11_product_5 N y.1.1 y.2.1 y.2.2.1 y.2.2.2.1 y.2.2.2.2.1) (ref11_product_K4 N) :=
 Blk.chunkAt hb 2 (X := (goK 0 [2, 3, 4, 5, 6, 7, 8] ref11_product_S0 (fun y => ref11_product_6 N y.1.1 y.1.2.1 y.1.2.2.1 y.2.1 y.2.2.1 y.2.2.2.1 y.2.2.2.2.1))) (NxOk.go hb (ref11_product_6_b N hb)) rfl (fun x => by kernel_rfl)
theorem ref11_product_3_b {E : Env} (N : Nat) (hb : Base Tryz.prog (ref11_product_C N) E 0) : Blk Tryz.prog (ref11_product_C N) E [2, 3, 4, 5, 6] ref11_product_S1 (ref11_product_L2.drop 2) (fun y => ref11_product_3 N y.1.1 y.2.1 y.2.2.1 y.2.2.2.1 y.2.2.2.2.1) (ref11_product_K2 N) :=
 Blk.blockAt (bid := 1) (X := (goK 0 [2, 3, 4, 5, 6] ref11_product_S1 (fun y => ref11_product_9 N y.1.1 y.2.1 y.2.2.1 y.2.2.2.1 y.2.2.2.2.1))) (Y := (goK 0 [2, 3, 4, 5, 6] ref11_product_S1 (fun y => ref11_product_5 N y.1.1 y.2.1 y.2.2.1 y.2.2.2.1 y.2.2.2.2.1))) (by kernel_rfl) (NxOk.go hb (ref11_product_9_b N hb)) (NxOk.go hb (ref11_product_5_b N hb)) (fun x => by kernel_rfl)
theorem ref11_product_s2_b {E : Env} (N : Nat) (hb : Base Tryz.prog (ref11_product_C N) E 0) : Blk Tryz.prog (ref11_product_C N) E [2, 3, 4, 5, 6] ref11_product_S1 (ref11_product_L2.drop 0) (fun y => ref11_product_s2 N y.1.1 y.2.1 y.2.2.1 y.2.2.2.1 y.2.2.2.2.1) (ref11_product_K2 N) :=
 Blk.chunkAt hb 2 (X := (goK 0 [2, 3, 4, 5, 6] ref11_product_S1 (fun y => ref11_product_3 N y.1.1 y.2.1 y.2.2.1 y.2.2.2.1 y.2.2.2.2.1))) (NxOk.go hb (ref11_product_3_b N hb)) rfl (fun x => by kernel_rfl)
theorem ref11_product_10_b {E : Env} (N : Nat) (hb : Base Tryz.prog (ref11_product_C N) E 0) : Blk Tryz.prog (ref11_product_C N) E [4, 5] ref11_product_S3 (ref11_product_L.drop 4) (fun y => ref11_product_10 N y.2.1 y.2.2.1) (ref11_product_K N) :=
 Blk.chunkAt hb 2 (X := (ref11_product_K N .normal)) (NxOk.end (by kernel_rfl)) rfl (fun x => by kernel_rfl)
theorem ref11_product_1_b {E : Env} (N : Nat) (hb : Base Tryz.prog (ref11_product_C N) E 0) : Blk Tryz.prog (ref11_product_C N) E [2, 3, 4, 5, 6] ref11_product_S1 (ref11_product_L.drop 3) (fun y => ref11_product_1 N y.1.1 y.2.1 y.2.2.1 y.2.2.2.1 y.2.2.2.2.1) (ref11_product_K N) :=
 Blk.loopAt (Nf := N) (hns := [2, 3, 4, 5, 6]) (ans := [4, 5]) (hc := ref11_product_S1) (ac := ref11_product_S3) (bid := 0) (step := (fun y => ref11_product_s2 N y.1.1 y.2.1 y.2.2.1 y.2.2.2.1 y.2.2.2.2.1)) (J := (fun e => (goK 0 [4, 5] ref11_product_S3 (fun y => ref11_product_10 N y.2.1 y.2.2.1)) (ref11_product_S3.st [4, 5] e))) hb (by kernel_rfl) (Blk.into (X := (goK 0 [4, 5] ref11_product_S3 (fun y => ref11_product_10 N y.2.1 y.2.2.1))) (NxOk.go hb (ref11_product_10_b N hb)) (fun x => by kernel_rfl)) (ref11_product_s2_b N hb) (fun x => by kernel_rfl)
theorem ref11_product_b {E : Env} (N : Nat) (hb : Base Tryz.prog (ref11_product_C N) E 0) : Blk Tryz.prog (ref11_product_C N) E (List.range ref11_product_S4.ks.length) ref11_product_S4 (ref11_product_L.drop 0) (fun y => ref11_product N y.1.1 y.1.2.1) (ref11_product_K N) :=
 Blk.chunkAt hb 3 (X := (goK 0 [2, 3, 4, 5, 6] ref11_product_S1 (fun y => ref11_product_1 N y.1.1 y.2.1 y.2.2.1 y.2.2.2.1 y.2.2.2.2.1))) (NxOk.go hb (ref11_product_1_b N hb)) rfl (fun x => by kernel_rfl)
noncomputable def ref11_product_ctr (N : Nat) : Ctr := ⟨ref11_product_S4, ref11_product_S5.un [true], 0, (fun y => ref11_product N y.1.1 y.1.2.1)⟩
theorem ref11_product_ctrs (N : Nat) : CtrsOk Tryz.prog (ref11_product_C N) := ctrs_of (Γ := ref11_product_C N) G_ifs_ok (by
 intro p hp
 simp only [ref11_product_C, List.mem_cons, List.not_mem_nil, or_false] at hp
 rcases hp with rfl
 · exact ref11_carry_ok N)
theorem ref11_product_ok (N : Nat) : Ctr.ok Tryz.prog G_globs 93 (ref11_product_ctr N) :=
 ctr_fn (Γ := ref11_product_C N) (rfit := ref11_product_S5) (bs := [true]) (res := [4]) (by kernel_rfl) (tys_ok G_tys_ok) (ref11_product_ctrs N) Tryz.func93 (by kernel_rfl) (by kernel_rfl) Tryz.ntmps93 (by kernel_rfl) (by kernel_rfl) (by kernel_rfl) (by kernel_rfl) (fun E hb => ref11_product_b N hb)
/-! ipsecgate/ipsecgateref11.Sum -/
abbrev ref11_Sum_R : Type := ((Bool × Unit) × ((List UInt8) × Unit))
noncomputable def ref11_Sum_s7 (N : Nat) (key_0 : (List UInt8)) (b_1 : (List UInt8)) (at_8 : Int) (n_9 : Int) (i_10 : Int) (r_6 : (List UInt32)) (h_7 : (List UInt32)) : Option (Lo (((List UInt8) × (List UInt8) × Int × Int × Int × Unit) × ((List UInt32) × (List UInt32) × Unit)) (((List UInt8) × (List UInt8) × Int × Int × Unit) × ((List UInt32) × (List UInt32) × Unit)) (Lo (((List UInt8) × (List UInt8) × Int × Unit) × ((List UInt32) × (List UInt32) × Unit)) (((List UInt8) × Unit) × ((List UInt32) × Unit)) ref11_Sum_R)) :=
 bif (decide (i_10 < n_9)) then
 bif inR i_10 17 then
 let x11 := w64 (at_8 + i_10)
 bif inR x11 b_1.length then
 bif inR i_10 17 then
 some (.go ((key_0, b_1, at_8, n_9, (w64 (i_10 + (1 : Int))), ()), (r_6, (h_7.set i_10.toNat ((h_7.getD i_10.toNat (0 : UInt32)) + (b_1.getD x11.toNat (0 : UInt8)).toUInt32)), ())))
 else none
 else none
 else none
 else
 some (.br ((key_0, b_1, at_8, n_9, ()), (r_6, h_7, ())))
noncomputable def ref11_Sum_9 (N : Nat) (key_0 : (List UInt8)) (b_1 : (List UInt8)) (at_8 : Int) (r_6 : (List UInt32)) (h_7 : (List UInt32)) : Option (Lo (((List UInt8) × (List UInt8) × Int × Unit) × ((List UInt32) × (List UInt32) × Unit)) (((List UInt8) × Unit) × ((List UInt32) × Unit)) ref11_Sum_R) :=
 some (.go ((key_0, b_1, (w64 (at_8 + (16 : Int))), ()), (r_6, h_7, ())))
noncomputable def ref11_Sum_8 (N : Nat) (key_0 : (List UInt8)) (b_1 : (List UInt8)) (at_8 : Int) (n_9 : Int) (r_6 : (List UInt32)) (h_7 : (List UInt32)) : Option (Lo (((List UInt8) × (List UInt8) × Int × Unit) × ((List UInt32) × (List UInt32) × Unit)) (((List UInt8) × Unit) × ((List UInt32) × Unit)) ref11_Sum_R) :=
 bif inR n_9 17 then
 bif inR n_9 17 then
 Option.bind (ref11_carry N (h_7.set n_9.toNat ((h_7.getD n_9.toNat (0 : UInt32)) + (1 : UInt32)))) fun y19 =>
 Option.bind (ref11_product N y19.1.1 r_6) fun y20 =>
 ref11_Sum_9 N key_0 b_1 at_8 r_6 y20.1.1
 else none
 else none
noncomputable def ref11_Sum_6 (N : Nat) (key_0 : (List UInt8)) (b_1 : (List UInt8)) (at_8 : Int) (n_9 : Int) (i_10 : Int) (r_6 : (List UInt32)) (h_7 : (List UInt32)) : Option (Lo (((List UInt8) × (List UInt8) × Int × Unit) × ((List UInt32) × (List UInt32) × Unit)) (((List UInt8) × Unit) × ((List UInt32) × Unit)) ref11_Sum_R) :=
 loopK N (fun y => ref11_Sum_s7 N y.1.1 y.1.2.1 y.1.2.2.1 y.1.2.2.2.1 y.1.2.2.2.2.1 y.2.1 y.2.2.1) (fun (e : (((List UInt8) × (List UInt8) × Int × Int × Unit) × ((List UInt32) × (List UInt32) × Unit))) => ref11_Sum_8 N e.1.1 e.1.2.1 e.1.2.2.1 e.1.2.2.2.1 e.2.1 e.2.2.1) ((key_0, b_1, at_8, n_9, i_10, ()), (r_6, h_7, ()))
noncomputable def ref11_Sum_5 (N : Nat) (key_0 : (List UInt8)) (b_1 : (List UInt8)) (at_8 : Int) (r_6 : (List UInt32)) (h_7 : (List UInt32)) : Option (Lo (((List UInt8) × (List UInt8) × Int × Unit) × ((List UInt32) × (List UInt32) × Unit)) (((List UInt8) × Unit) × ((List UInt32) × Unit)) ref11_Sum_R) :=
 let x7 := w64 ((b_1.length : Int) - at_8)
 ref11_Sum_6 N key_0 b_1 at_8 (bif decide (x7 < (16 : Int)) then x7 else (16 : Int)) (0 : Int) r_6 h_7
noncomputable def ref11_Sum_3 (N : Nat) (key_0 : (List UInt8)) (b_1 : (List UInt8)) (at_8 : Int) (r_6 : (List UInt32)) (h_7 : (List UInt32)) : Option (Lo (((List UInt8) × (List UInt8) × Int × Unit) × ((List UInt32) × (List UInt32) × Unit)) (((List UInt8) × Unit) × ((List UInt32) × Unit)) ref11_Sum_R) :=
 ref11_Sum_5 N key_0 b_1 at_8 r_6 h_7
noncomputable def ref11_Sum_s2 (N : Nat) (key_0 : (List UInt8)) (b_1 : (List UInt8)) (at_8 : Int) (r_6 : (List UInt32)) (h_7 : (List UInt32)) : Option (Lo (((List UInt8) × (List UInt8) × Int × Unit) × ((List UInt32) × (List UInt32) × Unit)) (((List UInt8) × Unit) × ((List UInt32) × Unit)) ref11_Sum_R) :=
 bif (decide (at_8 < (b_1.length : Int))) then
 ref11_Sum_3 N key_0 b_1 at_8 r_6 h_7
 else
 some (.br ((key_0, ()), (h_7, ())))
noncomputable def ref11_Sum_s12 (N : Nat) (key_0 : (List UInt8)) (u_12 : UInt32) (i_13 : Int) (h_7 : (List UInt32)) (g_11 : (List UInt32)) : Option (Lo (((List UInt8) × UInt32 × Int × Unit) × ((List UInt32) × (List UInt32) × Unit)) (((List UInt8) × Unit) × ((List UInt32) × (List UInt32) × Unit)) ref11_Sum_R) :=
 bif (decide (i_13 < (17 : Int))) then
 bif inR i_13 17 then
 let x24 := (h_7.getD i_13.toNat (0 : UInt32))
 bif inR i_13 17 then
 some (.go ((key_0, (shr32 (u_12 + x24) 8), (w64 (i_13 + (1 : Int))), ()), (h_7, (g_11.set i_13.toNat ((u_12 + x24) &&& (255 : UInt32))), ())))
 else none
 else none
 else
 some (.br ((key_0, ()), (h_7, g_11, ())))
noncomputable def ref11_Sum_s16 (N : Nat) (key_0 : (List UInt8)) (u_12 : UInt32) (i_15 : Int) (h_7 : (List UInt32)) (out_14 : (List UInt8)) : Option (Lo (((List UInt8) × UInt32 × Int × Unit) × ((List UInt32) × (List UInt8) × Unit)) ((Unit) × ((List UInt8) × Unit)) ref11_Sum_R) :=
 bif (decide (i_15 < (16 : Int))) then
 bif inR i_15 17 then
 let x34 := w64 ((16 : Int) + i_15)
 bif inR x34 key_0.length then
 let x36 := (h_7.getD i_15.toNat (0 : UInt32)) + (key_0.getD x34.toNat (0 : UInt8)).toUInt32
 bif room (out_14.length + ([(u_12 + x36).toUInt8] : List UInt8).length) 1 then
 some (.go ((key_0, (shr32 (u_12 + x36) 8), (w64 (i_15 + (1 : Int))), ()), (h_7, (out_14 ++ ([(u_12 + x36).toUInt8] : List UInt8)), ())))
 else none
 else none
 else none
 else
 some (.br ((()), (out_14, ())))
noncomputable def ref11_Sum_17 (N : Nat) (out_14 : (List UInt8)) : Option ref11_Sum_R :=
 some ((true, ()), (out_14, ()))
noncomputable def ref11_Sum_15 (N : Nat) (key_0 : (List UInt8)) (u_12 : UInt32) (i_15 : Int) (h_7 : (List UInt32)) (out_14 : (List UInt8)) : Option ref11_Sum_R :=
 loopK N (fun y => ref11_Sum_s16 N y.1.1 y.1.2.1 y.1.2.2.1 y.2.1 y.2.2.1) (fun (e : ((Unit) × ((List UInt8) × Unit))) => ref11_Sum_17 N e.2.1) ((key_0, u_12, i_15, ()), (h_7, out_14, ()))
noncomputable def ref11_Sum_14 (N : Nat) (key_0 : (List UInt8)) (h_7 : (List UInt32)) : Option ref11_Sum_R :=
 ref11_Sum_15 N key_0 (0 : UInt32) (0 : Int) h_7 ([] : List UInt8)
noncomputable def ref11_Sum_13 (N : Nat) (key_0 : (List UInt8)) (h_7 : (List UInt32)) (g_11 : (List UInt32)) : Option ref11_Sum_R :=
 bif (decide ((4 : UInt32) ≤ (g_11.getD 16 (0 : UInt32)))) then
 ref11_Sum_14 N key_0 g_11
 else
 ref11_Sum_14 N key_0 h_7
noncomputable def ref11_Sum_11 (N : Nat) (key_0 : (List UInt8)) (u_12 : UInt32) (i_13 : Int) (h_7 : (List UInt32)) (g_11 : (List UInt32)) : Option ref11_Sum_R :=
 loopK N (fun y => ref11_Sum_s12 N y.1.1 y.1.2.1 y.1.2.2.1 y.2.1 y.2.2.1) (fun (e : (((List UInt8) × Unit) × ((List UInt32) × (List UInt32) × Unit))) => ref11_Sum_13 N e.1.1 e.2.1 e.2.2.1) ((key_0, u_12, i_13, ()), (h_7, g_11, ()))
noncomputable def ref11_Sum_10 (N : Nat) (key_0 : (List UInt8)) (h_7 : (List UInt32)) : Option ref11_Sum_R :=
 Option.bind (ref11_carry N h_7) fun y22 =>
 ref11_Sum_11 N key_0 (5 : UInt32) (0 : Int) y22.1.1 (List.replicate 17 (0 : UInt32))
noncomputable def ref11_Sum_1 (N : Nat) (key_0 : (List UInt8)) (b_1 : (List UInt8)) (at_8 : Int) (r_6 : (List UInt32)) (h_7 : (List UInt32)) : Option ref11_Sum_R :=
 loopK N (fun y => ref11_Sum_s2 N y.1.1 y.1.2.1 y.1.2.2.1 y.2.1 y.2.2.1) (fun (e : (((List UInt8) × Unit) × ((List UInt32) × Unit))) => ref11_Sum_10 N e.1.1 e.2.1) ((key_0, b_1, at_8, ()), (r_6, h_7, ()))
noncomputable def ref11_Sum (N : Nat) (key_0 : (List UInt8)) (b_1 : (List UInt8)) : Option ref11_Sum_R :=
 bif (!(decide ((key_0.length : Int) = (32 : Int)))) then
 some ((false, ()), (([] : List UInt8), ()))
 else
 Option.bind (ref11_clamp N key_0) fun y3 =>
 ref11_Sum_1 N key_0 b_1 (0 : Int) y3.1.1 (List.replicate 17 (0 : UInt32))
noncomputable def ref11_Sum_C (N : Nat) : Ctx := ⟨103, G_tys, [(92, ref11_clamp_ctr N), (94, ref11_carry_ctr N), (93, ref11_product_ctr N)], G_globs, G_ifs⟩
noncomputable def ref11_Sum_S0 : Spec := ⟨[.val (.sl .u8), .val (.sl .u8), .ref 0 (.arr 17 .u32), .ref 1 (.arr 17 .u32), .val .i64, .val .i64, .val .i64], [(.box 117 (.arr 17 .u32), .pos 2), (.box 117 (.arr 17 .u32), .pos 3)]⟩
noncomputable def ref11_Sum_S1 : Spec := ⟨[.val (.sl .u8), .val (.sl .u8), .ref 0 (.arr 17 .u32), .ref 1 (.arr 17 .u32), .val .i64], [(.box 117 (.arr 17 .u32), .pos 2), (.box 117 (.arr 17 .u32), .pos 3)]⟩
noncomputable def ref11_Sum_S2 : Spec := ⟨[.val (.sl .u8), .val (.sl .u8), .ref 0 (.arr 17 .u32), .ref 1 (.arr 17 .u32), .val .i64, .val .i64], [(.box 117 (.arr 17 .u32), .pos 2), (.box 117 (.arr 17 .u32), .pos 3)]⟩
noncomputable def ref11_Sum_S3 : Spec := ⟨[.val (.sl .u8), .ref 0 (.arr 17 .u32), .ref 1 (.arr 17 .u32), .val .u32, .val .i64], [(.box 117 (.arr 17 .u32), .pos 1), (.box 117 (.arr 17 .u32), .pos 2)]⟩
noncomputable def ref11_Sum_S4 : Spec := ⟨[.val (.sl .u8), .ref 0 (.arr 17 .u32), .val .u32, .row 1, .val .i64], [(.box 117 (.arr 17 .u32), .pos 1), (.row 5 .u8, .pos 3)]⟩
noncomputable def ref11_Sum_S5 : Spec := ⟨[.row 0], [(.row 5 .u8, .pos 0)]⟩
noncomputable def ref11_Sum_S6 : Spec := ⟨[.val (.sl .u8), .ref 0 (.arr 17 .u32)], [(.box 117 (.arr 17 .u32), .pos 1)]⟩
noncomputable def ref11_Sum_S7 : Spec := ⟨[.val (.sl .u8), .ref 0 (.arr 17 .u32), .ref 1 (.arr 17 .u32)], [(.box 117 (.arr 17 .u32), .pos 1), (.box 117 (.arr 17 .u32), .pos 2)]⟩
noncomputable def ref11_Sum_S8 : Spec := ⟨[.val (.sl .u8), .val (.sl .u8)], []⟩
noncomputable def ref11_Sum_S9 : Spec := ⟨[.row 0, .val .bool], [(.row 5 .u8, .pos 0)]⟩
noncomputable def ref11_Sum_K (_N : Nat) : XE → GS → Option ref11_Sum_R := retK 0 [4, 5] [false, false] ref11_Sum_S9
noncomputable def ref11_Sum_L : List Code := (bodyOf (some Tryz.f80))
noncomputable def ref11_Sum_L2 : List Code := (loopOf (ref11_Sum_L[6]?))
noncomputable def ref11_Sum_L4b : List Code := (blockOf (ref11_Sum_L2[2]?))
noncomputable def ref11_Sum_L7 : List Code := (loopOf (ref11_Sum_L4b[2]?))
noncomputable def ref11_Sum_L12 : List Code := (loopOf (ref11_Sum_L[11]?))
noncomputable def ref11_Sum_L16 : List Code := (loopOf (ref11_Sum_L[17]?))
noncomputable def ref11_Sum_K2 (N : Nat) : XE → GS → Option (Lo (((List UInt8) × (List UInt8) × Int × Unit) × ((List UInt32) × (List UInt32) × Unit)) (((List UInt8) × Unit) × ((List UInt32) × Unit)) ref11_Sum_R) := roundK (some 0) (fit 0 [0, 1, 6, 7, 8] ref11_Sum_S1) (fit 0 [0, 7] ref11_Sum_S6) (ref11_Sum_K N)
noncomputable def ref11_Sum_K12 (N : Nat) : XE → GS → Option (Lo (((List UInt8) × UInt32 × Int × Unit) × ((List UInt32) × (List UInt32) × Unit)) (((List UInt8) × Unit) × ((List UInt32) × (List UInt32) × Unit)) ref11_Sum_R) := roundK (some 4) (fit 0 [0, 7, 11, 12, 13] ref11_Sum_S3) (fit 0 [0, 7, 11] ref11_Sum_S7) (ref11_Sum_K N)
noncomputable def ref11_Sum_K16 (N : Nat) : XE → GS → Option (Lo (((List UInt8) × UInt32 × Int × Unit) × ((List UInt32) × (List UInt8) × Unit)) ((Unit) × ((List UInt8) × Unit)) ref11_Sum_R) := roundK (some 6) (fit 0 [0, 7, 12, 14, 15] ref11_Sum_S4) (fit 0 [14] ref11_Sum_S5) (ref11_Sum_K N)
noncomputable def ref11_Sum_K4 (N : Nat) : XE → GS → Option (Lo (((List UInt8) × (List UInt8) × Int × Unit) × ((List UInt32) × (List UInt32) × Unit)) (((List UInt8) × Unit) × ((List UInt32) × Unit)) ref11_Sum_R) := blockK 1 (goK 0 [0, 1, 6, 7, 8] ref11_Sum_S1 (fun y => ref11_Sum_9 N y.1.1 y.1.2.1 y.1.2.2.1 y.2.1 y.2.2.1)) (ref11_Sum_K2 N)
noncomputable def ref11_Sum_K7 (N : Nat) : XE → GS → Option (Lo (((List UInt8) × (List UInt8) × Int × Int × Int × Unit) × ((List UInt32) × (List UInt32) × Unit)) (((List UInt8) × (List UInt8) × Int × Int × Unit) × ((List UInt32) × (List UInt32) × Unit)) (Lo (((List UInt8) × (List UInt8) × Int × Unit) × ((List UInt32) × (List UInt32) × Unit)) (((List UInt8) × Unit) × ((List UInt32) × Unit)) ref11_Sum_R)) := roundK (some 2) (fit 0 [0, 1, 6, 7, 8, 9, 10] ref11_Sum_S0) (fit 0 [0, 1, 6, 7, 8, 9] ref11_Sum_S2) (ref11_Sum_K4 N)
theorem ref11_Sum_s7_b {E : Env} (N : Nat) (hb : Base Tryz.prog (ref11_Sum_C N) E 0) : Blk Tryz.prog (ref11_Sum_C N) E [0, 1, 6, 7, 8, 9, 10] ref11_Sum_S0 (ref11_Sum_L7.drop 0) (fun y => ref11_Sum_s7 N y.1.1 y.1.2.1 y.1.2.2.1 y.1.2.2.2.1 y.1.2.2.2.2.1 y.2.1 y.2.2.1) (ref11_Sum_K7 N) :=
 Blk.chunkAt hb 4 (X := (ref11_Sum_K7 N .normal)) (NxOk.end (by kernel_rfl)) rfl (fun x => by kernel_rfl)
theorem ref11_Sum_9_b {E : Env} (N : Nat) (hb : Base Tryz.prog (ref11_Sum_C N) E 0) : Blk Tryz.prog (ref11_Sum_C N) E [0, 1, 6, 7, 8] ref11_Sum_S1 (ref11_Sum_L2.drop 3) (fun y => ref11_Sum_9 N y.1.1 y.1.2.1 y.1.2.2.1 y.2.1 y.2.2.1) (ref11_Sum_K2 N) :=
 Blk.chunkAt hb 1 (X := (ref11_Sum_K2 N .normal)) (NxOk.end (by kernel_rfl)) rfl (fun x => by kernel_rfl)
theorem ref11_Sum_8_b {E : Env} (N : Nat) (hb : Base Tryz.prog (ref11_Sum_C N) E 0) : Blk Tryz.prog (ref11_Sum_C N) E [0, 1, 6, 7, 8, 9] ref11_Sum_S2 (ref11_Sum_L4b.drop 3) (fun y => ref11_Sum_8 N y.1.1 y.1.2.1 y.1.2.2.1 y.1.2.2.2.1 y.2.1 y.2.2.1) (ref11_Sum_K4 N) :=
 Blk.chunkAt hb 2 (X := (ref11_Sum_K4 N .normal)) (NxOk.end (by kernel_rfl)) rfl (fun x => by kernel_rfl)
theorem ref11_Sum_6_b {E : Env} (N : Nat) (hb : Base Tryz.prog (ref11_Sum_C N) E 0) : Blk Tryz.prog (ref11_Sum_C N) E [0, 1, 6, 7, 8, 9, 10] ref11_Sum_S0 (ref11_Sum_L4b.drop 2) (fun y => ref11_Sum_6 N y.1.1 y.1.2.1 y.1.2.2.1 y.1.2.2.2.1 y.1.2.2.2.2.1 y.2.1 y.2.2.1) (ref11_Sum_K4 N) :=
 Blk.loopAt (Nf := N) (hns := [0, 1, 6, 7, 8, 9, 10]) (ans := [0, 1, 6, 7, 8, 9]) (hc := ref11_Sum_S0) (ac := ref11_Sum_S2) (bid := 2) (step := (fun y => ref11_Sum_s7 N y.1.1 y.1.2.1 y.1.2.2.1 y.1.2.2.2.1 y.1.2.2.2.2.1 y.2.1 y.2.2.1)) (J := (fun e => (goK 0 [0, 1, 6, 7, 8, 9] ref11_Sum_S2 (fun y => ref11_Sum_8 N y.1.1 y.1.2.1 y.1.2.2.1 y.1.2.2.2.1 y.2.1 y.2.2.1)) (ref11_Sum_S2.st [0, 1, 6, 7, 8, 9] e))) hb (by kernel_rfl) (Blk.into (X := (goK 0 [0, 1, 6, 7, 8, 9] ref11_Sum_S2 (fun y => ref11_Sum_8 N y.1.1 y.1.2.1 y.1.2.2.1 y.1.2.2.2.1 y.2.1 y.2.2.1))) (NxOk.go hb (ref11_Sum_8_b N hb)) (fun x => by kernel_rfl)) (ref11_Sum_s7_b N hb) (fun x => by kernel_rfl)
theorem ref11_Sum_5_b {E : Env} (N : Nat) (hb : Base Tryz.prog (ref11_Sum_C N) E 0) : Blk Tryz.prog (ref11_Sum_C N) E [0, 1, 6, 7, 8] ref11_Sum_S1 (ref11_Sum_L4b.drop 0) (fun y => ref11_Sum_5 N y.1.1 y.1.2.1 y.1.2.2.1 y.2.1 y.2.2.1) (ref11_Sum_K4 N) :=
 Blk.chunkAt hb 2 (X := (goK 0 [0, 1, 6, 7, 8, 9, 10] ref11_Sum_S0 (fun y => ref11_Sum_6 N y.1.1 y.1.2.1 y.1.2.2.1 y.1.2.2.2.1 y.1.2.2.2.2.1 y.2.1 y.2.2.1))) (NxOk.go hb (ref11_Sum_6_b N hb)) rfl (fun x => by kernel_rfl)
theorem ref11_Sum_3_b {E : Env} (N : Nat) (hb : Base Tryz.prog (ref11_Sum_C N) E 0) : Blk Tryz.prog (ref11_Sum_C N) E [0, 1, 6, 7, 8] ref11_Sum_S1 (ref11_Sum_L2.drop 2) (fun y => ref11_Sum_3 N y.1.1 y.1.2.1 y.1.2.2.1 y.2.1 y.2.2.1) (ref11_Sum_K2 N) :=
 Blk.blockAt (bid := 1) (X := (goK 0 [0, 1, 6, 7, 8] ref11_Sum_S1 (fun y => ref11_Sum_9 N y.1.1 y.1.2.1 y.1.2.2.1 y.2.1 y.2.2.1))) (Y := (goK 0 [0, 1, 6, 7, 8] ref11_Sum_S1 (fun y => ref11_Sum_5 N y.1.1 y.1.2.1 y.1.2.2.1 y.2.1 y.2.2.1))) (by kernel_rfl) (NxOk.go hb (ref11_Sum_9_b N hb)) (NxOk.go hb (ref11_Sum_5_b N hb)) (fun x => by kernel_rfl)
theorem ref11_Sum_s2_b {E : Env} (N : Nat) (hb : Base Tryz.prog (ref11_Sum_C N) E 0) : Blk Tryz.prog (ref11_Sum_C N) E [0, 1, 6, 7, 8] ref11_Sum_S1 (ref11_Sum_L2.drop 0) (fun y => ref11_Sum_s2 N y.1.1 y.1.2.1 y.1.2.2.1 y.2.1 y.2.2.1) (ref11_Sum_K2 N) :=
 Blk.chunkAt hb 2 (X := (goK 0 [0, 1, 6, 7, 8] ref11_Sum_S1 (fun y => ref11_Sum_3 N y.1.1 y.1.2.1 y.1.2.2.1 y.2.1 y.2.2.1))) (NxOk.go hb (ref11_Sum_3_b N hb)) rfl (fun x => by kernel_rfl)
theorem ref11_Sum_s12_b {E : Env} (N : Nat) (hb : Base Tryz.prog (ref11_Sum_C N) E 0) : Blk Tryz.prog (ref11_Sum_C N) E [0, 7, 11, 12, 13] ref11_Sum_S3 (ref11_Sum_L12.drop 0) (fun y => ref11_Sum_s12 N y.1.1 y.1.2.1 y.1.2.2.1 y.2.1 y.2.2.1) (ref11_Sum_K12 N) :=
 Blk.chunkAt hb 4 (X := (ref11_Sum_K12 N .normal)) (NxOk.end (by kernel_rfl)) rfl (fun x => by kernel_rfl)
theorem ref11_Sum_s16_b {E : Env} (N : Nat) (hb : Base Tryz.prog (ref11_Sum_C N) E 0) : Blk Tryz.prog (ref11_Sum_C N) E [0, 7, 12, 14, 15] ref11_Sum_S4 (ref11_Sum_L16.drop 0) (fun y => ref11_Sum_s16 N y.1.1 y.1.2.1 y.1.2.2.1 y.2.1 y.2.2.1) (ref11_Sum_K16 N) :=
 Blk.chunkAt hb 4 (X := (ref11_Sum_K16 N .normal)) (NxOk.end (by kernel_rfl)) rfl (fun x => by kernel_rfl)
theorem ref11_Sum_17_b {E : Env} (N : Nat) (hb : Base Tryz.prog (ref11_Sum_C N) E 0) : Blk Tryz.prog (ref11_Sum_C N) E [14] ref11_Sum_S5 (ref11_Sum_L.drop 18) (fun y => ref11_Sum_17 N y.2.1) (ref11_Sum_K N) :=
 Blk.chunkAt hb 2 (X := (ref11_Sum_K N .normal)) (NxOk.end (by kernel_rfl)) rfl (fun x => by kernel_rfl)
theorem ref11_Sum_15_b {E : Env} (N : Nat) (hb : Base Tryz.prog (ref11_Sum_C N) E 0) : Blk Tryz.prog (ref11_Sum_C N) E [0, 7, 12, 14, 15] ref11_Sum_S4 (ref11_Sum_L.drop 17) (fun y => ref11_Sum_15 N y.1.1 y.1.2.1 y.1.2.2.1 y.2.1 y.2.2.1) (ref11_Sum_K N) :=
 Blk.loopAt (Nf := N) (hns := [0, 7, 12, 14, 15]) (ans := [14]) (hc := ref11_Sum_S4) (ac := ref11_Sum_S5) (bid := 6) (step := (fun y => ref11_Sum_s16 N y.1.1 y.1.2.1 y.1.2.2.1 y.2.1 y.2.2.1)) (J := (fun e => (goK 0 [14] ref11_Sum_S5 (fun y => ref11_Sum_17 N y.2.1)) (ref11_Sum_S5.st [14] e))) hb (by kernel_rfl) (Blk.into (X := (goK 0 [14] ref11_Sum_S5 (fun y => ref11_Sum_17 N y.2.1))) (NxOk.go hb (ref11_Sum_17_b N hb)) (fun x => by kernel_rfl)) (ref11_Sum_s16_b N hb) (fun x => by kernel_rfl)
theorem ref11_Sum_14_b {E : Env} (N : Nat) (hb : Base Tryz.prog (ref11_Sum_C N) E 0) : Blk Tryz.prog (ref11_Sum_C N) E [0, 7] ref11_Sum_S6 (ref11_Sum_L.drop 14) (fun y => ref11_Sum_14 N y.1.1 y.2.1) (ref11_Sum_K N) :=
 Blk.chunkAt hb 3 (X := (goK 0 [0, 7, 12, 14, 15] ref11_Sum_S4 (fun y => ref11_Sum_15 N y.1.1 y.1.2.1 y.1.2.2.1 y.2.1 y.2.2.1))) (NxOk.go hb (ref11_Sum_15_b N hb)) rfl (fun x => by kernel_rfl)
theorem ref11_Sum_13_b {E : Env} (N : Nat) (hb : Base Tryz.prog (ref11_Sum_C N) E 0) : Blk Tryz.prog (ref11_Sum_C N) E [0, 7, 11] ref11_Sum_S7 (ref11_Sum_L.drop 12) (fun y => ref11_Sum_13 N y.1.1 y.2.1 y.2.2.1) (ref11_Sum_K N) :=
 Blk.chunkAt hb 2 (X := (goK 0 [0, 7] ref11_Sum_S6 (fun y => ref11_Sum_14 N y.1.1 y.2.1))) (NxOk.go hb (ref11_Sum_14_b N hb)) rfl (fun x => by kernel_rfl)
theorem ref11_Sum_11_b {E : Env} (N : Nat) (hb : Base Tryz.prog (ref11_Sum_C N) E 0) : Blk Tryz.prog (ref11_Sum_C N) E [0, 7, 11, 12, 13] ref11_Sum_S3 (ref11_Sum_L.drop 11) (fun y => ref11_Sum_11 N y.1.1 y.1.2.1 y.1.2.2.1 y.2.1 y.2.2.1) (ref11_Sum_K N) :=
 Blk.loopAt (Nf := N) (hns := [0, 7, 11, 12, 13]) (ans := [0, 7, 11]) (hc := ref11_Sum_S3) (ac := ref11_Sum_S7) (bid := 4) (step := (fun y => ref11_Sum_s12 N y.1.1 y.1.2.1 y.1.2.2.1 y.2.1 y.2.2.1)) (J := (fun e => (goK 0 [0, 7, 11] ref11_Sum_S7 (fun y => ref11_Sum_13 N y.1.1 y.2.1 y.2.2.1)) (ref11_Sum_S7.st [0, 7, 11] e))) hb (by kernel_rfl) (Blk.into (X := (goK 0 [0, 7, 11] ref11_Sum_S7 (fun y => ref11_Sum_13 N y.1.1 y.2.1 y.2.2.1))) (NxOk.go hb (ref11_Sum_13_b N hb)) (fun x => by kernel_rfl)) (ref11_Sum_s12_b N hb) (fun x => by kernel_rfl)
theorem ref11_Sum_10_b {E : Env} (N : Nat) (hb : Base Tryz.prog (ref11_Sum_C N) E 0) : Blk Tryz.prog (ref11_Sum_C N) E [0, 7] ref11_Sum_S6 (ref11_Sum_L.drop 7) (fun y => ref11_Sum_10 N y.1.1 y.2.1) (ref11_Sum_K N) :=
 Blk.chunkAt hb 4 (X := (goK 0 [0, 7, 11, 12, 13] ref11_Sum_S3 (fun y => ref11_Sum_11 N y.1.1 y.1.2.1 y.1.2.2.1 y.2.1 y.2.2.1))) (NxOk.go hb (ref11_Sum_11_b N hb)) rfl (fun x => by kernel_rfl)
theorem ref11_Sum_1_b {E : Env} (N : Nat) (hb : Base Tryz.prog (ref11_Sum_C N) E 0) : Blk Tryz.prog (ref11_Sum_C N) E [0, 1, 6, 7, 8] ref11_Sum_S1 (ref11_Sum_L.drop 6) (fun y => ref11_Sum_1 N y.1.1 y.1.2.1 y.1.2.2.1 y.2.1 y.2.2.1) (ref11_Sum_K N) :=
 Blk.loopAt (Nf := N) (hns := [0, 1, 6, 7, 8]) (ans := [0, 7]) (hc := ref11_Sum_S1) (ac := ref11_Sum_S6) (bid := 0) (step := (fun y => ref11_Sum_s2 N y.1.1 y.1.2.1 y.1.2.2.1 y.2.1 y.2.2.1)) (J := (fun e => (goK 0 [0, 7] ref11_Sum_S6 (fun y => ref11_Sum_10 N y.1.1 y.2.1)) (ref11_Sum_S6.st [0, 7] e))) hb (by kernel_rfl) (Blk.into (X := (goK 0 [0, 7] ref11_Sum_S6 (fun y => ref11_Sum_10 N y.1.1 y.2.1))) (NxOk.go hb (ref11_Sum_10_b N hb)) (fun x => by kernel_rfl)) (ref11_Sum_s2_b N hb) (fun x => by kernel_rfl)
theorem ref11_Sum_b {E : Env} (N : Nat) (hb : Base Tryz.prog (ref11_Sum_C N) E 0) : Blk Tryz.prog (ref11_Sum_C N) E (List.range ref11_Sum_S8.ks.length) ref11_Sum_S8 (ref11_Sum_L.drop 0) (fun y => ref11_Sum N y.1.1 y.1.2.1) (ref11_Sum_K N) :=
 Blk.chunkAt hb 6 (X := (goK 0 [0, 1, 6, 7, 8] ref11_Sum_S1 (fun y => ref11_Sum_1 N y.1.1 y.1.2.1 y.1.2.2.1 y.2.1 y.2.2.1))) (NxOk.go hb (ref11_Sum_1_b N hb)) rfl (fun x => by kernel_rfl)
noncomputable def ref11_Sum_ctr (N : Nat) : Ctr := ⟨ref11_Sum_S8, ref11_Sum_S9.un [false, false], 0, (fun y => ref11_Sum N y.1.1 y.1.2.1)⟩
theorem ref11_Sum_ctrs (N : Nat) : CtrsOk Tryz.prog (ref11_Sum_C N) := ctrs_of (Γ := ref11_Sum_C N) G_ifs_ok (by
 intro p hp
 simp only [ref11_Sum_C, List.mem_cons, List.not_mem_nil, or_false] at hp
 rcases hp with rfl | rfl | rfl
 · exact ref11_clamp_ok N
 · exact ref11_carry_ok N
 · exact ref11_product_ok N)
theorem ref11_Sum_ok (N : Nat) : Ctr.ok Tryz.prog G_globs 80 (ref11_Sum_ctr N) :=
 ctr_fn (Γ := ref11_Sum_C N) (rfit := ref11_Sum_S9) (bs := [false, false]) (res := [4, 5]) (by kernel_rfl) (tys_ok G_tys_ok) (ref11_Sum_ctrs N) Tryz.func80 (by kernel_rfl) (by kernel_rfl) Tryz.ntmps80 (by kernel_rfl) (by kernel_rfl) (by kernel_rfl) (by kernel_rfl) (fun E hb => ref11_Sum_b N hb)
/-! ipsecgate/ipsecgateref12.Tag -/
abbrev ref12_Tag_R : Type := ((Bool × Unit) × ((List UInt8) × Unit))
noncomputable def ref12_Tag (N : Nat) (key_0 : (List UInt8)) (nonce_1 : (List UInt8)) (data_2 : (List UInt8)) (cipher_3 : (List UInt8)) : Option ref12_Tag_R :=
 Option.bind (ref10_Block N key_0 (0 : UInt32) nonce_1) fun y1 =>
 bif (!y1.1.1) then
 some ((false, ()), (([] : List UInt8), ()))
 else
 Option.bind (ref12_pad N data_2) fun y3 =>
 Option.bind (ref12_pad N cipher_3) fun y4 =>
 bif room (y3.2.1.length + y4.2.1.length) 1 then
 Option.bind (ref12_little N (iu64 (data_2.length : Int)) (y3.2.1 ++ y4.2.1)) fun y8 =>
 Option.bind (ref12_little N (iu64 (cipher_3.length : Int)) y8.2.1) fun y11 =>
 bif decide (0 ≤ (0 : Int)) && decide ((0 : Int) ≤ (32 : Int)) && decide ((32 : Int) ≤ (y1.2.1.length : Int)) && true then
 Option.bind (ref11_Sum N (cut y1.2.1 0 32) y11.2.1) fun y13 =>
 some ((y13.1.1, ()), (y13.2.1, ()))
 else none
 else none
noncomputable def ref12_Tag_C (N : Nat) : Ctx := ⟨41, G_tys, [(77, ref10_Block_ctr N), (78, ref12_pad_ctr N), (79, ref12_little_ctr N), (80, ref11_Sum_ctr N)], G_globs, G_ifs⟩
noncomputable def ref12_Tag_S0 : Spec := ⟨[.val (.sl .u8), .val (.sl .u8), .val (.sl .u8), .val (.sl .u8)], []⟩
noncomputable def ref12_Tag_S1 : Spec := ⟨[.row 0, .val .bool], [(.row 5 .u8, .pos 0)]⟩
noncomputable def ref12_Tag_K (_N : Nat) : XE → GS → Option ref12_Tag_R := retK 0 [8, 9] [false, false] ref12_Tag_S1
noncomputable def ref12_Tag_L : List Code := (bodyOf (some Tryz.f68))
theorem ref12_Tag_b {E : Env} (N : Nat) (hb : Base Tryz.prog (ref12_Tag_C N) E 0) : Blk Tryz.prog (ref12_Tag_C N) E (List.range ref12_Tag_S0.ks.length) ref12_Tag_S0 (ref12_Tag_L.drop 0) (fun y => ref12_Tag N y.1.1 y.1.2.1 y.1.2.2.1 y.1.2.2.2.1) (ref12_Tag_K N) :=
 Blk.chunkAt hb 8 (X := (ref12_Tag_K N .normal)) (NxOk.end (by kernel_rfl)) rfl (fun x => by kernel_rfl)
noncomputable def ref12_Tag_ctr (N : Nat) : Ctr := ⟨ref12_Tag_S0, ref12_Tag_S1.un [false, false], 0, (fun y => ref12_Tag N y.1.1 y.1.2.1 y.1.2.2.1 y.1.2.2.2.1)⟩
theorem ref12_Tag_ctrs (N : Nat) : CtrsOk Tryz.prog (ref12_Tag_C N) := ctrs_of (Γ := ref12_Tag_C N) G_ifs_ok (by
 intro p hp
 simp only [ref12_Tag_C, List.mem_cons, List.not_mem_nil, or_false] at hp
 rcases hp with rfl | rfl | rfl | rfl
 · exact ref10_Block_ok N
 · exact ref12_pad_ok N
 · exact ref12_little_ok N
 · exact ref11_Sum_ok N)
theorem ref12_Tag_ok (N : Nat) : Ctr.ok Tryz.prog G_globs 68 (ref12_Tag_ctr N) :=
 ctr_fn (Γ := ref12_Tag_C N) (rfit := ref12_Tag_S1) (bs := [false, false]) (res := [8, 9]) (by kernel_rfl) (tys_ok G_tys_ok) (ref12_Tag_ctrs N) Tryz.func68 (by kernel_rfl) (by kernel_rfl) Tryz.ntmps68 (by kernel_rfl) (by kernel_rfl) (by kernel_rfl) (by kernel_rfl) (fun E hb => ref12_Tag_b N hb)
/-! ipsecgate/ipsecgateref12.Seal -/
abbrev ref12_Seal_R : Type := ((Int × Unit) × ((List UInt8) × Unit))
noncomputable def ref12_Seal (N : Nat) (key_0 : (List UInt8)) (nonce_1 : (List UInt8)) (data_2 : (List UInt8)) (plain_3 : (List UInt8)) : Option ref12_Seal_R :=
 Option.bind (ref10_Xor N key_0 (1 : UInt32) nonce_1 plain_3) fun y1 =>
 bif (!y1.1.1) then
 some (((13 : Int), ()), (([] : List UInt8), ()))
 else
 Option.bind (ref12_Tag N key_0 nonce_1 data_2 y1.2.1) fun y3 =>
 bif room (y1.2.1.length + y3.2.1.length) 1 then
 some (((0 : Int), ()), ((y1.2.1 ++ y3.2.1), ()))
 else none
noncomputable def ref12_Seal_C (N : Nat) : Ctx := ⟨34, G_tys, [(67, ref10_Xor_ctr N), (68, ref12_Tag_ctr N)], G_globs, G_ifs⟩
noncomputable def ref12_Seal_S0 : Spec := ⟨[.val (.sl .u8), .val (.sl .u8), .val (.sl .u8), .val (.sl .u8)], []⟩
noncomputable def ref12_Seal_S1 : Spec := ⟨[.row 0, .val .i64], [(.row 5 .u8, .pos 0)]⟩
noncomputable def ref12_Seal_K (_N : Nat) : XE → GS → Option ref12_Seal_R := retK 0 [8, 9] [false, false] ref12_Seal_S1
noncomputable def ref12_Seal_L : List Code := (bodyOf (some Tryz.f51))
theorem ref12_Seal_b {E : Env} (N : Nat) (hb : Base Tryz.prog (ref12_Seal_C N) E 0) : Blk Tryz.prog (ref12_Seal_C N) E (List.range ref12_Seal_S0.ks.length) ref12_Seal_S0 (ref12_Seal_L.drop 0) (fun y => ref12_Seal N y.1.1 y.1.2.1 y.1.2.2.1 y.1.2.2.2.1) (ref12_Seal_K N) :=
 Blk.chunkAt hb 7 (X := (ref12_Seal_K N .normal)) (NxOk.end (by kernel_rfl)) rfl (fun x => by kernel_rfl)
noncomputable def ref12_Seal_ctr (N : Nat) : Ctr := ⟨ref12_Seal_S0, ref12_Seal_S1.un [false, false], 0, (fun y => ref12_Seal N y.1.1 y.1.2.1 y.1.2.2.1 y.1.2.2.2.1)⟩
theorem ref12_Seal_ctrs (N : Nat) : CtrsOk Tryz.prog (ref12_Seal_C N) := ctrs_of (Γ := ref12_Seal_C N) G_ifs_ok (by
 intro p hp
 simp only [ref12_Seal_C, List.mem_cons, List.not_mem_nil, or_false] at hp
 rcases hp with rfl | rfl
 · exact ref10_Xor_ok N
 · exact ref12_Tag_ok N)
theorem ref12_Seal_ok (N : Nat) : Ctr.ok Tryz.prog G_globs 51 (ref12_Seal_ctr N) :=
 ctr_fn (Γ := ref12_Seal_C N) (rfit := ref12_Seal_S1) (bs := [false, false]) (res := [8, 9]) (by kernel_rfl) (tys_ok G_tys_ok) (ref12_Seal_ctrs N) Tryz.func51 (by kernel_rfl) (by kernel_rfl) Tryz.ntmps51 (by kernel_rfl) (by kernel_rfl) (by kernel_rfl) (by kernel_rfl) (fun E hb => ref12_Seal_b N hb)
/-! ipsecgate/ipsecgateref24.Seal -/
abbrev ref24_Seal_R : Type := ((Int × Unit) × ((List UInt8) × Unit))
noncomputable def ref24_Seal_s3 (N : Nat) (key_0 : (List UInt8)) (spi_1 : UInt32) (number_2 : UInt64) (next_3 : Int) (payload_4 : (List UInt8)) (n_14 : Int) : Option (Lo (((List UInt8) × UInt32 × UInt64 × Int × (List UInt8) × Int × Unit) × (Unit)) (((List UInt8) × UInt32 × UInt64 × Int × (List UInt8) × Int × Unit) × (Unit)) ref24_Seal_R) :=
 bif (!(decide (((w64 ((w64 ((payload_4.length : Int) + n_14)) + (2 : Int))).tmod (4 : Int)) = (0 : Int)))) then
 some (.go ((key_0, spi_1, number_2, next_3, payload_4, (w64 (n_14 + (1 : Int))), ()), (())))
 else
 some (.br ((key_0, spi_1, number_2, next_3, payload_4, n_14, ()), (())))
noncomputable def ref24_Seal_s6 (N : Nat) (key_0 : (List UInt8)) (spi_1 : UInt32) (number_2 : UInt64) (next_3 : Int) (n_14 : Int) (k_16 : Int) (plain_15 : (List UInt8)) : Option (Lo (((List UInt8) × UInt32 × UInt64 × Int × Int × Int × Unit) × ((List UInt8) × Unit)) (((List UInt8) × UInt32 × UInt64 × Int × Int × Unit) × ((List UInt8) × Unit)) ref24_Seal_R) :=
 bif (decide (k_16 ≤ n_14)) then
 bif room (plain_15.length + ([(iu8 k_16)] : List UInt8).length) 1 then
 some (.go ((key_0, spi_1, number_2, next_3, n_14, (w64 (k_16 + (1 : Int))), ()), ((plain_15 ++ ([(iu8 k_16)] : List UInt8)), ())))
 else none
 else
 some (.br ((key_0, spi_1, number_2, next_3, n_14, ()), (plain_15, ())))
noncomputable def ref24_Seal_7 (N : Nat) (key_0 : (List UInt8)) (spi_1 : UInt32) (number_2 : UInt64) (next_3 : Int) (n_14 : Int) (plain_15 : (List UInt8)) : Option ref24_Seal_R :=
 bif room (plain_15.length + ([(iu8 n_14), (iu8 next_3)] : List UInt8).length) 1 then
 bif decide (0 ≤ (0 : Int)) && decide ((0 : Int) ≤ (32 : Int)) && decide ((32 : Int) ≤ (key_0.length : Int)) && true then
 bif decide (0 ≤ (32 : Int)) && decide ((32 : Int) ≤ (key_0.length : Int)) && decide ((key_0.length : Int) ≤ (key_0.length : Int)) && true then
 let x20 := cut key_0 32 key_0.length
 bif room (0 + x20.length) 1 then
 Option.bind (ref24_put N number_2 (8 : Int) x20) fun y21 =>
 Option.bind (ref24_put N spi_1.toUInt64 (4 : Int) ([] : List UInt8)) fun y22 =>
 Option.bind (ref24_put N number_2 (8 : Int) y22.2.1) fun y23 =>
 Option.bind (ref12_Seal N (cut key_0 0 32) y21.2.1 y23.2.1 (plain_15 ++ ([(iu8 n_14), (iu8 next_3)] : List UInt8))) fun y24 =>
 bif (!(decide (y24.1.1 = (0 : Int)))) then
 some ((y24.1.1, ()), (([] : List UInt8), ()))
 else
 Option.bind (ref24_put N spi_1.toUInt64 (4 : Int) ([] : List UInt8)) fun y26 =>
 Option.bind (ref24_put N number_2 (4 : Int) y26.2.1) fun y27 =>
 bif room (y27.2.1.length + y24.2.1.length) 1 then
 some (((0 : Int), ()), ((y27.2.1 ++ y24.2.1), ()))
 else none
 else none
 else none
 else none
 else none
noncomputable def ref24_Seal_5 (N : Nat) (key_0 : (List UInt8)) (spi_1 : UInt32) (number_2 : UInt64) (next_3 : Int) (n_14 : Int) (k_16 : Int) (plain_15 : (List UInt8)) : Option ref24_Seal_R :=
 loopK N (fun y => ref24_Seal_s6 N y.1.1 y.1.2.1 y.1.2.2.1 y.1.2.2.2.1 y.1.2.2.2.2.1 y.1.2.2.2.2.2.1 y.2.1) (fun (e : (((List UInt8) × UInt32 × UInt64 × Int × Int × Unit) × ((List UInt8) × Unit))) => ref24_Seal_7 N e.1.1 e.1.2.1 e.1.2.2.1 e.1.2.2.2.1 e.1.2.2.2.2.1 e.2.1) ((key_0, spi_1, number_2, next_3, n_14, k_16, ()), (plain_15, ()))
noncomputable def ref24_Seal_4 (N : Nat) (key_0 : (List UInt8)) (spi_1 : UInt32) (number_2 : UInt64) (next_3 : Int) (payload_4 : (List UInt8)) (n_14 : Int) : Option ref24_Seal_R :=
 bif room (0 + payload_4.length) 1 then
 ref24_Seal_5 N key_0 spi_1 number_2 next_3 n_14 (1 : Int) payload_4
 else none
noncomputable def ref24_Seal_2 (N : Nat) (key_0 : (List UInt8)) (spi_1 : UInt32) (number_2 : UInt64) (next_3 : Int) (payload_4 : (List UInt8)) (n_14 : Int) : Option ref24_Seal_R :=
 loopK N (fun y => ref24_Seal_s3 N y.1.1 y.1.2.1 y.1.2.2.1 y.1.2.2.2.1 y.1.2.2.2.2.1 y.1.2.2.2.2.2.1) (fun (e : (((List UInt8) × UInt32 × UInt64 × Int × (List UInt8) × Int × Unit) × (Unit))) => ref24_Seal_4 N e.1.1 e.1.2.1 e.1.2.2.1 e.1.2.2.2.1 e.1.2.2.2.2.1 e.1.2.2.2.2.2.1) ((key_0, spi_1, number_2, next_3, payload_4, n_14, ()), (()))
noncomputable def ref24_Seal_1 (N : Nat) (key_0 : (List UInt8)) (spi_1 : UInt32) (number_2 : UInt64) (next_3 : Int) (payload_4 : (List UInt8)) (extra_5 : Int) (t_39 : Bool) : Option ref24_Seal_R :=
 bif t_39 then
 some (((5 : Int), ()), (([] : List UInt8), ()))
 else
 bif (decide ((4096 : Int) < (payload_4.length : Int))) then
 some (((11 : Int), ()), (([] : List UInt8), ()))
 else
 ref24_Seal_2 N key_0 spi_1 number_2 next_3 payload_4 extra_5
noncomputable def ref24_Seal (N : Nat) (key_0 : (List UInt8)) (spi_1 : UInt32) (number_2 : UInt64) (next_3 : Int) (payload_4 : (List UInt8)) (extra_5 : Int) : Option ref24_Seal_R :=
 bif (!(decide ((key_0.length : Int) = (36 : Int)))) then
 some (((13 : Int), ()), (([] : List UInt8), ()))
 else
 bif (decide (next_3 < (0 : Int))) then
 ref24_Seal_1 N key_0 spi_1 number_2 next_3 payload_4 extra_5 true
 else
 bif (decide ((255 : Int) < next_3)) then
 ref24_Seal_1 N key_0 spi_1 number_2 next_3 payload_4 extra_5 true
 else
 bif (decide (extra_5 < (0 : Int))) then
 ref24_Seal_1 N key_0 spi_1 number_2 next_3 payload_4 extra_5 true
 else
 bif (decide ((250 : Int) < extra_5)) then
 ref24_Seal_1 N key_0 spi_1 number_2 next_3 payload_4 extra_5 true
 else
 ref24_Seal_1 N key_0 spi_1 number_2 next_3 payload_4 extra_5 (decide (number_2 = (0 : UInt64)))
noncomputable def ref24_Seal_C (N : Nat) : Ctx := ⟨99, G_tys, [(52, ref24_put_ctr N), (51, ref12_Seal_ctr N)], G_globs, G_ifs⟩
noncomputable def ref24_Seal_S0 : Spec := ⟨[.val (.sl .u8), .val .u32, .val .u64, .val .i64, .val (.sl .u8), .val .i64], []⟩
noncomputable def ref24_Seal_S1 : Spec := ⟨[.val (.sl .u8), .val .u32, .val .u64, .val .i64, .val .i64, .row 0, .val .i64], [(.row 5 .u8, .pos 5)]⟩
noncomputable def ref24_Seal_S2 : Spec := ⟨[.val (.sl .u8), .val .u32, .val .u64, .val .i64, .val .i64, .row 0], [(.row 5 .u8, .pos 5)]⟩
noncomputable def ref24_Seal_S3 : Spec := ⟨[.val (.sl .u8), .val .u32, .val .u64, .val .i64, .val (.sl .u8), .val .i64, .val .bool], []⟩
noncomputable def ref24_Seal_S4 : Spec := ⟨[.row 0, .val .i64], [(.row 5 .u8, .pos 0)]⟩
noncomputable def ref24_Seal_K (_N : Nat) : XE → GS → Option ref24_Seal_R := retK 0 [12, 13] [false, false] ref24_Seal_S4
noncomputable def ref24_Seal_L : List Code := (bodyOf (some Tryz.f25))
noncomputable def ref24_Seal_L3 : List Code := (loopOf (ref24_Seal_L[8]?))
noncomputable def ref24_Seal_L6 : List Code := (loopOf (ref24_Seal_L[11]?))
noncomputable def ref24_Seal_K3 (N : Nat) : XE → GS → Option (Lo (((List UInt8) × UInt32 × UInt64 × Int × (List UInt8) × Int × Unit) × (Unit)) (((List UInt8) × UInt32 × UInt64 × Int × (List UInt8) × Int × Unit) × (Unit)) ref24_Seal_R) := roundK (some 0) (fit 0 [0, 1, 2, 3, 4, 14] ref24_Seal_S0) (fit 0 [0, 1, 2, 3, 4, 14] ref24_Seal_S0) (ref24_Seal_K N)
noncomputable def ref24_Seal_K6 (N : Nat) : XE → GS → Option (Lo (((List UInt8) × UInt32 × UInt64 × Int × Int × Int × Unit) × ((List UInt8) × Unit)) (((List UInt8) × UInt32 × UInt64 × Int × Int × Unit) × ((List UInt8) × Unit)) ref24_Seal_R) := roundK (some 2) (fit 0 [0, 1, 2, 3, 14, 15, 16] ref24_Seal_S1) (fit 0 [0, 1, 2, 3, 14, 15] ref24_Seal_S2) (ref24_Seal_K N)
theorem ref24_Seal_s3_b {E : Env} (N : Nat) (hb : Base Tryz.prog (ref24_Seal_C N) E 0) : Blk Tryz.prog (ref24_Seal_C N) E [0, 1, 2, 3, 4, 14] ref24_Seal_S0 (ref24_Seal_L3.drop 0) (fun y => ref24_Seal_s3 N y.1.1 y.1.2.1 y.1.2.2.1 y.1.2.2.2.1 y.1.2.2.2.2.1 y.1.2.2.2.2.2.1) (ref24_Seal_K3 N) :=
 Blk.chunkAt hb 3 (X := (ref24_Seal_K3 N .normal)) (NxOk.end (by kernel_rfl)) rfl (fun x => by kernel_rfl)
theorem ref24_Seal_s6_b {E : Env} (N : Nat) (hb : Base Tryz.prog (ref24_Seal_C N) E 0) : Blk Tryz.prog (ref24_Seal_C N) E [0, 1, 2, 3, 14, 15, 16] ref24_Seal_S1 (ref24_Seal_L6.drop 0) (fun y => ref24_Seal_s6 N y.1.1 y.1.2.1 y.1.2.2.1 y.1.2.2.2.1 y.1.2.2.2.2.1 y.1.2.2.2.2.2.1 y.2.1) (ref24_Seal_K6 N) :=
 Blk.chunkAt hb 4 (X := (ref24_Seal_K6 N .normal)) (NxOk.end (by kernel_rfl)) rfl (fun x => by kernel_rfl)
theorem ref24_Seal_7_b {E : Env} (N : Nat) (hb : Base Tryz.prog (ref24_Seal_C N) E 0) : Blk Tryz.prog (ref24_Seal_C N) E [0, 1, 2, 3, 14, 15] ref24_Seal_S2 (ref24_Seal_L.drop 12) (fun y => ref24_Seal_7 N y.1.1 y.1.2.1 y.1.2.2.1 y.1.2.2.2.1 y.1.2.2.2.2.1 y.2.1) (ref24_Seal_K N) :=
 Blk.chunkAt hb 6 (X := (ref24_Seal_K N .normal)) (NxOk.end (by kernel_rfl)) rfl (fun x => by kernel_rfl)
theorem ref24_Seal_5_b {E : Env} (N : Nat) (hb : Base Tryz.prog (ref24_Seal_C N) E 0) : Blk Tryz.prog (ref24_Seal_C N) E [0, 1, 2, 3, 14, 15, 16] ref24_Seal_S1 (ref24_Seal_L.drop 11) (fun y => ref24_Seal_5 N y.1.1 y.1.2.1 y.1.2.2.1 y.1.2.2.2.1 y.1.2.2.2.2.1 y.1.2.2.2.2.2.1 y.2.1) (ref24_Seal_K N) :=
 Blk.loopAt (Nf := N) (hns := [0, 1, 2, 3, 14, 15, 16]) (ans := [0, 1, 2, 3, 14, 15]) (hc := ref24_Seal_S1) (ac := ref24_Seal_S2) (bid := 2) (step := (fun y => ref24_Seal_s6 N y.1.1 y.1.2.1 y.1.2.2.1 y.1.2.2.2.1 y.1.2.2.2.2.1 y.1.2.2.2.2.2.1 y.2.1)) (J := (fun e => (goK 0 [0, 1, 2, 3, 14, 15] ref24_Seal_S2 (fun y => ref24_Seal_7 N y.1.1 y.1.2.1 y.1.2.2.1 y.1.2.2.2.1 y.1.2.2.2.2.1 y.2.1)) (ref24_Seal_S2.st [0, 1, 2, 3, 14, 15] e))) hb (by kernel_rfl) (Blk.into (X := (goK 0 [0, 1, 2, 3, 14, 15] ref24_Seal_S2 (fun y => ref24_Seal_7 N y.1.1 y.1.2.1 y.1.2.2.1 y.1.2.2.2.1 y.1.2.2.2.2.1 y.2.1))) (NxOk.go hb (ref24_Seal_7_b N hb)) (fun x => by kernel_rfl)) (ref24_Seal_s6_b N hb) (fun x => by kernel_rfl)
theorem ref24_Seal_4_b {E : Env} (N : Nat) (hb : Base Tryz.prog (ref24_Seal_C N) E 0) : Blk Tryz.prog (ref24_Seal_C N) E [0, 1, 2, 3, 4, 14] ref24_Seal_S0 (ref24_Seal_L.drop 9) (fun y => ref24_Seal_4 N y.1.1 y.1.2.1 y.1.2.2.1 y.1.2.2.2.1 y.1.2.2.2.2.1 y.1.2.2.2.2.2.1) (ref24_Seal_K N) :=
 Blk.chunkAt hb 2 (X := (goK 0 [0, 1, 2, 3, 14, 15, 16] ref24_Seal_S1 (fun y => ref24_Seal_5 N y.1.1 y.1.2.1 y.1.2.2.1 y.1.2.2.2.1 y.1.2.2.2.2.1 y.1.2.2.2.2.2.1 y.2.1))) (NxOk.go hb (ref24_Seal_5_b N hb)) rfl (fun x => by kernel_rfl)
theorem ref24_Seal_2_b {E : Env} (N : Nat) (hb : Base Tryz.prog (ref24_Seal_C N) E 0) : Blk Tryz.prog (ref24_Seal_C N) E [0, 1, 2, 3, 4, 14] ref24_Seal_S0 (ref24_Seal_L.drop 8) (fun y => ref24_Seal_2 N y.1.1 y.1.2.1 y.1.2.2.1 y.1.2.2.2.1 y.1.2.2.2.2.1 y.1.2.2.2.2.2.1) (ref24_Seal_K N) :=
 Blk.loopAt (Nf := N) (hns := [0, 1, 2, 3, 4, 14]) (ans := [0, 1, 2, 3, 4, 14]) (hc := ref24_Seal_S0) (ac := ref24_Seal_S0) (bid := 0) (step := (fun y => ref24_Seal_s3 N y.1.1 y.1.2.1 y.1.2.2.1 y.1.2.2.2.1 y.1.2.2.2.2.1 y.1.2.2.2.2.2.1)) (J := (fun e => (goK 0 [0, 1, 2, 3, 4, 14] ref24_Seal_S0 (fun y => ref24_Seal_4 N y.1.1 y.1.2.1 y.1.2.2.1 y.1.2.2.2.1 y.1.2.2.2.2.1 y.1.2.2.2.2.2.1)) (ref24_Seal_S0.st [0, 1, 2, 3, 4, 14] e))) hb (by kernel_rfl) (Blk.into (X := (goK 0 [0, 1, 2, 3, 4, 14] ref24_Seal_S0 (fun y => ref24_Seal_4 N y.1.1 y.1.2.1 y.1.2.2.1 y.1.2.2.2.1 y.1.2.2.2.2.1 y.1.2.2.2.2.2.1))) (NxOk.go hb (ref24_Seal_4_b N hb)) (fun x => by kernel_rfl)) (ref24_Seal_s3_b N hb) (fun x => by kernel_rfl)
theorem ref24_Seal_1_b {E : Env} (N : Nat) (hb : Base Tryz.prog (ref24_Seal_C N) E 0) : Blk Tryz.prog (ref24_Seal_C N) E [0, 1, 2, 3, 4, 5, 39] ref24_Seal_S3 (ref24_Seal_L.drop 4) (fun y => ref24_Seal_1 N y.1.1 y.1.2.1 y.1.2.2.1 y.1.2.2.2.1 y.1.2.2.2.2.1 y.1.2.2.2.2.2.1 y.1.2.2.2.2.2.2.1) (ref24_Seal_K N) :=
 Blk.chunkAt hb 4 (X := (goK 0 [0, 1, 2, 3, 4, 14] ref24_Seal_S0 (fun y => ref24_Seal_2 N y.1.1 y.1.2.1 y.1.2.2.1 y.1.2.2.2.1 y.1.2.2.2.2.1 y.1.2.2.2.2.2.1))) (NxOk.go hb (ref24_Seal_2_b N hb)) rfl (fun x => by kernel_rfl)
theorem ref24_Seal_b {E : Env} (N : Nat) (hb : Base Tryz.prog (ref24_Seal_C N) E 0) : Blk Tryz.prog (ref24_Seal_C N) E (List.range ref24_Seal_S0.ks.length) ref24_Seal_S0 (ref24_Seal_L.drop 0) (fun y => ref24_Seal N y.1.1 y.1.2.1 y.1.2.2.1 y.1.2.2.2.1 y.1.2.2.2.2.1 y.1.2.2.2.2.2.1) (ref24_Seal_K N) :=
 Blk.chunkAt hb 4 (X := (goK 0 [0, 1, 2, 3, 4, 5, 39] ref24_Seal_S3 (fun y => ref24_Seal_1 N y.1.1 y.1.2.1 y.1.2.2.1 y.1.2.2.2.1 y.1.2.2.2.2.1 y.1.2.2.2.2.2.1 y.1.2.2.2.2.2.2.1))) (NxOk.go hb (ref24_Seal_1_b N hb)) rfl (fun x => by kernel_rfl)
noncomputable def ref24_Seal_ctr (N : Nat) : Ctr := ⟨ref24_Seal_S0, ref24_Seal_S4.un [false, false], 0, (fun y => ref24_Seal N y.1.1 y.1.2.1 y.1.2.2.1 y.1.2.2.2.1 y.1.2.2.2.2.1 y.1.2.2.2.2.2.1)⟩
theorem ref24_Seal_ctrs (N : Nat) : CtrsOk Tryz.prog (ref24_Seal_C N) := ctrs_of (Γ := ref24_Seal_C N) G_ifs_ok (by
 intro p hp
 simp only [ref24_Seal_C, List.mem_cons, List.not_mem_nil, or_false] at hp
 rcases hp with rfl | rfl
 · exact ref24_put_ok N
 · exact ref12_Seal_ok N)
theorem ref24_Seal_ok (N : Nat) : Ctr.ok Tryz.prog G_globs 25 (ref24_Seal_ctr N) :=
 ctr_fn (Γ := ref24_Seal_C N) (rfit := ref24_Seal_S4) (bs := [false, false]) (res := [12, 13]) (by kernel_rfl) (tys_ok G_tys_ok) (ref24_Seal_ctrs N) Tryz.func25 (by kernel_rfl) (by kernel_rfl) Tryz.ntmps25 (by kernel_rfl) (by kernel_rfl) (by kernel_rfl) (by kernel_rfl) (fun E hb => ref24_Seal_b N hb)
/-! ipsecgate/ipsecgateref24.outer -/
abbrev ref24_outer_R : Type := ((Int × Unit) × ((List UInt8) × Unit))
noncomputable def ref24_outer (N : Nat) (from_0 : D28) (to_1 : D28) (b_2 : (List UInt8)) : Option ref24_outer_R :=
 Option.bind (ref22_Build N (from_0, to_1, (50 : Int), (-1 : Int), (-1 : Int), ()) b_2) fun y1 =>
 some ((y1.1.1, ()), (y1.2.1, ()))
noncomputable def ref24_outer_C (N : Nat) : Ctx := ⟨15, G_tys, [(23, ref22_Build_ctr N)], G_globs, G_ifs⟩
noncomputable def ref24_outer_S0 : Spec := ⟨[.val T28, .val T28, .val (.sl .u8)], []⟩
noncomputable def ref24_outer_S1 : Spec := ⟨[.row 0, .val .i64], [(.row 5 .u8, .pos 0)]⟩
noncomputable def ref24_outer_K (_N : Nat) : XE → GS → Option ref24_outer_R := retK 0 [6, 7] [false, false] ref24_outer_S1
noncomputable def ref24_outer_L : List Code := (bodyOf (some Tryz.f26))
theorem ref24_outer_b {E : Env} (N : Nat) (hb : Base Tryz.prog (ref24_outer_C N) E 0) : Blk Tryz.prog (ref24_outer_C N) E (List.range ref24_outer_S0.ks.length) ref24_outer_S0 (ref24_outer_L.drop 0) (fun y => ref24_outer N y.1.1 y.1.2.1 y.1.2.2.1) (ref24_outer_K N) :=
 Blk.chunkAt hb 3 (X := (ref24_outer_K N .normal)) (NxOk.end (by kernel_rfl)) rfl (fun x => by kernel_rfl)
noncomputable def ref24_outer_ctr (N : Nat) : Ctr := ⟨ref24_outer_S0, ref24_outer_S1.un [false, false], 0, (fun y => ref24_outer N y.1.1 y.1.2.1 y.1.2.2.1)⟩
theorem ref24_outer_ctrs (N : Nat) : CtrsOk Tryz.prog (ref24_outer_C N) := ctrs_of (Γ := ref24_outer_C N) G_ifs_ok (by
 intro p hp
 simp only [ref24_outer_C, List.mem_cons, List.not_mem_nil, or_false] at hp
 rcases hp with rfl
 · exact ref22_Build_ok N)
theorem ref24_outer_ok (N : Nat) : Ctr.ok Tryz.prog G_globs 26 (ref24_outer_ctr N) :=
 ctr_fn (Γ := ref24_outer_C N) (rfit := ref24_outer_S1) (bs := [false, false]) (res := [6, 7]) (by kernel_rfl) (tys_ok G_tys_ok) (ref24_outer_ctrs N) Tryz.func26 (by kernel_rfl) (by kernel_rfl) Tryz.ntmps26 (by kernel_rfl) (by kernel_rfl) (by kernel_rfl) (by kernel_rfl) (fun E hb => ref24_outer_b N hb)
/-! ipsecgate/ipsecgateref24.Tunnel -/
abbrev ref24_Tunnel_R : Type := ((Int × Unit) × ((List UInt8) × Unit))
noncomputable def ref24_Tunnel_1 (N : Nat) (key_0 : (List UInt8)) (spi_1 : UInt32) (number_2 : UInt64) (inner_5 : (List UInt8)) (next_16 : Int) (from_9 : D28) (to_10 : D28) : Option ref24_Tunnel_R :=
 Option.bind (ref24_Seal N key_0 spi_1 number_2 next_16 inner_5 (0 : Int)) fun y6 =>
 bif (!(decide (y6.1.1 = (0 : Int)))) then
 some ((y6.1.1, ()), (([] : List UInt8), ()))
 else
 Option.bind (ref24_outer N from_9 to_10 y6.2.1) fun y8 =>
 some ((y8.1.1, ()), (y8.2.1, ()))
noncomputable def ref24_Tunnel (N : Nat) (key_0 : (List UInt8)) (spi_1 : UInt32) (number_2 : UInt64) (from_3 : D28) (to_4 : D28) (inner_5 : (List UInt8)) : Option ref24_Tunnel_R :=
 Option.bind (ref22_See N inner_5) fun y1 =>
 bif (!(decide (y1.1.2.1 = (0 : Int)))) then
 some ((y1.1.2.1, ()), (([] : List UInt8), ()))
 else
 bif inR (0 : Int) inner_5.length then
 bif (decide ((shr8 (inner_5.getD 0 (0 : UInt8)) 4) = (6 : UInt8))) then
 ref24_Tunnel_1 N key_0 spi_1 number_2 inner_5 (41 : Int) from_3 to_4
 else
 ref24_Tunnel_1 N key_0 spi_1 number_2 inner_5 (4 : Int) from_3 to_4
 else none
noncomputable def ref24_Tunnel_C (N : Nat) : Ctx := ⟨50, G_tys, [(24, ref22_See_ctr N), (25, ref24_Seal_ctr N), (26, ref24_outer_ctr N)], G_globs, G_ifs⟩
noncomputable def ref24_Tunnel_S0 : Spec := ⟨[.val (.sl .u8), .val .u32, .val .u64, .val (.sl .u8), .ref 0 T28, .ref 1 T28, .val .i64], [(.box 29 T28, .pos 4), (.box 29 T28, .pos 5)]⟩
noncomputable def ref24_Tunnel_S1 : Spec := ⟨[.val (.sl .u8), .val .u32, .val .u64, .val T28, .val T28, .val (.sl .u8)], []⟩
noncomputable def ref24_Tunnel_S2 : Spec := ⟨[.row 0, .val .i64], [(.row 5 .u8, .pos 0)]⟩
noncomputable def ref24_Tunnel_K (_N : Nat) : XE → GS → Option ref24_Tunnel_R := retK 0 [12, 13] [false, false] ref24_Tunnel_S2
noncomputable def ref24_Tunnel_L : List Code := (bodyOf (some Tryz.f9))
theorem ref24_Tunnel_1_b {E : Env} (N : Nat) (hb : Base Tryz.prog (ref24_Tunnel_C N) E 0) : Blk Tryz.prog (ref24_Tunnel_C N) E [0, 1, 2, 5, 9, 10, 16] ref24_Tunnel_S0 (ref24_Tunnel_L.drop 7) (fun y => ref24_Tunnel_1 N y.1.1 y.1.2.1 y.1.2.2.1 y.1.2.2.2.1 y.1.2.2.2.2.1 y.2.1 y.2.2.1) (ref24_Tunnel_K N) :=
 Blk.chunkAt hb 5 (X := (ref24_Tunnel_K N .normal)) (NxOk.end (by kernel_rfl)) rfl (fun x => by kernel_rfl)
theorem ref24_Tunnel_b {E : Env} (N : Nat) (hb : Base Tryz.prog (ref24_Tunnel_C N) E 0) : Blk Tryz.prog (ref24_Tunnel_C N) E (List.range ref24_Tunnel_S1.ks.length) ref24_Tunnel_S1 (ref24_Tunnel_L.drop 0) (fun y => ref24_Tunnel N y.1.1 y.1.2.1 y.1.2.2.1 y.1.2.2.2.1 y.1.2.2.2.2.1 y.1.2.2.2.2.2.1) (ref24_Tunnel_K N) :=
 Blk.chunkAt hb 7 (X := (goK 0 [0, 1, 2, 5, 9, 10, 16] ref24_Tunnel_S0 (fun y => ref24_Tunnel_1 N y.1.1 y.1.2.1 y.1.2.2.1 y.1.2.2.2.1 y.1.2.2.2.2.1 y.2.1 y.2.2.1))) (NxOk.go hb (ref24_Tunnel_1_b N hb)) rfl (fun x => by kernel_rfl)
noncomputable def ref24_Tunnel_ctr (N : Nat) : Ctr := ⟨ref24_Tunnel_S1, ref24_Tunnel_S2.un [false, false], 0, (fun y => ref24_Tunnel N y.1.1 y.1.2.1 y.1.2.2.1 y.1.2.2.2.1 y.1.2.2.2.2.1 y.1.2.2.2.2.2.1)⟩
theorem ref24_Tunnel_ctrs (N : Nat) : CtrsOk Tryz.prog (ref24_Tunnel_C N) := ctrs_of (Γ := ref24_Tunnel_C N) G_ifs_ok (by
 intro p hp
 simp only [ref24_Tunnel_C, List.mem_cons, List.not_mem_nil, or_false] at hp
 rcases hp with rfl | rfl | rfl
 · exact ref22_See_ok N
 · exact ref24_Seal_ok N
 · exact ref24_outer_ok N)
theorem ref24_Tunnel_ok (N : Nat) : Ctr.ok Tryz.prog G_globs 9 (ref24_Tunnel_ctr N) :=
 ctr_fn (Γ := ref24_Tunnel_C N) (rfit := ref24_Tunnel_S2) (bs := [false, false]) (res := [12, 13]) (by kernel_rfl) (tys_ok G_tys_ok) (ref24_Tunnel_ctrs N) Tryz.func9 (by kernel_rfl) (by kernel_rfl) Tryz.ntmps9 (by kernel_rfl) (by kernel_rfl) (by kernel_rfl) (by kernel_rfl) (fun E hb => ref24_Tunnel_b N hb)
/-! ipsecgate/ipsecgateref24.whole -/
abbrev ref24_whole_R : Type := ((D53 × Int × Unit) × (Unit))
noncomputable def ref24_whole_2 (N : Nat) (t_28 : Bool) (t_2 : D53) (s_4 : D53) : Option ref24_whole_R :=
 bif t_28 then
 some ((((((0 : Int), (0 : UInt64), (0 : UInt64), ()), ((0 : Int), (0 : UInt64), (0 : UInt64), ()), (0 : Int), (0 : Int), (0 : Int), ()), (0 : Int), false, false, (0 : Int), ()), (21 : Int), ()), (()))
 else
 some ((s_4, (0 : Int), ()), (()))
noncomputable def ref24_whole_1 (N : Nat) (want_6 : Int) (t_2 : D53) (s_4 : D53) : Option ref24_whole_R :=
 bif s_4.2.2.2.1 then
 ref24_whole_2 N true t_2 s_4
 else
 ref24_whole_2 N (!(decide (s_4.2.2.2.2.1 = want_6))) t_2 s_4
noncomputable def ref24_whole (N : Nat) (b_0 : (List UInt8)) : Option ref24_whole_R :=
 Option.bind (ref22_See N b_0) fun y1 =>
 bif (!(decide (y1.1.2.1 = (0 : Int)))) then
 some ((((((0 : Int), (0 : UInt64), (0 : UInt64), ()), ((0 : Int), (0 : UInt64), (0 : UInt64), ()), (0 : Int), (0 : Int), (0 : Int), ()), (0 : Int), false, false, (0 : Int), ()), y1.1.2.1, ()), (()))
 else
 bif (decide (y1.1.1.1.1.1 = (6 : Int))) then
 ref24_whole_1 N (40 : Int) ((((0 : Int), (0 : UInt64), (0 : UInt64), ()), ((0 : Int), (0 : UInt64), (0 : UInt64), ()), (0 : Int), (0 : Int), (0 : Int), ()), (0 : Int), false, false, (0 : Int), ()) y1.1.1
 else
 ref24_whole_1 N (20 : Int) ((((0 : Int), (0 : UInt64), (0 : UInt64), ()), ((0 : Int), (0 : UInt64), (0 : UInt64), ()), (0 : Int), (0 : Int), (0 : Int), ()), (0 : Int), false, false, (0 : Int), ()) y1.1.1
noncomputable def ref24_whole_C (N : Nat) : Ctx := ⟨31, G_tys, [(24, ref22_See_ctr N)], G_globs, G_ifs⟩
noncomputable def ref24_whole_S0 : Spec := ⟨[.ref 0 T53, .ref 1 T53, .val .bool], [(.box 54 T53, .pos 0), (.box 54 T53, .pos 1)]⟩
noncomputable def ref24_whole_S1 : Spec := ⟨[.ref 0 T53, .ref 1 T53, .val .i64], [(.box 54 T53, .pos 0), (.box 54 T53, .pos 1)]⟩
noncomputable def ref24_whole_S2 : Spec := ⟨[.val (.sl .u8)], []⟩
noncomputable def ref24_whole_S3 : Spec := ⟨[.fp T53, .val .i64], []⟩
noncomputable def ref24_whole_K (_N : Nat) : XE → GS → Option ref24_whole_R := retK 0 [2, 3] [true, false] ref24_whole_S3
noncomputable def ref24_whole_L : List Code := (bodyOf (some Tryz.f27))
theorem ref24_whole_2_b {E : Env} (N : Nat) (hb : Base Tryz.prog (ref24_whole_C N) E 0) : Blk Tryz.prog (ref24_whole_C N) E [2, 4, 28] ref24_whole_S0 (ref24_whole_L.drop 8) (fun y => ref24_whole_2 N y.1.1 y.2.1 y.2.2.1) (ref24_whole_K N) :=
 Blk.chunkAt hb 3 (X := (ref24_whole_K N .normal)) (NxOk.end (by kernel_rfl)) rfl (fun x => by kernel_rfl)
theorem ref24_whole_1_b {E : Env} (N : Nat) (hb : Base Tryz.prog (ref24_whole_C N) E 0) : Blk Tryz.prog (ref24_whole_C N) E [2, 4, 6] ref24_whole_S1 (ref24_whole_L.drop 7) (fun y => ref24_whole_1 N y.1.1 y.2.1 y.2.2.1) (ref24_whole_K N) :=
 Blk.chunkAt hb 1 (X := (goK 0 [2, 4, 28] ref24_whole_S0 (fun y => ref24_whole_2 N y.1.1 y.2.1 y.2.2.1))) (NxOk.go hb (ref24_whole_2_b N hb)) rfl (fun x => by kernel_rfl)
theorem ref24_whole_b {E : Env} (N : Nat) (hb : Base Tryz.prog (ref24_whole_C N) E 0) : Blk Tryz.prog (ref24_whole_C N) E (List.range ref24_whole_S2.ks.length) ref24_whole_S2 (ref24_whole_L.drop 0) (fun y => ref24_whole N y.1.1) (ref24_whole_K N) :=
 Blk.chunkAt hb 7 (X := (goK 0 [2, 4, 6] ref24_whole_S1 (fun y => ref24_whole_1 N y.1.1 y.2.1 y.2.2.1))) (NxOk.go hb (ref24_whole_1_b N hb)) rfl (fun x => by kernel_rfl)
noncomputable def ref24_whole_ctr (N : Nat) : Ctr := ⟨ref24_whole_S2, ref24_whole_S3.un [true, false], 0, (fun y => ref24_whole N y.1.1)⟩
theorem ref24_whole_ctrs (N : Nat) : CtrsOk Tryz.prog (ref24_whole_C N) := ctrs_of (Γ := ref24_whole_C N) G_ifs_ok (by
 intro p hp
 simp only [ref24_whole_C, List.mem_cons, List.not_mem_nil, or_false] at hp
 rcases hp with rfl
 · exact ref22_See_ok N)
theorem ref24_whole_ok (N : Nat) : Ctr.ok Tryz.prog G_globs 27 (ref24_whole_ctr N) :=
 ctr_fn (Γ := ref24_whole_C N) (rfit := ref24_whole_S3) (bs := [true, false]) (res := [2, 3]) (by kernel_rfl) (tys_ok G_tys_ok) (ref24_whole_ctrs N) Tryz.func27 (by kernel_rfl) (by kernel_rfl) Tryz.ntmps27 (by kernel_rfl) (by kernel_rfl) (by kernel_rfl) (by kernel_rfl) (fun E hb => ref24_whole_b N hb)
/-! ipsecgate/ipsecgateref24.Transport -/
abbrev ref24_Transport_R : Type := ((Int × Unit) × ((List UInt8) × Unit))
noncomputable def ref24_Transport (N : Nat) (key_0 : (List UInt8)) (spi_1 : UInt32) (number_2 : UInt64) (b_3 : (List UInt8)) : Option ref24_Transport_R :=
 Option.bind (ref24_whole N b_3) fun y1 =>
 bif (!(decide (y1.1.2.1 = (0 : Int)))) then
 some ((y1.1.2.1, ()), (([] : List UInt8), ()))
 else
 bif decide (0 ≤ y1.1.1.2.2.2.2.1) && decide (y1.1.1.2.2.2.2.1 ≤ (b_3.length : Int)) && decide ((b_3.length : Int) ≤ (b_3.length : Int)) && true then
 Option.bind (ref24_Seal N key_0 spi_1 number_2 y1.1.1.1.2.2.1 (cut b_3 y1.1.1.2.2.2.2.1.toNat b_3.length) (0 : Int)) fun y4 =>
 bif (!(decide (y4.1.1 = (0 : Int)))) then
 some ((y4.1.1, ()), (([] : List UInt8), ()))
 else
 Option.bind (ref24_outer N y1.1.1.1.1 y1.1.1.1.2.1 y4.2.1) fun y6 =>
 some ((y6.1.1, ()), (y6.2.1, ()))
 else none
noncomputable def ref24_Transport_C (N : Nat) : Ctx := ⟨48, G_tys, [(27, ref24_whole_ctr N), (25, ref24_Seal_ctr N), (26, ref24_outer_ctr N)], G_globs, G_ifs⟩
noncomputable def ref24_Transport_S0 : Spec := ⟨[.val (.sl .u8), .val .u32, .val .u64, .val (.sl .u8)], []⟩
noncomputable def ref24_Transport_S1 : Spec := ⟨[.row 0, .val .i64], [(.row 5 .u8, .pos 0)]⟩
noncomputable def ref24_Transport_K (_N : Nat) : XE → GS → Option ref24_Transport_R := retK 0 [8, 9] [false, false] ref24_Transport_S1
noncomputable def ref24_Transport_L : List Code := (bodyOf (some Tryz.f10))
theorem ref24_Transport_b {E : Env} (N : Nat) (hb : Base Tryz.prog (ref24_Transport_C N) E 0) : Blk Tryz.prog (ref24_Transport_C N) E (List.range ref24_Transport_S0.ks.length) ref24_Transport_S0 (ref24_Transport_L.drop 0) (fun y => ref24_Transport N y.1.1 y.1.2.1 y.1.2.2.1 y.1.2.2.2.1) (ref24_Transport_K N) :=
 Blk.chunkAt hb 9 (X := (ref24_Transport_K N .normal)) (NxOk.end (by kernel_rfl)) rfl (fun x => by kernel_rfl)
noncomputable def ref24_Transport_ctr (N : Nat) : Ctr := ⟨ref24_Transport_S0, ref24_Transport_S1.un [false, false], 0, (fun y => ref24_Transport N y.1.1 y.1.2.1 y.1.2.2.1 y.1.2.2.2.1)⟩
theorem ref24_Transport_ctrs (N : Nat) : CtrsOk Tryz.prog (ref24_Transport_C N) := ctrs_of (Γ := ref24_Transport_C N) G_ifs_ok (by
 intro p hp
 simp only [ref24_Transport_C, List.mem_cons, List.not_mem_nil, or_false] at hp
 rcases hp with rfl | rfl | rfl
 · exact ref24_whole_ok N
 · exact ref24_Seal_ok N
 · exact ref24_outer_ok N)
theorem ref24_Transport_ok (N : Nat) : Ctr.ok Tryz.prog G_globs 10 (ref24_Transport_ctr N) :=
 ctr_fn (Γ := ref24_Transport_C N) (rfit := ref24_Transport_S1) (bs := [false, false]) (res := [8, 9]) (by kernel_rfl) (tys_ok G_tys_ok) (ref24_Transport_ctrs N) Tryz.func10 (by kernel_rfl) (by kernel_rfl) Tryz.ntmps10 (by kernel_rfl) (by kernel_rfl) (by kernel_rfl) (by kernel_rfl) (fun E hb => ref24_Transport_b N hb)
/-! ipsecgate/ipsecgatedraw.Mod -/
abbrev draw_Mod_R : Type := ((Int × Unit) × (Unit))
noncomputable def draw_Mod (N : Nat) (x_0 : Int) (n_1 : Int) : Option draw_Mod_R :=
 bif !(decide (n_1 = 0)) then
 bif (decide ((x_0.tmod n_1) < (0 : Int))) then
 some (((w64 ((x_0.tmod n_1) + n_1)), ()), (()))
 else
 some (((x_0.tmod n_1), ()), (()))
 else none
noncomputable def draw_Mod_C (N : Nat) : Ctx := ⟨14, G_tys, [], G_globs, G_ifs⟩
noncomputable def draw_Mod_S0 : Spec := ⟨[.val .i64, .val .i64], []⟩
noncomputable def draw_Mod_S1 : Spec := ⟨[.val .i64], []⟩
noncomputable def draw_Mod_K (_N : Nat) : XE → GS → Option draw_Mod_R := retK 0 [4] [false] draw_Mod_S1
noncomputable def draw_Mod_L : List Code := (bodyOf (some Tryz.f11))
theorem draw_Mod_b {E : Env} (N : Nat) (hb : Base Tryz.prog (draw_Mod_C N) E 0) : Blk Tryz.prog (draw_Mod_C N) E (List.range draw_Mod_S0.ks.length) draw_Mod_S0 (draw_Mod_L.drop 0) (fun y => draw_Mod N y.1.1 y.1.2.1) (draw_Mod_K N) :=
 Blk.chunkAt hb 6 (X := (draw_Mod_K N .normal)) (NxOk.end (by kernel_rfl)) rfl (fun x => by kernel_rfl)
noncomputable def draw_Mod_ctr (N : Nat) : Ctr := ⟨draw_Mod_S0, draw_Mod_S1.un [false], 0, (fun y => draw_Mod N y.1.1 y.1.2.1)⟩
theorem draw_Mod_ctrs (N : Nat) : CtrsOk Tryz.prog (draw_Mod_C N) := ctrs_nil G_ifs_ok rfl
theorem draw_Mod_ok (N : Nat) : Ctr.ok Tryz.prog G_globs 11 (draw_Mod_ctr N) :=
 ctr_fn (Γ := draw_Mod_C N) (rfit := draw_Mod_S1) (bs := [false]) (res := [4]) (by kernel_rfl) (tys_ok G_tys_ok) (draw_Mod_ctrs N) Tryz.func11 (by kernel_rfl) (by kernel_rfl) Tryz.ntmps11 (by kernel_rfl) (by kernel_rfl) (by kernel_rfl) (by kernel_rfl) (fun E hb => draw_Mod_b N hb)
/-! (ipsecgate/lookup.four).least -/
abbrev lookup_four_least_R : Type := ((Int × Unit) × (Unit))
noncomputable def lookup_four_least (N : Nat) (t_0 : Unit) (t_1 : ((List UInt8) × Unit)) : Option lookup_four_least_R :=
 some (((20 : Int), ()), (()))
noncomputable def lookup_four_least_C (N : Nat) : Ctx := ⟨5, G_tys, [], G_globs, G_ifs⟩
noncomputable def lookup_four_least_S0 : Spec := ⟨[.val .unit, .val (.pair (.sl .u8) .unit)], []⟩
noncomputable def lookup_four_least_S1 : Spec := ⟨[.val .i64], []⟩
noncomputable def lookup_four_least_K (_N : Nat) : XE → GS → Option lookup_four_least_R := retK 0 [4] [false] lookup_four_least_S1
noncomputable def lookup_four_least_L : List Code := (bodyOf (some Tryz.f115))
theorem lookup_four_least_b {E : Env} (N : Nat) (hb : Base Tryz.prog (lookup_four_least_C N) E 0) : Blk Tryz.prog (lookup_four_least_C N) E (List.range lookup_four_least_S0.ks.length) lookup_four_least_S0 (lookup_four_least_L.drop 0) (fun y => lookup_four_least N y.1.1 y.1.2.1) (lookup_four_least_K N) :=
 Blk.chunkAt hb 3 (X := (lookup_four_least_K N .normal)) (NxOk.end (by kernel_rfl)) rfl (fun x => by kernel_rfl)
noncomputable def lookup_four_least_ctr (N : Nat) : Ctr := ⟨lookup_four_least_S0, lookup_four_least_S1.un [false], 0, (fun y => lookup_four_least N y.1.1 y.1.2.1)⟩
theorem lookup_four_least_ctrs (N : Nat) : CtrsOk Tryz.prog (lookup_four_least_C N) := ctrs_nil G_ifs_ok rfl
theorem lookup_four_least_ok (N : Nat) : Ctr.ok Tryz.prog G_globs 115 (lookup_four_least_ctr N) :=
 ctr_fn (Γ := lookup_four_least_C N) (rfit := lookup_four_least_S1) (bs := [false]) (res := [4]) (by kernel_rfl) (tys_ok G_tys_ok) (lookup_four_least_ctrs N) Tryz.func115 (by kernel_rfl) (by kernel_rfl) Tryz.ntmps115 (by kernel_rfl) (by kernel_rfl) (by kernel_rfl) (by kernel_rfl) (fun E hb => lookup_four_least_b N hb)
/-! ipsecgate/wire.Checksum -/
abbrev wire_Checksum_R : Type := ((Int × Unit) × (Unit))
noncomputable def wire_Checksum_s2 (N : Nat) (sum_3 : Int) (t_6 : (List UInt8)) (t_7 : Int) (t_8 : Int) : Option (Lo ((Int × (List UInt8) × Int × Int × Unit) × (Unit)) ((Int × Unit) × (Unit)) wire_Checksum_R) :=
 bif (decide (t_8 < t_7)) then
 bif inR t_8 t_6.length then
 let x3 := t_6.getD t_8.toNat (0 : UInt8)
 bif (decide ((t_8.tmod (2 : Int)) = (0 : Int))) then
 some (.go (((w64 (sum_3 + (shlI (x3.toNat : Int) 8))), t_6, t_7, (w64 (t_8 + (1 : Int))), ()), (())))
 else
 some (.go (((w64 (sum_3 + (x3.toNat : Int))), t_6, t_7, (w64 (t_8 + (1 : Int))), ()), (())))
 else none
 else
 some (.br ((sum_3, ()), (())))
noncomputable def wire_Checksum_s4 (N : Nat) (sum_3 : Int) : Option (Lo ((Int × Unit) × (Unit)) ((Int × Unit) × (Unit)) wire_Checksum_R) :=
 bif (decide ((65535 : Int) < sum_3)) then
 some (.go (((w64 ((and64 sum_3 (65535 : Int)) + (shrI sum_3 16))), ()), (())))
 else
 some (.br ((sum_3, ()), (())))
noncomputable def wire_Checksum_5 (N : Nat) (sum_3 : Int) : Option wire_Checksum_R :=
 some (((w64 ((65535 : Int) - sum_3)), ()), (()))
noncomputable def wire_Checksum_3 (N : Nat) (sum_3 : Int) : Option wire_Checksum_R :=
 loopK N (fun y => wire_Checksum_s4 N y.1.1) (fun (e : ((Int × Unit) × (Unit))) => wire_Checksum_5 N e.1.1) ((sum_3, ()), (()))
noncomputable def wire_Checksum_1 (N : Nat) (sum_3 : Int) (t_6 : (List UInt8)) (t_7 : Int) (t_8 : Int) : Option wire_Checksum_R :=
 loopK N (fun y => wire_Checksum_s2 N y.1.1 y.1.2.1 y.1.2.2.1 y.1.2.2.2.1) (fun (e : ((Int × Unit) × (Unit))) => wire_Checksum_3 N e.1.1) ((sum_3, t_6, t_7, t_8, ()), (()))
noncomputable def wire_Checksum (N : Nat) (b_0 : (List UInt8)) : Option wire_Checksum_R :=
 wire_Checksum_1 N (0 : Int) b_0 (b_0.length : Int) (0 : Int)
noncomputable def wire_Checksum_C (N : Nat) : Ctx := ⟨35, G_tys, [], G_globs, G_ifs⟩
noncomputable def wire_Checksum_S0 : Spec := ⟨[.val .i64, .val (.sl .u8), .val .i64, .val .i64], []⟩
noncomputable def wire_Checksum_S1 : Spec := ⟨[.val .i64], []⟩
noncomputable def wire_Checksum_S2 : Spec := ⟨[.val (.sl .u8)], []⟩
noncomputable def wire_Checksum_K (_N : Nat) : XE → GS → Option wire_Checksum_R := retK 0 [2] [false] wire_Checksum_S1
noncomputable def wire_Checksum_L : List Code := (bodyOf (some Tryz.f57))
noncomputable def wire_Checksum_L2 : List Code := (loopOf (wire_Checksum_L[3]?))
noncomputable def wire_Checksum_L4 : List Code := (loopOf (wire_Checksum_L[4]?))
noncomputable def wire_Checksum_K2 (N : Nat) : XE → GS → Option (Lo ((Int × (List UInt8) × Int × Int × Unit) × (Unit)) ((Int × Unit) × (Unit)) wire_Checksum_R) := roundK (some 0) (fit 0 [3, 6, 7, 8] wire_Checksum_S0) (fit 0 [3] wire_Checksum_S1) (wire_Checksum_K N)
noncomputable def wire_Checksum_K4 (N : Nat) : XE → GS → Option (Lo ((Int × Unit) × (Unit)) ((Int × Unit) × (Unit)) wire_Checksum_R) := roundK (some 2) (fit 0 [3] wire_Checksum_S1) (fit 0 [3] wire_Checksum_S1) (wire_Checksum_K N)
theorem wire_Checksum_s2_b {E : Env} (N : Nat) (hb : Base Tryz.prog (wire_Checksum_C N) E 0) : Blk Tryz.prog (wire_Checksum_C N) E [3, 6, 7, 8] wire_Checksum_S0 (wire_Checksum_L2.drop 0) (fun y => wire_Checksum_s2 N y.1.1 y.1.2.1 y.1.2.2.1 y.1.2.2.2.1) (wire_Checksum_K2 N) :=
 Blk.chunkAt hb 4 (X := (wire_Checksum_K2 N .normal)) (NxOk.end (by kernel_rfl)) rfl (fun x => by kernel_rfl)
theorem wire_Checksum_s4_b {E : Env} (N : Nat) (hb : Base Tryz.prog (wire_Checksum_C N) E 0) : Blk Tryz.prog (wire_Checksum_C N) E [3] wire_Checksum_S1 (wire_Checksum_L4.drop 0) (fun y => wire_Checksum_s4 N y.1.1) (wire_Checksum_K4 N) :=
 Blk.chunkAt hb 3 (X := (wire_Checksum_K4 N .normal)) (NxOk.end (by kernel_rfl)) rfl (fun x => by kernel_rfl)
theorem wire_Checksum_5_b {E : Env} (N : Nat) (hb : Base Tryz.prog (wire_Checksum_C N) E 0) : Blk Tryz.prog (wire_Checksum_C N) E [3] wire_Checksum_S1 (wire_Checksum_L.drop 5) (fun y => wire_Checksum_5 N y.1.1) (wire_Checksum_K N) :=
 Blk.chunkAt hb 2 (X := (wire_Checksum_K N .normal)) (NxOk.end (by kernel_rfl)) rfl (fun x => by kernel_rfl)
theorem wire_Checksum_3_b {E : Env} (N : Nat) (hb : Base Tryz.prog (wire_Checksum_C N) E 0) : Blk Tryz.prog (wire_Checksum_C N) E [3] wire_Checksum_S1 (wire_Checksum_L.drop 4) (fun y => wire_Checksum_3 N y.1.1) (wire_Checksum_K N) :=
 Blk.loopAt (Nf := N) (hns := [3]) (ans := [3]) (hc := wire_Checksum_S1) (ac := wire_Checksum_S1) (bid := 2) (step := (fun y => wire_Checksum_s4 N y.1.1)) (J := (fun e => (goK 0 [3] wire_Checksum_S1 (fun y => wire_Checksum_5 N y.1.1)) (wire_Checksum_S1.st [3] e))) hb (by kernel_rfl) (Blk.into (X := (goK 0 [3] wire_Checksum_S1 (fun y => wire_Checksum_5 N y.1.1))) (NxOk.go hb (wire_Checksum_5_b N hb)) (fun x => by kernel_rfl)) (wire_Checksum_s4_b N hb) (fun x => by kernel_rfl)
theorem wire_Checksum_1_b {E : Env} (N : Nat) (hb : Base Tryz.prog (wire_Checksum_C N) E 0) : Blk Tryz.prog (wire_Checksum_C N) E [3, 6, 7, 8] wire_Checksum_S0 (wire_Checksum_L.drop 3) (fun y => wire_Checksum_1 N y.1.1 y.1.2.1 y.1.2.2.1 y.1.2.2.2.1) (wire_Checksum_K N) :=
 Blk.loopAt (Nf := N) (hns := [3, 6, 7, 8]) (ans := [3]) (hc := wire_Checksum_S0) (ac := wire_Checksum_S1) (bid := 0) (step := (fun y => wire_Checksum_s2 N y.1.1 y.1.2.1 y.1.2.2.1 y.1.2.2.2.1)) (J := (fun e => (goK 0 [3] wire_Checksum_S1 (fun y => wire_Checksum_3 N y.1.1)) (wire_Checksum_S1.st [3] e))) hb (by kernel_rfl) (Blk.into (X := (goK 0 [3] wire_Checksum_S1 (fun y => wire_Checksum_3 N y.1.1))) (NxOk.go hb (wire_Checksum_3_b N hb)) (fun x => by kernel_rfl)) (wire_Checksum_s2_b N hb) (fun x => by kernel_rfl)
theorem wire_Checksum_b {E : Env} (N : Nat) (hb : Base Tryz.prog (wire_Checksum_C N) E 0) : Blk Tryz.prog (wire_Checksum_C N) E (List.range wire_Checksum_S2.ks.length) wire_Checksum_S2 (wire_Checksum_L.drop 0) (fun y => wire_Checksum N y.1.1) (wire_Checksum_K N) :=
 Blk.chunkAt hb 3 (X := (goK 0 [3, 6, 7, 8] wire_Checksum_S0 (fun y => wire_Checksum_1 N y.1.1 y.1.2.1 y.1.2.2.1 y.1.2.2.2.1))) (NxOk.go hb (wire_Checksum_1_b N hb)) rfl (fun x => by kernel_rfl)
noncomputable def wire_Checksum_ctr (N : Nat) : Ctr := ⟨wire_Checksum_S2, wire_Checksum_S1.un [false], 0, (fun y => wire_Checksum N y.1.1)⟩
theorem wire_Checksum_ctrs (N : Nat) : CtrsOk Tryz.prog (wire_Checksum_C N) := ctrs_nil G_ifs_ok rfl
theorem wire_Checksum_ok (N : Nat) : Ctr.ok Tryz.prog G_globs 57 (wire_Checksum_ctr N) :=
 ctr_fn (Γ := wire_Checksum_C N) (rfit := wire_Checksum_S1) (bs := [false]) (res := [2]) (by kernel_rfl) (tys_ok G_tys_ok) (wire_Checksum_ctrs N) Tryz.func57 (by kernel_rfl) (by kernel_rfl) Tryz.ntmps57 (by kernel_rfl) (by kernel_rfl) (by kernel_rfl) (by kernel_rfl) (fun E hb => wire_Checksum_b N hb)
/-! (ipsecgate/lookup.cursor).number -/
abbrev lookup_cursor_number_R : Type := ((UInt64 × Unit) × (Unit))
noncomputable def lookup_cursor_number (N : Nat) (c_0 : ((List UInt8) × Unit)) (at_1 : Int) (width_2 : Int) : Option lookup_cursor_number_R :=
 Option.bind (wire_Number N c_0.1 at_1 width_2) fun y1 =>
 some ((y1.1.1, ()), (()))
noncomputable def lookup_cursor_number_C (N : Nat) : Ctx := ⟨18, G_tys, [(63, wire_Number_ctr N)], G_globs, G_ifs⟩
noncomputable def lookup_cursor_number_S0 : Spec := ⟨[.val (.pair (.sl .u8) .unit), .val .i64, .val .i64], []⟩
noncomputable def lookup_cursor_number_S1 : Spec := ⟨[.val .u64], []⟩
noncomputable def lookup_cursor_number_K (_N : Nat) : XE → GS → Option lookup_cursor_number_R := retK 0 [6] [false] lookup_cursor_number_S1
noncomputable def lookup_cursor_number_L : List Code := (bodyOf (some Tryz.f81))
theorem lookup_cursor_number_b {E : Env} (N : Nat) (hb : Base Tryz.prog (lookup_cursor_number_C N) E 0) : Blk Tryz.prog (lookup_cursor_number_C N) E (List.range lookup_cursor_number_S0.ks.length) lookup_cursor_number_S0 (lookup_cursor_number_L.drop 0) (fun y => lookup_cursor_number N y.1.1 y.1.2.1 y.1.2.2.1) (lookup_cursor_number_K N) :=
 Blk.chunkAt hb 4 (X := (lookup_cursor_number_K N .normal)) (NxOk.end (by kernel_rfl)) rfl (fun x => by kernel_rfl)
noncomputable def lookup_cursor_number_ctr (N : Nat) : Ctr := ⟨lookup_cursor_number_S0, lookup_cursor_number_S1.un [false], 0, (fun y => lookup_cursor_number N y.1.1 y.1.2.1 y.1.2.2.1)⟩
theorem lookup_cursor_number_ctrs (N : Nat) : CtrsOk Tryz.prog (lookup_cursor_number_C N) := ctrs_of (Γ := lookup_cursor_number_C N) G_ifs_ok (by
 intro p hp
 simp only [lookup_cursor_number_C, List.mem_cons, List.not_mem_nil, or_false] at hp
 rcases hp with rfl
 · exact wire_Number_ok N)
theorem lookup_cursor_number_ok (N : Nat) : Ctr.ok Tryz.prog G_globs 81 (lookup_cursor_number_ctr N) :=
 ctr_fn (Γ := lookup_cursor_number_C N) (rfit := lookup_cursor_number_S1) (bs := [false]) (res := [6]) (by kernel_rfl) (tys_ok G_tys_ok) (lookup_cursor_number_ctrs N) Tryz.func81 (by kernel_rfl) (by kernel_rfl) Tryz.ntmps81 (by kernel_rfl) (by kernel_rfl) (by kernel_rfl) (by kernel_rfl) (fun E hb => lookup_cursor_number_b N hb)
/-! (ipsecgate/lookup.cursor).int -/
abbrev lookup_cursor_int_R : Type := ((Int × Unit) × (Unit))
noncomputable def lookup_cursor_int (N : Nat) (c_0 : ((List UInt8) × Unit)) (at_1 : Int) (width_2 : Int) : Option lookup_cursor_int_R :=
 Option.bind (lookup_cursor_number N c_0 at_1 width_2) fun y1 =>
 some (((w64 (y1.1.1.toNat : Int)), ()), (()))
noncomputable def lookup_cursor_int_C (N : Nat) : Ctx := ⟨12, G_tys, [(81, lookup_cursor_number_ctr N)], G_globs, G_ifs⟩
noncomputable def lookup_cursor_int_S0 : Spec := ⟨[.val (.pair (.sl .u8) .unit), .val .i64, .val .i64], []⟩
noncomputable def lookup_cursor_int_S1 : Spec := ⟨[.val .i64], []⟩
noncomputable def lookup_cursor_int_K (_N : Nat) : XE → GS → Option lookup_cursor_int_R := retK 0 [6] [false] lookup_cursor_int_S1
noncomputable def lookup_cursor_int_L : List Code := (bodyOf (some Tryz.f69))
theorem lookup_cursor_int_b {E : Env} (N : Nat) (hb : Base Tryz.prog (lookup_cursor_int_C N) E 0) : Blk Tryz.prog (lookup_cursor_int_C N) E (List.range lookup_cursor_int_S0.ks.length) lookup_cursor_int_S0 (lookup_cursor_int_L.drop 0) (fun y => lookup_cursor_int N y.1.1 y.1.2.1 y.1.2.2.1) (lookup_cursor_int_K N) :=
 Blk.chunkAt hb 3 (X := (lookup_cursor_int_K N .normal)) (NxOk.end (by kernel_rfl)) rfl (fun x => by kernel_rfl)
noncomputable def lookup_cursor_int_ctr (N : Nat) : Ctr := ⟨lookup_cursor_int_S0, lookup_cursor_int_S1.un [false], 0, (fun y => lookup_cursor_int N y.1.1 y.1.2.1 y.1.2.2.1)⟩
theorem lookup_cursor_int_ctrs (N : Nat) : CtrsOk Tryz.prog (lookup_cursor_int_C N) := ctrs_of (Γ := lookup_cursor_int_C N) G_ifs_ok (by
 intro p hp
 simp only [lookup_cursor_int_C, List.mem_cons, List.not_mem_nil, or_false] at hp
 rcases hp with rfl
 · exact lookup_cursor_number_ok N)
theorem lookup_cursor_int_ok (N : Nat) : Ctr.ok Tryz.prog G_globs 69 (lookup_cursor_int_ctr N) :=
 ctr_fn (Γ := lookup_cursor_int_C N) (rfit := lookup_cursor_int_S1) (bs := [false]) (res := [6]) (by kernel_rfl) (tys_ok G_tys_ok) (lookup_cursor_int_ctrs N) Tryz.func69 (by kernel_rfl) (by kernel_rfl) Tryz.ntmps69 (by kernel_rfl) (by kernel_rfl) (by kernel_rfl) (by kernel_rfl) (fun E hb => lookup_cursor_int_b N hb)
/-! (ipsecgate/lookup.four).see -/
abbrev lookup_four_see_R : Type := ((D53 × Int × Unit) × (Unit))
noncomputable def lookup_four_see_1 (N : Nat) (n_6 : Int) (t_32 : Bool) (c_3 : ((List UInt8) × Unit)) (t_4 : D53) : Option lookup_four_see_R :=
 bif t_32 then
 some ((((((0 : Int), (0 : UInt64), (0 : UInt64), ()), ((0 : Int), (0 : UInt64), (0 : UInt64), ()), (0 : Int), (0 : Int), (0 : Int), ()), (0 : Int), false, false, (0 : Int), ()), (2 : Int), ()), (()))
 else
 bif decide (0 ≤ (0 : Int)) && decide ((0 : Int) ≤ n_6) && decide (n_6 ≤ (c_3.1.length : Int)) && true then
 Option.bind (wire_Checksum N (cut c_3.1 0 n_6.toNat)) fun y7 =>
 bif (!(decide (y7.1.1 = (0 : Int)))) then
 some ((((((0 : Int), (0 : UInt64), (0 : UInt64), ()), ((0 : Int), (0 : UInt64), (0 : UInt64), ()), (0 : Int), (0 : Int), (0 : Int), ()), (0 : Int), false, false, (0 : Int), ()), (12 : Int), ()), (()))
 else
 Option.bind (lookup_cursor_int N c_3 (6 : Int) (2 : Int)) fun y9 =>
 Option.bind (lookup_cursor_number N c_3 (12 : Int) (4 : Int)) fun y10 =>
 Option.bind (lookup_cursor_number N c_3 (16 : Int) (4 : Int)) fun y11 =>
 Option.bind (lookup_cursor_int N c_3 (9 : Int) (1 : Int)) fun y12 =>
 some ((((((4 : Int), (0 : UInt64), y10.1.1, ()), ((4 : Int), (0 : UInt64), y11.1.1, ()), y12.1.1, (0 : Int), (0 : Int), ()), (w64 ((and64 y9.1.1 (8191 : Int)) * (8 : Int))), (!(decide ((and64 y9.1.1 (8192 : Int)) = (0 : Int)))), false, n_6, ()), (0 : Int), ()), (()))
 else none
noncomputable def lookup_four_see (N : Nat) (t_0 : Unit) (c_1 : ((List UInt8) × Unit)) : Option lookup_four_see_R :=
 bif inR (0 : Int) c_1.1.length then
 let x4 := w64 ((((c_1.1.getD 0 (0 : UInt8)) &&& (15 : UInt8)).toNat : Int) * (4 : Int))
 bif (decide (x4 < (20 : Int))) then
 lookup_four_see_1 N x4 true c_1 ((((0 : Int), (0 : UInt64), (0 : UInt64), ()), ((0 : Int), (0 : UInt64), (0 : UInt64), ()), (0 : Int), (0 : Int), (0 : Int), ()), (0 : Int), false, false, (0 : Int), ())
 else
 bif (decide ((c_1.1.length : Int) < x4)) then
 lookup_four_see_1 N x4 true c_1 ((((0 : Int), (0 : UInt64), (0 : UInt64), ()), ((0 : Int), (0 : UInt64), (0 : UInt64), ()), (0 : Int), (0 : Int), (0 : Int), ()), (0 : Int), false, false, (0 : Int), ())
 else
 Option.bind (lookup_cursor_int N c_1 (2 : Int) (2 : Int)) fun y19 =>
 lookup_four_see_1 N x4 (!(decide (y19.1.1 = (c_1.1.length : Int)))) c_1 ((((0 : Int), (0 : UInt64), (0 : UInt64), ()), ((0 : Int), (0 : UInt64), (0 : UInt64), ()), (0 : Int), (0 : Int), (0 : Int), ()), (0 : Int), false, false, (0 : Int), ())
 else none
noncomputable def lookup_four_see_C (N : Nat) : Ctx := ⟨61, G_tys, [(57, wire_Checksum_ctr N), (69, lookup_cursor_int_ctr N), (81, lookup_cursor_number_ctr N)], G_globs, G_ifs⟩
noncomputable def lookup_four_see_S0 : Spec := ⟨[.ref 0 (.pair (.sl .u8) .unit), .ref 1 T53, .val .i64, .val .bool], [(.box 79 (.pair (.sl .u8) .unit), .pos 0), (.box 54 T53, .pos 1)]⟩
noncomputable def lookup_four_see_S1 : Spec := ⟨[.val .unit, .val (.pair (.sl .u8) .unit)], []⟩
noncomputable def lookup_four_see_S2 : Spec := ⟨[.fp T53, .val .i64], []⟩
noncomputable def lookup_four_see_K (_N : Nat) : XE → GS → Option lookup_four_see_R := retK 0 [4, 5] [true, false] lookup_four_see_S2
noncomputable def lookup_four_see_L : List Code := (bodyOf (some Tryz.f116))
theorem lookup_four_see_1_b {E : Env} (N : Nat) (hb : Base Tryz.prog (lookup_four_see_C N) E 0) : Blk Tryz.prog (lookup_four_see_C N) E [3, 4, 6, 32] lookup_four_see_S0 (lookup_four_see_L.drop 3) (fun y => lookup_four_see_1 N y.1.1 y.1.2.1 y.2.1 y.2.2.1) (lookup_four_see_K N) :=
 Blk.chunkAt hb 7 (X := (lookup_four_see_K N .normal)) (NxOk.end (by kernel_rfl)) rfl (fun x => by kernel_rfl)
theorem lookup_four_see_b {E : Env} (N : Nat) (hb : Base Tryz.prog (lookup_four_see_C N) E 0) : Blk Tryz.prog (lookup_four_see_C N) E (List.range lookup_four_see_S1.ks.length) lookup_four_see_S1 (lookup_four_see_L.drop 0) (fun y => lookup_four_see N y.1.1 y.1.2.1) (lookup_four_see_K N) :=
 Blk.chunkAt hb 3 (X := (goK 0 [3, 4, 6, 32] lookup_four_see_S0 (fun y => lookup_four_see_1 N y.1.1 y.1.2.1 y.2.1 y.2.2.1))) (NxOk.go hb (lookup_four_see_1_b N hb)) rfl (fun x => by kernel_rfl)
noncomputable def lookup_four_see_ctr (N : Nat) : Ctr := ⟨lookup_four_see_S1, lookup_four_see_S2.un [true, false], 0, (fun y => lookup_four_see N y.1.1 y.1.2.1)⟩
theorem lookup_four_see_ctrs (N : Nat) : CtrsOk Tryz.prog (lookup_four_see_C N) := ctrs_of (Γ := lookup_four_see_C N) G_ifs_ok (by
 intro p hp
 simp only [lookup_four_see_C, List.mem_cons, List.not_mem_nil, or_false] at hp
 rcases hp with rfl | rfl | rfl
 · exact wire_Checksum_ok N
 · exact lookup_cursor_int_ok N
 · exact lookup_cursor_number_ok N)
theorem lookup_four_see_ok (N : Nat) : Ctr.ok Tryz.prog G_globs 116 (lookup_four_see_ctr N) :=
 ctr_fn (Γ := lookup_four_see_C N) (rfit := lookup_four_see_S2) (bs := [true, false]) (res := [4, 5]) (by kernel_rfl) (tys_ok G_tys_ok) (lookup_four_see_ctrs N) Tryz.func116 (by kernel_rfl) (by kernel_rfl) Tryz.ntmps116 (by kernel_rfl) (by kernel_rfl) (by kernel_rfl) (by kernel_rfl) (fun E hb => lookup_four_see_b N hb)
/-! (ipsecgate/lookup.cursor).ports -/
abbrev lookup_cursor_ports_R : Type := ((Unit) × (D53 × Unit))
noncomputable def lookup_cursor_ports (N : Nat) (c_0 : ((List UInt8) × Unit)) (s_1 : D53) : Option lookup_cursor_ports_R :=
 let x2 := w64 ((c_0.1.length : Int) - s_1.2.2.2.2.1)
 bif (!(decide (s_1.2.1 = (0 : Int)))) then
 some ((()), (((s_1.1.1, s_1.1.2.1, s_1.1.2.2.1, (-1 : Int), (-1 : Int), ()), s_1.2.1, s_1.2.2.1, s_1.2.2.2.1, s_1.2.2.2.2.1, ()), ()))
 else
 bif (decide (s_1.1.2.2.1 = (6 : Int))) then
 bif (decide ((4 : Int) ≤ x2)) then
 Option.bind (lookup_cursor_int N c_0 s_1.2.2.2.2.1 (2 : Int)) fun y6 =>
 Option.bind (lookup_cursor_int N c_0 (w64 (s_1.2.2.2.2.1 + (2 : Int))) (2 : Int)) fun y8 =>
 some ((()), (((s_1.1.1, s_1.1.2.1, s_1.1.2.2.1, y6.1.1, y8.1.1, ()), s_1.2.1, s_1.2.2.1, s_1.2.2.2.1, s_1.2.2.2.2.1, ()), ()))
 else
 some ((()), (((s_1.1.1, s_1.1.2.1, s_1.1.2.2.1, (-1 : Int), (-1 : Int), ()), s_1.2.1, s_1.2.2.1, s_1.2.2.2.1, s_1.2.2.2.2.1, ()), ()))
 else
 bif (decide (s_1.1.2.2.1 = (17 : Int))) then
 bif (decide ((4 : Int) ≤ x2)) then
 Option.bind (lookup_cursor_int N c_0 s_1.2.2.2.2.1 (2 : Int)) fun y11 =>
 Option.bind (lookup_cursor_int N c_0 (w64 (s_1.2.2.2.2.1 + (2 : Int))) (2 : Int)) fun y13 =>
 some ((()), (((s_1.1.1, s_1.1.2.1, s_1.1.2.2.1, y11.1.1, y13.1.1, ()), s_1.2.1, s_1.2.2.1, s_1.2.2.2.1, s_1.2.2.2.2.1, ()), ()))
 else
 some ((()), (((s_1.1.1, s_1.1.2.1, s_1.1.2.2.1, (-1 : Int), (-1 : Int), ()), s_1.2.1, s_1.2.2.1, s_1.2.2.2.1, s_1.2.2.2.2.1, ()), ()))
 else
 bif (decide (s_1.1.2.2.1 = (1 : Int))) then
 bif (decide ((2 : Int) ≤ x2)) then
 Option.bind (lookup_cursor_int N c_0 s_1.2.2.2.2.1 (2 : Int)) fun y16 =>
 some ((()), (((s_1.1.1, s_1.1.2.1, s_1.1.2.2.1, y16.1.1, (-1 : Int), ()), s_1.2.1, s_1.2.2.1, s_1.2.2.2.1, s_1.2.2.2.2.1, ()), ()))
 else
 some ((()), (((s_1.1.1, s_1.1.2.1, s_1.1.2.2.1, (-1 : Int), (-1 : Int), ()), s_1.2.1, s_1.2.2.1, s_1.2.2.2.1, s_1.2.2.2.2.1, ()), ()))
 else
 bif (decide (s_1.1.2.2.1 = (58 : Int))) then
 bif (decide ((2 : Int) ≤ x2)) then
 Option.bind (lookup_cursor_int N c_0 s_1.2.2.2.2.1 (2 : Int)) fun y19 =>
 some ((()), (((s_1.1.1, s_1.1.2.1, s_1.1.2.2.1, y19.1.1, (-1 : Int), ()), s_1.2.1, s_1.2.2.1, s_1.2.2.2.1, s_1.2.2.2.2.1, ()), ()))
 else
 some ((()), (((s_1.1.1, s_1.1.2.1, s_1.1.2.2.1, (-1 : Int), (-1 : Int), ()), s_1.2.1, s_1.2.2.1, s_1.2.2.2.1, s_1.2.2.2.2.1, ()), ()))
 else
 some ((()), (((s_1.1.1, s_1.1.2.1, s_1.1.2.2.1, (-1 : Int), (-1 : Int), ()), s_1.2.1, s_1.2.2.1, s_1.2.2.2.1, s_1.2.2.2.2.1, ()), ()))
noncomputable def lookup_cursor_ports_C (N : Nat) : Ctx := ⟨72, G_tys, [(69, lookup_cursor_int_ctr N)], G_globs, G_ifs⟩
noncomputable def lookup_cursor_ports_S0 : Spec := ⟨[.val (.pair (.sl .u8) .unit), .ref 0 T53], [(.box 54 T53, .pos 1)]⟩
noncomputable def lookup_cursor_ports_S1 : Spec := ⟨[], [(.box 54 T53, .fix 0)]⟩
noncomputable def lookup_cursor_ports_K (_N : Nat) : XE → GS → Option lookup_cursor_ports_R := retK 1 [] [] lookup_cursor_ports_S1
noncomputable def lookup_cursor_ports_L : List Code := (bodyOf (some Tryz.f53))
theorem lookup_cursor_ports_b {E : Env} (N : Nat) (hb : Base Tryz.prog (lookup_cursor_ports_C N) E 1) : Blk Tryz.prog (lookup_cursor_ports_C N) E (List.range lookup_cursor_ports_S0.ks.length) lookup_cursor_ports_S0 (lookup_cursor_ports_L.drop 0) (fun y => lookup_cursor_ports N y.1.1 y.2.1) (lookup_cursor_ports_K N) :=
 Blk.chunkAt hb 7 (X := (lookup_cursor_ports_K N .normal)) (NxOk.end (by kernel_rfl)) rfl (fun x => by kernel_rfl)
noncomputable def lookup_cursor_ports_ctr (N : Nat) : Ctr := ⟨lookup_cursor_ports_S0, lookup_cursor_ports_S1.un [], 1, (fun y => lookup_cursor_ports N y.1.1 y.2.1)⟩
theorem lookup_cursor_ports_ctrs (N : Nat) : CtrsOk Tryz.prog (lookup_cursor_ports_C N) := ctrs_of (Γ := lookup_cursor_ports_C N) G_ifs_ok (by
 intro p hp
 simp only [lookup_cursor_ports_C, List.mem_cons, List.not_mem_nil, or_false] at hp
 rcases hp with rfl
 · exact lookup_cursor_int_ok N)
theorem lookup_cursor_ports_ok (N : Nat) : Ctr.ok Tryz.prog G_globs 53 (lookup_cursor_ports_ctr N) :=
 ctr_fn (Γ := lookup_cursor_ports_C N) (rfit := lookup_cursor_ports_S1) (bs := []) (res := []) (by kernel_rfl) (tys_ok G_tys_ok) (lookup_cursor_ports_ctrs N) Tryz.func53 (by kernel_rfl) (by kernel_rfl) Tryz.ntmps53 (by kernel_rfl) (by kernel_rfl) (by kernel_rfl) (by kernel_rfl) (fun E hb => lookup_cursor_ports_b N hb)
/-! (ipsecgate/lookup.six).least -/
abbrev lookup_six_least_R : Type := ((Int × Unit) × (Unit))
noncomputable def lookup_six_least (N : Nat) (t_0 : Unit) (c_1 : ((List UInt8) × Unit)) : Option lookup_six_least_R :=
 bif (decide ((6 : Int) < (c_1.1.length : Int))) then
 bif inR (6 : Int) c_1.1.length then
 bif (decide ((c_1.1.getD 6 (0 : UInt8)) = (44 : UInt8))) then
 some (((48 : Int), ()), (()))
 else
 some (((40 : Int), ()), (()))
 else none
 else
 some (((40 : Int), ()), (()))
noncomputable def lookup_six_least_C (N : Nat) : Ctx := ⟨16, G_tys, [], G_globs, G_ifs⟩
noncomputable def lookup_six_least_S0 : Spec := ⟨[.val .unit, .val (.pair (.sl .u8) .unit)], []⟩
noncomputable def lookup_six_least_S1 : Spec := ⟨[.val .i64], []⟩
noncomputable def lookup_six_least_K (_N : Nat) : XE → GS → Option lookup_six_least_R := retK 0 [4] [false] lookup_six_least_S1
noncomputable def lookup_six_least_L : List Code := (bodyOf (some Tryz.f117))
theorem lookup_six_least_b {E : Env} (N : Nat) (hb : Base Tryz.prog (lookup_six_least_C N) E 0) : Blk Tryz.prog (lookup_six_least_C N) E (List.range lookup_six_least_S0.ks.length) lookup_six_least_S0 (lookup_six_least_L.drop 0) (fun y => lookup_six_least N y.1.1 y.1.2.1) (lookup_six_least_K N) :=
 Blk.chunkAt hb 5 (X := (lookup_six_least_K N .normal)) (NxOk.end (by kernel_rfl)) rfl (fun x => by kernel_rfl)
noncomputable def lookup_six_least_ctr (N : Nat) : Ctr := ⟨lookup_six_least_S0, lookup_six_least_S1.un [false], 0, (fun y => lookup_six_least N y.1.1 y.1.2.1)⟩
theorem lookup_six_least_ctrs (N : Nat) : CtrsOk Tryz.prog (lookup_six_least_C N) := ctrs_nil G_ifs_ok rfl
theorem lookup_six_least_ok (N : Nat) : Ctr.ok Tryz.prog G_globs 117 (lookup_six_least_ctr N) :=
 ctr_fn (Γ := lookup_six_least_C N) (rfit := lookup_six_least_S1) (bs := [false]) (res := [4]) (by kernel_rfl) (tys_ok G_tys_ok) (lookup_six_least_ctrs N) Tryz.func117 (by kernel_rfl) (by kernel_rfl) Tryz.ntmps117 (by kernel_rfl) (by kernel_rfl) (by kernel_rfl) (by kernel_rfl) (fun E hb => lookup_six_least_b N hb)
/-! (ipsecgate/lookup.six).see$1 -/
abbrev lookup_six_see_f1_R : Type := ((D28 × Unit) × (Unit))
noncomputable def lookup_six_see_f1 (N : Nat) (from_0 : Int) (t_1 : ((List UInt8) × Unit)) : Option lookup_six_see_f1_R :=
 Option.bind (lookup_cursor_number N t_1 from_0 (8 : Int)) fun y1 =>
 Option.bind (lookup_cursor_number N t_1 (w64 (from_0 + (8 : Int))) (8 : Int)) fun y3 =>
 some ((((6 : Int), y1.1.1, y3.1.1, ()), ()), (()))
noncomputable def lookup_six_see_f1_C (N : Nat) : Ctx := ⟨12, G_tys, [(81, lookup_cursor_number_ctr N)], G_globs, G_ifs⟩
noncomputable def lookup_six_see_f1_S0 : Spec := ⟨[.val .i64, .fp (.pair (.sl .u8) .unit)], []⟩
noncomputable def lookup_six_see_f1_S1 : Spec := ⟨[.fp T28], []⟩
noncomputable def lookup_six_see_f1_K (_N : Nat) : XE → GS → Option lookup_six_see_f1_R := retK 0 [3] [true] lookup_six_see_f1_S1
noncomputable def lookup_six_see_f1_L : List Code := (bodyOf (some Tryz.f119))
theorem lookup_six_see_f1_b {E : Env} (N : Nat) (hb : Base Tryz.prog (lookup_six_see_f1_C N) E 0) : Blk Tryz.prog (lookup_six_see_f1_C N) E (List.range lookup_six_see_f1_S0.ks.length) lookup_six_see_f1_S0 (lookup_six_see_f1_L.drop 0) (fun y => lookup_six_see_f1 N y.1.1 y.1.2.1) (lookup_six_see_f1_K N) :=
 Blk.chunkAt hb 3 (X := (lookup_six_see_f1_K N .normal)) (NxOk.end (by kernel_rfl)) rfl (fun x => by kernel_rfl)
noncomputable def lookup_six_see_f1_ctr (N : Nat) : Ctr := ⟨lookup_six_see_f1_S0, lookup_six_see_f1_S1.un [true], 0, (fun y => lookup_six_see_f1 N y.1.1 y.1.2.1)⟩
theorem lookup_six_see_f1_ctrs (N : Nat) : CtrsOk Tryz.prog (lookup_six_see_f1_C N) := ctrs_of (Γ := lookup_six_see_f1_C N) G_ifs_ok (by
 intro p hp
 simp only [lookup_six_see_f1_C, List.mem_cons, List.not_mem_nil, or_false] at hp
 rcases hp with rfl
 · exact lookup_cursor_number_ok N)
theorem lookup_six_see_f1_ok (N : Nat) : Ctr.ok Tryz.prog G_globs 119 (lookup_six_see_f1_ctr N) :=
 ctr_fn (Γ := lookup_six_see_f1_C N) (rfit := lookup_six_see_f1_S1) (bs := [true]) (res := [3]) (by kernel_rfl) (tys_ok G_tys_ok) (lookup_six_see_f1_ctrs N) Tryz.func119 (by kernel_rfl) (by kernel_rfl) Tryz.ntmps119 (by kernel_rfl) (by kernel_rfl) (by kernel_rfl) (by kernel_rfl) (fun E hb => lookup_six_see_f1_b N hb)
/-! (ipsecgate/lookup.six).see -/
abbrev lookup_six_see_R : Type := ((D53 × Int × Unit) × (Unit))
noncomputable def lookup_six_see (N : Nat) (t_0 : Unit) (c_1 : ((List UInt8) × Unit)) : Option lookup_six_see_R :=
 Option.bind (lookup_cursor_int N c_1 (4 : Int) (2 : Int)) fun y1 =>
 bif (!(decide ((w64 (y1.1.1 + (40 : Int))) = (c_1.1.length : Int)))) then
 some ((((((0 : Int), (0 : UInt64), (0 : UInt64), ()), ((0 : Int), (0 : UInt64), (0 : UInt64), ()), (0 : Int), (0 : Int), (0 : Int), ()), (0 : Int), false, false, (0 : Int), ()), (2 : Int), ()), (()))
 else
 Option.bind (lookup_six_see_f1 N (8 : Int) c_1) fun y5 =>
 Option.bind (lookup_six_see_f1 N (24 : Int) c_1) fun y6 =>
 Option.bind (lookup_cursor_int N c_1 (6 : Int) (1 : Int)) fun y7 =>
 bif (decide (y7.1.1 = (44 : Int))) then
 Option.bind (lookup_cursor_int N c_1 (42 : Int) (2 : Int)) fun y9 =>
 Option.bind (lookup_cursor_int N c_1 (40 : Int) (1 : Int)) fun y10 =>
 some ((((y5.1.1, y6.1.1, y10.1.1, (0 : Int), (0 : Int), ()), (andNot64 y9.1.1 (7 : Int)), (!(decide ((and64 y9.1.1 (1 : Int)) = (0 : Int)))), false, (48 : Int), ()), (0 : Int), ()), (()))
 else
 some ((((y5.1.1, y6.1.1, y7.1.1, (0 : Int), (0 : Int), ()), (0 : Int), false, false, (40 : Int), ()), (0 : Int), ()), (()))
noncomputable def lookup_six_see_C (N : Nat) : Ctx := ⟨45, G_tys, [(69, lookup_cursor_int_ctr N), (119, lookup_six_see_f1_ctr N)], G_globs, G_ifs⟩
noncomputable def lookup_six_see_S0 : Spec := ⟨[.val .unit, .val (.pair (.sl .u8) .unit)], []⟩
noncomputable def lookup_six_see_S1 : Spec := ⟨[.fp T53, .val .i64], []⟩
noncomputable def lookup_six_see_K (_N : Nat) : XE → GS → Option lookup_six_see_R := retK 0 [4, 5] [true, false] lookup_six_see_S1
noncomputable def lookup_six_see_L : List Code := (bodyOf (some Tryz.f118))
theorem lookup_six_see_b {E : Env} (N : Nat) (hb : Base Tryz.prog (lookup_six_see_C N) E 0) : Blk Tryz.prog (lookup_six_see_C N) E (List.range lookup_six_see_S0.ks.length) lookup_six_see_S0 (lookup_six_see_L.drop 0) (fun y => lookup_six_see N y.1.1 y.1.2.1) (lookup_six_see_K N) :=
 Blk.chunkAt hb 9 (X := (lookup_six_see_K N .normal)) (NxOk.end (by kernel_rfl)) rfl (fun x => by kernel_rfl)
noncomputable def lookup_six_see_ctr (N : Nat) : Ctr := ⟨lookup_six_see_S0, lookup_six_see_S1.un [true, false], 0, (fun y => lookup_six_see N y.1.1 y.1.2.1)⟩
theorem lookup_six_see_ctrs (N : Nat) : CtrsOk Tryz.prog (lookup_six_see_C N) := ctrs_of (Γ := lookup_six_see_C N) G_ifs_ok (by
 intro p hp
 simp only [lookup_six_see_C, List.mem_cons, List.not_mem_nil, or_false] at hp
 rcases hp with rfl | rfl
 · exact lookup_cursor_int_ok N
 · exact lookup_six_see_f1_ok N)
theorem lookup_six_see_ok (N : Nat) : Ctr.ok Tryz.prog G_globs 118 (lookup_six_see_ctr N) :=
 ctr_fn (Γ := lookup_six_see_C N) (rfit := lookup_six_see_S1) (bs := [true, false]) (res := [4, 5]) (by kernel_rfl) (tys_ok G_tys_ok) (lookup_six_see_ctrs N) Tryz.func118 (by kernel_rfl) (by kernel_rfl) Tryz.ntmps118 (by kernel_rfl) (by kernel_rfl) (by kernel_rfl) (by kernel_rfl) (fun E hb => lookup_six_see_b N hb)
/-! ipsecgate/lookup.See -/
abbrev lookup_See_R : Type := ((D53 × Int × Unit) × (Unit))
noncomputable def lookup_See (N : Nat) (b_0 : (List UInt8)) : Option lookup_See_R :=
 bif (decide ((b_0.length : Int) = (0 : Int))) then
 some ((((((0 : Int), (0 : UInt64), (0 : UInt64), ()), ((0 : Int), (0 : UInt64), (0 : UInt64), ()), (0 : Int), (0 : Int), (0 : Int), ()), (0 : Int), false, false, (0 : Int), ()), (1 : Int), ()), (()))
 else
 bif inR (0 : Int) b_0.length then
 let x3 := b_0.getD 0 (0 : UInt8)
 bif (decide ((shr8 x3 4) = (4 : UInt8))) then
 Option.bind (lookup_four_least N () (b_0, ())) fun y7 =>
 bif (decide ((b_0.length : Int) < y7.1.1)) then
 some ((((((0 : Int), (0 : UInt64), (0 : UInt64), ()), ((0 : Int), (0 : UInt64), (0 : UInt64), ()), (0 : Int), (0 : Int), (0 : Int), ()), (0 : Int), false, false, (0 : Int), ()), (1 : Int), ()), (()))
 else
 Option.bind (lookup_four_see N () (b_0, ())) fun y9 =>
 bif (!(decide (y9.1.2.1 = (0 : Int)))) then
 some ((((((0 : Int), (0 : UInt64), (0 : UInt64), ()), ((0 : Int), (0 : UInt64), (0 : UInt64), ()), (0 : Int), (0 : Int), (0 : Int), ()), (0 : Int), false, false, (0 : Int), ()), y9.1.2.1, ()), (()))
 else
 bif (decide ((4096 : Int) < (b_0.length : Int))) then
 some ((((((0 : Int), (0 : UInt64), (0 : UInt64), ()), ((0 : Int), (0 : UInt64), (0 : UInt64), ()), (0 : Int), (0 : Int), (0 : Int), ()), (0 : Int), false, false, (0 : Int), ()), (11 : Int), ()), (()))
 else
 Option.bind (lookup_cursor_ports N (b_0, ()) y9.1.1) fun y13 =>
 bif y13.2.1.2.2.1 then
 some (((y13.2.1.1, y13.2.1.2.1, y13.2.1.2.2.1, true, y13.2.1.2.2.2.2.1, ()), (0 : Int), ()), (()))
 else
 some (((y13.2.1.1, y13.2.1.2.1, y13.2.1.2.2.1, (!(decide (y13.2.1.2.1 = (0 : Int)))), y13.2.1.2.2.2.2.1, ()), (0 : Int), ()), (()))
 else
 bif (decide ((shr8 x3 4) = (6 : UInt8))) then
 Option.bind (lookup_six_least N () (b_0, ())) fun y17 =>
 bif (decide ((b_0.length : Int) < y17.1.1)) then
 some ((((((0 : Int), (0 : UInt64), (0 : UInt64), ()), ((0 : Int), (0 : UInt64), (0 : UInt64), ()), (0 : Int), (0 : Int), (0 : Int), ()), (0 : Int), false, false, (0 : Int), ()), (1 : Int), ()), (()))
 else
 Option.bind (lookup_six_see N () (b_0, ())) fun y19 =>
 bif (!(decide (y19.1.2.1 = (0 : Int)))) then
 some ((((((0 : Int), (0 : UInt64), (0 : UInt64), ()), ((0 : Int), (0 : UInt64), (0 : UInt64), ()), (0 : Int), (0 : Int), (0 : Int), ()), (0 : Int), false, false, (0 : Int), ()), y19.1.2.1, ()), (()))
 else
 bif (decide ((4096 : Int) < (b_0.length : Int))) then
 some ((((((0 : Int), (0 : UInt64), (0 : UInt64), ()), ((0 : Int), (0 : UInt64), (0 : UInt64), ()), (0 : Int), (0 : Int), (0 : Int), ()), (0 : Int), false, false, (0 : Int), ()), (11 : Int), ()), (()))
 else
 Option.bind (lookup_cursor_ports N (b_0, ()) y19.1.1) fun y23 =>
 bif y23.2.1.2.2.1 then
 some (((y23.2.1.1, y23.2.1.2.1, y23.2.1.2.2.1, true, y23.2.1.2.2.2.2.1, ()), (0 : Int), ()), (()))
 else
 some (((y23.2.1.1, y23.2.1.2.1, y23.2.1.2.2.1, (!(decide (y23.2.1.2.1 = (0 : Int)))), y23.2.1.2.2.2.2.1, ()), (0 : Int), ()), (()))
 else
 some ((((((0 : Int), (0 : UInt64), (0 : UInt64), ()), ((0 : Int), (0 : UInt64), (0 : UInt64), ()), (0 : Int), (0 : Int), (0 : Int), ()), (0 : Int), false, false, (0 : Int), ()), (3 : Int), ()), (()))
 else none
noncomputable def lookup_See_C (N : Nat) : Ctx := ⟨59, G_tys, [(115, lookup_four_least_ctr N), (116, lookup_four_see_ctr N), (53, lookup_cursor_ports_ctr N), (117, lookup_six_least_ctr N), (118, lookup_six_see_ctr N)], G_globs, G_ifs⟩
noncomputable def lookup_See_S0 : Spec := ⟨[.val (.sl .u8)], []⟩
noncomputable def lookup_See_S1 : Spec := ⟨[.fp T53, .val .i64], []⟩
noncomputable def lookup_See_K (_N : Nat) : XE → GS → Option lookup_See_R := retK 0 [2, 3] [true, false] lookup_See_S1
noncomputable def lookup_See_L : List Code := (bodyOf (some Tryz.f28))
theorem lookup_See_b {E : Env} (N : Nat) (hb : Base Tryz.prog (lookup_See_C N) E 0) : Blk Tryz.prog (lookup_See_C N) E (List.range lookup_See_S0.ks.length) lookup_See_S0 (lookup_See_L.drop 0) (fun y => lookup_See N y.1.1) (lookup_See_K N) :=
 Blk.chunkAt hb 18 (X := (lookup_See_K N .normal)) (NxOk.end (by kernel_rfl)) rfl (fun x => by kernel_rfl)
noncomputable def lookup_See_ctr (N : Nat) : Ctr := ⟨lookup_See_S0, lookup_See_S1.un [true, false], 0, (fun y => lookup_See N y.1.1)⟩
theorem lookup_See_ctrs (N : Nat) : CtrsOk Tryz.prog (lookup_See_C N) := ctrs_of (Γ := lookup_See_C N) G_ifs_ok (by
 intro p hp
 simp only [lookup_See_C, List.mem_cons, List.not_mem_nil, or_false] at hp
 rcases hp with rfl | rfl | rfl | rfl | rfl
 · exact lookup_four_least_ok N
 · exact lookup_four_see_ok N
 · exact lookup_cursor_ports_ok N
 · exact lookup_six_least_ok N
 · exact lookup_six_see_ok N)
theorem lookup_See_ok (N : Nat) : Ctr.ok Tryz.prog G_globs 28 (lookup_See_ctr N) :=
 ctr_fn (Γ := lookup_See_C N) (rfit := lookup_See_S1) (bs := [true, false]) (res := [2, 3]) (by kernel_rfl) (tys_ok G_tys_ok) (lookup_See_ctrs N) Tryz.func28 (by kernel_rfl) (by kernel_rfl) Tryz.ntmps28 (by kernel_rfl) (by kernel_rfl) (by kernel_rfl) (by kernel_rfl) (fun E hb => lookup_See_b N hb)
/-! ipsecgate/esp.whole -/
abbrev esp_whole_R : Type := ((Int × Unit) × (Unit))
noncomputable def esp_whole (N : Nat) (family_0 : Int) : Option esp_whole_R :=
 bif (decide (family_0 = (6 : Int))) then
 some (((41 : Int), ()), (()))
 else
 some (((4 : Int), ()), (()))
noncomputable def esp_whole_C (N : Nat) : Ctx := ⟨5, G_tys, [], G_globs, G_ifs⟩
noncomputable def esp_whole_S0 : Spec := ⟨[.val .i64], []⟩
noncomputable def esp_whole_K (_N : Nat) : XE → GS → Option esp_whole_R := retK 0 [2] [false] esp_whole_S0
noncomputable def esp_whole_L : List Code := (bodyOf (some Tryz.f30))
theorem esp_whole_b {E : Env} (N : Nat) (hb : Base Tryz.prog (esp_whole_C N) E 0) : Blk Tryz.prog (esp_whole_C N) E (List.range esp_whole_S0.ks.length) esp_whole_S0 (esp_whole_L.drop 0) (fun y => esp_whole N y.1.1) (esp_whole_K N) :=
 Blk.chunkAt hb 5 (X := (esp_whole_K N .normal)) (NxOk.end (by kernel_rfl)) rfl (fun x => by kernel_rfl)
noncomputable def esp_whole_ctr (N : Nat) : Ctr := ⟨esp_whole_S0, esp_whole_S0.un [false], 0, (fun y => esp_whole N y.1.1)⟩
theorem esp_whole_ctrs (N : Nat) : CtrsOk Tryz.prog (esp_whole_C N) := ctrs_nil G_ifs_ok rfl
theorem esp_whole_ok (N : Nat) : Ctr.ok Tryz.prog G_globs 30 (esp_whole_ctr N) :=
 ctr_fn (Γ := esp_whole_C N) (rfit := esp_whole_S0) (bs := [false]) (res := [2]) (by kernel_rfl) (tys_ok G_tys_ok) (esp_whole_ctrs N) Tryz.func30 (by kernel_rfl) (by kernel_rfl) Tryz.ntmps30 (by kernel_rfl) (by kernel_rfl) (by kernel_rfl) (by kernel_rfl) (fun E hb => esp_whole_b N hb)
/-! ipsecgate/esp.hidden -/
abbrev esp_hidden_R : Type := ((D30 × Unit) × (Unit))
noncomputable def esp_hidden (N : Nat) (from_0 : D28) (to_1 : D28) : Option esp_hidden_R :=
 some (((from_0, to_1, (50 : Int), (-1 : Int), (-1 : Int), ()), ()), (()))
noncomputable def esp_hidden_C (N : Nat) : Ctx := ⟨8, G_tys, [], G_globs, G_ifs⟩
noncomputable def esp_hidden_S0 : Spec := ⟨[.val T28, .val T28], []⟩
noncomputable def esp_hidden_S1 : Spec := ⟨[.fp T30], []⟩
noncomputable def esp_hidden_K (_N : Nat) : XE → GS → Option esp_hidden_R := retK 0 [4] [true] esp_hidden_S1
noncomputable def esp_hidden_L : List Code := (bodyOf (some Tryz.f33))
theorem esp_hidden_b {E : Env} (N : Nat) (hb : Base Tryz.prog (esp_hidden_C N) E 0) : Blk Tryz.prog (esp_hidden_C N) E (List.range esp_hidden_S0.ks.length) esp_hidden_S0 (esp_hidden_L.drop 0) (fun y => esp_hidden N y.1.1 y.1.2.1) (esp_hidden_K N) :=
 Blk.chunkAt hb 3 (X := (esp_hidden_K N .normal)) (NxOk.end (by kernel_rfl)) rfl (fun x => by kernel_rfl)
noncomputable def esp_hidden_ctr (N : Nat) : Ctr := ⟨esp_hidden_S0, esp_hidden_S1.un [true], 0, (fun y => esp_hidden N y.1.1 y.1.2.1)⟩
theorem esp_hidden_ctrs (N : Nat) : CtrsOk Tryz.prog (esp_hidden_C N) := ctrs_nil G_ifs_ok rfl
theorem esp_hidden_ok (N : Nat) : Ctr.ok Tryz.prog G_globs 33 (esp_hidden_ctr N) :=
 ctr_fn (Γ := esp_hidden_C N) (rfit := esp_hidden_S1) (bs := [true]) (res := [4]) (by kernel_rfl) (tys_ok G_tys_ok) (esp_hidden_ctrs N) Tryz.func33 (by kernel_rfl) (by kernel_rfl) Tryz.ntmps33 (by kernel_rfl) (by kernel_rfl) (by kernel_rfl) (by kernel_rfl) (fun E hb => esp_hidden_b N hb)
/-! ipsecgate/selector.Valid -/
abbrev selector_Valid_R : Type := ((Bool × Unit) × (Unit))
noncomputable def selector_Valid (N : Nat) (a_0 : D28) : Option selector_Valid_R :=
 bif (decide (a_0.1 = (6 : Int))) then
 some ((true, ()), (()))
 else
 bif (decide (a_0.1 = (4 : Int))) then
 bif (decide (a_0.2.1 = (0 : UInt64))) then
 some (((decide (a_0.2.2.1 < (4294967296 : UInt64))), ()), (()))
 else
 some ((false, ()), (()))
 else
 some ((false, ()), (()))
noncomputable def selector_Valid_C (N : Nat) : Ctx := ⟨21, G_tys, [], G_globs, G_ifs⟩
noncomputable def selector_Valid_S0 : Spec := ⟨[.val T28], []⟩
noncomputable def selector_Valid_S1 : Spec := ⟨[.val .bool], []⟩
noncomputable def selector_Valid_K (_N : Nat) : XE → GS → Option selector_Valid_R := retK 0 [2] [false] selector_Valid_S1
noncomputable def selector_Valid_L : List Code := (bodyOf (some Tryz.f54))
theorem selector_Valid_b {E : Env} (N : Nat) (hb : Base Tryz.prog (selector_Valid_C N) E 0) : Blk Tryz.prog (selector_Valid_C N) E (List.range selector_Valid_S0.ks.length) selector_Valid_S0 (selector_Valid_L.drop 0) (fun y => selector_Valid N y.1.1) (selector_Valid_K N) :=
 Blk.chunkAt hb 3 (X := (selector_Valid_K N .normal)) (NxOk.end (by kernel_rfl)) rfl (fun x => by kernel_rfl)
noncomputable def selector_Valid_ctr (N : Nat) : Ctr := ⟨selector_Valid_S0, selector_Valid_S1.un [false], 0, (fun y => selector_Valid N y.1.1)⟩
theorem selector_Valid_ctrs (N : Nat) : CtrsOk Tryz.prog (selector_Valid_C N) := ctrs_nil G_ifs_ok rfl
theorem selector_Valid_ok (N : Nat) : Ctr.ok Tryz.prog G_globs 54 (selector_Valid_ctr N) :=
 ctr_fn (Γ := selector_Valid_C N) (rfit := selector_Valid_S1) (bs := [false]) (res := [2]) (by kernel_rfl) (tys_ok G_tys_ok) (selector_Valid_ctrs N) Tryz.func54 (by kernel_rfl) (by kernel_rfl) Tryz.ntmps54 (by kernel_rfl) (by kernel_rfl) (by kernel_rfl) (by kernel_rfl) (fun E hb => selector_Valid_b N hb)
/-! ipsecgate/lookup.port -/
abbrev lookup_port_R : Type := ((Bool × Unit) × (Unit))
noncomputable def lookup_port (N : Nat) (n_0 : Int) : Option lookup_port_R :=
 bif (decide ((-1 : Int) ≤ n_0)) then
 some (((decide (n_0 ≤ (65535 : Int))), ()), (()))
 else
 some ((false, ()), (()))
noncomputable def lookup_port_C (N : Nat) : Ctx := ⟨9, G_tys, [], G_globs, G_ifs⟩
noncomputable def lookup_port_S0 : Spec := ⟨[.val .i64], []⟩
noncomputable def lookup_port_S1 : Spec := ⟨[.val .bool], []⟩
noncomputable def lookup_port_K (_N : Nat) : XE → GS → Option lookup_port_R := retK 0 [2] [false] lookup_port_S1
noncomputable def lookup_port_L : List Code := (bodyOf (some Tryz.f55))
theorem lookup_port_b {E : Env} (N : Nat) (hb : Base Tryz.prog (lookup_port_C N) E 0) : Blk Tryz.prog (lookup_port_C N) E (List.range lookup_port_S0.ks.length) lookup_port_S0 (lookup_port_L.drop 0) (fun y => lookup_port N y.1.1) (lookup_port_K N) :=
 Blk.chunkAt hb 3 (X := (lookup_port_K N .normal)) (NxOk.end (by kernel_rfl)) rfl (fun x => by kernel_rfl)
noncomputable def lookup_port_ctr (N : Nat) : Ctr := ⟨lookup_port_S0, lookup_port_S1.un [false], 0, (fun y => lookup_port N y.1.1)⟩
theorem lookup_port_ctrs (N : Nat) : CtrsOk Tryz.prog (lookup_port_C N) := ctrs_nil G_ifs_ok rfl
theorem lookup_port_ok (N : Nat) : Ctr.ok Tryz.prog G_globs 55 (lookup_port_ctr N) :=
 ctr_fn (Γ := lookup_port_C N) (rfit := lookup_port_S1) (bs := [false]) (res := [2]) (by kernel_rfl) (tys_ok G_tys_ok) (lookup_port_ctrs N) Tryz.func55 (by kernel_rfl) (by kernel_rfl) Tryz.ntmps55 (by kernel_rfl) (by kernel_rfl) (by kernel_rfl) (by kernel_rfl) (fun E hb => lookup_port_b N hb)
/-! ipsecgate/lookup.transport -/
abbrev lookup_transport_R : Type := ((Int × Unit) × ((List UInt8) × Unit))
noncomputable def lookup_transport_s3 (N : Nat) (t_25 : Int) (t_26 : Int) (out_6 : (List UInt8)) (t_24 : (List Int)) : Option (Lo ((Int × Int × Unit) × ((List UInt8) × (List Int) × Unit)) ((Unit) × ((List UInt8) × Unit)) lookup_transport_R) :=
 bif (decide (t_26 < t_25)) then
 bif inR t_26 t_24.length then
 let x5 := (t_24.getD t_26.toNat (0 : Int))
 bif (decide (x5 = (-1 : Int))) then
 some (.go ((t_25, (w64 (t_26 + (1 : Int))), ()), (out_6, t_24, ())))
 else
 bif (decide ((out_6.length : Int) < (4 : Int))) then
 some (.rt (((1 : Int), ()), (([] : List UInt8), ())))
 else
 let x10 := w64 ((2 : Int) * t_26)
 let x12 := w64 ((w64 ((2 : Int) * t_26)) + (1 : Int))
 bif inR x10 out_6.length then
 let x15 := (out_6.set x10.toNat (iu8 (shrI x5 8)))
 bif inR x12 x15.length then
 some (.go ((t_25, (w64 (t_26 + (1 : Int))), ()), ((x15.set x12.toNat (iu8 x5)), t_24, ())))
 else none
 else none
 else none
 else
 some (.br ((()), (out_6, ())))
noncomputable def lookup_transport_4 (N : Nat) (out_6 : (List UInt8)) : Option lookup_transport_R :=
 some (((0 : Int), ()), (out_6, ()))
noncomputable def lookup_transport_2 (N : Nat) (t_25 : Int) (t_26 : Int) (out_6 : (List UInt8)) (t_24 : (List Int)) : Option lookup_transport_R :=
 loopK N (fun y => lookup_transport_s3 N y.1.1 y.1.2.1 y.2.1 y.2.2.1) (fun (e : ((Unit) × ((List UInt8) × Unit))) => lookup_transport_4 N e.2.1) ((t_25, t_26, ()), (out_6, t_24, ()))
noncomputable def lookup_transport_1 (N : Nat) (t_18 : Bool) (p_2 : D30) (out_6 : (List UInt8)) : Option lookup_transport_R :=
 bif t_18 then
 some (((0 : Int), ()), (out_6, ()))
 else
 lookup_transport_2 N (([p_2.2.2.2.1, p_2.2.2.2.2.1] : List Int).length : Int) (0 : Int) out_6 ([p_2.2.2.2.1, p_2.2.2.2.2.1] : List Int)
noncomputable def lookup_transport (N : Nat) (p_0 : D30) (data_1 : (List UInt8)) : Option lookup_transport_R :=
 bif room (0 + data_1.length) 1 then
 bif (!(decide (p_0.2.2.1 = (6 : Int)))) then
 lookup_transport_1 N (!(decide (p_0.2.2.1 = (17 : Int)))) p_0 data_1
 else
 lookup_transport_1 N false p_0 data_1
 else none
noncomputable def lookup_transport_C (N : Nat) : Ctx := ⟨52, G_tys, [], G_globs, G_ifs⟩
noncomputable def lookup_transport_S0 : Spec := ⟨[.row 0, .row 1, .val .i64, .val .i64], [(.row 5 .u8, .pos 0), (.row 3 .i64, .pos 1)]⟩
noncomputable def lookup_transport_S1 : Spec := ⟨[.row 0], [(.row 5 .u8, .pos 0)]⟩
noncomputable def lookup_transport_S2 : Spec := ⟨[.ref 0 T30, .row 1, .val .bool], [(.box 31 T30, .pos 0), (.row 5 .u8, .pos 1)]⟩
noncomputable def lookup_transport_S3 : Spec := ⟨[.val T30, .val (.sl .u8)], []⟩
noncomputable def lookup_transport_S4 : Spec := ⟨[.row 0, .val .i64], [(.row 5 .u8, .pos 0)]⟩
noncomputable def lookup_transport_K (_N : Nat) : XE → GS → Option lookup_transport_R := retK 0 [4, 5] [false, false] lookup_transport_S4
noncomputable def lookup_transport_L : List Code := (bodyOf (some Tryz.f56))
noncomputable def lookup_transport_L3 : List Code := (loopOf (lookup_transport_L[5]?))
noncomputable def lookup_transport_K3 (N : Nat) : XE → GS → Option (Lo ((Int × Int × Unit) × ((List UInt8) × (List Int) × Unit)) ((Unit) × ((List UInt8) × Unit)) lookup_transport_R) := roundK (some 0) (fit 0 [6, 24, 25, 26] lookup_transport_S0) (fit 0 [6] lookup_transport_S1) (lookup_transport_K N)
theorem lookup_transport_s3_b {E : Env} (N : Nat) (hb : Base Tryz.prog (lookup_transport_C N) E 0) : Blk Tryz.prog (lookup_transport_C N) E [6, 24, 25, 26] lookup_transport_S0 (lookup_transport_L3.drop 0) (fun y => lookup_transport_s3 N y.1.1 y.1.2.1 y.2.1 y.2.2.1) (lookup_transport_K3 N) :=
 Blk.chunkAt hb 4 (X := (lookup_transport_K3 N .normal)) (NxOk.end (by kernel_rfl)) rfl (fun x => by kernel_rfl)
theorem lookup_transport_4_b {E : Env} (N : Nat) (hb : Base Tryz.prog (lookup_transport_C N) E 0) : Blk Tryz.prog (lookup_transport_C N) E [6] lookup_transport_S1 (lookup_transport_L.drop 6) (fun y => lookup_transport_4 N y.2.1) (lookup_transport_K N) :=
 Blk.chunkAt hb 2 (X := (lookup_transport_K N .normal)) (NxOk.end (by kernel_rfl)) rfl (fun x => by kernel_rfl)
theorem lookup_transport_2_b {E : Env} (N : Nat) (hb : Base Tryz.prog (lookup_transport_C N) E 0) : Blk Tryz.prog (lookup_transport_C N) E [6, 24, 25, 26] lookup_transport_S0 (lookup_transport_L.drop 5) (fun y => lookup_transport_2 N y.1.1 y.1.2.1 y.2.1 y.2.2.1) (lookup_transport_K N) :=
 Blk.loopAt (Nf := N) (hns := [6, 24, 25, 26]) (ans := [6]) (hc := lookup_transport_S0) (ac := lookup_transport_S1) (bid := 0) (step := (fun y => lookup_transport_s3 N y.1.1 y.1.2.1 y.2.1 y.2.2.1)) (J := (fun e => (goK 0 [6] lookup_transport_S1 (fun y => lookup_transport_4 N y.2.1)) (lookup_transport_S1.st [6] e))) hb (by kernel_rfl) (Blk.into (X := (goK 0 [6] lookup_transport_S1 (fun y => lookup_transport_4 N y.2.1))) (NxOk.go hb (lookup_transport_4_b N hb)) (fun x => by kernel_rfl)) (lookup_transport_s3_b N hb) (fun x => by kernel_rfl)
theorem lookup_transport_1_b {E : Env} (N : Nat) (hb : Base Tryz.prog (lookup_transport_C N) E 0) : Blk Tryz.prog (lookup_transport_C N) E [2, 6, 18] lookup_transport_S2 (lookup_transport_L.drop 3) (fun y => lookup_transport_1 N y.1.1 y.2.1 y.2.2.1) (lookup_transport_K N) :=
 Blk.chunkAt hb 2 (X := (goK 0 [6, 24, 25, 26] lookup_transport_S0 (fun y => lookup_transport_2 N y.1.1 y.1.2.1 y.2.1 y.2.2.1))) (NxOk.go hb (lookup_transport_2_b N hb)) rfl (fun x => by kernel_rfl)
theorem lookup_transport_b {E : Env} (N : Nat) (hb : Base Tryz.prog (lookup_transport_C N) E 0) : Blk Tryz.prog (lookup_transport_C N) E (List.range lookup_transport_S3.ks.length) lookup_transport_S3 (lookup_transport_L.drop 0) (fun y => lookup_transport N y.1.1 y.1.2.1) (lookup_transport_K N) :=
 Blk.chunkAt hb 3 (X := (goK 0 [2, 6, 18] lookup_transport_S2 (fun y => lookup_transport_1 N y.1.1 y.2.1 y.2.2.1))) (NxOk.go hb (lookup_transport_1_b N hb)) rfl (fun x => by kernel_rfl)
noncomputable def lookup_transport_ctr (N : Nat) : Ctr := ⟨lookup_transport_S3, lookup_transport_S4.un [false, false], 0, (fun y => lookup_transport N y.1.1 y.1.2.1)⟩
theorem lookup_transport_ctrs (N : Nat) : CtrsOk Tryz.prog (lookup_transport_C N) := ctrs_nil G_ifs_ok rfl
theorem lookup_transport_ok (N : Nat) : Ctr.ok Tryz.prog G_globs 56 (lookup_transport_ctr N) :=
 ctr_fn (Γ := lookup_transport_C N) (rfit := lookup_transport_S4) (bs := [false, false]) (res := [4, 5]) (by kernel_rfl) (tys_ok G_tys_ok) (lookup_transport_ctrs N) Tryz.func56 (by kernel_rfl) (by kernel_rfl) Tryz.ntmps56 (by kernel_rfl) (by kernel_rfl) (by kernel_rfl) (by kernel_rfl) (fun E hb => lookup_transport_b N hb)
/-! ipsecgate/lookup.Build -/
abbrev lookup_Build_R : Type := ((Int × Unit) × ((List UInt8) × Unit))
noncomputable def lookup_Build_s7 (N : Nat) (t_100 : Int) (t_101 : Int) (rest_7 : (List UInt8)) (b_10 : (List UInt8)) (t_99 : (List D28)) : Option (Lo ((Int × Int × Unit) × ((List UInt8) × (List UInt8) × (List D28) × Unit)) ((Unit) × ((List UInt8) × (List UInt8) × Unit)) lookup_Build_R) :=
 bif (decide (t_101 < t_100)) then
 bif inR t_101 t_99.length then
 let x26 := (t_99.getD t_101.toNat ((0 : Int), (0 : UInt64), (0 : UInt64), ()))
 Option.bind (wire_Put N x26.2.1 (8 : Int) b_10) fun y27 =>
 Option.bind (wire_Put N x26.2.2.1 (8 : Int) y27.2.1) fun y28 =>
 some (.go ((t_100, (w64 (t_101 + (1 : Int))), ()), (rest_7, y28.2.1, t_99, ())))
 else none
 else
 some (.br ((()), (rest_7, b_10, ())))
noncomputable def lookup_Build_8 (N : Nat) (rest_7 : (List UInt8)) (b_10 : (List UInt8)) : Option lookup_Build_R :=
 bif room (b_10.length + rest_7.length) 1 then
 some (((0 : Int), ()), ((b_10 ++ rest_7), ()))
 else none
noncomputable def lookup_Build_6 (N : Nat) (t_100 : Int) (t_101 : Int) (rest_7 : (List UInt8)) (b_10 : (List UInt8)) (t_99 : (List D28)) : Option lookup_Build_R :=
 loopK N (fun y => lookup_Build_s7 N y.1.1 y.1.2.1 y.2.1 y.2.2.1 y.2.2.2.1) (fun (e : ((Unit) × ((List UInt8) × (List UInt8) × Unit))) => lookup_Build_8 N e.2.1 e.2.2.1) ((t_100, t_101, ()), (rest_7, b_10, t_99, ()))
noncomputable def lookup_Build_5 (N : Nat) (p_2 : D30) (rest_7 : (List UInt8)) : Option lookup_Build_R :=
 Option.bind (wire_Put N (iu64 (rest_7.length : Int)) (2 : Int) ([(96 : UInt8), (0 : UInt8), (0 : UInt8), (0 : UInt8)] : List UInt8)) fun y21 =>
 bif room (y21.2.1.length + ([(iu8 p_2.2.2.1), (64 : UInt8)] : List UInt8).length) 1 then
 lookup_Build_6 N (([p_2.1, p_2.2.1] : List D28).length : Int) (0 : Int) rest_7 (y21.2.1 ++ ([(iu8 p_2.2.2.1), (64 : UInt8)] : List UInt8)) ([p_2.1, p_2.2.1] : List D28)
 else none
noncomputable def lookup_Build_9 (N : Nat) (size_9 : Int) (p_2 : D30) (rest_7 : (List UInt8)) : Option lookup_Build_R :=
 Option.bind (wire_Put N (iu64 (w64 (size_9 + (rest_7.length : Int)))) (2 : Int) ([(69 : UInt8), (0 : UInt8)] : List UInt8)) fun y34 =>
 bif room (y34.2.1.length + ([(0 : UInt8), (0 : UInt8), (0 : UInt8), (0 : UInt8), (64 : UInt8), (iu8 p_2.2.2.1), (0 : UInt8), (0 : UInt8)] : List UInt8).length) 1 then
 Option.bind (wire_Put N p_2.1.2.2.1 (4 : Int) (y34.2.1 ++ ([(0 : UInt8), (0 : UInt8), (0 : UInt8), (0 : UInt8), (64 : UInt8), (iu8 p_2.2.2.1), (0 : UInt8), (0 : UInt8)] : List UInt8))) fun y37 =>
 Option.bind (wire_Put N p_2.2.1.2.2.1 (4 : Int) y37.2.1) fun y38 =>
 Option.bind (wire_Checksum N y38.2.1) fun y39 =>
 bif inR (10 : Int) y38.2.1.length then
 let x43 := (y38.2.1.set 10 (iu8 (shrI y39.1.1 8)))
 bif inR (11 : Int) x43.length then
 let x44 := (x43.set 11 (iu8 y39.1.1))
 bif room (x44.length + rest_7.length) 1 then
 some (((0 : Int), ()), ((x44 ++ rest_7), ()))
 else none
 else none
 else none
 else none
noncomputable def lookup_Build_3 (N : Nat) (size_9 : Int) (t_83 : Bool) (p_2 : D30) (rest_7 : (List UInt8)) : Option lookup_Build_R :=
 bif t_83 then
 lookup_Build_5 N p_2 rest_7
 else
 lookup_Build_9 N size_9 p_2 rest_7
noncomputable def lookup_Build_2 (N : Nat) (six_6 : Bool) (size_9 : Int) (p_2 : D30) (rest_7 : (List UInt8)) : Option lookup_Build_R :=
 bif (decide ((4096 : Int) < (w64 (size_9 + (rest_7.length : Int))))) then
 some (((11 : Int), ()), (([] : List UInt8), ()))
 else
 lookup_Build_3 N size_9 six_6 p_2 rest_7
noncomputable def lookup_Build_1 (N : Nat) (data_1 : (List UInt8)) (six_6 : Bool) (p_2 : D30) : Option lookup_Build_R :=
 Option.bind (lookup_transport N p_2 data_1) fun y14 =>
 bif (!(decide (y14.1.1 = (0 : Int)))) then
 some ((y14.1.1, ()), (([] : List UInt8), ()))
 else
 bif six_6 then
 lookup_Build_2 N six_6 (40 : Int) p_2 y14.2.1
 else
 lookup_Build_2 N six_6 (20 : Int) p_2 y14.2.1
noncomputable def lookup_Build (N : Nat) (p_0 : D30) (data_1 : (List UInt8)) : Option lookup_Build_R :=
 let x1 := decide (p_0.1.1 = (6 : Int))
 Option.bind (selector_Valid N p_0.1) fun y2 =>
 bif (!y2.1.1) then
 some (((15 : Int), ()), (([] : List UInt8), ()))
 else
 Option.bind (selector_Valid N p_0.2.1) fun y4 =>
 bif (!y4.1.1) then
 some (((15 : Int), ()), (([] : List UInt8), ()))
 else
 bif (!(decide (p_0.1.1 = p_0.2.1.1))) then
 some (((15 : Int), ()), (([] : List UInt8), ()))
 else
 bif (decide (p_0.2.2.1 < (0 : Int))) then
 some (((5 : Int), ()), (([] : List UInt8), ()))
 else
 bif (decide ((255 : Int) < p_0.2.2.1)) then
 some (((5 : Int), ()), (([] : List UInt8), ()))
 else
 bif x1 then
 bif (decide (p_0.2.2.1 = (44 : Int))) then
 some (((5 : Int), ()), (([] : List UInt8), ()))
 else
 Option.bind (lookup_port N p_0.2.2.2.1) fun y10 =>
 bif (!y10.1.1) then
 some (((5 : Int), ()), (([] : List UInt8), ()))
 else
 Option.bind (lookup_port N p_0.2.2.2.2.1) fun y12 =>
 bif (!y12.1.1) then
 some (((5 : Int), ()), (([] : List UInt8), ()))
 else
 lookup_Build_1 N data_1 x1 p_0
 else
 Option.bind (lookup_port N p_0.2.2.2.1) fun y46 =>
 bif (!y46.1.1) then
 some (((5 : Int), ()), (([] : List UInt8), ()))
 else
 Option.bind (lookup_port N p_0.2.2.2.2.1) fun y48 =>
 bif (!y48.1.1) then
 some (((5 : Int), ()), (([] : List UInt8), ()))
 else
 lookup_Build_1 N data_1 x1 p_0
noncomputable def lookup_Build_C (N : Nat) : Ctx := ⟨152, G_tys, [(54, selector_Valid_ctr N), (55, lookup_port_ctr N), (56, lookup_transport_ctr N), (40, wire_Put_ctr N), (57, wire_Checksum_ctr N)], G_globs, G_ifs⟩
noncomputable def lookup_Build_S0 : Spec := ⟨[.row 0, .row 1, .row 2, .val .i64, .val .i64], [(.row 5 .u8, .pos 0), (.row 5 .u8, .pos 1), (.row 29 T28, .pos 2)]⟩
noncomputable def lookup_Build_S1 : Spec := ⟨[.row 0, .row 1], [(.row 5 .u8, .pos 0), (.row 5 .u8, .pos 1)]⟩
noncomputable def lookup_Build_S2 : Spec := ⟨[.ref 0 T30, .row 1], [(.box 31 T30, .pos 0), (.row 5 .u8, .pos 1)]⟩
noncomputable def lookup_Build_S3 : Spec := ⟨[.ref 0 T30, .row 1, .val .i64], [(.box 31 T30, .pos 0), (.row 5 .u8, .pos 1)]⟩
noncomputable def lookup_Build_S4 : Spec := ⟨[.ref 0 T30, .row 1, .val .i64, .val .bool], [(.box 31 T30, .pos 0), (.row 5 .u8, .pos 1)]⟩
noncomputable def lookup_Build_S5 : Spec := ⟨[.ref 0 T30, .val .bool, .row 1, .val .i64], [(.box 31 T30, .pos 0), (.row 5 .u8, .pos 2)]⟩
noncomputable def lookup_Build_S6 : Spec := ⟨[.val (.sl .u8), .ref 0 T30, .val .bool], [(.box 31 T30, .pos 1)]⟩
noncomputable def lookup_Build_S7 : Spec := ⟨[.val T30, .val (.sl .u8)], []⟩
noncomputable def lookup_Build_S8 : Spec := ⟨[.row 0, .val .i64], [(.row 5 .u8, .pos 0)]⟩
noncomputable def lookup_Build_K (_N : Nat) : XE → GS → Option lookup_Build_R := retK 0 [4, 5] [false, false] lookup_Build_S8
noncomputable def lookup_Build_L : List Code := (bodyOf (some Tryz.f32))
noncomputable def lookup_Build_L4t : List Code := (thenOf (lookup_Build_L[12]?))
noncomputable def lookup_Build_L7 : List Code := (loopOf (lookup_Build_L4t[3]?))
noncomputable def lookup_Build_L4e : List Code := (elseOf (lookup_Build_L[12]?))
noncomputable def lookup_Build_K4 (N : Nat) : XE → GS → Option lookup_Build_R := nextK (goK 0 [2, 7, 9] lookup_Build_S3 (fun y => lookup_Build_9 N y.1.1 y.2.1 y.2.2.1)) (lookup_Build_K N)
noncomputable def lookup_Build_K7 (N : Nat) : XE → GS → Option (Lo ((Int × Int × Unit) × ((List UInt8) × (List UInt8) × (List D28) × Unit)) ((Unit) × ((List UInt8) × (List UInt8) × Unit)) lookup_Build_R) := roundK (some 1) (fit 0 [7, 10, 99, 100, 101] lookup_Build_S0) (fit 0 [7, 10] lookup_Build_S1) (lookup_Build_K4 N)
theorem lookup_Build_s7_b {E : Env} (N : Nat) (hb : Base Tryz.prog (lookup_Build_C N) E 0) : Blk Tryz.prog (lookup_Build_C N) E [7, 10, 99, 100, 101] lookup_Build_S0 (lookup_Build_L7.drop 0) (fun y => lookup_Build_s7 N y.1.1 y.1.2.1 y.2.1 y.2.2.1 y.2.2.2.1) (lookup_Build_K7 N) :=
 Blk.chunkAt hb 4 (X := (lookup_Build_K7 N .normal)) (NxOk.end (by kernel_rfl)) rfl (fun x => by kernel_rfl)
theorem lookup_Build_8_b {E : Env} (N : Nat) (hb : Base Tryz.prog (lookup_Build_C N) E 0) : Blk Tryz.prog (lookup_Build_C N) E [7, 10] lookup_Build_S1 (lookup_Build_L4t.drop 4) (fun y => lookup_Build_8 N y.2.1 y.2.2.1) (lookup_Build_K4 N) :=
 Blk.chunkAt hb 2 (X := (lookup_Build_K4 N .normal)) (NxOk.end (by kernel_rfl)) rfl (fun x => by kernel_rfl)
theorem lookup_Build_6_b {E : Env} (N : Nat) (hb : Base Tryz.prog (lookup_Build_C N) E 0) : Blk Tryz.prog (lookup_Build_C N) E [7, 10, 99, 100, 101] lookup_Build_S0 (lookup_Build_L4t.drop 3) (fun y => lookup_Build_6 N y.1.1 y.1.2.1 y.2.1 y.2.2.1 y.2.2.2.1) (lookup_Build_K4 N) :=
 Blk.loopAt (Nf := N) (hns := [7, 10, 99, 100, 101]) (ans := [7, 10]) (hc := lookup_Build_S0) (ac := lookup_Build_S1) (bid := 1) (step := (fun y => lookup_Build_s7 N y.1.1 y.1.2.1 y.2.1 y.2.2.1 y.2.2.2.1)) (J := (fun e => (goK 0 [7, 10] lookup_Build_S1 (fun y => lookup_Build_8 N y.2.1 y.2.2.1)) (lookup_Build_S1.st [7, 10] e))) hb (by kernel_rfl) (Blk.into (X := (goK 0 [7, 10] lookup_Build_S1 (fun y => lookup_Build_8 N y.2.1 y.2.2.1))) (NxOk.go hb (lookup_Build_8_b N hb)) (fun x => by kernel_rfl)) (lookup_Build_s7_b N hb) (fun x => by kernel_rfl)
theorem lookup_Build_5_b {E : Env} (N : Nat) (hb : Base Tryz.prog (lookup_Build_C N) E 0) : Blk Tryz.prog (lookup_Build_C N) E [2, 7] lookup_Build_S2 (lookup_Build_L4t.drop 0) (fun y => lookup_Build_5 N y.2.1 y.2.2.1) (lookup_Build_K4 N) :=
 Blk.chunkAt hb 3 (X := (goK 0 [7, 10, 99, 100, 101] lookup_Build_S0 (fun y => lookup_Build_6 N y.1.1 y.1.2.1 y.2.1 y.2.2.1 y.2.2.2.1))) (NxOk.go hb (lookup_Build_6_b N hb)) rfl (fun x => by kernel_rfl)
theorem lookup_Build_9_b {E : Env} (N : Nat) (hb : Base Tryz.prog (lookup_Build_C N) E 0) : Blk Tryz.prog (lookup_Build_C N) E [2, 7, 9] lookup_Build_S3 (lookup_Build_L.drop 13) (fun y => lookup_Build_9 N y.1.1 y.2.1 y.2.2.1) (lookup_Build_K N) :=
 Blk.chunkAt hb 7 (X := (lookup_Build_K N .normal)) (NxOk.end (by kernel_rfl)) rfl (fun x => by kernel_rfl)
theorem lookup_Build_3_b {E : Env} (N : Nat) (hb : Base Tryz.prog (lookup_Build_C N) E 0) : Blk Tryz.prog (lookup_Build_C N) E [2, 7, 9, 83] lookup_Build_S4 (lookup_Build_L.drop 12) (fun y => lookup_Build_3 N y.1.1 y.1.2.1 y.2.1 y.2.2.1) (lookup_Build_K N) :=
 Blk.condAt (n := 83) (X := (goK 0 [2, 7, 9] lookup_Build_S3 (fun y => lookup_Build_9 N y.1.1 y.2.1 y.2.2.1))) (A := (goK 0 [2, 7] lookup_Build_S2 (fun y => lookup_Build_5 N y.2.1 y.2.2.1))) (B := (lookup_Build_K4 N .normal)) (by kernel_rfl) (NxOk.go hb (lookup_Build_9_b N hb)) (NxOk.go hb (lookup_Build_5_b N hb)) (NxOk.skipAt (by kernel_rfl)) (fun x => by kernel_rfl)
theorem lookup_Build_2_b {E : Env} (N : Nat) (hb : Base Tryz.prog (lookup_Build_C N) E 0) : Blk Tryz.prog (lookup_Build_C N) E [2, 6, 7, 9] lookup_Build_S5 (lookup_Build_L.drop 9) (fun y => lookup_Build_2 N y.1.1 y.1.2.1 y.2.1 y.2.2.1) (lookup_Build_K N) :=
 Blk.chunkAt hb 3 (X := (goK 0 [2, 7, 9, 83] lookup_Build_S4 (fun y => lookup_Build_3 N y.1.1 y.1.2.1 y.2.1 y.2.2.1))) (NxOk.go hb (lookup_Build_3_b N hb)) rfl (fun x => by kernel_rfl)
theorem lookup_Build_1_b {E : Env} (N : Nat) (hb : Base Tryz.prog (lookup_Build_C N) E 0) : Blk Tryz.prog (lookup_Build_C N) E [1, 2, 6] lookup_Build_S6 (lookup_Build_L.drop 3) (fun y => lookup_Build_1 N y.1.1 y.1.2.1 y.2.1) (lookup_Build_K N) :=
 Blk.chunkAt hb 6 (X := (goK 0 [2, 6, 7, 9] lookup_Build_S5 (fun y => lookup_Build_2 N y.1.1 y.1.2.1 y.2.1 y.2.2.1))) (NxOk.go hb (lookup_Build_2_b N hb)) rfl (fun x => by kernel_rfl)
theorem lookup_Build_b {E : Env} (N : Nat) (hb : Base Tryz.prog (lookup_Build_C N) E 0) : Blk Tryz.prog (lookup_Build_C N) E (List.range lookup_Build_S7.ks.length) lookup_Build_S7 (lookup_Build_L.drop 0) (fun y => lookup_Build N y.1.1 y.1.2.1) (lookup_Build_K N) :=
 Blk.chunkAt hb 3 (X := (goK 0 [1, 2, 6] lookup_Build_S6 (fun y => lookup_Build_1 N y.1.1 y.1.2.1 y.2.1))) (NxOk.go hb (lookup_Build_1_b N hb)) rfl (fun x => by kernel_rfl)
noncomputable def lookup_Build_ctr (N : Nat) : Ctr := ⟨lookup_Build_S7, lookup_Build_S8.un [false, false], 0, (fun y => lookup_Build N y.1.1 y.1.2.1)⟩
theorem lookup_Build_ctrs (N : Nat) : CtrsOk Tryz.prog (lookup_Build_C N) := ctrs_of (Γ := lookup_Build_C N) G_ifs_ok (by
 intro p hp
 simp only [lookup_Build_C, List.mem_cons, List.not_mem_nil, or_false] at hp
 rcases hp with rfl | rfl | rfl | rfl | rfl
 · exact selector_Valid_ok N
 · exact lookup_port_ok N
 · exact lookup_transport_ok N
 · exact wire_Put_ok N
 · exact wire_Checksum_ok N)
theorem lookup_Build_ok (N : Nat) : Ctr.ok Tryz.prog G_globs 32 (lookup_Build_ctr N) :=
 ctr_fn (Γ := lookup_Build_C N) (rfit := lookup_Build_S8) (bs := [false, false]) (res := [4, 5]) (by kernel_rfl) (tys_ok G_tys_ok) (lookup_Build_ctrs N) Tryz.func32 (by kernel_rfl) (by kernel_rfl) Tryz.ntmps32 (by kernel_rfl) (by kernel_rfl) (by kernel_rfl) (by kernel_rfl) (fun E hb => lookup_Build_b N hb)
/-! ipsecgate/esp.Tunnel$1 -/
abbrev esp_Tunnel_f1_R : Type := ((Int × Unit) × ((List UInt8) × Unit))
noncomputable def esp_Tunnel_f1 (N : Nat) (sealed_0 : (List UInt8)) (t_1 : D28) (t_2 : D28) : Option esp_Tunnel_f1_R :=
 Option.bind (esp_hidden N t_1 t_2) fun y1 =>
 Option.bind (lookup_Build N y1.1.1 sealed_0) fun y2 =>
 some ((y2.1.1, ()), (y2.2.1, ()))
noncomputable def esp_Tunnel_f1_C (N : Nat) : Ctx := ⟨13, G_tys, [(33, esp_hidden_ctr N), (32, lookup_Build_ctr N)], G_globs, G_ifs⟩
noncomputable def esp_Tunnel_f1_S0 : Spec := ⟨[.val (.sl .u8), .fp T28, .fp T28], []⟩
noncomputable def esp_Tunnel_f1_S1 : Spec := ⟨[.row 0, .val .i64], [(.row 5 .u8, .pos 0)]⟩
noncomputable def esp_Tunnel_f1_K (_N : Nat) : XE → GS → Option esp_Tunnel_f1_R := retK 0 [4, 5] [false, false] esp_Tunnel_f1_S1
noncomputable def esp_Tunnel_f1_L : List Code := (bodyOf (some Tryz.f31))
theorem esp_Tunnel_f1_b {E : Env} (N : Nat) (hb : Base Tryz.prog (esp_Tunnel_f1_C N) E 0) : Blk Tryz.prog (esp_Tunnel_f1_C N) E (List.range esp_Tunnel_f1_S0.ks.length) esp_Tunnel_f1_S0 (esp_Tunnel_f1_L.drop 0) (fun y => esp_Tunnel_f1 N y.1.1 y.1.2.1 y.1.2.2.1) (esp_Tunnel_f1_K N) :=
 Blk.chunkAt hb 3 (X := (esp_Tunnel_f1_K N .normal)) (NxOk.end (by kernel_rfl)) rfl (fun x => by kernel_rfl)
noncomputable def esp_Tunnel_f1_ctr (N : Nat) : Ctr := ⟨esp_Tunnel_f1_S0, esp_Tunnel_f1_S1.un [false, false], 0, (fun y => esp_Tunnel_f1 N y.1.1 y.1.2.1 y.1.2.2.1)⟩
theorem esp_Tunnel_f1_ctrs (N : Nat) : CtrsOk Tryz.prog (esp_Tunnel_f1_C N) := ctrs_of (Γ := esp_Tunnel_f1_C N) G_ifs_ok (by
 intro p hp
 simp only [esp_Tunnel_f1_C, List.mem_cons, List.not_mem_nil, or_false] at hp
 rcases hp with rfl | rfl
 · exact esp_hidden_ok N
 · exact lookup_Build_ok N)
theorem esp_Tunnel_f1_ok (N : Nat) : Ctr.ok Tryz.prog G_globs 31 (esp_Tunnel_f1_ctr N) :=
 ctr_fn (Γ := esp_Tunnel_f1_C N) (rfit := esp_Tunnel_f1_S1) (bs := [false, false]) (res := [4, 5]) (by kernel_rfl) (tys_ok G_tys_ok) (esp_Tunnel_f1_ctrs N) Tryz.func31 (by kernel_rfl) (by kernel_rfl) Tryz.ntmps31 (by kernel_rfl) (by kernel_rfl) (by kernel_rfl) (by kernel_rfl) (fun E hb => esp_Tunnel_f1_b N hb)
end Go.Proofs.YtofajgidjkjnpaaGreatDoor