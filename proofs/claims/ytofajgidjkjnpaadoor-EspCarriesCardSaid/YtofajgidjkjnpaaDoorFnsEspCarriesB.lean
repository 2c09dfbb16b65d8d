/- Functions of the program as plain functions, each with the proof that the text computes it. -/
import Derived.Test.YtofajgidjkjnpaaDoorFnsEspCarriesA
set_option linter.unusedVariables false
set_option linter.unusedSimpArgs false
namespace Go.Proofs.YtofajgidjkjnpaaDoor
open Go
set_option maxRecDepth 100000
set_option linter.unusedVariables false
noncomputable section
/-! ipsecgate/ipsecgateref22.four -/
abbrev ref22_four_R : Type := ((D107 × Int × Unit) × (Unit))
def ref22_four_1 (N : Nat) (b_0 : (List UInt8)) (n_4 : Int) (t_31 : Bool) (t_2 : D107) : Option ref22_four_R :=
 bif t_31 then
 some ((((((0 : Int), (0 : UInt64), (0 : UInt64), ()), ((0 : Int), (0 : UInt64), (0 : UInt64), ()), (0 : Int), (0 : Int), (0 : Int), ()), (0 : Int), false, false, (0 : Int), ()), (2 : Int), ()), (()))
 else
 bif decide (0 ≤ (0 : Int)) && decide ((0 : Int) ≤ n_4) && decide (n_4 ≤ (b_0.length : Int)) && true then
 Option.bind (ref01_Checksum N (cut b_0 0 n_4.toNat)) fun y9 =>
 bif (!(decide (y9.1.1 = (0 : Int)))) then
 some ((((((0 : Int), (0 : UInt64), (0 : UInt64), ()), ((0 : Int), (0 : UInt64), (0 : UInt64), ()), (0 : Int), (0 : Int), (0 : Int), ()), (0 : Int), false, false, (0 : Int), ()), (12 : Int), ()), (()))
 else
 Option.bind (ref22_word N b_0 (6 : Int)) fun y11 =>
 bif inR (9 : Int) b_0.length then
 Option.bind (ref05_GetAddress N b_0 (12 : Int) (4 : Int)) fun y18 =>
 Option.bind (ref05_GetAddress N b_0 (16 : Int) (4 : Int)) fun y19 =>
 some ((((y18.1.1, y19.1.1, ((b_0.getD 9 (0 : UInt8)).toNat : Int), (0 : Int), (0 : Int), ()), (w64 ((and64 y11.1.1 (8191 : Int)) * (8 : Int))), (!(decide ((and64 y11.1.1 (8192 : Int)) = (0 : Int)))), false, n_4, ()), (0 : Int), ()), (()))
 else none
 else none
def ref22_four (N : Nat) (b_0 : (List UInt8)) : Option ref22_four_R :=
 bif (decide ((b_0.length : Int) < (20 : Int))) then
 some ((((((0 : Int), (0 : UInt64), (0 : UInt64), ()), ((0 : Int), (0 : UInt64), (0 : UInt64), ()), (0 : Int), (0 : Int), (0 : Int), ()), (0 : Int), false, false, (0 : Int), ()), (1 : Int), ()), (()))
 else
 bif inR (0 : Int) b_0.length then
 let x6 := w64 ((((b_0.getD 0 (0 : UInt8)) &&& (15 : UInt8)).toNat : Int) * (4 : Int))
 bif (decide (x6 < (20 : Int))) then
 ref22_four_1 N b_0 x6 true ((((0 : Int), (0 : UInt64), (0 : UInt64), ()), ((0 : Int), (0 : UInt64), (0 : UInt64), ()), (0 : Int), (0 : Int), (0 : Int), ()), (0 : Int), false, false, (0 : Int), ())
 else
 bif (decide ((b_0.length : Int) < x6)) then
 ref22_four_1 N b_0 x6 true ((((0 : Int), (0 : UInt64), (0 : UInt64), ()), ((0 : Int), (0 : UInt64), (0 : UInt64), ()), (0 : Int), (0 : Int), (0 : Int), ()), (0 : Int), false, false, (0 : Int), ())
 else
 Option.bind (ref22_word N b_0 (2 : Int)) fun y22 =>
 ref22_four_1 N b_0 x6 (!(decide (y22.1.1 = (b_0.length : Int)))) ((((0 : Int), (0 : UInt64), (0 : UInt64), ()), ((0 : Int), (0 : UInt64), (0 : UInt64), ()), (0 : Int), (0 : Int), (0 : Int), ()), (0 : Int), false, false, (0 : Int), ())
 else none
def ref22_four_C (N : Nat) : Ctx := ⟨70, G_tys, [(180, ref01_Checksum_ctr N), (137, ref22_word_ctr N), (181, ref05_GetAddress_ctr N)], G_globs, G_ifs⟩
def ref22_four_S0 : Spec := ⟨[.val (.sl .u8), .ref 0 T107, .val .i64, .val .bool], [(.box 108 T107, .pos 1)]⟩
def ref22_four_S1 : Spec := ⟨[.val (.sl .u8)], []⟩
def ref22_four_S2 : Spec := ⟨[.fp T107, .val .i64], []⟩
def ref22_four_K (_N : Nat) : XE → GS → Option ref22_four_R := retK 0 [2, 3] [true, false] ref22_four_S2
def ref22_four_L : List Code := (bodyOf (some Tryd.f135))
theorem ref22_four_1_b {E : Env} (N : Nat) (hb : Base Tryd.prog (ref22_four_C N) E 0) : Blk Tryd.prog (ref22_four_C N) E [0, 2, 4, 31] ref22_four_S0 (ref22_four_L.drop 5) (fun y => ref22_four_1 N y.1.1 y.1.2.1 y.1.2.2.1 y.2.1) (ref22_four_K N) :=
 Blk.chunkAt hb 10 (X := (ref22_four_K N .normal)) (NxOk.end (by kernel_rfl)) rfl (fun x => by kernel_rfl)
theorem ref22_four_b {E : Env} (N : Nat) (hb : Base Tryd.prog (ref22_four_C N) E 0) : Blk Tryd.prog (ref22_four_C N) E (List.range ref22_four_S1.ks.length) ref22_four_S1 (ref22_four_L.drop 0) (fun y => ref22_four N y.1.1) (ref22_four_K N) :=
 Blk.chunkAt hb 5 (X := (goK 0 [0, 2, 4, 31] ref22_four_S0 (fun y => ref22_four_1 N y.1.1 y.1.2.1 y.1.2.2.1 y.2.1))) (NxOk.go hb (ref22_four_1_b N hb)) rfl (fun x => by kernel_rfl)
def ref22_four_ctr (N : Nat) : Ctr := ⟨ref22_four_S1, ref22_four_S2.un [true, false], 0, (fun y => ref22_four N y.1.1)⟩
theorem ref22_four_ctrs (N : Nat) : CtrsOk Tryd.prog (ref22_four_C N) := ctrs_of (Γ := ref22_four_C N) G_ifs_ok (by
 intro p hp
 simp only [ref22_four_C, List.mem_cons, List.not_mem_nil, or_false] at hp
 rcases hp with rfl | rfl | rfl
 · exact ref01_Checksum_ok N
 · exact ref22_word_ok N
 · exact ref05_GetAddress_ok N)
theorem ref22_four_ok (N : Nat) : Ctr.ok Tryd.prog G_globs 135 (ref22_four_ctr N) :=
 ctr_fn (Γ := ref22_four_C N) (rfit := ref22_four_S2) (bs := [true, false]) (res := [2, 3]) (by kernel_rfl) (tys_ok G_tys_ok) (ref22_four_ctrs N) Tryd.func135 (by kernel_rfl) (by kernel_rfl) Tryd.ntmps135 (by kernel_rfl) (by kernel_rfl) (by kernel_rfl) (by kernel_rfl) (fun E hb => ref22_four_b N hb)
/-! ipsecgate/ipsecgateref22.six -/
abbrev ref22_six_R : Type := ((D107 × Int × Unit) × (Unit))
def ref22_six_1 (N : Nat) (b_0 : (List UInt8)) (t_19 : Bool) (t_2 : D107) : Option ref22_six_R :=
 bif t_19 then
 some ((((((0 : Int), (0 : UInt64), (0 : UInt64), ()), ((0 : Int), (0 : UInt64), (0 : UInt64), ()), (0 : Int), (0 : Int), (0 : Int), ()), (0 : Int), false, false, (0 : Int), ()), (1 : Int), ()), (()))
 else
 Option.bind (ref22_word N b_0 (4 : Int)) fun y3 =>
 bif (!(decide (y3.1.1 = (w64 ((b_0.length : Int) - (40 : Int)))))) then
 some ((((((0 : Int), (0 : UInt64), (0 : UInt64), ()), ((0 : Int), (0 : UInt64), (0 : UInt64), ()), (0 : Int), (0 : Int), (0 : Int), ()), (0 : Int), false, false, (0 : Int), ()), (2 : Int), ()), (()))
 else
 bif inR (6 : Int) b_0.length then
 Option.bind (ref05_GetAddress N b_0 (8 : Int) (6 : Int)) fun y9 =>
 Option.bind (ref05_GetAddress N b_0 (24 : Int) (6 : Int)) fun y10 =>
 bif inR (6 : Int) b_0.length then
 bif (decide ((b_0.getD 6 (0 : UInt8)) = (44 : UInt8))) then
 Option.bind (ref22_word N b_0 (42 : Int)) fun y13 =>
 bif inR (40 : Int) b_0.length then
 some ((((y9.1.1, y10.1.1, ((b_0.getD 40 (0 : UInt8)).toNat : Int), (0 : Int), (0 : Int), ()), (andNot64 y13.1.1 (7 : Int)), (decide ((and64 y13.1.1 (1 : Int)) = (1 : Int))), false, (48 : Int), ()), (0 : Int), ()), (()))
 else none
 else
 some ((((y9.1.1, y10.1.1, ((b_0.getD 6 (0 : UInt8)).toNat : Int), (0 : Int), (0 : Int), ()), (0 : Int), false, false, (40 : Int), ()), (0 : Int), ()), (()))
 else none
 else none
def ref22_six (N : Nat) (b_0 : (List UInt8)) : Option ref22_six_R :=
 bif (decide ((b_0.length : Int) < (40 : Int))) then
 ref22_six_1 N b_0 true ((((0 : Int), (0 : UInt64), (0 : UInt64), ()), ((0 : Int), (0 : UInt64), (0 : UInt64), ()), (0 : Int), (0 : Int), (0 : Int), ()), (0 : Int), false, false, (0 : Int), ())
 else
 bif inR (6 : Int) b_0.length then
 bif (decide ((b_0.getD 6 (0 : UInt8)) = (44 : UInt8))) then
 ref22_six_1 N b_0 (decide ((b_0.length : Int) < (48 : Int))) ((((0 : Int), (0 : UInt64), (0 : UInt64), ()), ((0 : Int), (0 : UInt64), (0 : UInt64), ()), (0 : Int), (0 : Int), (0 : Int), ()), (0 : Int), false, false, (0 : Int), ())
 else
 ref22_six_1 N b_0 false ((((0 : Int), (0 : UInt64), (0 : UInt64), ()), ((0 : Int), (0 : UInt64), (0 : UInt64), ()), (0 : Int), (0 : Int), (0 : Int), ()), (0 : Int), false, false, (0 : Int), ())
 else none
def ref22_six_C (N : Nat) : Ctx := ⟨70, G_tys, [(137, ref22_word_ctr N), (181, ref05_GetAddress_ctr N)], G_globs, G_ifs⟩
def ref22_six_S0 : Spec := ⟨[.val (.sl .u8), .ref 0 T107, .val .bool], [(.box 108 T107, .pos 1)]⟩
def ref22_six_S1 : Spec := ⟨[.val (.sl .u8)], []⟩
def ref22_six_S2 : Spec := ⟨[.fp T107, .val .i64], []⟩
def ref22_six_K (_N : Nat) : XE → GS → Option ref22_six_R := retK 0 [2, 3] [true, false] ref22_six_S2
def ref22_six_L : List Code := (bodyOf (some Tryd.f136))
theorem ref22_six_1_b {E : Env} (N : Nat) (hb : Base Tryd.prog (ref22_six_C N) E 0) : Blk Tryd.prog (ref22_six_C N) E [0, 2, 19] ref22_six_S0 (ref22_six_L.drop 2) (fun y => ref22_six_1 N y.1.1 y.1.2.1 y.2.1) (ref22_six_K N) :=
 Blk.chunkAt hb 11 (X := (ref22_six_K N .normal)) (NxOk.end (by kernel_rfl)) rfl (fun x => by kernel_rfl)
theorem ref22_six_b {E : Env} (N : Nat) (hb : Base Tryd.prog (ref22_six_C N) E 0) : Blk Tryd.prog (ref22_six_C N) E (List.range ref22_six_S1.ks.length) ref22_six_S1 (ref22_six_L.drop 0) (fun y => ref22_six N y.1.1) (ref22_six_K N) :=
 Blk.chunkAt hb 2 (X := (goK 0 [0, 2, 19] ref22_six_S0 (fun y => ref22_six_1 N y.1.1 y.1.2.1 y.2.1))) (NxOk.go hb (ref22_six_1_b N hb)) rfl (fun x => by kernel_rfl)
def ref22_six_ctr (N : Nat) : Ctr := ⟨ref22_six_S1, ref22_six_S2.un [true, false], 0, (fun y => ref22_six N y.1.1)⟩
theorem ref22_six_ctrs (N : Nat) : CtrsOk Tryd.prog (ref22_six_C N) := ctrs_of (Γ := ref22_six_C N) G_ifs_ok (by
 intro p hp
 simp only [ref22_six_C, List.mem_cons, List.not_mem_nil, or_false] at hp
 rcases hp with rfl | rfl
 · exact ref22_word_ok N
 · exact ref05_GetAddress_ok N)
theorem ref22_six_ok (N : Nat) : Ctr.ok Tryd.prog G_globs 136 (ref22_six_ctr N) :=
 ctr_fn (Γ := ref22_six_C N) (rfit := ref22_six_S2) (bs := [true, false]) (res := [2, 3]) (by kernel_rfl) (tys_ok G_tys_ok) (ref22_six_ctrs N) Tryd.func136 (by kernel_rfl) (by kernel_rfl) Tryd.ntmps136 (by kernel_rfl) (by kernel_rfl) (by kernel_rfl) (by kernel_rfl) (fun E hb => ref22_six_b N hb)
/-! ipsecgate/ipsecgateref22.See -/
abbrev ref22_See_R : Type := ((D107 × Int × Unit) × (Unit))
def ref22_See_4 (N : Nat) (b_0 : (List UInt8)) (t_2 : D107) (s_4 : D107) : Option ref22_See_R :=
 let x12 := w64 ((b_0.length : Int) - s_4.2.2.2.2.1)
 bif (decide (s_4.1.2.2.1 = (6 : Int))) then
 bif (decide (s_4.2.1 = (0 : Int))) then
 bif (decide ((4 : Int) ≤ x12)) then
 Option.bind (ref22_word N b_0 s_4.2.2.2.2.1) fun y16 =>
 Option.bind (ref22_word N b_0 (w64 (s_4.2.2.2.2.1 + (2 : Int)))) fun y18 =>
 some ((((s_4.1.1, s_4.1.2.1, s_4.1.2.2.1, y16.1.1, y18.1.1, ()), s_4.2.1, s_4.2.2.1, s_4.2.2.2.1, s_4.2.2.2.2.1, ()), (0 : Int), ()), (()))
 else
 some ((((s_4.1.1, s_4.1.2.1, s_4.1.2.2.1, (-1 : Int), (-1 : Int), ()), s_4.2.1, s_4.2.2.1, s_4.2.2.2.1, s_4.2.2.2.2.1, ()), (0 : Int), ()), (()))
 else
 some ((((s_4.1.1, s_4.1.2.1, s_4.1.2.2.1, (-1 : Int), (-1 : Int), ()), s_4.2.1, s_4.2.2.1, s_4.2.2.2.1, s_4.2.2.2.2.1, ()), (0 : Int), ()), (()))
 else
 bif (decide (s_4.1.2.2.1 = (17 : Int))) then
 bif (decide (s_4.2.1 = (0 : Int))) then
 bif (decide ((4 : Int) ≤ x12)) then
 Option.bind (ref22_word N b_0 s_4.2.2.2.2.1) fun y22 =>
 Option.bind (ref22_word N b_0 (w64 (s_4.2.2.2.2.1 + (2 : Int)))) fun y24 =>
 some ((((s_4.1.1, s_4.1.2.1, s_4.1.2.2.1, y22.1.1, y24.1.1, ()), s_4.2.1, s_4.2.2.1, s_4.2.2.2.1, s_4.2.2.2.2.1, ()), (0 : Int), ()), (()))
 else
 some ((((s_4.1.1, s_4.1.2.1, s_4.1.2.2.1, (-1 : Int), (-1 : Int), ()), s_4.2.1, s_4.2.2.1, s_4.2.2.2.1, s_4.2.2.2.2.1, ()), (0 : Int), ()), (()))
 else
 some ((((s_4.1.1, s_4.1.2.1, s_4.1.2.2.1, (-1 : Int), (-1 : Int), ()), s_4.2.1, s_4.2.2.1, s_4.2.2.2.1, s_4.2.2.2.2.1, ()), (0 : Int), ()), (()))
 else
 bif (decide (s_4.1.2.2.1 = (1 : Int))) then
 bif (decide (s_4.2.1 = (0 : Int))) then
 bif (decide ((2 : Int) ≤ x12)) then
 Option.bind (ref22_word N b_0 s_4.2.2.2.2.1) fun y28 =>
 some ((((s_4.1.1, s_4.1.2.1, s_4.1.2.2.1, y28.1.1, (-1 : Int), ()), s_4.2.1, s_4.2.2.1, s_4.2.2.2.1, s_4.2.2.2.2.1, ()), (0 : Int), ()), (()))
 else
 some ((((s_4.1.1, s_4.1.2.1, s_4.1.2.2.1, (-1 : Int), (-1 : Int), ()), s_4.2.1, s_4.2.2.1, s_4.2.2.2.1, s_4.2.2.2.2.1, ()), (0 : Int), ()), (()))
 else
 some ((((s_4.1.1, s_4.1.2.1, s_4.1.2.2.1, (-1 : Int), (-1 : Int), ()), s_4.2.1, s_4.2.2.1, s_4.2.2.2.1, s_4.2.2.2.2.1, ()), (0 : Int), ()), (()))
 else
 bif (decide (s_4.1.2.2.1 = (58 : Int))) then
 bif (decide (s_4.2.1 = (0 : Int))) then
 bif (decide ((2 : Int) ≤ x12)) then
 Option.bind (ref22_word N b_0 s_4.2.2.2.2.1) fun y32 =>
 some ((((s_4.1.1, s_4.1.2.1, s_4.1.2.2.1, y32.1.1, (-1 : Int), ()), s_4.2.1, s_4.2.2.1, s_4.2.2.2.1, s_4.2.2.2.2.1, ()), (0 : Int), ()), (()))
 else
 some ((((s_4.1.1, s_4.1.2.1, s_4.1.2.2.1, (-1 : Int), (-1 : Int), ()), s_4.2.1, s_4.2.2.1, s_4.2.2.2.1, s_4.2.2.2.2.1, ()), (0 : Int), ()), (()))
 else
 some ((((s_4.1.1, s_4.1.2.1, s_4.1.2.2.1, (-1 : Int), (-1 : Int), ()), s_4.2.1, s_4.2.2.1, s_4.2.2.2.1, s_4.2.2.2.2.1, ()), (0 : Int), ()), (()))
 else
 some ((((s_4.1.1, s_4.1.2.1, s_4.1.2.2.1, (-1 : Int), (-1 : Int), ()), s_4.2.1, s_4.2.2.1, s_4.2.2.2.1, s_4.2.2.2.2.1, ()), (0 : Int), ()), (()))
def ref22_See_3 (N : Nat) (b_0 : (List UInt8)) (e_5 : Int) (t_2 : D107) (s_4 : D107) : Option ref22_See_R :=
 bif (!(decide (e_5 = (0 : Int)))) then
 some ((((((0 : Int), (0 : UInt64), (0 : UInt64), ()), ((0 : Int), (0 : UInt64), (0 : UInt64), ()), (0 : Int), (0 : Int), (0 : Int), ()), (0 : Int), false, false, (0 : Int), ()), e_5, ()), (()))
 else
 bif s_4.2.2.1 then
 ref22_See_4 N b_0 t_2 (s_4.1, s_4.2.1, s_4.2.2.1, true, s_4.2.2.2.2.1, ())
 else
 ref22_See_4 N b_0 t_2 (s_4.1, s_4.2.1, s_4.2.2.1, (!(decide (s_4.2.1 = (0 : Int)))), s_4.2.2.2.2.1, ())
def ref22_See_2 (N : Nat) (b_0 : (List UInt8)) (e_5 : Int) (t_35 : Bool) (t_2 : D107) (s_4 : D107) : Option ref22_See_R :=
 bif t_35 then
 ref22_See_3 N b_0 (11 : Int) t_2 s_4
 else
 ref22_See_3 N b_0 e_5 t_2 s_4
def ref22_See_1 (N : Nat) (b_0 : (List UInt8)) (e_5 : Int) (t_2 : D107) (s_4 : D107) : Option ref22_See_R :=
 bif (decide (e_5 = (0 : Int))) then
 ref22_See_2 N b_0 e_5 (decide ((4096 : Int) < (b_0.length : Int))) t_2 s_4
 else
 ref22_See_2 N b_0 e_5 false t_2 s_4
def ref22_See (N : Nat) (b_0 : (List UInt8)) : Option ref22_See_R :=
 bif (decide ((b_0.length : Int) = (0 : Int))) then
 some ((((((0 : Int), (0 : UInt64), (0 : UInt64), ()), ((0 : Int), (0 : UInt64), (0 : UInt64), ()), (0 : Int), (0 : Int), (0 : Int), ()), (0 : Int), false, false, (0 : Int), ()), (1 : Int), ()), (()))
 else
 bif inR (0 : Int) b_0.length then
 let x3 := b_0.getD 0 (0 : UInt8)
 bif (decide ((shr8 x3 4) = (4 : UInt8))) then
 Option.bind (ref22_four N b_0) fun y6 =>
 ref22_See_1 N b_0 y6.1.2.1 ((((0 : Int), (0 : UInt64), (0 : UInt64), ()), ((0 : Int), (0 : UInt64), (0 : UInt64), ()), (0 : Int), (0 : Int), (0 : Int), ()), (0 : Int), false, false, (0 : Int), ()) y6.1.1
 else
 bif (decide ((shr8 x3 4) = (6 : UInt8))) then
 Option.bind (ref22_six N b_0) fun y35 =>
 ref22_See_1 N b_0 y35.1.2.1 ((((0 : Int), (0 : UInt64), (0 : UInt64), ()), ((0 : Int), (0 : UInt64), (0 : UInt64), ()), (0 : Int), (0 : Int), (0 : Int), ()), (0 : Int), false, false, (0 : Int), ()) y35.1.1
 else
 ref22_See_1 N b_0 (3 : Int) ((((0 : Int), (0 : UInt64), (0 : UInt64), ()), ((0 : Int), (0 : UInt64), (0 : UInt64), ()), (0 : Int), (0 : Int), (0 : Int), ()), (0 : Int), false, false, (0 : Int), ()) ((((0 : Int), (0 : UInt64), (0 : UInt64), ()), ((0 : Int), (0 : UInt64), (0 : UInt64), ()), (0 : Int), (0 : Int), (0 : Int), ()), (0 : Int), false, false, (0 : Int), ())
 else none
def ref22_See_C (N : Nat) : Ctx := ⟨100, G_tys, [(135, ref22_four_ctr N), (137, ref22_word_ctr N), (136, ref22_six_ctr N)], G_globs, G_ifs⟩
def ref22_See_S0 : Spec := ⟨[.val (.sl .u8), .ref 0 T107, .ref 1 T107], [(.box 108 T107, .pos 1), (.box 108 T107, .pos 2)]⟩
def ref22_See_S1 : Spec := ⟨[.val (.sl .u8), .ref 0 T107, .ref 1 T107, .val .i64], [(.box 108 T107, .pos 1), (.box 108 T107, .pos 2)]⟩
def ref22_See_S2 : Spec := ⟨[.val (.sl .u8), .ref 0 T107, .ref 1 T107, .val .i64, .val .bool], [(.box 108 T107, .pos 1), (.box 108 T107, .pos 2)]⟩
def ref22_See_S3 : Spec := ⟨[.val (.sl .u8)], []⟩
def ref22_See_S4 : Spec := ⟨[.fp T107, .val .i64], []⟩
def ref22_See_K (_N : Nat) : XE → GS → Option ref22_See_R := retK 0 [2, 3] [true, false] ref22_See_S4
def ref22_See_L : List Code := (bodyOf (some Tryd.f73))
theorem ref22_See_4_b {E : Env} (N : Nat) (hb : Base Tryd.prog (ref22_See_C N) E 0) : Blk Tryd.prog (ref22_See_C N) E [0, 2, 4] ref22_See_S0 (ref22_See_L.drop 12) (fun y => ref22_See_4 N y.1.1 y.2.1 y.2.2.1) (ref22_See_K N) :=
 Blk.chunkAt hb 6 (X := (ref22_See_K N .normal)) (NxOk.end (by kernel_rfl)) rfl (fun x => by kernel_rfl)
theorem ref22_See_3_b {E : Env} (N : Nat) (hb : Base Tryd.prog (ref22_See_C N) E 0) : Blk Tryd.prog (ref22_See_C N) E [0, 2, 4, 5] ref22_See_S1 (ref22_See_L.drop 9) (fun y => ref22_See_3 N y.1.1 y.1.2.1 y.2.1 y.2.2.1) (ref22_See_K N) :=
 Blk.chunkAt hb 3 (X := (goK 0 [0, 2, 4] ref22_See_S0 (fun y => ref22_See_4 N y.1.1 y.2.1 y.2.2.1))) (NxOk.go hb (ref22_See_4_b N hb)) rfl (fun x => by kernel_rfl)
theorem ref22_See_2_b {E : Env} (N : Nat) (hb : Base Tryd.prog (ref22_See_C N) E 0) : Blk Tryd.prog (ref22_See_C N) E [0, 2, 4, 5, 35] ref22_See_S2 (ref22_See_L.drop 8) (fun y => ref22_See_2 N y.1.1 y.1.2.1 y.1.2.2.1 y.2.1 y.2.2.1) (ref22_See_K N) :=
 Blk.chunkAt hb 1 (X := (goK 0 [0, 2, 4, 5] ref22_See_S1 (fun y => ref22_See_3 N y.1.1 y.1.2.1 y.2.1 y.2.2.1))) (NxOk.go hb (ref22_See_3_b N hb)) rfl (fun x => by kernel_rfl)
theorem ref22_See_1_b {E : Env} (N : Nat) (hb : Base Tryd.prog (ref22_See_C N) E 0) : Blk Tryd.prog (ref22_See_C N) E [0, 2, 4, 5] ref22_See_S1 (ref22_See_L.drop 7) (fun y => ref22_See_1 N y.1.1 y.1.2.1 y.2.1 y.2.2.1) (ref22_See_K N) :=
 Blk.chunkAt hb 1 (X := (goK 0 [0, 2, 4, 5, 35] ref22_See_S2 (fun y => ref22_See_2 N y.1.1 y.1.2.1 y.1.2.2.1 y.2.1 y.2.2.1))) (NxOk.go hb (ref22_See_2_b N hb)) rfl (fun x => by kernel_rfl)
theorem ref22_See_b {E : Env} (N : Nat) (hb : Base Tryd.prog (ref22_See_C N) E 0) : Blk Tryd.prog (ref22_See_C N) E (List.range ref22_See_S3.ks.length) ref22_See_S3 (ref22_See_L.drop 0) (fun y => ref22_See N y.1.1) (ref22_See_K N) :=
 Blk.chunkAt hb 7 (X := (goK 0 [0, 2, 4, 5] ref22_See_S1 (fun y => ref22_See_1 N y.1.1 y.1.2.1 y.2.1 y.2.2.1))) (NxOk.go hb (ref22_See_1_b N hb)) rfl (fun x => by kernel_rfl)
def ref22_See_ctr (N : Nat) : Ctr := ⟨ref22_See_S3, ref22_See_S4.un [true, false], 0, (fun y => ref22_See N y.1.1)⟩
theorem ref22_See_ctrs (N : Nat) : CtrsOk Tryd.prog (ref22_See_C N) := ctrs_of (Γ := ref22_See_C N) G_ifs_ok (by
 intro p hp
 simp only [ref22_See_C, List.mem_cons, List.not_mem_nil, or_false] at hp
 rcases hp with rfl | rfl | rfl
 · exact ref22_four_ok N
 · exact ref22_word_ok N
 · exact ref22_six_ok N)
theorem ref22_See_ok (N : Nat) : Ctr.ok Tryd.prog G_globs 73 (ref22_See_ctr N) :=
 ctr_fn (Γ := ref22_See_C N) (rfit := ref22_See_S4) (bs := [true, false]) (res := [2, 3]) (by kernel_rfl) (tys_ok G_tys_ok) (ref22_See_ctrs N) Tryd.func73 (by kernel_rfl) (by kernel_rfl) Tryd.ntmps73 (by kernel_rfl) (by kernel_rfl) (by kernel_rfl) (by kernel_rfl) (fun E hb => ref22_See_b N hb)
/-! (ipsecgate/lookup.four).least -/
abbrev lookup_four_least_R : Type := ((Int × Unit) × (Unit))
def lookup_four_least (N : Nat) (t_0 : Unit) (t_1 : ((List UInt8) × Unit)) : Option lookup_four_least_R :=
 some (((20 : Int), ()), (()))
def lookup_four_least_C (N : Nat) : Ctx := ⟨5, G_tys, [], G_globs, G_ifs⟩
def lookup_four_least_S0 : Spec := ⟨[.val .unit, .val (.pair (.sl .u8) .unit)], []⟩
def lookup_four_least_S1 : Spec := ⟨[.val .i64], []⟩
def lookup_four_least_K (_N : Nat) : XE → GS → Option lookup_four_least_R := retK 0 [4] [false] lookup_four_least_S1
def lookup_four_least_L : List Code := (bodyOf (some Tryd.f246))
theorem lookup_four_least_b {E : Env} (N : Nat) (hb : Base Tryd.prog (lookup_four_least_C N) E 0) : Blk Tryd.prog (lookup_four_least_C N) E (List.range lookup_four_least_S0.ks.length) lookup_four_least_S0 (lookup_four_least_L.drop 0) (fun y => lookup_four_least N y.1.1 y.1.2.1) (lookup_four_least_K N) :=
 Blk.chunkAt hb 3 (X := (lookup_four_least_K N .normal)) (NxOk.end (by kernel_rfl)) rfl (fun x => by kernel_rfl)
def lookup_four_least_ctr (N : Nat) : Ctr := ⟨lookup_four_least_S0, lookup_four_least_S1.un [false], 0, (fun y => lookup_four_least N y.1.1 y.1.2.1)⟩
theorem lookup_four_least_ctrs (N : Nat) : CtrsOk Tryd.prog (lookup_four_least_C N) := ctrs_nil G_ifs_ok rfl
theorem lookup_four_least_ok (N : Nat) : Ctr.ok Tryd.prog G_globs 246 (lookup_four_least_ctr N) :=
 ctr_fn (Γ := lookup_four_least_C N) (rfit := lookup_four_least_S1) (bs := [false]) (res := [4]) (by kernel_rfl) (tys_ok G_tys_ok) (lookup_four_least_ctrs N) Tryd.func246 (by kernel_rfl) (by kernel_rfl) Tryd.ntmps246 (by kernel_rfl) (by kernel_rfl) (by kernel_rfl) (by kernel_rfl) (fun E hb => lookup_four_least_b N hb)
/-! ipsecgate/wire.Checksum -/
abbrev wire_Checksum_R : Type := ((Int × Unit) × (Unit))
def wire_Checksum_s2 (N : Nat) (sum_3 : Int) (t_6 : (List UInt8)) (t_7 : Int) (t_8 : Int) : Option (Lo ((Int × (List UInt8) × Int × Int × Unit) × (Unit)) ((Int × Unit) × (Unit)) wire_Checksum_R) :=
 bif (decide (t_8 < t_7)) then
 bif inR t_8 t_6.length then
 let x3 := t_6.getD t_8.toNat (0 : UInt8)
 bif (decide ((t_8.tmod (2 : Int)) = (0 : Int))) then
 some (.go (((w64 (sum_3 + (shlI (x3.toNat : Int) 8))), t_6, t_7, (w64 (t_8 + (1 : Int))), ()), (())))
 else
 some (.go (((w64 (sum_3 + (x3.toNat : Int))), t_6, t_7, (w64 (t_8 + (1 : Int))), ()), (())))
 else none
 else
 some (.br ((sum_3, ()), (())))
def wire_Checksum_s4 (N : Nat) (sum_3 : Int) : Option (Lo ((Int × Unit) × (Unit)) ((Int × Unit) × (Unit)) wire_Checksum_R) :=
 bif (decide ((65535 : Int) < sum_3)) then
 some (.go (((w64 ((and64 sum_3 (65535 : Int)) + (shrI sum_3 16))), ()), (())))
 else
 some (.br ((sum_3, ()), (())))
def wire_Checksum_5 (N : Nat) (sum_3 : Int) : Option wire_Checksum_R :=
 some (((w64 ((65535 : Int) - sum_3)), ()), (()))
def wire_Checksum_3 (N : Nat) (sum_3 : Int) : Option wire_Checksum_R :=
 loopK N (fun y => wire_Checksum_s4 N y.1.1) (fun (e : ((Int × Unit) × (Unit))) => wire_Checksum_5 N e.1.1) ((sum_3, ()), (()))
def wire_Checksum_1 (N : Nat) (sum_3 : Int) (t_6 : (List UInt8)) (t_7 : Int) (t_8 : Int) : Option wire_Checksum_R :=
 loopK N (fun y => wire_Checksum_s2 N y.1.1 y.1.2.1 y.1.2.2.1 y.1.2.2.2.1) (fun (e : ((Int × Unit) × (Unit))) => wire_Checksum_3 N e.1.1) ((sum_3, t_6, t_7, t_8, ()), (()))
def wire_Checksum (N : Nat) (b_0 : (List UInt8)) : Option wire_Checksum_R :=
 wire_Checksum_1 N (0 : Int) b_0 (b_0.length : Int) (0 : Int)
def wire_Checksum_C (N : Nat) : Ctx := ⟨35, G_tys, [], G_globs, G_ifs⟩
def wire_Checksum_S0 : Spec := ⟨[.val .i64, .val (.sl .u8), .val .i64, .val .i64], []⟩
def wire_Checksum_S1 : Spec := ⟨[.val .i64], []⟩
def wire_Checksum_S2 : Spec := ⟨[.val (.sl .u8)], []⟩
def wire_Checksum_K (_N : Nat) : XE → GS → Option wire_Checksum_R := retK 0 [2] [false] wire_Checksum_S1
def wire_Checksum_L : List Code := (bodyOf (some Tryd.f186))
def wire_Checksum_L2 : List Code := (loopOf (wire_Checksum_L[3]?))
def wire_Checksum_L4 : List Code := (loopOf (wire_Checksum_L[4]?))
def wire_Checksum_K2 (N : Nat) : XE → GS → Option (Lo ((Int × (List UInt8) × Int × Int × Unit) × (Unit)) ((Int × Unit) × (Unit)) wire_Checksum_R) := roundK (some 0) (fit 0 [3, 6, 7, 8] wire_Checksum_S0) (fit 0 [3] wire_Checksum_S1) (wire_Checksum_K N)
def wire_Checksum_K4 (N : Nat) : XE → GS → Option (Lo ((Int × Unit) × (Unit)) ((Int × Unit) × (Unit)) wire_Checksum_R) := roundK (some 2) (fit 0 [3] wire_Checksum_S1) (fit 0 [3] wire_Checksum_S1) (wire_Checksum_K N)
theorem wire_Checksum_s2_b {E : Env} (N : Nat) (hb : Base Tryd.prog (wire_Checksum_C N) E 0) : Blk Tryd.prog (wire_Checksum_C N) E [3, 6, 7, 8] wire_Checksum_S0 (wire_Checksum_L2.drop 0) (fun y => wire_Checksum_s2 N y.1.1 y.1.2.1 y.1.2.2.1 y.1.2.2.2.1) (wire_Checksum_K2 N) :=
 Blk.chunkAt hb 4 (X := (wire_Checksum_K2 N .normal)) (NxOk.end (by kernel_rfl)) rfl (fun x => by kernel_rfl)
theorem wire_Checksum_s4_b {E : Env} (N : Nat) (hb : Base Tryd.prog (wire_Checksum_C N) E 0) : Blk Tryd.prog (wire_Checksum_C N) E [3] wire_Checksum_S1 (wire_Checksum_L4.drop 0) (fun y => wire_Checksum_s4 N y.1.1) (wire_Checksum_K4 N) :=
 Blk.chunkAt hb 3 (X := (wire_Checksum_K4 N .normal)) (NxOk.end (by kernel_rfl)) rfl (fun x => by kernel_rfl)
theorem wire_Checksum_5_b {E : Env} (N : Nat) (hb : Base Tryd.prog (wire_Checksum_C N) E 0) : Blk Tryd.prog (wire_Checksum_C N) E [3] wire_Checksum_S1 (wire_Checksum_L.drop 5) (fun y => wire_Checksum_5 N y.1.1) (wire_Checksum_K N) :=
 Blk.chunkAt hb 2 (X := (wire_Checksum_K N .normal)) (NxOk.end (by kernel_rfl)) rfl (fun x => by kernel_rfl)
theorem wire_Checksum_3_b {E : Env} (N : Nat) (hb : Base Tryd.prog (wire_Checksum_C N) E 0) : Blk Tryd.prog (wire_Checksum_C N) E [3] wire_Checksum_S1 (wire_Checksum_L.drop 4) (fun y => wire_Checksum_3 N y.1.1) (wire_Checksum_K N) :=
 Blk.loopAt (Nf := N) (hns := [3]) (ans := [3]) (hc := wire_Checksum_S1) (ac := wire_Checksum_S1) (bid := 2) (step := (fun y => wire_Checksum_s4 N y.1.1)) (J := (fun e => (goK 0 [3] wire_Checksum_S1 (fun y => wire_Checksum_5 N y.1.1)) (wire_Checksum_S1.st [3] e))) hb (by kernel_rfl) (Blk.into (X := (goK 0 [3] wire_Checksum_S1 (fun y => wire_Checksum_5 N y.1.1))) (NxOk.go hb (wire_Checksum_5_b N hb)) (fun x => by kernel_rfl)) (wire_Checksum_s4_b N hb) (fun x => by kernel_rfl)
theorem wire_Checksum_1_b {E : Env} (N : Nat) (hb : Base Tryd.prog (wire_Checksum_C N) E 0) : Blk Tryd.prog (wire_Checksum_C N) E [3, 6, 7, 8] wire_Checksum_S0 (wire_Checksum_L.drop 3) (fun y => wire_Checksum_1 N y.1.1 y.1.2.1 y.1.2.2.1 y.1.2.2.2.1) (wire_Checksum_K N) :=
 Blk.loopAt (Nf := N) (hns := [3, 6, 7, 8]) (ans := [3]) (hc := wire_Checksum_S0) (ac := wire_Checksum_S1) (bid := 0) (step := (fun y => wire_Checksum_s2 N y.1.1 y.1.2.1 y.1.2.2.1 y.1.2.2.2.1)) (J := (fun e => (goK 0 [3] wire_Checksum_S1 (fun y => wire_Checksum_3 N y.1.1)) (wire_Checksum_S1.st [3] e))) hb (by kernel_rfl) (Blk.into (X := (goK 0 [3] wire_Checksum_S1 (fun y => wire_Checksum_3 N y.1.1))) (NxOk.go hb (wire_Checksum_3_b N hb)) (fun x => by kernel_rfl)) (wire_Checksum_s2_b N hb) (fun x => by kernel_rfl)
theorem wire_Checksum_b {E : Env} (N : Nat) (hb : Base Tryd.prog (wire_Checksum_C N) E 0) : Blk Tryd.prog (wire_Checksum_C N) E (List.range wire_Checksum_S2.ks.length) wire_Checksum_S2 (wire_Checksum_L.drop 0) (fun y => wire_Checksum N y.1.1) (wire_Checksum_K N) :=
 Blk.chunkAt hb 3 (X := (goK 0 [3, 6, 7, 8] wire_Checksum_S0 (fun y => wire_Checksum_1 N y.1.1 y.1.2.1 y.1.2.2.1 y.1.2.2.2.1))) (NxOk.go hb (wire_Checksum_1_b N hb)) rfl (fun x => by kernel_rfl)
def wire_Checksum_ctr (N : Nat) : Ctr := ⟨wire_Checksum_S2, wire_Checksum_S1.un [false], 0, (fun y => wire_Checksum N y.1.1)⟩
theorem wire_Checksum_ctrs (N : Nat) : CtrsOk Tryd.prog (wire_Checksum_C N) := ctrs_nil G_ifs_ok rfl
theorem wire_Checksum_ok (N : Nat) : Ctr.ok Tryd.prog G_globs 186 (wire_Checksum_ctr N) :=
 ctr_fn (Γ := wire_Checksum_C N) (rfit := wire_Checksum_S1) (bs := [false]) (res := [2]) (by kernel_rfl) (tys_ok G_tys_ok) (wire_Checksum_ctrs N) Tryd.func186 (by kernel_rfl) (by kernel_rfl) Tryd.ntmps186 (by kernel_rfl) (by kernel_rfl) (by kernel_rfl) (by kernel_rfl) (fun E hb => wire_Checksum_b N hb)
/-! (ipsecgate/lookup.cursor).number -/
abbrev lookup_cursor_number_R : Type := ((UInt64 × Unit) × (Unit))
def lookup_cursor_number (N : Nat) (c_0 : ((List UInt8) × Unit)) (at_1 : Int) (width_2 : Int) : Option lookup_cursor_number_R :=
 Option.bind (wire_Number N c_0.1 at_1 width_2) fun y1 =>
 some ((y1.1.1, ()), (()))
def lookup_cursor_number_C (N : Nat) : Ctx := ⟨18, G_tys, [(107, wire_Number_ctr N)], G_globs, G_ifs⟩
def lookup_cursor_number_S0 : Spec := ⟨[.val (.pair (.sl .u8) .unit), .val .i64, .val .i64], []⟩
def lookup_cursor_number_S1 : Spec := ⟨[.val .u64], []⟩
def lookup_cursor_number_K (_N : Nat) : XE → GS → Option lookup_cursor_number_R := retK 0 [6] [false] lookup_cursor_number_S1
def lookup_cursor_number_L : List Code := (bodyOf (some Tryd.f226))
theorem lookup_cursor_number_b {E : Env} (N : Nat) (hb : Base Tryd.prog (lookup_cursor_number_C N) E 0) : Blk Tryd.prog (lookup_cursor_number_C N) E (List.range lookup_cursor_number_S0.ks.length) lookup_cursor_number_S0 (lookup_cursor_number_L.drop 0) (fun y => lookup_cursor_number N y.1.1 y.1.2.1 y.1.2.2.1) (lookup_cursor_number_K N) :=
 Blk.chunkAt hb 4 (X := (lookup_cursor_number_K N .normal)) (NxOk.end (by kernel_rfl)) rfl (fun x => by kernel_rfl)
def lookup_cursor_number_ctr (N : Nat) : Ctr := ⟨lookup_cursor_number_S0, lookup_cursor_number_S1.un [false], 0, (fun y => lookup_cursor_number N y.1.1 y.1.2.1 y.1.2.2.1)⟩
theorem lookup_cursor_number_ctrs (N : Nat) : CtrsOk Tryd.prog (lookup_cursor_number_C N) := ctrs_of (Γ := lookup_cursor_number_C N) G_ifs_ok (by
 intro p hp
 simp only [lookup_cursor_number_C, List.mem_cons, List.not_mem_nil, or_false] at hp
 rcases hp with rfl
 · exact wire_Number_ok N)
theorem lookup_cursor_number_ok (N : Nat) : Ctr.ok Tryd.prog G_globs 226 (lookup_cursor_number_ctr N) :=
 ctr_fn (Γ := lookup_cursor_number_C N) (rfit := lookup_cursor_number_S1) (bs := [false]) (res := [6]) (by kernel_rfl) (tys_ok G_tys_ok) (lookup_cursor_number_ctrs N) Tryd.func226 (by kernel_rfl) (by kernel_rfl) Tryd.ntmps226 (by kernel_rfl) (by kernel_rfl) (by kernel_rfl) (by kernel_rfl) (fun E hb => lookup_cursor_number_b N hb)
/-! (ipsecgate/lookup.cursor).int -/
abbrev lookup_cursor_int_R : Type := ((Int × Unit) × (Unit))
def lookup_cursor_int (N : Nat) (c_0 : ((List UInt8) × Unit)) (at_1 : Int) (width_2 : Int) : Option lookup_cursor_int_R :=
 Option.bind (lookup_cursor_number N c_0 at_1 width_2) fun y1 =>
 some (((w64 (y1.1.1.toNat : Int)), ()), (()))
def lookup_cursor_int_C (N : Nat) : Ctx := ⟨12, G_tys, [(226, lookup_cursor_number_ctr N)], G_globs, G_ifs⟩
def lookup_cursor_int_S0 : Spec := ⟨[.val (.pair (.sl .u8) .unit), .val .i64, .val .i64], []⟩
def lookup_cursor_int_S1 : Spec := ⟨[.val .i64], []⟩
def lookup_cursor_int_K (_N : Nat) : XE → GS → Option lookup_cursor_int_R := retK 0 [6] [false] lookup_cursor_int_S1
def lookup_cursor_int_L : List Code := (bodyOf (some Tryd.f210))
theorem lookup_cursor_int_b {E : Env} (N : Nat) (hb : Base Tryd.prog (lookup_cursor_int_C N) E 0) : Blk Tryd.prog (lookup_cursor_int_C N) E (List.range lookup_cursor_int_S0.ks.length) lookup_cursor_int_S0 (lookup_cursor_int_L.drop 0) (fun y => lookup_cursor_int N y.1.1 y.1.2.1 y.1.2.2.1) (lookup_cursor_int_K N) :=
 Blk.chunkAt hb 3 (X := (lookup_cursor_int_K N .normal)) (NxOk.end (by kernel_rfl)) rfl (fun x => by kernel_rfl)
def lookup_cursor_int_ctr (N : Nat) : Ctr := ⟨lookup_cursor_int_S0, lookup_cursor_int_S1.un [false], 0, (fun y => lookup_cursor_int N y.1.1 y.1.2.1 y.1.2.2.1)⟩
theorem lookup_cursor_int_ctrs (N : Nat) : CtrsOk Tryd.prog (lookup_cursor_int_C N) := ctrs_of (Γ := lookup_cursor_int_C N) G_ifs_ok (by
 intro p hp
 simp only [lookup_cursor_int_C, List.mem_cons, List.not_mem_nil, or_false] at hp
 rcases hp with rfl
 · exact lookup_cursor_number_ok N)
theorem lookup_cursor_int_ok (N : Nat) : Ctr.ok Tryd.prog G_globs 210 (lookup_cursor_int_ctr N) :=
 ctr_fn (Γ := lookup_cursor_int_C N) (rfit := lookup_cursor_int_S1) (bs := [false]) (res := [6]) (by kernel_rfl) (tys_ok G_tys_ok) (lookup_cursor_int_ctrs N) Tryd.func210 (by kernel_rfl) (by kernel_rfl) Tryd.ntmps210 (by kernel_rfl) (by kernel_rfl) (by kernel_rfl) (by kernel_rfl) (fun E hb => lookup_cursor_int_b N hb)
/-! (ipsecgate/lookup.four).see -/
abbrev lookup_four_see_R : Type := ((D107 × Int × Unit) × (Unit))
def lookup_four_see_1 (N : Nat) (n_6 : Int) (t_32 : Bool) (c_3 : ((List UInt8) × Unit)) (t_4 : D107) : Option lookup_four_see_R :=
 bif t_32 then
 some ((((((0 : Int), (0 : UInt64), (0 : UInt64), ()), ((0 : Int), (0 : UInt64), (0 : UInt64), ()), (0 : Int), (0 : Int), (0 : Int), ()), (0 : Int), false, false, (0 : Int), ()), (2 : Int), ()), (()))
 else
 bif decide (0 ≤ (0 : Int)) && decide ((0 : Int) ≤ n_6) && decide (n_6 ≤ (c_3.1.length : Int)) && true then
 Option.bind (wire_Checksum N (cut c_3.1 0 n_6.toNat)) fun y7 =>
 bif (!(decide (y7.1.1 = (0 : Int)))) then
 some ((((((0 : Int), (0 : UInt64), (0 : UInt64), ()), ((0 : Int), (0 : UInt64), (0 : UInt64), ()), (0 : Int), (0 : Int), (0 : Int), ()), (0 : Int), false, false, (0 : Int), ()), (12 : Int), ()), (()))
 else
 Option.bind (lookup_cursor_int N c_3 (6 : Int) (2 : Int)) fun y9 =>
 Option.bind (lookup_cursor_number N c_3 (12 : Int) (4 : Int)) fun y10 =>
 Option.bind (lookup_cursor_number N c_3 (16 : Int) (4 : Int)) fun y11 =>
 Option.bind (lookup_cursor_int N c_3 (9 : Int) (1 : Int)) fun y12 =>
 some ((((((4 : Int), (0 : UInt64), y10.1.1, ()), ((4 : Int), (0 : UInt64), y11.1.1, ()), y12.1.1, (0 : Int), (0 : Int), ()), (w64 ((and64 y9.1.1 (8191 : Int)) * (8 : Int))), (!(decide ((and64 y9.1.1 (8192 : Int)) = (0 : Int)))), false, n_6, ()), (0 : Int), ()), (()))
 else none
def lookup_four_see (N : Nat) (t_0 : Unit) (c_1 : ((List UInt8) × Unit)) : Option lookup_four_see_R :=
 bif inR (0 : Int) c_1.1.length then
 let x4 := w64 ((((c_1.1.getD 0 (0 : UInt8)) &&& (15 : UInt8)).toNat : Int) * (4 : Int))
 bif (decide (x4 < (20 : Int))) then
 lookup_four_see_1 N x4 true c_1 ((((0 : Int), (0 : UInt64), (0 : UInt64), ()), ((0 : Int), (0 : UInt64), (0 : UInt64), ()), (0 : Int), (0 : Int), (0 : Int), ()), (0 : Int), false, false, (0 : Int), ())
 else
 bif (decide ((c_1.1.length : Int) < x4)) then
 lookup_four_see_1 N x4 true c_1 ((((0 : Int), (0 : UInt64), (0 : UInt64), ()), ((0 : Int), (0 : UInt64), (0 : UInt64), ()), (0 : Int), (0 : Int), (0 : Int), ()), (0 : Int), false, false, (0 : Int), ())
 else
 Option.bind (lookup_cursor_int N c_1 (2 : Int) (2 : Int)) fun y19 =>
 lookup_four_see_1 N x4 (!(decide (y19.1.1 = (c_1.1.length : Int)))) c_1 ((((0 : Int), (0 : UInt64), (0 : UInt64), ()), ((0 : Int), (0 : UInt64), (0 : UInt64), ()), (0 : Int), (0 : Int), (0 : Int), ()), (0 : Int), false, false, (0 : Int), ())
 else none
def lookup_four_see_C (N : Nat) : Ctx := ⟨61, G_tys, [(186, wire_Checksum_ctr N), (210, lookup_cursor_int_ctr N), (226, lookup_cursor_number_ctr N)], G_globs, G_ifs⟩
def lookup_four_see_S0 : Spec := ⟨[.ref 0 (.pair (.sl .u8) .unit), .ref 1 T107, .val .i64, .val .bool], [(.box 211 (.pair (.sl .u8) .unit), .pos 0), (.box 108 T107, .pos 1)]⟩
def lookup_four_see_S1 : Spec := ⟨[.val .unit, .val (.pair (.sl .u8) .unit)], []⟩
def lookup_four_see_S2 : Spec := ⟨[.fp T107, .val .i64], []⟩
def lookup_four_see_K (_N : Nat) : XE → GS → Option lookup_four_see_R := retK 0 [4, 5] [true, false] lookup_four_see_S2
def lookup_four_see_L : List Code := (bodyOf (some Tryd.f247))
theorem lookup_four_see_1_b {E : Env} (N : Nat) (hb : Base Tryd.prog (lookup_four_see_C N) E 0) : Blk Tryd.prog (lookup_four_see_C N) E [3, 4, 6, 32] lookup_four_see_S0 (lookup_four_see_L.drop 3) (fun y => lookup_four_see_1 N y.1.1 y.1.2.1 y.2.1 y.2.2.1) (lookup_four_see_K N) :=
 Blk.chunkAt hb 7 (X := (lookup_four_see_K N .normal)) (NxOk.end (by kernel_rfl)) rfl (fun x => by kernel_rfl)
theorem lookup_four_see_b {E : Env} (N : Nat) (hb : Base Tryd.prog (lookup_four_see_C N) E 0) : Blk Tryd.prog (lookup_four_see_C N) E (List.range lookup_four_see_S1.ks.length) lookup_four_see_S1 (lookup_four_see_L.drop 0) (fun y => lookup_four_see N y.1.1 y.1.2.1) (lookup_four_see_K N) :=
 Blk.chunkAt hb 3 (X := (goK 0 [3, 4, 6, 32] lookup_four_see_S0 (fun y => lookup_four_see_1 N y.1.1 y.1.2.1 y.2.1 y.2.2.1))) (NxOk.go hb (lookup_four_see_1_b N hb)) rfl (fun x => by kernel_rfl)
def lookup_four_see_ctr (N : Nat) : Ctr := ⟨lookup_four_see_S1, lookup_four_see_S2.un [true, false], 0, (fun y => lookup_four_see N y.1.1 y.1.2.1)⟩
theorem lookup_four_see_ctrs (N : Nat) : CtrsOk Tryd.prog (lookup_four_see_C N) := ctrs_of (Γ := lookup_four_see_C N) G_ifs_ok (by
 intro p hp
 simp only [lookup_four_see_C, List.mem_cons, List.not_mem_nil, or_false] at hp
 rcases hp with rfl | rfl | rfl
 · exact wire_Checksum_ok N
 · exact lookup_cursor_int_ok N
 · exact lookup_cursor_number_ok N)
theorem lookup_four_see_ok (N : Nat) : Ctr.ok Tryd.prog G_globs 247 (lookup_four_see_ctr N) :=
 ctr_fn (Γ := lookup_four_see_C N) (rfit := lookup_four_see_S2) (bs := [true, false]) (res := [4, 5]) (by kernel_rfl) (tys_ok G_tys_ok) (lookup_four_see_ctrs N) Tryd.func247 (by kernel_rfl) (by kernel_rfl) Tryd.ntmps247 (by kernel_rfl) (by kernel_rfl) (by kernel_rfl) (by kernel_rfl) (fun E hb => lookup_four_see_b N hb)
/-! (ipsecgate/lookup.cursor).ports -/
abbrev lookup_cursor_ports_R : Type := ((Unit) × (D107 × Unit))
def lookup_cursor_ports (N : Nat) (c_0 : ((List UInt8) × Unit)) (s_1 : D107) : Option lookup_cursor_ports_R :=
 let x2 := w64 ((c_0.1.length : Int) - s_1.2.2.2.2.1)
 bif (!(decide (s_1.2.1 = (0 : Int)))) then
 some ((()), (((s_1.1.1, s_1.1.2.1, s_1.1.2.2.1, (-1 : Int), (-1 : Int), ()), s_1.2.1, s_1.2.2.1, s_1.2.2.2.1, s_1.2.2.2.2.1, ()), ()))
 else
 bif (decide (s_1.1.2.2.1 = (6 : Int))) then
 bif (decide ((4 : Int) ≤ x2)) then
 Option.bind (lookup_cursor_int N c_0 s_1.2.2.2.2.1 (2 : Int)) fun y6 =>
 Option.bind (lookup_cursor_int N c_0 (w64 (s_1.2.2.2.2.1 + (2 : Int))) (2 : Int)) fun y8 =>
 some ((()), (((s_1.1.1, s_1.1.2.1, s_1.1.2.2.1, y6.1.1, y8.1.1, ()), s_1.2.1, s_1.2.2.1, s_1.2.2.2.1, s_1.2.2.2.2.1, ()), ()))
 else
 some ((()), (((s_1.1.1, s_1.1.2.1, s_1.1.2.2.1, (-1 : Int), (-1 : Int), ()), s_1.2.1, s_1.2.2.1, s_1.2.2.2.1, s_1.2.2.2.2.1, ()), ()))
 else
 bif (decide (s_1.1.2.2.1 = (17 : Int))) then
 bif (decide ((4 : Int) ≤ x2)) then
 Option.bind (lookup_cursor_int N c_0 s_1.2.2.2.2.1 (2 : Int)) fun y11 =>
 Option.bind (lookup_cursor_int N c_0 (w64 (s_1.2.2.2.2.1 + (2 : Int))) (2 : Int)) fun y13 =>
 some ((()), (((s_1.1.1, s_1.1.2.1, s_1.1.2.2.1, y11.1.1, y13.1.1, ()), s_1.2.1, s_1.2.2.1, s_1.2.2.2.1, s_1.2.2.2.2.1, ()), ()))
 else
 some ((()), (((s_1.1.1, s_1.1.2.1, s_1.1.2.2.1, (-1 : Int), (-1 : Int), ()), s_1.2.1, s_1.2.2.1, s_1.2.2.2.1, s_1.2.2.2.2.1, ()), ()))
 else
 bif (decide (s_1.1.2.2.1 = (1 : Int))) then
 bif (decide ((2 : Int) ≤ x2)) then
 Option.bind (lookup_cursor_int N c_0 s_1.2.2.2.2.1 (2 : Int)) fun y16 =>
 some ((()), (((s_1.1.1, s_1.1.2.1, s_1.1.2.2.1, y16.1.1, (-1 : Int), ()), s_1.2.1, s_1.2.2.1, s_1.2.2.2.1, s_1.2.2.2.2.1, ()), ()))
 else
 some ((()), (((s_1.1.1, s_1.1.2.1, s_1.1.2.2.1, (-1 : Int), (-1 : Int), ()), s_1.2.1, s_1.2.2.1, s_1.2.2.2.1, s_1.2.2.2.2.1, ()), ()))
 else
 bif (decide (s_1.1.2.2.1 = (58 : Int))) then
 bif (decide ((2 : Int) ≤ x2)) then
 Option.bind (lookup_cursor_int N c_0 s_1.2.2.2.2.1 (2 : Int)) fun y19 =>
 some ((()), (((s_1.1.1, s_1.1.2.1, s_1.1.2.2.1, y19.1.1, (-1 : Int), ()), s_1.2.1, s_1.2.2.1, s_1.2.2.2.1, s_1.2.2.2.2.1, ()), ()))
 else
 some ((()), (((s_1.1.1, s_1.1.2.1, s_1.1.2.2.1, (-1 : Int), (-1 : Int), ()), s_1.2.1, s_1.2.2.1, s_1.2.2.2.1, s_1.2.2.2.2.1, ()), ()))
 else
 some ((()), (((s_1.1.1, s_1.1.2.1, s_1.1.2.2.1, (-1 : Int), (-1 : Int), ()), s_1.2.1, s_1.2.2.1, s_1.2.2.2.1, s_1.2.2.2.2.1, ()), ()))
def lookup_cursor_ports_C (N : Nat) : Ctx := ⟨72, G_tys, [(210, lookup_cursor_int_ctr N)], G_globs, G_ifs⟩
def lookup_cursor_ports_S0 : Spec := ⟨[.val (.pair (.sl .u8) .unit), .ref 0 T107], [(.box 108 T107, .pos 1)]⟩
def lookup_cursor_ports_S1 : Spec := ⟨[], [(.box 108 T107, .fix 0)]⟩
def lookup_cursor_ports_K (_N : Nat) : XE → GS → Option lookup_cursor_ports_R := retK 1 [] [] lookup_cursor_ports_S1
def lookup_cursor_ports_L : List Code := (bodyOf (some Tryd.f182))
theorem lookup_cursor_ports_b {E : Env} (N : Nat) (hb : Base Tryd.prog (lookup_cursor_ports_C N) E 1) : Blk Tryd.prog (lookup_cursor_ports_C N) E (List.range lookup_cursor_ports_S0.ks.length) lookup_cursor_ports_S0 (lookup_cursor_ports_L.drop 0) (fun y => lookup_cursor_ports N y.1.1 y.2.1) (lookup_cursor_ports_K N) :=
 Blk.chunkAt hb 7 (X := (lookup_cursor_ports_K N .normal)) (NxOk.end (by kernel_rfl)) rfl (fun x => by kernel_rfl)
def lookup_cursor_ports_ctr (N : Nat) : Ctr := ⟨lookup_cursor_ports_S0, lookup_cursor_ports_S1.un [], 1, (fun y => lookup_cursor_ports N y.1.1 y.2.1)⟩
theorem lookup_cursor_ports_ctrs (N : Nat) : CtrsOk Tryd.prog (lookup_cursor_ports_C N) := ctrs_of (Γ := lookup_cursor_ports_C N) G_ifs_ok (by
 intro p hp
 simp only [lookup_cursor_ports_C, List.mem_cons, List.not_mem_nil, or_false] at hp
 rcases hp with rfl
 · exact lookup_cursor_int_ok N)
theorem lookup_cursor_ports_ok (N : Nat) : Ctr.ok Tryd.prog G_globs 182 (lookup_cursor_ports_ctr N) :=
 ctr_fn (Γ := lookup_cursor_ports_C N) (rfit := lookup_cursor_ports_S1) (bs := []) (res := []) (by kernel_rfl) (tys_ok G_tys_ok) (lookup_cursor_ports_ctrs N) Tryd.func182 (by kernel_rfl) (by kernel_rfl) Tryd.ntmps182 (by kernel_rfl) (by kernel_rfl) (by kernel_rfl) (by kernel_rfl) (fun E hb => lookup_cursor_ports_b N hb)
/-! (ipsecgate/lookup.six).least -/
abbrev lookup_six_least_R : Type := ((Int × Unit) × (Unit))
def lookup_six_least (N : Nat) (t_0 : Unit) (c_1 : ((List UInt8) × Unit)) : Option lookup_six_least_R :=
 bif (decide ((6 : Int) < (c_1.1.length : Int))) then
 bif inR (6 : Int) c_1.1.length then
 bif (decide ((c_1.1.getD 6 (0 : UInt8)) = (44 : UInt8))) then
 some (((48 : Int), ()), (()))
 else
 some (((40 : Int), ()), (()))
 else none
 else
 some (((40 : Int), ()), (()))
def lookup_six_least_C (N : Nat) : Ctx := ⟨16, G_tys, [], G_globs, G_ifs⟩
def lookup_six_least_S0 : Spec := ⟨[.val .unit, .val (.pair (.sl .u8) .unit)], []⟩
def lookup_six_least_S1 : Spec := ⟨[.val .i64], []⟩
def lookup_six_least_K (_N : Nat) : XE → GS → Option lookup_six_least_R := retK 0 [4] [false] lookup_six_least_S1
def lookup_six_least_L : List Code := (bodyOf (some Tryd.f248))
theorem lookup_six_least_b {E : Env} (N : Nat) (hb : Base Tryd.prog (lookup_six_least_C N) E 0) : Blk Tryd.prog (lookup_six_least_C N) E (List.range lookup_six_least_S0.ks.length) lookup_six_least_S0 (lookup_six_least_L.drop 0) (fun y => lookup_six_least N y.1.1 y.1.2.1) (lookup_six_least_K N) :=
 Blk.chunkAt hb 5 (X := (lookup_six_least_K N .normal)) (NxOk.end (by kernel_rfl)) rfl (fun x => by kernel_rfl)
def lookup_six_least_ctr (N : Nat) : Ctr := ⟨lookup_six_least_S0, lookup_six_least_S1.un [false], 0, (fun y => lookup_six_least N y.1.1 y.1.2.1)⟩
theorem lookup_six_least_ctrs (N : Nat) : CtrsOk Tryd.prog (lookup_six_least_C N) := ctrs_nil G_ifs_ok rfl
theorem lookup_six_least_ok (N : Nat) : Ctr.ok Tryd.prog G_globs 248 (lookup_six_least_ctr N) :=
 ctr_fn (Γ := lookup_six_least_C N) (rfit := lookup_six_least_S1) (bs := [false]) (res := [4]) (by kernel_rfl) (tys_ok G_tys_ok) (lookup_six_least_ctrs N) Tryd.func248 (by kernel_rfl) (by kernel_rfl) Tryd.ntmps248 (by kernel_rfl) (by kernel_rfl) (by kernel_rfl) (by kernel_rfl) (fun E hb => lookup_six_least_b N hb)
/-! (ipsecgate/lookup.six).see$1 -/
abbrev lookup_six_see_f1_R : Type := ((D103 × Unit) × (Unit))
def lookup_six_see_f1 (N : Nat) (from_0 : Int) (t_1 : ((List UInt8) × Unit)) : Option lookup_six_see_f1_R :=
 Option.bind (lookup_cursor_number N t_1 from_0 (8 : Int)) fun y1 =>
 Option.bind (lookup_cursor_number N t_1 (w64 (from_0 + (8 : Int))) (8 : Int)) fun y3 =>
 some ((((6 : Int), y1.1.1, y3.1.1, ()), ()), (()))
def lookup_six_see_f1_C (N : Nat) : Ctx := ⟨12, G_tys, [(226, lookup_cursor_number_ctr N)], G_globs, G_ifs⟩
def lookup_six_see_f1_S0 : Spec := ⟨[.val .i64, .fp (.pair (.sl .u8) .unit)], []⟩
def lookup_six_see_f1_S1 : Spec := ⟨[.fp T103], []⟩
def lookup_six_see_f1_K (_N : Nat) : XE → GS → Option lookup_six_see_f1_R := retK 0 [3] [true] lookup_six_see_f1_S1
def lookup_six_see_f1_L : List Code := (bodyOf (some Tryd.f250))
theorem lookup_six_see_f1_b {E : Env} (N : Nat) (hb : Base Tryd.prog (lookup_six_see_f1_C N) E 0) : Blk Tryd.prog (lookup_six_see_f1_C N) E (List.range lookup_six_see_f1_S0.ks.length) lookup_six_see_f1_S0 (lookup_six_see_f1_L.drop 0) (fun y => lookup_six_see_f1 N y.1.1 y.1.2.1) (lookup_six_see_f1_K N) :=
 Blk.chunkAt hb 3 (X := (lookup_six_see_f1_K N .normal)) (NxOk.end (by kernel_rfl)) rfl (fun x => by kernel_rfl)
def lookup_six_see_f1_ctr (N : Nat) : Ctr := ⟨lookup_six_see_f1_S0, lookup_six_see_f1_S1.un [true], 0, (fun y => lookup_six_see_f1 N y.1.1 y.1.2.1)⟩
theorem lookup_six_see_f1_ctrs (N : Nat) : CtrsOk Tryd.prog (lookup_six_see_f1_C N) := ctrs_of (Γ := lookup_six_see_f1_C N) G_ifs_ok (by
 intro p hp
 simp only [lookup_six_see_f1_C, List.mem_cons, List.not_mem_nil, or_false] at hp
 rcases hp with rfl
 · exact lookup_cursor_number_ok N)
theorem lookup_six_see_f1_ok (N : Nat) : Ctr.ok Tryd.prog G_globs 250 (lookup_six_see_f1_ctr N) :=
 ctr_fn (Γ := lookup_six_see_f1_C N) (rfit := lookup_six_see_f1_S1) (bs := [true]) (res := [3]) (by kernel_rfl) (tys_ok G_tys_ok) (lookup_six_see_f1_ctrs N) Tryd.func250 (by kernel_rfl) (by kernel_rfl) Tryd.ntmps250 (by kernel_rfl) (by kernel_rfl) (by kernel_rfl) (by kernel_rfl) (fun E hb => lookup_six_see_f1_b N hb)
/-! (ipsecgate/lookup.six).see -/
abbrev lookup_six_see_R : Type := ((D107 × Int × Unit) × (Unit))
def lookup_six_see (N : Nat) (t_0 : Unit) (c_1 : ((List UInt8) × Unit)) : Option lookup_six_see_R :=
 Option.bind (lookup_cursor_int N c_1 (4 : Int) (2 : Int)) fun y1 =>
 bif (!(decide ((w64 (y1.1.1 + (40 : Int))) = (c_1.1.length : Int)))) then
 some ((((((0 : Int), (0 : UInt64), (0 : UInt64), ()), ((0 : Int), (0 : UInt64), (0 : UInt64), ()), (0 : Int), (0 : Int), (0 : Int), ()), (0 : Int), false, false, (0 : Int), ()), (2 : Int), ()), (()))
 else
 Option.bind (lookup_six_see_f1 N (8 : Int) c_1) fun y5 =>
 Option.bind (lookup_six_see_f1 N (24 : Int) c_1) fun y6 =>
 Option.bind (lookup_cursor_int N c_1 (6 : Int) (1 : Int)) fun y7 =>
 bif (decide (y7.1.1 = (44 : Int))) then
 Option.bind (lookup_cursor_int N c_1 (42 : Int) (2 : Int)) fun y9 =>
 Option.bind (lookup_cursor_int N c_1 (40 : Int) (1 : Int)) fun y10 =>
 some ((((y5.1.1, y6.1.1, y10.1.1, (0 : Int), (0 : Int), ()), (andNot64 y9.1.1 (7 : Int)), (!(decide ((and64 y9.1.1 (1 : Int)) = (0 : Int)))), false, (48 : Int), ()), (0 : Int), ()), (()))
 else
 some ((((y5.1.1, y6.1.1, y7.1.1, (0 : Int), (0 : Int), ()), (0 : Int), false, false, (40 : Int), ()), (0 : Int), ()), (()))
def lookup_six_see_C (N : Nat) : Ctx := ⟨45, G_tys, [(210, lookup_cursor_int_ctr N), (250, lookup_six_see_f1_ctr N)], G_globs, G_ifs⟩
def lookup_six_see_S0 : Spec := ⟨[.val .unit, .val (.pair (.sl .u8) .unit)], []⟩
def lookup_six_see_S1 : Spec := ⟨[.fp T107, .val .i64], []⟩
def lookup_six_see_K (_N : Nat) : XE → GS → Option lookup_six_see_R := retK 0 [4, 5] [true, false] lookup_six_see_S1
def lookup_six_see_L : List Code := (bodyOf (some Tryd.f249))
theorem lookup_six_see_b {E : Env} (N : Nat) (hb : Base Tryd.prog (lookup_six_see_C N) E 0) : Blk Tryd.prog (lookup_six_see_C N) E (List.range lookup_six_see_S0.ks.length) lookup_six_see_S0 (lookup_six_see_L.drop 0) (fun y => lookup_six_see N y.1.1 y.1.2.1) (lookup_six_see_K N) :=
 Blk.chunkAt hb 9 (X := (lookup_six_see_K N .normal)) (NxOk.end (by kernel_rfl)) rfl (fun x => by kernel_rfl)
def lookup_six_see_ctr (N : Nat) : Ctr := ⟨lookup_six_see_S0, lookup_six_see_S1.un [true, false], 0, (fun y => lookup_six_see N y.1.1 y.1.2.1)⟩
theorem lookup_six_see_ctrs (N : Nat) : CtrsOk Tryd.prog (lookup_six_see_C N) := ctrs_of (Γ := lookup_six_see_C N) G_ifs_ok (by
 intro p hp
 simp only [lookup_six_see_C, List.mem_cons, List.not_mem_nil, or_false] at hp
 rcases hp with rfl | rfl
 · exact lookup_cursor_int_ok N
 · exact lookup_six_see_f1_ok N)
theorem lookup_six_see_ok (N : Nat) : Ctr.ok Tryd.prog G_globs 249 (lookup_six_see_ctr N) :=
 ctr_fn (Γ := lookup_six_see_C N) (rfit := lookup_six_see_S1) (bs := [true, false]) (res := [4, 5]) (by kernel_rfl) (tys_ok G_tys_ok) (lookup_six_see_ctrs N) Tryd.func249 (by kernel_rfl) (by kernel_rfl) Tryd.ntmps249 (by kernel_rfl) (by kernel_rfl) (by kernel_rfl) (by kernel_rfl) (fun E hb => lookup_six_see_b N hb)
/-! ipsecgate/lookup.See -/
abbrev lookup_See_R : Type := ((D107 × Int × Unit) × (Unit))
def lookup_See (N : Nat) (b_0 : (List UInt8)) : Option lookup_See_R :=
 bif (decide ((b_0.length : Int) = (0 : Int))) then
 some ((((((0 : Int), (0 : UInt64), (0 : UInt64), ()), ((0 : Int), (0 : UInt64), (0 : UInt64), ()), (0 : Int), (0 : Int), (0 : Int), ()), (0 : Int), false, false, (0 : Int), ()), (1 : Int), ()), (()))
 else
 bif inR (0 : Int) b_0.length then
 let x3 := b_0.getD 0 (0 : UInt8)
 bif (decide ((shr8 x3 4) = (4 : UInt8))) then
 Option.bind (lookup_four_least N () (b_0, ())) fun y7 =>
 bif (decide ((b_0.length : Int) < y7.1.1)) then
 some ((((((0 : Int), (0 : UInt64), (0 : UInt64), ()), ((0 : Int), (0 : UInt64), (0 : UInt64), ()), (0 : Int), (0 : Int), (0 : Int), ()), (0 : Int), false, false, (0 : Int), ()), (1 : Int), ()), (()))
 else
 Option.bind (lookup_four_see N () (b_0, ())) fun y9 =>
 bif (!(decide (y9.1.2.1 = (0 : Int)))) then
 some ((((((0 : Int), (0 : UInt64), (0 : UInt64), ()), ((0 : Int), (0 : UInt64), (0 : UInt64), ()), (0 : Int), (0 : Int), (0 : Int), ()), (0 : Int), false, false, (0 : Int), ()), y9.1.2.1, ()), (()))
 else
 bif (decide ((4096 : Int) < (b_0.length : Int))) then
 some ((((((0 : Int), (0 : UInt64), (0 : UInt64), ()), ((0 : Int), (0 : UInt64), (0 : UInt64), ()), (0 : Int), (0 : Int), (0 : Int), ()), (0 : Int), false, false, (0 : Int), ()), (11 : Int), ()), (()))
 else
 Option.bind (lookup_cursor_ports N (b_0, ()) y9.1.1) fun y13 =>
 bif y13.2.1.2.2.1 then
 some (((y13.2.1.1, y13.2.1.2.1, y13.2.1.2.2.1, true, y13.2.1.2.2.2.2.1, ()), (0 : Int), ()), (()))
 else
 some (((y13.2.1.1, y13.2.1.2.1, y13.2.1.2.2.1, (!(decide (y13.2.1.2.1 = (0 : Int)))), y13.2.1.2.2.2.2.1, ()), (0 : Int), ()), (()))
 else
 bif (decide ((shr8 x3 4) = (6 : UInt8))) then
 Option.bind (lookup_six_least N () (b_0, ())) fun y17 =>
 bif (decide ((b_0.length : Int) < y17.1.1)) then
 some ((((((0 : Int), (0 : UInt64), (0 : UInt64), ()), ((0 : Int), (0 : UInt64), (0 : UInt64), ()), (0 : Int), (0 : Int), (0 : Int), ()), (0 : Int), false, false, (0 : Int), ()), (1 : Int), ()), (()))
 else
 Option.bind (lookup_six_see N () (b_0, ())) fun y19 =>
 bif (!(decide (y19.1.2.1 = (0 : Int)))) then
 some ((((((0 : Int), (0 : UInt64), (0 : UInt64), ()), ((0 : Int), (0 : UInt64), (0 : UInt64), ()), (0 : Int), (0 : Int), (0 : Int), ()), (0 : Int), false, false, (0 : Int), ()), y19.1.2.1, ()), (()))
 else
 bif (decide ((4096 : Int) < (b_0.length : Int))) then
 some ((((((0 : Int), (0 : UInt64), (0 : UInt64), ()), ((0 : Int), (0 : UInt64), (0 : UInt64), ()), (0 : Int), (0 : Int), (0 : Int), ()), (0 : Int), false, false, (0 : Int), ()), (11 : Int), ()), (()))
 else
 Option.bind (lookup_cursor_ports N (b_0, ()) y19.1.1) fun y23 =>
 bif y23.2.1.2.2.1 then
 some (((y23.2.1.1, y23.2.1.2.1, y23.2.1.2.2.1, true, y23.2.1.2.2.2.2.1, ()), (0 : Int), ()), (()))
 else
 some (((y23.2.1.1, y23.2.1.2.1, y23.2.1.2.2.1, (!(decide (y23.2.1.2.1 = (0 : Int)))), y23.2.1.2.2.2.2.1, ()), (0 : Int), ()), (()))
 else
 some ((((((0 : Int), (0 : UInt64), (0 : UInt64), ()), ((0 : Int), (0 : UInt64), (0 : UInt64), ()), (0 : Int), (0 : Int), (0 : Int), ()), (0 : Int), false, false, (0 : Int), ()), (3 : Int), ()), (()))
 else none
def lookup_See_C (N : Nat) : Ctx := ⟨59, G_tys, [(246, lookup_four_least_ctr N), (247, lookup_four_see_ctr N), (182, lookup_cursor_ports_ctr N), (248, lookup_six_least_ctr N), (249, lookup_six_see_ctr N)], G_globs, G_ifs⟩
def lookup_See_S0 : Spec := ⟨[.val (.sl .u8)], []⟩
def lookup_See_S1 : Spec := ⟨[.fp T107, .val .i64], []⟩
def lookup_See_K (_N : Nat) : XE → GS → Option lookup_See_R := retK 0 [2, 3] [true, false] lookup_See_S1
def lookup_See_L : List Code := (bodyOf (some Tryd.f139))
theorem lookup_See_b {E : Env} (N : Nat) (hb : Base Tryd.prog (lookup_See_C N) E 0) : Blk Tryd.prog (lookup_See_C N) E (List.range lookup_See_S0.ks.length) lookup_See_S0 (lookup_See_L.drop 0) (fun y => lookup_See N y.1.1) (lookup_See_K N) :=
 Blk.chunkAt hb 18 (X := (lookup_See_K N .normal)) (NxOk.end (by kernel_rfl)) rfl (fun x => by kernel_rfl)
def lookup_See_ctr (N : Nat) : Ctr := ⟨lookup_See_S0, lookup_See_S1.un [true, false], 0, (fun y => lookup_See N y.1.1)⟩
theorem lookup_See_ctrs (N : Nat) : CtrsOk Tryd.prog (lookup_See_C N) := ctrs_of (Γ := lookup_See_C N) G_ifs_ok (by
 intro p hp
 simp only [lookup_See_C, List.mem_cons, List.not_mem_nil, or_false] at hp
 rcases hp with rfl | rfl | rfl | rfl | rfl
 · exact lookup_four_least_ok N
 · exact lookup_four_see_ok N
 · exact lookup_cursor_ports_ok N
 · exact lookup_six_least_ok N
 · exact lookup_six_see_ok N)
theorem lookup_See_ok (N : Nat) : Ctr.ok Tryd.prog G_globs 139 (lookup_See_ctr N) :=
 ctr_fn (Γ := lookup_See_C N) (rfit := lookup_See_S1) (bs := [true, false]) (res := [2, 3]) (by kernel_rfl) (tys_ok G_tys_ok) (lookup_See_ctrs N) Tryd.func139 (by kernel_rfl) (by kernel_rfl) Tryd.ntmps139 (by kernel_rfl) (by kernel_rfl) (by kernel_rfl) (by kernel_rfl) (fun E hb => lookup_See_b N hb)
/-! ipsecgate/esp.whole -/
abbrev esp_whole_R : Type := ((Int × Unit) × (Unit))
def esp_whole (N : Nat) (family_0 : Int) : Option esp_whole_R :=
 bif (decide (family_0 = (6 : Int))) then
 some (((41 : Int), ()), (()))
 else
 some (((4 : Int), ()), (()))
def esp_whole_C (N : Nat) : Ctx := ⟨5, G_tys, [], G_globs, G_ifs⟩
def esp_whole_S0 : Spec := ⟨[.val .i64], []⟩
def esp_whole_K (_N : Nat) : XE → GS → Option esp_whole_R := retK 0 [2] [false] esp_whole_S0
def esp_whole_L : List Code := (bodyOf (some Tryd.f141))
theorem esp_whole_b {E : Env} (N : Nat) (hb : Base Tryd.prog (esp_whole_C N) E 0) : Blk Tryd.prog (esp_whole_C N) E (List.range esp_whole_S0.ks.length) esp_whole_S0 (esp_whole_L.drop 0) (fun y => esp_whole N y.1.1) (esp_whole_K N) :=
 Blk.chunkAt hb 5 (X := (esp_whole_K N .normal)) (NxOk.end (by kernel_rfl)) rfl (fun x => by kernel_rfl)
def esp_whole_ctr (N : Nat) : Ctr := ⟨esp_whole_S0, esp_whole_S0.un [false], 0, (fun y => esp_whole N y.1.1)⟩
theorem esp_whole_ctrs (N : Nat) : CtrsOk Tryd.prog (esp_whole_C N) := ctrs_nil G_ifs_ok rfl
theorem esp_whole_ok (N : Nat) : Ctr.ok Tryd.prog G_globs 141 (esp_whole_ctr N) :=
 ctr_fn (Γ := esp_whole_C N) (rfit := esp_whole_S0) (bs := [false]) (res := [2]) (by kernel_rfl) (tys_ok G_tys_ok) (esp_whole_ctrs N) Tryd.func141 (by kernel_rfl) (by kernel_rfl) Tryd.ntmps141 (by kernel_rfl) (by kernel_rfl) (by kernel_rfl) (by kernel_rfl) (fun E hb => esp_whole_b N hb)
/-! ipsecgate/esp.hidden -/
abbrev esp_hidden_R : Type := ((D105 × Unit) × (Unit))
def esp_hidden (N : Nat) (from_0 : D103) (to_1 : D103) : Option esp_hidden_R :=
 some (((from_0, to_1, (50 : Int), (-1 : Int), (-1 : Int), ()), ()), (()))
def esp_hidden_C (N : Nat) : Ctx := ⟨8, G_tys, [], G_globs, G_ifs⟩
def esp_hidden_S0 : Spec := ⟨[.val T103, .val T103], []⟩
def esp_hidden_S1 : Spec := ⟨[.fp T105], []⟩
def esp_hidden_K (_N : Nat) : XE → GS → Option esp_hidden_R := retK 0 [4] [true] esp_hidden_S1
def esp_hidden_L : List Code := (bodyOf (some Tryd.f144))
theorem esp_hidden_b {E : Env} (N : Nat) (hb : Base Tryd.prog (esp_hidden_C N) E 0) : Blk Tryd.prog (esp_hidden_C N) E (List.range esp_hidden_S0.ks.length) esp_hidden_S0 (esp_hidden_L.drop 0) (fun y => esp_hidden N y.1.1 y.1.2.1) (esp_hidden_K N) :=
 Blk.chunkAt hb 3 (X := (esp_hidden_K N .normal)) (NxOk.end (by kernel_rfl)) rfl (fun x => by kernel_rfl)
def esp_hidden_ctr (N : Nat) : Ctr := ⟨esp_hidden_S0, esp_hidden_S1.un [true], 0, (fun y => esp_hidden N y.1.1 y.1.2.1)⟩
theorem esp_hidden_ctrs (N : Nat) : CtrsOk Tryd.prog (esp_hidden_C N) := ctrs_nil G_ifs_ok rfl
theorem esp_hidden_ok (N : Nat) : Ctr.ok Tryd.prog G_globs 144 (esp_hidden_ctr N) :=
 ctr_fn (Γ := esp_hidden_C N) (rfit := esp_hidden_S1) (bs := [true]) (res := [4]) (by kernel_rfl) (tys_ok G_tys_ok) (esp_hidden_ctrs N) Tryd.func144 (by kernel_rfl) (by kernel_rfl) Tryd.ntmps144 (by kernel_rfl) (by kernel_rfl) (by kernel_rfl) (by kernel_rfl) (fun E hb => esp_hidden_b N hb)
/-! ipsecgate/selector.Valid -/
abbrev selector_Valid_R : Type := ((Bool × Unit) × (Unit))
def selector_Valid (N : Nat) (a_0 : D103) : Option selector_Valid_R :=
 bif (decide (a_0.1 = (6 : Int))) then
 some ((true, ()), (()))
 else
 bif (decide (a_0.1 = (4 : Int))) then
 bif (decide (a_0.2.1 = (0 : UInt64))) then
 some (((decide (a_0.2.2.1 < (4294967296 : UInt64))), ()), (()))
 else
 some ((false, ()), (()))
 else
 some ((false, ()), (()))
def selector_Valid_C (N : Nat) : Ctx := ⟨21, G_tys, [], G_globs, G_ifs⟩
def selector_Valid_S0 : Spec := ⟨[.val T103], []⟩
def selector_Valid_S1 : Spec := ⟨[.val .bool], []⟩
def selector_Valid_K (_N : Nat) : XE → GS → Option selector_Valid_R := retK 0 [2] [false] selector_Valid_S1
def selector_Valid_L : List Code := (bodyOf (some Tryd.f183))
theorem selector_Valid_b {E : Env} (N : Nat) (hb : Base Tryd.prog (selector_Valid_C N) E 0) : Blk Tryd.prog (selector_Valid_C N) E (List.range selector_Valid_S0.ks.length) selector_Valid_S0 (selector_Valid_L.drop 0) (fun y => selector_Valid N y.1.1) (selector_Valid_K N) :=
 Blk.chunkAt hb 3 (X := (selector_Valid_K N .normal)) (NxOk.end (by kernel_rfl)) rfl (fun x => by kernel_rfl)
def selector_Valid_ctr (N : Nat) : Ctr := ⟨selector_Valid_S0, selector_Valid_S1.un [false], 0, (fun y => selector_Valid N y.1.1)⟩
theorem selector_Valid_ctrs (N : Nat) : CtrsOk Tryd.prog (selector_Valid_C N) := ctrs_nil G_ifs_ok rfl
theorem selector_Valid_ok (N : Nat) : Ctr.ok Tryd.prog G_globs 183 (selector_Valid_ctr N) :=
 ctr_fn (Γ := selector_Valid_C N) (rfit := selector_Valid_S1) (bs := [false]) (res := [2]) (by kernel_rfl) (tys_ok G_tys_ok) (selector_Valid_ctrs N) Tryd.func183 (by kernel_rfl) (by kernel_rfl) Tryd.ntmps183 (by kernel_rfl) (by kernel_rfl) (by kernel_rfl) (by kernel_rfl) (fun E hb => selector_Valid_b N hb)
/-! ipsecgate/lookup.port -/
abbrev lookup_port_R : Type := ((Bool × Unit) × (Unit))
def lookup_port (N : Nat) (n_0 : Int) : Option lookup_port_R :=
 bif (decide ((-1 : Int) ≤ n_0)) then
 some (((decide (n_0 ≤ (65535 : Int))), ()), (()))
 else
 some ((false, ()), (()))
def lookup_port_C (N : Nat) : Ctx := ⟨9, G_tys, [], G_globs, G_ifs⟩
def lookup_port_S0 : Spec := ⟨[.val .i64], []⟩
def lookup_port_S1 : Spec := ⟨[.val .bool], []⟩
def lookup_port_K (_N : Nat) : XE → GS → Option lookup_port_R := retK 0 [2] [false] lookup_port_S1
def lookup_port_L : List Code := (bodyOf (some Tryd.f184))
theorem lookup_port_b {E : Env} (N : Nat) (hb : Base Tryd.prog (lookup_port_C N) E 0) : Blk Tryd.prog (lookup_port_C N) E (List.range lookup_port_S0.ks.length) lookup_port_S0 (lookup_port_L.drop 0) (fun y => lookup_port N y.1.1) (lookup_port_K N) :=
 Blk.chunkAt hb 3 (X := (lookup_port_K N .normal)) (NxOk.end (by kernel_rfl)) rfl (fun x => by kernel_rfl)
def lookup_port_ctr (N : Nat) : Ctr := ⟨lookup_port_S0, lookup_port_S1.un [false], 0, (fun y => lookup_port N y.1.1)⟩
theorem lookup_port_ctrs (N : Nat) : CtrsOk Tryd.prog (lookup_port_C N) := ctrs_nil G_ifs_ok rfl
theorem lookup_port_ok (N : Nat) : Ctr.ok Tryd.prog G_globs 184 (lookup_port_ctr N) :=
 ctr_fn (Γ := lookup_port_C N) (rfit := lookup_port_S1) (bs := [false]) (res := [2]) (by kernel_rfl) (tys_ok G_tys_ok) (lookup_port_ctrs N) Tryd.func184 (by kernel_rfl) (by kernel_rfl) Tryd.ntmps184 (by kernel_rfl) (by kernel_rfl) (by kernel_rfl) (by kernel_rfl) (fun E hb => lookup_port_b N hb)
/-! ipsecgate/lookup.transport -/
abbrev lookup_transport_R : Type := ((Int × Unit) × ((List UInt8) × Unit))
def lookup_transport_s3 (N : Nat) (t_25 : Int) (t_26 : Int) (out_6 : (List UInt8)) (t_24 : (List Int)) : Option (Lo ((Int × Int × Unit) × ((List UInt8) × (List Int) × Unit)) ((Unit) × ((List UInt8) × Unit)) lookup_transport_R) :=
 bif (decide (t_26 < t_25)) then
 bif inR t_26 t_24.length then
 let x5 := (t_24.getD t_26.toNat (0 : Int))
 bif (decide (x5 = (-1 : Int))) then
 some (.go ((t_25, (w64 (t_26 + (1 : Int))), ()), (out_6, t_24, ())))
 else
 bif (decide ((out_6.length : Int) < (4 : Int))) then
 some (.rt (((1 : Int), ()), (([] : List UInt8), ())))
 else
 let x10 := w64 ((2 : Int) * t_26)
 let x12 := w64 ((w64 ((2 : Int) * t_26)) + (1 : Int))
 bif inR x10 out_6.length then
 let x15 := (out_6.set x10.toNat (iu8 (shrI x5 8)))
 bif inR x12 x15.length then
 some (.go ((t_25, (w64 (t_26 + (1 : Int))), ()), ((x15.set x12.toNat (iu8 x5)), t_24, ())))
 else none
 else none
 else none
 else
 some (.br ((()), (out_6, ())))
def lookup_transport_4 (N : Nat) (out_6 : (List UInt8)) : Option lookup_transport_R :=
 some (((0 : Int), ()), (out_6, ()))
def lookup_transport_2 (N : Nat) (t_25 : Int) (t_26 : Int) (out_6 : (List UInt8)) (t_24 : (List Int)) : Option lookup_transport_R :=
 loopK N (fun y => lookup_transport_s3 N y.1.1 y.1.2.1 y.2.1 y.2.2.1) (fun (e : ((Unit) × ((List UInt8) × Unit))) => lookup_transport_4 N e.2.1) ((t_25, t_26, ()), (out_6, t_24, ()))
def lookup_transport_1 (N : Nat) (t_18 : Bool) (p_2 : D105) (out_6 : (List UInt8)) : Option lookup_transport_R :=
 bif t_18 then
 some (((0 : Int), ()), (out_6, ()))
 else
 lookup_transport_2 N (([p_2.2.2.2.1, p_2.2.2.2.2.1] : List Int).length : Int) (0 : Int) out_6 ([p_2.2.2.2.1, p_2.2.2.2.2.1] : List Int)
def lookup_transport (N : Nat) (p_0 : D105) (data_1 : (List UInt8)) : Option lookup_transport_R :=
 bif room (0 + data_1.length) 1 then
 bif (!(decide (p_0.2.2.1 = (6 : Int)))) then
 lookup_transport_1 N (!(decide (p_0.2.2.1 = (17 : Int)))) p_0 data_1
 else
 lookup_transport_1 N false p_0 data_1
 else none
def lookup_transport_C (N : Nat) : Ctx := ⟨52, G_tys, [], G_globs, G_ifs⟩
def lookup_transport_S0 : Spec := ⟨[.row 0, .row 1, .val .i64, .val .i64], [(.row 5 .u8, .pos 0), (.row 3 .i64, .pos 1)]⟩
def lookup_transport_S1 : Spec := ⟨[.row 0], [(.row 5 .u8, .pos 0)]⟩
def lookup_transport_S2 : Spec := ⟨[.ref 0 T105, .row 1, .val .bool], [(.box 106 T105, .pos 0), (.row 5 .u8, .pos 1)]⟩
def lookup_transport_S3 : Spec := ⟨[.val T105, .val (.sl .u8)], []⟩
def lookup_transport_S4 : Spec := ⟨[.row 0, .val .i64], [(.row 5 .u8, .pos 0)]⟩
def lookup_transport_K (_N : Nat) : XE → GS → Option lookup_transport_R := retK 0 [4, 5] [false, false] lookup_transport_S4
def lookup_transport_L : List Code := (bodyOf (some Tryd.f185))
def lookup_transport_L3 : List Code := (loopOf (lookup_transport_L[5]?))
def lookup_transport_K3 (N : Nat) : XE → GS → Option (Lo ((Int × Int × Unit) × ((List UInt8) × (List Int) × Unit)) ((Unit) × ((List UInt8) × Unit)) lookup_transport_R) := roundK (some 0) (fit 0 [6, 24, 25, 26] lookup_transport_S0) (fit 0 [6] lookup_transport_S1) (lookup_transport_K N)
theorem lookup_transport_s3_b {E : Env} (N : Nat) (hb : Base Tryd.prog (lookup_transport_C N) E 0) : Blk Tryd.prog (lookup_transport_C N) E [6, 24, 25, 26] lookup_transport_S0 (lookup_transport_L3.drop 0) (fun y => lookup_transport_s3 N y.1.1 y.1.2.1 y.2.1 y.2.2.1) (lookup_transport_K3 N) :=
 Blk.chunkAt hb 4 (X := (lookup_transport_K3 N .normal)) (NxOk.end (by kernel_rfl)) rfl (fun x => by kernel_rfl)
theorem lookup_transport_4_b {E : Env} (N : Nat) (hb : Base Tryd.prog (lookup_transport_C N) E 0) : Blk Tryd.prog (lookup_transport_C N) E [6] lookup_transport_S1 (lookup_transport_L.drop 6) (fun y => lookup_transport_4 N y.2.1) (lookup_transport_K N) :=
 Blk.chunkAt hb 2 (X := (lookup_transport_K N .normal)) (NxOk.end (by kernel_rfl)) rfl (fun x => by kernel_rfl)
theorem lookup_transport_2_b {E : Env} (N : Nat) (hb : Base Tryd.prog (lookup_transport_C N) E 0) : Blk Tryd.prog (lookup_transport_C N) E [6, 24, 25, 26] lookup_transport_S0 (lookup_transport_L.drop 5) (fun y => lookup_transport_2 N y.1.1 y.1.2.1 y.2.1 y.2.2.1) (lookup_transport_K N) :=
 Blk.loopAt (Nf := N) (hns := [6, 24, 25, 26]) (ans := [6]) (hc := lookup_transport_S0) (ac := lookup_transport_S1) (bid := 0) (step := (fun y => lookup_transport_s3 N y.1.1 y.1.2.1 y.2.1 y.2.2.1)) (J := (fun e => (goK 0 [6] lookup_transport_S1 (fun y => lookup_transport_4 N y.2.1)) (lookup_transport_S1.st [6] e))) hb (by kernel_rfl) (Blk.into (X := (goK 0 [6] lookup_transport_S1 (fun y => lookup_transport_4 N y.2.1))) (NxOk.go hb (lookup_transport_4_b N hb)) (fun x => by kernel_rfl)) (lookup_transport_s3_b N hb) (fun x => by kernel_rfl)
theorem lookup_transport_1_b {E : Env} (N : Nat) (hb : Base Tryd.prog (lookup_transport_C N) E 0) : Blk Tryd.prog (lookup_transport_C N) E [2, 6, 18] lookup_transport_S2 (lookup_transport_L.drop 3) (fun y => lookup_transport_1 N y.1.1 y.2.1 y.2.2.1) (lookup_transport_K N) :=
 Blk.chunkAt hb 2 (X := (goK 0 [6, 24, 25, 26] lookup_transport_S0 (fun y => lookup_transport_2 N y.1.1 y.1.2.1 y.2.1 y.2.2.1))) (NxOk.go hb (lookup_transport_2_b N hb)) rfl (fun x => by kernel_rfl)
theorem lookup_transport_b {E : Env} (N : Nat) (hb : Base Tryd.prog (lookup_transport_C N) E 0) : Blk Tryd.prog (lookup_transport_C N) E (List.range lookup_transport_S3.ks.length) lookup_transport_S3 (lookup_transport_L.drop 0) (fun y => lookup_transport N y.1.1 y.1.2.1) (lookup_transport_K N) :=
 Blk.chunkAt hb 3 (X := (goK 0 [2, 6, 18] lookup_transport_S2 (fun y => lookup_transport_1 N y.1.1 y.2.1 y.2.2.1))) (NxOk.go hb (lookup_transport_1_b N hb)) rfl (fun x => by kernel_rfl)
def lookup_transport_ctr (N : Nat) : Ctr := ⟨lookup_transport_S3, lookup_transport_S4.un [false, false], 0, (fun y => lookup_transport N y.1.1 y.1.2.1)⟩
theorem lookup_transport_ctrs (N : Nat) : CtrsOk Tryd.prog (lookup_transport_C N) := ctrs_nil G_ifs_ok rfl
theorem lookup_transport_ok (N : Nat) : Ctr.ok Tryd.prog G_globs 185 (lookup_transport_ctr N) :=
 ctr_fn (Γ := lookup_transport_C N) (rfit := lookup_transport_S4) (bs := [false, false]) (res := [4, 5]) (by kernel_rfl) (tys_ok G_tys_ok) (lookup_transport_ctrs N) Tryd.func185 (by kernel_rfl) (by kernel_rfl) Tryd.ntmps185 (by kernel_rfl) (by kernel_rfl) (by kernel_rfl) (by kernel_rfl) (fun E hb => lookup_transport_b N hb)
/-! ipsecgate/lookup.Build -/
abbrev lookup_Build_R : Type := ((Int × Unit) × ((List UInt8) × Unit))
def lookup_Build_s7 (N : Nat) (t_100 : Int) (t_101 : Int) (rest_7 : (List UInt8)) (b_10 : (List UInt8)) (t_99 : (List D103)) : Option (Lo ((Int × Int × Unit) × ((List UInt8) × (List UInt8) × (List D103) × Unit)) ((Unit) × ((List UInt8) × (List UInt8) × Unit)) lookup_Build_R) :=
 bif (decide (t_101 < t_100)) then
 bif inR t_101 t_99.length then
 let x26 := (t_99.getD t_101.toNat ((0 : Int), (0 : UInt64), (0 : UInt64), ()))
 Option.bind (wire_Put N x26.2.1 (8 : Int) b_10) fun y27 =>
 Option.bind (wire_Put N x26.2.2.1 (8 : Int) y27.2.1) fun y28 =>
 some (.go ((t_100, (w64 (t_101 + (1 : Int))), ()), (rest_7, y28.2.1, t_99, ())))
 else none
 else
 some (.br ((()), (rest_7, b_10, ())))
def lookup_Build_8 (N : Nat) (rest_7 : (List UInt8)) (b_10 : (List UInt8)) : Option lookup_Build_R :=
 bif room (b_10.length + rest_7.length) 1 then
 some (((0 : Int), ()), ((b_10 ++ rest_7), ()))
 else none
def lookup_Build_6 (N : Nat) (t_100 : Int) (t_101 : Int) (rest_7 : (List UInt8)) (b_10 : (List UInt8)) (t_99 : (List D103)) : Option lookup_Build_R :=
 loopK N (fun y => lookup_Build_s7 N y.1.1 y.1.2.1 y.2.1 y.2.2.1 y.2.2.2.1) (fun (e : ((Unit) × ((List UInt8) × (List UInt8) × Unit))) => lookup_Build_8 N e.2.1 e.2.2.1) ((t_100, t_101, ()), (rest_7, b_10, t_99, ()))
def lookup_Build_5 (N : Nat) (p_2 : D105) (rest_7 : (List UInt8)) : Option lookup_Build_R :=
 Option.bind (wire_Put N (iu64 (rest_7.length : Int)) (2 : Int) ([(96 : UInt8), (0 : UInt8), (0 : UInt8), (0 : UInt8)] : List UInt8)) fun y21 =>
 bif room (y21.2.1.length + ([(iu8 p_2.2.2.1), (64 : UInt8)] : List UInt8).length) 1 then
 lookup_Build_6 N (([p_2.1, p_2.2.1] : List D103).length : Int) (0 : Int) rest_7 (y21.2.1 ++ ([(iu8 p_2.2.2.1), (64 : UInt8)] : List UInt8)) ([p_2.1, p_2.2.1] : List D103)
 else none
def lookup_Build_9 (N : Nat) (size_9 : Int) (p_2 : D105) (rest_7 : (List UInt8)) : Option lookup_Build_R :=
 Option.bind (wire_Put N (iu64 (w64 (size_9 + (rest_7.length : Int)))) (2 : Int) ([(69 : UInt8), (0 : UInt8)] : List UInt8)) fun y34 =>
 bif room (y34.2.1.length + ([(0 : UInt8), (0 : UInt8), (0 : UInt8), (0 : UInt8), (64 : UInt8), (iu8 p_2.2.2.1), (0 : UInt8), (0 : UInt8)] : List UInt8).length) 1 then
 Option.bind (wire_Put N p_2.1.2.2.1 (4 : Int) (y34.2.1 ++ ([(0 : UInt8), (0 : UInt8), (0 : UInt8), (0 : UInt8), (64 : UInt8), (iu8 p_2.2.2.1), (0 : UInt8), (0 : UInt8)] : List UInt8))) fun y37 =>
 Option.bind (wire_Put N p_2.2.1.2.2.1 (4 : Int) y37.2.1) fun y38 =>
 Option.bind (wire_Checksum N y38.2.1) fun y39 =>
 bif inR (10 : Int) y38.2.1.length then
 let x43 := (y38.2.1.set 10 (iu8 (shrI y39.1.1 8)))
 bif inR (11 : Int) x43.length then
 let x44 := (x43.set 11 (iu8 y39.1.1))
 bif room (x44.length + rest_7.length) 1 then
 some (((0 : Int), ()), ((x44 ++ rest_7), ()))
 else none
 else none
 else none
 else none
def lookup_Build_3 (N : Nat) (size_9 : Int) (t_83 : Bool) (p_2 : D105) (rest_7 : (List UInt8)) : Option lookup_Build_R :=
 bif t_83 then
 lookup_Build_5 N p_2 rest_7
 else
 lookup_Build_9 N size_9 p_2 rest_7
def lookup_Build_2 (N : Nat) (six_6 : Bool) (size_9 : Int) (p_2 : D105) (rest_7 : (List UInt8)) : Option lookup_Build_R :=
 bif (decide ((4096 : Int) < (w64 (size_9 + (rest_7.length : Int))))) then
 some (((11 : Int), ()), (([] : List UInt8), ()))
 else
 lookup_Build_3 N size_9 six_6 p_2 rest_7
def lookup_Build_1 (N : Nat) (data_1 : (List UInt8)) (six_6 : Bool) (p_2 : D105) : Option lookup_Build_R :=
 Option.bind (lookup_transport N p_2 data_1) fun y14 =>
 bif (!(decide (y14.1.1 = (0 : Int)))) then
 some ((y14.1.1, ()), (([] : List UInt8), ()))
 else
 bif six_6 then
 lookup_Build_2 N six_6 (40 : Int) p_2 y14.2.1
 else
 lookup_Build_2 N six_6 (20 : Int) p_2 y14.2.1
def lookup_Build (N : Nat) (p_0 : D105) (data_1 : (List UInt8)) : Option lookup_Build_R :=
 let x1 := decide (p_0.1.1 = (6 : Int))
 Option.bind (selector_Valid N p_0.1) fun y2 =>
 bif (!y2.1.1) then
 some (((15 : Int), ()), (([] : List UInt8), ()))
 else
 Option.bind (selector_Valid N p_0.2.1) fun y4 =>
 bif (!y4.1.1) then
 some (((15 : Int), ()), (([] : List UInt8), ()))
 else
 bif (!(decide (p_0.1.1 = p_0.2.1.1))) then
 some (((15 : Int), ()), (([] : List UInt8), ()))
 else
 bif (decide (p_0.2.2.1 < (0 : Int))) then
 some (((5 : Int), ()), (([] : List UInt8), ()))
 else
 bif (decide ((255 : Int) < p_0.2.2.1)) then
 some (((5 : Int), ()), (([] : List UInt8), ()))
 else
 bif x1 then
 bif (decide (p_0.2.2.1 = (44 : Int))) then
 some (((5 : Int), ()), (([] : List UInt8), ()))
 else
 Option.bind (lookup_port N p_0.2.2.2.1) fun y10 =>
 bif (!y10.1.1) then
 some (((5 : Int), ()), (([] : List UInt8), ()))
 else
 Option.bind (lookup_port N p_0.2.2.2.2.1) fun y12 =>
 bif (!y12.1.1) then
 some (((5 : Int), ()), (([] : List UInt8), ()))
 else
 lookup_Build_1 N data_1 x1 p_0
 else
 Option.bind (lookup_port N p_0.2.2.2.1) fun y46 =>
 bif (!y46.1.1) then
 some (((5 : Int), ()), (([] : List UInt8), ()))
 else
 Option.bind (lookup_port N p_0.2.2.2.2.1) fun y48 =>
 bif (!y48.1.1) then
 some (((5 : Int), ()), (([] : List UInt8), ()))
 else
 lookup_Build_1 N data_1 x1 p_0
def lookup_Build_C (N : Nat) : Ctx := ⟨152, G_tys, [(183, selector_Valid_ctr N), (184, lookup_port_ctr N), (185, lookup_transport_ctr N), (91, wire_Put_ctr N), (186, wire_Checksum_ctr N)], G_globs, G_ifs⟩
def lookup_Build_S0 : Spec := ⟨[.row 0, .row 1, .row 2, .val .i64, .val .i64], [(.row 5 .u8, .pos 0), (.row 5 .u8, .pos 1), (.row 104 T103, .pos 2)]⟩
def lookup_Build_S1 : Spec := ⟨[.row 0, .row 1], [(.row 5 .u8, .pos 0), (.row 5 .u8, .pos 1)]⟩
def lookup_Build_S2 : Spec := ⟨[.ref 0 T105, .row 1], [(.box 106 T105, .pos 0), (.row 5 .u8, .pos 1)]⟩
def lookup_Build_S3 : Spec := ⟨[.ref 0 T105, .row 1, .val .i64], [(.box 106 T105, .pos 0), (.row 5 .u8, .pos 1)]⟩
def lookup_Build_S4 : Spec := ⟨[.ref 0 T105, .row 1, .val .i64, .val .bool], [(.box 106 T105, .pos 0), (.row 5 .u8, .pos 1)]⟩
def lookup_Build_S5 : Spec := ⟨[.ref 0 T105, .val .bool, .row 1, .val .i64], [(.box 106 T105, .pos 0), (.row 5 .u8, .pos 2)]⟩
def lookup_Build_S6 : Spec := ⟨[.val (.sl .u8), .ref 0 T105, .val .bool], [(.box 106 T105, .pos 1)]⟩
def lookup_Build_S7 : Spec := ⟨[.val T105, .val (.sl .u8)], []⟩
def lookup_Build_S8 : Spec := ⟨[.row 0, .val .i64], [(.row 5 .u8, .pos 0)]⟩
def lookup_Build_K (_N : Nat) : XE → GS → Option lookup_Build_R := retK 0 [4, 5] [false, false] lookup_Build_S8
def lookup_Build_L : List Code := (bodyOf (some Tryd.f143))
def lookup_Build_L4t : List Code := (thenOf (lookup_Build_L[12]?))
def lookup_Build_L7 : List Code := (loopOf (lookup_Build_L4t[3]?))
def lookup_Build_L4e : List Code := (elseOf (lookup_Build_L[12]?))
def lookup_Build_K4 (N : Nat) : XE → GS → Option lookup_Build_R := nextK (goK 0 [2, 7, 9] lookup_Build_S3 (fun y => lookup_Build_9 N y.1.1 y.2.1 y.2.2.1)) (lookup_Build_K N)
def lookup_Build_K7 (N : Nat) : XE → GS → Option (Lo ((Int × Int × Unit) × ((List UInt8) × (List UInt8) × (List D103) × Unit)) ((Unit) × ((List UInt8) × (List UInt8) × Unit)) lookup_Build_R) := roundK (some 1) (fit 0 [7, 10, 99, 100, 101] lookup_Build_S0) (fit 0 [7, 10] lookup_Build_S1) (lookup_Build_K4 N)
theorem lookup_Build_s7_b {E : Env} (N : Nat) (hb : Base Tryd.prog (lookup_Build_C N) E 0) : Blk Tryd.prog (lookup_Build_C N) E [7, 10, 99, 100, 101] lookup_Build_S0 (lookup_Build_L7.drop 0) (fun y => lookup_Build_s7 N y.1.1 y.1.2.1 y.2.1 y.2.2.1 y.2.2.2.1) (lookup_Build_K7 N) :=
 Blk.chunkAt hb 4 (X := (lookup_Build_K7 N .normal)) (NxOk.end (by kernel_rfl)) rfl (fun x => by kernel_rfl)
theorem lookup_Build_8_b {E : Env} (N : Nat) (hb : Base Tryd.prog (lookup_Build_C N) E 0) : Blk Tryd.prog (lookup_Build_C N) E [7, 10] lookup_Build_S1 (lookup_Build_L4t.drop 4) (fun y => lookup_Build_8 N y.2.1 y.2.2.1) (lookup_Build_K4 N) :=
 Blk.chunkAt hb 2 (X := (lookup_Build_K4 N .normal)) (NxOk.end (by kernel_rfl)) rfl (fun x => by kernel_rfl)
theorem lookup_Build_6_b {E : Env} (N : Nat) (hb : Base Tryd.prog (lookup_Build_C N) E 0) : Blk Tryd.prog (lookup_Build_C N) E [7, 10, 99, 100, 101] lookup_Build_S0 (lookup_Build_L4t.drop 3) (fun y => lookup_Build_6 N y.1.1 y.1.2.1 y.2.1 y.2.2.1 y.2.2.2.1) (lookup_Build_K4 N) :=
 Blk.loopAt (Nf := N) (hns := [7, 10, 99, 100, 101]) (ans := [7, 10]) (hc := lookup_Build_S0) (ac := lookup_Build_S1) (bid := 1) (step := (fun y => lookup_Build_s7 N y.1.1 y.1.2.1 y.2.1 y.2.2.1 y.2.2.2.1)) (J := (fun e => (goK 0 [7, 10] lookup_Build_S1 (fun y => lookup_Build_8 N y.2.1 y.2.2.1)) (lookup_Build_S1.st [7, 10] e))) hb (by kernel_rfl) (Blk.into (X := (goK 0 [7, 10] lookup_Build_S1 (fun y => lookup_Build_8 N y.2.1 y.2.2.1))) (NxOk.go hb (lookup_Build_8_b N hb)) (fun x => by kernel_rfl)) (lookup_Build_s7_b N hb) (fun x => by kernel_rfl)
theorem lookup_Build_5_b {E : Env} (N : Nat) (hb : Base Tryd.prog (lookup_Build_C N) E 0) : Blk Tryd.prog (lookup_Build_C N) E [2, 7] lookup_Build_S2 (lookup_Build_L4t.drop 0) (fun y => lookup_Build_5 N y.2.1 y.2.2.1) (lookup_Build_K4 N) :=
 Blk.chunkAt hb 3 (X := (goK 0 [7, 10, 99, 100, 101] lookup_Build_S0 (fun y => lookup_Build_6 N y.1.1 y.1.2.1 y.2.1 y.2.2.1 y.2.2.2.1))) (NxOk.go hb (lookup_Build_6_b N hb)) rfl (fun x => by kernel_rfl)
theorem lookup_Build_9_b {E : Env} (N : Nat) (hb : Base Tryd.prog (lookup_Build_C N) E 0) : Blk Tryd.prog (lookup_Build_C N) E [2, 7, 9] lookup_Build_S3 (lookup_Build_L.drop 13) (fun y => lookup_Build_9 N y.1.1 y.2.1 y.2.2.1) (lookup_Build_K N) :=
 Blk.chunkAt hb 7 (X := (lookup_Build_K N .normal)) (NxOk.end (by kernel_rfl)) rfl (fun x => by kernel_rfl)
theorem lookup_Build_3_b {E : Env} (N : Nat) (hb : Base Tryd.prog (lookup_Build_C N) E 0) : Blk Tryd.prog (lookup_Build_C N) E [2, 7, 9, 83] lookup_Build_S4 (lookup_Build_L.drop 12) (fun y => lookup_Build_3 N y.1.1 y.1.2.1 y.2.1 y.2.2.1) (lookup_Build_K N) :=
 Blk.condAt (n := 83) (X := (goK 0 [2, 7, 9] lookup_Build_S3 (fun y => lookup_Build_9 N y.1.1 y.2.1 y.2.2.1))) (A := (goK 0 [2, 7] lookup_Build_S2 (fun y => lookup_Build_5 N y.2.1 y.2.2.1))) (B := (lookup_Build_K4 N .normal)) (by kernel_rfl) (NxOk.go hb (lookup_Build_9_b N hb)) (NxOk.go hb (lookup_Build_5_b N hb)) (NxOk.skipAt (by kernel_rfl)) (fun x => by kernel_rfl)
theorem lookup_Build_2_b {E : Env} (N : Nat) (hb : Base Tryd.prog (lookup_Build_C N) E 0) : Blk Tryd.prog (lookup_Build_C N) E [2, 6, 7, 9] lookup_Build_S5 (lookup_Build_L.drop 9) (fun y => lookup_Build_2 N y.1.1 y.1.2.1 y.2.1 y.2.2.1) (lookup_Build_K N) :=
 Blk.chunkAt hb 3 (X := (goK 0 [2, 7, 9, 83] lookup_Build_S4 (fun y => lookup_Build_3 N y.1.1 y.1.2.1 y.2.1 y.2.2.1))) (NxOk.go hb (lookup_Build_3_b N hb)) rfl (fun x => by kernel_rfl)
theorem lookup_Build_1_b {E : Env} (N : Nat) (hb : Base Tryd.prog (lookup_Build_C N) E 0) : Blk Tryd.prog (lookup_Build_C N) E [1, 2, 6] lookup_Build_S6 (lookup_Build_L.drop 3) (fun y => lookup_Build_1 N y.1.1 y.1.2.1 y.2.1) (lookup_Build_K N) :=
 Blk.chunkAt hb 6 (X := (goK 0 [2, 6, 7, 9] lookup_Build_S5 (fun y => lookup_Build_2 N y.1.1 y.1.2.1 y.2.1 y.2.2.1))) (NxOk.go hb (lookup_Build_2_b N hb)) rfl (fun x => by kernel_rfl)
theorem lookup_Build_b {E : Env} (N : Nat) (hb : Base Tryd.prog (lookup_Build_C N) E 0) : Blk Tryd.prog (lookup_Build_C N) E (List.range lookup_Build_S7.ks.length) lookup_Build_S7 (lookup_Build_L.drop 0) (fun y => lookup_Build N y.1.1 y.1.2.1) (lookup_Build_K N) :=
 Blk.chunkAt hb 3 (X := (goK 0 [1, 2, 6] lookup_Build_S6 (fun y => lookup_Build_1 N y.1.1 y.1.2.1 y.2.1))) (NxOk.go hb (lookup_Build_1_b N hb)) rfl (fun x => by kernel_rfl)
def lookup_Build_ctr (N : Nat) : Ctr := ⟨lookup_Build_S7, lookup_Build_S8.un [false, false], 0, (fun y => lookup_Build N y.1.1 y.1.2.1)⟩
theorem lookup_Build_ctrs (N : Nat) : CtrsOk Tryd.prog (lookup_Build_C N) := ctrs_of (Γ := lookup_Build_C N) G_ifs_ok (by
 intro p hp
 simp only [lookup_Build_C, List.mem_cons, List.not_mem_nil, or_false] at hp
 rcases hp with rfl | rfl | rfl | rfl | rfl
 · exact selector_Valid_ok N
 · exact lookup_port_ok N
 · exact lookup_transport_ok N
 · exact wire_Put_ok N
 · exact wire_Checksum_ok N)
theorem lookup_Build_ok (N : Nat) : Ctr.ok Tryd.prog G_globs 143 (lookup_Build_ctr N) :=
 ctr_fn (Γ := lookup_Build_C N) (rfit := lookup_Build_S8) (bs := [false, false]) (res := [4, 5]) (by kernel_rfl) (tys_ok G_tys_ok) (lookup_Build_ctrs N) Tryd.func143 (by kernel_rfl) (by kernel_rfl) Tryd.ntmps143 (by kernel_rfl) (by kernel_rfl) (by kernel_rfl) (by kernel_rfl) (fun E hb => lookup_Build_b N hb)
/-! ipsecgate/esp.Tunnel$1 -/
abbrev esp_Tunnel_f1_R : Type := ((Int × Unit) × ((List UInt8) × Unit))
def esp_Tunnel_f1 (N : Nat) (sealed_0 : (List UInt8)) (t_1 : D103) (t_2 : D103) : Option esp_Tunnel_f1_R :=
 Option.bind (esp_hidden N t_1 t_2) fun y1 =>
 Option.bind (lookup_Build N y1.1.1 sealed_0) fun y2 =>
 some ((y2.1.1, ()), (y2.2.1, ()))
def esp_Tunnel_f1_C (N : Nat) : Ctx := ⟨13, G_tys, [(144, esp_hidden_ctr N), (143, lookup_Build_ctr N)], G_globs, G_ifs⟩
def esp_Tunnel_f1_S0 : Spec := ⟨[.val (.sl .u8), .fp T103, .fp T103], []⟩
def esp_Tunnel_f1_S1 : Spec := ⟨[.row 0, .val .i64], [(.row 5 .u8, .pos 0)]⟩
def esp_Tunnel_f1_K (_N : Nat) : XE → GS → Option esp_Tunnel_f1_R := retK 0 [4, 5] [false, false] esp_Tunnel_f1_S1
def esp_Tunnel_f1_L : List Code := (bodyOf (some Tryd.f142))
theorem esp_Tunnel_f1_b {E : Env} (N : Nat) (hb : Base Tryd.prog (esp_Tunnel_f1_C N) E 0) : Blk Tryd.prog (esp_Tunnel_f1_C N) E (List.range esp_Tunnel_f1_S0.ks.length) esp_Tunnel_f1_S0 (esp_Tunnel_f1_L.drop 0) (fun y => esp_Tunnel_f1 N y.1.1 y.1.2.1 y.1.2.2.1) (esp_Tunnel_f1_K N) :=
 Blk.chunkAt hb 3 (X := (esp_Tunnel_f1_K N .normal)) (NxOk.end (by kernel_rfl)) rfl (fun x => by kernel_rfl)
def esp_Tunnel_f1_ctr (N : Nat) : Ctr := ⟨esp_Tunnel_f1_S0, esp_Tunnel_f1_S1.un [false, false], 0, (fun y => esp_Tunnel_f1 N y.1.1 y.1.2.1 y.1.2.2.1)⟩
theorem esp_Tunnel_f1_ctrs (N : Nat) : CtrsOk Tryd.prog (esp_Tunnel_f1_C N) := ctrs_of (Γ := esp_Tunnel_f1_C N) G_ifs_ok (by
 intro p hp
 simp only [esp_Tunnel_f1_C, List.mem_cons, List.not_mem_nil, or_false] at hp
 rcases hp with rfl | rfl
 · exact esp_hidden_ok N
 · exact lookup_Build_ok N)
theorem esp_Tunnel_f1_ok (N : Nat) : Ctr.ok Tryd.prog G_globs 142 (esp_Tunnel_f1_ctr N) :=
 ctr_fn (Γ := esp_Tunnel_f1_C N) (rfit := esp_Tunnel_f1_S1) (bs := [false, false]) (res := [4, 5]) (by kernel_rfl) (tys_ok G_tys_ok) (esp_Tunnel_f1_ctrs N) Tryd.func142 (by kernel_rfl) (by kernel_rfl) Tryd.ntmps142 (by kernel_rfl) (by kernel_rfl) (by kernel_rfl) (by kernel_rfl) (fun E hb => esp_Tunnel_f1_b N hb)
/-! ipsecgate/esp.wrap_esp.Tunnel$1 -/
abbrev esp_wrap_esp_Tunnel_f1_R : Type := ((Int × Unit) × ((List UInt8) × Unit))
def esp_wrap_esp_Tunnel_f1 (N : Nat) (key_0 : (List UInt8)) (spi_1 : UInt32) (number_2 : UInt64) (next_3 : Int) (payload_4 : (List UInt8)) (build_5_0 : D103) (build_5_1 : D103) : Option esp_wrap_esp_Tunnel_f1_R :=
 Option.bind (esp_Seal N key_0 spi_1 number_2 next_3 payload_4 (0 : Int)) fun y1 =>
 bif (!(decide (y1.1.1 = (0 : Int)))) then
 some ((y1.1.1, ()), (([] : List UInt8), ()))
 else
 Option.bind (esp_Tunnel_f1 N y1.2.1 build_5_0 build_5_1) fun y3 =>
 some ((y3.1.1, ()), (y3.2.1, ()))
def esp_wrap_esp_Tunnel_f1_C (N : Nat) : Ctx := ⟨33, G_tys, [(29, esp_Seal_ctr N), (142, esp_Tunnel_f1_ctr N)], G_globs, G_ifs⟩
def esp_wrap_esp_Tunnel_f1_S0 : Spec := ⟨[.val (.sl .u8), .val .u32, .val .u64, .val .i64, .val (.sl .u8), .clo 142 [(0, T103), (1, T103)]], [(.box 104 T103, .cap 5 0), (.box 104 T103, .cap 5 1)]⟩
def esp_wrap_esp_Tunnel_f1_S1 : Spec := ⟨[.row 0, .val .i64], [(.row 5 .u8, .pos 0)]⟩
def esp_wrap_esp_Tunnel_f1_K (_N : Nat) : XE → GS → Option esp_wrap_esp_Tunnel_f1_R := retK 0 [12, 13] [false, false] esp_wrap_esp_Tunnel_f1_S1
def esp_wrap_esp_Tunnel_f1_L : List Code := (bodyOf (some Tryd.f140))
theorem esp_wrap_esp_Tunnel_f1_b {E : Env} (N : Nat) (hb : Base Tryd.prog (esp_wrap_esp_Tunnel_f1_C N) E 0) : Blk Tryd.prog (esp_wrap_esp_Tunnel_f1_C N) E (List.range esp_wrap_esp_Tunnel_f1_S0.ks.length) esp_wrap_esp_Tunnel_f1_S0 (esp_wrap_esp_Tunnel_f1_L.drop 0) (fun y => esp_wrap_esp_Tunnel_f1 N y.1.1 y.1.2.1 y.1.2.2.1 y.1.2.2.2.1 y.1.2.2.2.2.1 y.2.1 y.2.2.1) (esp_wrap_esp_Tunnel_f1_K N) :=
 Blk.chunkAt hb 6 (X := (esp_wrap_esp_Tunnel_f1_K N .normal)) (NxOk.end (by kernel_rfl)) rfl (fun x => by kernel_rfl)
def esp_wrap_esp_Tunnel_f1_ctr (N : Nat) : Ctr := ⟨esp_wrap_esp_Tunnel_f1_S0, esp_wrap_esp_Tunnel_f1_S1.un [false, false], 0, (fun y => esp_wrap_esp_Tunnel_f1 N y.1.1 y.1.2.1 y.1.2.2.1 y.1.2.2.2.1 y.1.2.2.2.2.1 y.2.1 y.2.2.1)⟩
theorem esp_wrap_esp_Tunnel_f1_ctrs (N : Nat) : CtrsOk Tryd.prog (esp_wrap_esp_Tunnel_f1_C N) := ctrs_of (Γ := esp_wrap_esp_Tunnel_f1_C N) G_ifs_ok (by
 intro p hp
 simp only [esp_wrap_esp_Tunnel_f1_C, List.mem_cons, List.not_mem_nil, or_false] at hp
 rcases hp with rfl | rfl
 · exact esp_Seal_ok N
 · exact esp_Tunnel_f1_ok N)
theorem esp_wrap_esp_Tunnel_f1_ok (N : Nat) : Ctr.ok Tryd.prog G_globs 140 (esp_wrap_esp_Tunnel_f1_ctr N) :=
 ctr_fn (Γ := esp_wrap_esp_Tunnel_f1_C N) (rfit := esp_wrap_esp_Tunnel_f1_S1) (bs := [false, false]) (res := [12, 13]) (by kernel_rfl) (tys_ok G_tys_ok) (esp_wrap_esp_Tunnel_f1_ctrs N) Tryd.func140 (by kernel_rfl) (by kernel_rfl) Tryd.ntmps140 (by kernel_rfl) (by kernel_rfl) (by kernel_rfl) (by kernel_rfl) (fun E hb => esp_wrap_esp_Tunnel_f1_b N hb)
/-! ipsecgate/esp.Tunnel -/
abbrev esp_Tunnel_R : Type := ((Int × Unit) × ((List UInt8) × Unit))
def esp_Tunnel (N : Nat) (key_0 : (List UInt8)) (spi_1 : UInt32) (number_2 : UInt64) (from_3 : D103) (to_4 : D103) (inner_5 : (List UInt8)) : Option esp_Tunnel_R :=
 Option.bind (lookup_See N inner_5) fun y1 =>
 bif (!(decide (y1.1.2.1 = (0 : Int)))) then
 some ((y1.1.2.1, ()), (([] : List UInt8), ()))
 else
 bif inR (0 : Int) inner_5.length then
 Option.bind (esp_whole N ((shr8 (inner_5.getD 0 (0 : UInt8)) 4).toNat : Int)) fun y6 =>
 Option.bind (esp_wrap_esp_Tunnel_f1 N key_0 spi_1 number_2 y6.1.1 inner_5 from_3 to_4) fun y7 =>
 some ((y7.1.1, ()), (y7.2.1, ()))
 else none
def esp_Tunnel_C (N : Nat) : Ctx := ⟨38, G_tys, [(139, lookup_See_ctr N), (141, esp_whole_ctr N), (140, esp_wrap_esp_Tunnel_f1_ctr N)], G_globs, G_ifs⟩
def esp_Tunnel_S0 : Spec := ⟨[.val (.sl .u8), .val .u32, .val .u64, .val T103, .val T103, .val (.sl .u8)], []⟩
def esp_Tunnel_S1 : Spec := ⟨[.row 0, .val .i64], [(.row 5 .u8, .pos 0)]⟩
def esp_Tunnel_K (_N : Nat) : XE → GS → Option esp_Tunnel_R := retK 0 [12, 13] [false, false] esp_Tunnel_S1
def esp_Tunnel_L : List Code := (bodyOf (some Tryd.f75))
theorem esp_Tunnel_b {E : Env} (N : Nat) (hb : Base Tryd.prog (esp_Tunnel_C N) E 0) : Blk Tryd.prog (esp_Tunnel_C N) E (List.range esp_Tunnel_S0.ks.length) esp_Tunnel_S0 (esp_Tunnel_L.drop 0) (fun y => esp_Tunnel N y.1.1 y.1.2.1 y.1.2.2.1 y.1.2.2.2.1 y.1.2.2.2.2.1 y.1.2.2.2.2.2.1) (esp_Tunnel_K N) :=
 Blk.chunkAt hb 6 (X := (esp_Tunnel_K N .normal)) (NxOk.end (by kernel_rfl)) rfl (fun x => by kernel_rfl)
def esp_Tunnel_ctr (N : Nat) : Ctr := ⟨esp_Tunnel_S0, esp_Tunnel_S1.un [false, false], 0, (fun y => esp_Tunnel N y.1.1 y.1.2.1 y.1.2.2.1 y.1.2.2.2.1 y.1.2.2.2.2.1 y.1.2.2.2.2.2.1)⟩
theorem esp_Tunnel_ctrs (N : Nat) : CtrsOk Tryd.prog (esp_Tunnel_C N) := ctrs_of (Γ := esp_Tunnel_C N) G_ifs_ok (by
 intro p hp
 simp only [esp_Tunnel_C, List.mem_cons, List.not_mem_nil, or_false] at hp
 rcases hp with rfl | rfl | rfl
 · exact lookup_See_ok N
 · exact esp_whole_ok N
 · exact esp_wrap_esp_Tunnel_f1_ok N)
theorem esp_Tunnel_ok (N : Nat) : Ctr.ok Tryd.prog G_globs 75 (esp_Tunnel_ctr N) :=
 ctr_fn (Γ := esp_Tunnel_C N) (rfit := esp_Tunnel_S1) (bs := [false, false]) (res := [12, 13]) (by kernel_rfl) (tys_ok G_tys_ok) (esp_Tunnel_ctrs N) Tryd.func75 (by kernel_rfl) (by kernel_rfl) Tryd.ntmps75 (by kernel_rfl) (by kernel_rfl) (by kernel_rfl) (by kernel_rfl) (fun E hb => esp_Tunnel_b N hb)
/-! ipsecgate/esp.Untunnel -/
abbrev esp_Untunnel_R : Type := (((List UInt8) × Int × Unit) × (Unit))
def esp_Untunnel_1 (N : Nat) (inner_10 : (List UInt8)) (next_11 : Int) : Option esp_Untunnel_R :=
 Option.bind (lookup_See N inner_10) fun y9 =>
 bif (!(decide (y9.1.2.1 = (0 : Int)))) then
 some ((([] : List UInt8), y9.1.2.1, ()), (()))
 else
 Option.bind (esp_whole N y9.1.1.1.1.1) fun y11 =>
 bif (!(decide (y11.1.1 = next_11))) then
 some ((([] : List UInt8), (15 : Int), ()), (()))
 else
 some ((inner_10, (0 : Int), ()), (()))
def esp_Untunnel (N : Nat) (key_0 : (List UInt8)) (b_1 : (List UInt8)) (number_2 : UInt64) : Option esp_Untunnel_R :=
 Option.bind (lookup_See N b_1) fun y1 =>
 bif (!(decide (y1.1.2.1 = (0 : Int)))) then
 some ((([] : List UInt8), y1.1.2.1, ()), (()))
 else
 bif y1.1.1.2.2.2.1 then
 some ((([] : List UInt8), (21 : Int), ()), (()))
 else
 bif (!(decide (y1.1.1.1.2.2.1 = (50 : Int)))) then
 some ((([] : List UInt8), (4 : Int), ()), (()))
 else
 bif decide (0 ≤ y1.1.1.2.2.2.2.1) && decide (y1.1.1.2.2.2.2.1 ≤ (b_1.length : Int)) && decide ((b_1.length : Int) ≤ (b_1.length : Int)) && true then
 Option.bind (esp_Open N key_0 (cut b_1 y1.1.1.2.2.2.2.1.toNat b_1.length) number_2) fun y5 =>
 bif (!(decide (y5.1.2.2.1 = (0 : Int)))) then
 some ((([] : List UInt8), y5.1.2.2.1, ()), (()))
 else
 bif (!(decide (y5.1.2.1 = (4 : Int)))) then
 bif (!(decide (y5.1.2.1 = (41 : Int)))) then
 some ((([] : List UInt8), (4 : Int), ()), (()))
 else
 esp_Untunnel_1 N y5.1.1 y5.1.2.1
 else
 esp_Untunnel_1 N y5.1.1 y5.1.2.1
 else none
def esp_Untunnel_C (N : Nat) : Ctx := ⟨70, G_tys, [(139, lookup_See_ctr N), (33, esp_Open_ctr N), (141, esp_whole_ctr N)], G_globs, G_ifs⟩
def esp_Untunnel_S0 : Spec := ⟨[.val (.sl .u8), .val .i64], []⟩
def esp_Untunnel_S1 : Spec := ⟨[.val (.sl .u8), .val (.sl .u8), .val .u64], []⟩
def esp_Untunnel_K (_N : Nat) : XE → GS → Option esp_Untunnel_R := retK 0 [6, 7] [false, false] esp_Untunnel_S0
def esp_Untunnel_L : List Code := (bodyOf (some Tryd.f76))
theorem esp_Untunnel_1_b {E : Env} (N : Nat) (hb : Base Tryd.prog (esp_Untunnel_C N) E 0) : Blk Tryd.prog (esp_Untunnel_C N) E [10, 11] esp_Untunnel_S0 (esp_Untunnel_L.drop 5) (fun y => esp_Untunnel_1 N y.1.1 y.1.2.1) (esp_Untunnel_K N) :=
 Blk.chunkAt hb 4 (X := (esp_Untunnel_K N .normal)) (NxOk.end (by kernel_rfl)) rfl (fun x => by kernel_rfl)
theorem esp_Untunnel_b {E : Env} (N : Nat) (hb : Base Tryd.prog (esp_Untunnel_C N) E 0) : Blk Tryd.prog (esp_Untunnel_C N) E (List.range esp_Untunnel_S1.ks.length) esp_Untunnel_S1 (esp_Untunnel_L.drop 0) (fun y => esp_Untunnel N y.1.1 y.1.2.1 y.1.2.2.1) (esp_Untunnel_K N) :=
 Blk.chunkAt hb 5 (X := (goK 0 [10, 11] esp_Untunnel_S0 (fun y => esp_Untunnel_1 N y.1.1 y.1.2.1))) (NxOk.go hb (esp_Untunnel_1_b N hb)) rfl (fun x => by kernel_rfl)
def esp_Untunnel_ctr (N : Nat) : Ctr := ⟨esp_Untunnel_S1, esp_Untunnel_S0.un [false, false], 0, (fun y => esp_Untunnel N y.1.1 y.1.2.1 y.1.2.2.1)⟩
theorem esp_Untunnel_ctrs (N : Nat) : CtrsOk Tryd.prog (esp_Untunnel_C N) := ctrs_of (Γ := esp_Untunnel_C N) G_ifs_ok (by
 intro p hp
 simp only [esp_Untunnel_C, List.mem_cons, List.not_mem_nil, or_false] at hp
 rcases hp with rfl | rfl | rfl
 · exact lookup_See_ok N
 · exact esp_Open_ok N
 · exact esp_whole_ok N)
theorem esp_Untunnel_ok (N : Nat) : Ctr.ok Tryd.prog G_globs 76 (esp_Untunnel_ctr N) :=
 ctr_fn (Γ := esp_Untunnel_C N) (rfit := esp_Untunnel_S0) (bs := [false, false]) (res := [6, 7]) (by kernel_rfl) (tys_ok G_tys_ok) (esp_Untunnel_ctrs N) Tryd.func76 (by kernel_rfl) (by kernel_rfl) Tryd.ntmps76 (by kernel_rfl) (by kernel_rfl) (by kernel_rfl) (by kernel_rfl) (fun E hb => esp_Untunnel_b N hb)
/-! ipsecgate/ipsecgateref24.SameBytes -/
abbrev ref24_SameBytes_R : Type := ((Bool × Unit) × (Unit))
def ref24_SameBytes_s2 (N : Nat) (a_0 : (List UInt8)) (b_1 : (List UInt8)) (i_5 : Int) : Option (Lo (((List UInt8) × (List UInt8) × Int × Unit) × (Unit)) ((Unit) × (Unit)) ref24_SameBytes_R) :=
 bif (decide (i_5 < (a_0.length : Int))) then
 bif inR i_5 a_0.length then
 bif inR i_5 b_1.length then
 bif (!(decide ((a_0.getD i_5.toNat (0 : UInt8)) = (b_1.getD i_5.toNat (0 : UInt8))))) then
 some (.rt ((false, ()), (())))
 else
 some (.go ((a_0, b_1, (w64 (i_5 + (1 : Int))), ()), (())))
 else none
 else none
 else
 some (.br ((()), (())))
def ref24_SameBytes_3 (N : Nat) : Option ref24_SameBytes_R :=
 some ((true, ()), (()))
def ref24_SameBytes_1 (N : Nat) (a_0 : (List UInt8)) (b_1 : (List UInt8)) (i_5 : Int) : Option ref24_SameBytes_R :=
 loopK N (fun y => ref24_SameBytes_s2 N y.1.1 y.1.2.1 y.1.2.2.1) (fun (e : ((Unit) × (Unit))) => ref24_SameBytes_3 N) ((a_0, b_1, i_5, ()), (()))
def ref24_SameBytes (N : Nat) (a_0 : (List UInt8)) (b_1 : (List UInt8)) : Option ref24_SameBytes_R :=
 bif (!(decide ((a_0.length : Int) = (b_1.length : Int)))) then
 some ((false, ()), (()))
 else
 ref24_SameBytes_1 N a_0 b_1 (0 : Int)
def ref24_SameBytes_C (N : Nat) : Ctx := ⟨26, G_tys, [], G_globs, G_ifs⟩
def ref24_SameBytes_S0 : Spec := ⟨[.val (.sl .u8), .val (.sl .u8), .val .i64], []⟩
def ref24_SameBytes_S1 : Spec := ⟨[], []⟩
def ref24_SameBytes_S2 : Spec := ⟨[.val (.sl .u8), .val (.sl .u8)], []⟩
def ref24_SameBytes_S3 : Spec := ⟨[.val .bool], []⟩
def ref24_SameBytes_K (_N : Nat) : XE → GS → Option ref24_SameBytes_R := retK 0 [4] [false] ref24_SameBytes_S3
def ref24_SameBytes_L : List Code := (bodyOf (some Tryd.f31))
def ref24_SameBytes_L2 : List Code := (loopOf (ref24_SameBytes_L[4]?))
def ref24_SameBytes_K2 (N : Nat) : XE → GS → Option (Lo (((List UInt8) × (List UInt8) × Int × Unit) × (Unit)) ((Unit) × (Unit)) ref24_SameBytes_R) := roundK (some 0) (fit 0 [0, 1, 5] ref24_SameBytes_S0) (fit 0 [] ref24_SameBytes_S1) (ref24_SameBytes_K N)
theorem ref24_SameBytes_s2_b {E : Env} (N : Nat) (hb : Base Tryd.prog (ref24_SameBytes_C N) E 0) : Blk Tryd.prog (ref24_SameBytes_C N) E [0, 1, 5] ref24_SameBytes_S0 (ref24_SameBytes_L2.drop 0) (fun y => ref24_SameBytes_s2 N y.1.1 y.1.2.1 y.1.2.2.1) (ref24_SameBytes_K2 N) :=
 Blk.chunkAt hb 4 (X := (ref24_SameBytes_K2 N .normal)) (NxOk.end (by kernel_rfl)) rfl (fun x => by kernel_rfl)
theorem ref24_SameBytes_3_b {E : Env} (N : Nat) (hb : Base Tryd.prog (ref24_SameBytes_C N) E 0) : Blk Tryd.prog (ref24_SameBytes_C N) E [] ref24_SameBytes_S1 (ref24_SameBytes_L.drop 5) (fun y => ref24_SameBytes_3 N) (ref24_SameBytes_K N) :=
 Blk.chunkAt hb 2 (X := (ref24_SameBytes_K N .normal)) (NxOk.end (by kernel_rfl)) rfl (fun x => by kernel_rfl)
theorem ref24_SameBytes_1_b {E : Env} (N : Nat) (hb : Base Tryd.prog (ref24_SameBytes_C N) E 0) : Blk Tryd.prog (ref24_SameBytes_C N) E [0, 1, 5] ref24_SameBytes_S0 (ref24_SameBytes_L.drop 4) (fun y => ref24_SameBytes_1 N y.1.1 y.1.2.1 y.1.2.2.1) (ref24_SameBytes_K N) :=
 Blk.loopAt (Nf := N) (hns := [0, 1, 5]) (ans := []) (hc := ref24_SameBytes_S0) (ac := ref24_SameBytes_S1) (bid := 0) (step := (fun y => ref24_SameBytes_s2 N y.1.1 y.1.2.1 y.1.2.2.1)) (J := (fun e => (goK 0 [] ref24_SameBytes_S1 (fun y => ref24_SameBytes_3 N)) (ref24_SameBytes_S1.st [] e))) hb (by kernel_rfl) (Blk.into (X := (goK 0 [] ref24_SameBytes_S1 (fun y => ref24_SameBytes_3 N))) (NxOk.go hb (ref24_SameBytes_3_b N hb)) (fun x => by kernel_rfl)) (ref24_SameBytes_s2_b N hb) (fun x => by kernel_rfl)
theorem ref24_SameBytes_b {E : Env} (N : Nat) (hb : Base Tryd.prog (ref24_SameBytes_C N) E 0) : Blk Tryd.prog (ref24_SameBytes_C N) E (List.range ref24_SameBytes_S2.ks.length) ref24_SameBytes_S2 (ref24_SameBytes_L.drop 0) (fun y => ref24_SameBytes N y.1.1 y.1.2.1) (ref24_SameBytes_K N) :=
 Blk.chunkAt hb 4 (X := (goK 0 [0, 1, 5] ref24_SameBytes_S0 (fun y => ref24_SameBytes_1 N y.1.1 y.1.2.1 y.1.2.2.1))) (NxOk.go hb (ref24_SameBytes_1_b N hb)) rfl (fun x => by kernel_rfl)
def ref24_SameBytes_ctr (N : Nat) : Ctr := ⟨ref24_SameBytes_S2, ref24_SameBytes_S3.un [false], 0, (fun y => ref24_SameBytes N y.1.1 y.1.2.1)⟩
theorem ref24_SameBytes_ctrs (N : Nat) : CtrsOk Tryd.prog (ref24_SameBytes_C N) := ctrs_nil G_ifs_ok rfl
theorem ref24_SameBytes_ok (N : Nat) : Ctr.ok Tryd.prog G_globs 31 (ref24_SameBytes_ctr N) :=
 ctr_fn (Γ := ref24_SameBytes_C N) (rfit := ref24_SameBytes_S3) (bs := [false]) (res := [4]) (by kernel_rfl) (tys_ok G_tys_ok) (ref24_SameBytes_ctrs N) Tryd.func31 (by kernel_rfl) (by kernel_rfl) Tryd.ntmps31 (by kernel_rfl) (by kernel_rfl) (by kernel_rfl) (by kernel_rfl) (fun E hb => ref24_SameBytes_b N hb)
/-! ipsecgate/esp.plain -/
abbrev esp_plain_R : Type := ((D107 × Int × Unit) × (Unit))
def esp_plain_2 (N : Nat) (t_28 : Bool) (t_2 : D107) (seen_4 : D107) : Option esp_plain_R :=
 bif t_28 then
 some ((((((0 : Int), (0 : UInt64), (0 : UInt64), ()), ((0 : Int), (0 : UInt64), (0 : UInt64), ()), (0 : Int), (0 : Int), (0 : Int), ()), (0 : Int), false, false, (0 : Int), ()), (21 : Int), ()), (()))
 else
 some ((seen_4, (0 : Int), ()), (()))
def esp_plain_1 (N : Nat) (first_6 : Int) (t_2 : D107) (seen_4 : D107) : Option esp_plain_R :=
 bif seen_4.2.2.2.1 then
 esp_plain_2 N true t_2 seen_4
 else
 esp_plain_2 N (!(decide (seen_4.2.2.2.2.1 = first_6))) t_2 seen_4
def esp_plain (N : Nat) (b_0 : (List UInt8)) : Option esp_plain_R :=
 Option.bind (lookup_See N b_0) fun y1 =>
 bif (!(decide (y1.1.2.1 = (0 : Int)))) then
 some ((((((0 : Int), (0 : UInt64), (0 : UInt64), ()), ((0 : Int), (0 : UInt64), (0 : UInt64), ()), (0 : Int), (0 : Int), (0 : Int), ()), (0 : Int), false, false, (0 : Int), ()), y1.1.2.1, ()), (()))
 else
 bif (decide (y1.1.1.1.1.1 = (6 : Int))) then
 esp_plain_1 N (40 : Int) ((((0 : Int), (0 : UInt64), (0 : UInt64), ()), ((0 : Int), (0 : UInt64), (0 : UInt64), ()), (0 : Int), (0 : Int), (0 : Int), ()), (0 : Int), false, false, (0 : Int), ()) y1.1.1
 else
 esp_plain_1 N (20 : Int) ((((0 : Int), (0 : UInt64), (0 : UInt64), ()), ((0 : Int), (0 : UInt64), (0 : UInt64), ()), (0 : Int), (0 : Int), (0 : Int), ()), (0 : Int), false, false, (0 : Int), ()) y1.1.1
def esp_plain_C (N : Nat) : Ctx := ⟨31, G_tys, [(139, lookup_See_ctr N)], G_globs, G_ifs⟩
def esp_plain_S0 : Spec := ⟨[.ref 0 T107, .ref 1 T107, .val .bool], [(.box 108 T107, .pos 0), (.box 108 T107, .pos 1)]⟩
def esp_plain_S1 : Spec := ⟨[.ref 0 T107, .ref 1 T107, .val .i64], [(.box 108 T107, .pos 0), (.box 108 T107, .pos 1)]⟩
def esp_plain_S2 : Spec := ⟨[.val (.sl .u8)], []⟩
def esp_plain_S3 : Spec := ⟨[.fp T107, .val .i64], []⟩
def esp_plain_K (_N : Nat) : XE → GS → Option esp_plain_R := retK 0 [2, 3] [true, false] esp_plain_S3
def esp_plain_L : List Code := (bodyOf (some Tryd.f145))
theorem esp_plain_2_b {E : Env} (N : Nat) (hb : Base Tryd.prog (esp_plain_C N) E 0) : Blk Tryd.prog (esp_plain_C N) E [2, 4, 28] esp_plain_S0 (esp_plain_L.drop 8) (fun y => esp_plain_2 N y.1.1 y.2.1 y.2.2.1) (esp_plain_K N) :=
 Blk.chunkAt hb 3 (X := (esp_plain_K N .normal)) (NxOk.end (by kernel_rfl)) rfl (fun x => by kernel_rfl)
theorem esp_plain_1_b {E : Env} (N : Nat) (hb : Base Tryd.prog (esp_plain_C N) E 0) : Blk Tryd.prog (esp_plain_C N) E [2, 4, 6] esp_plain_S1 (esp_plain_L.drop 7) (fun y => esp_plain_1 N y.1.1 y.2.1 y.2.2.1) (esp_plain_K N) :=
 Blk.chunkAt hb 1 (X := (goK 0 [2, 4, 28] esp_plain_S0 (fun y => esp_plain_2 N y.1.1 y.2.1 y.2.2.1))) (NxOk.go hb (esp_plain_2_b N hb)) rfl (fun x => by kernel_rfl)
theorem esp_plain_b {E : Env} (N : Nat) (hb : Base Tryd.prog (esp_plain_C N) E 0) : Blk Tryd.prog (esp_plain_C N) E (List.range esp_plain_S2.ks.length) esp_plain_S2 (esp_plain_L.drop 0) (fun y => esp_plain N y.1.1) (esp_plain_K N) :=
 Blk.chunkAt hb 7 (X := (goK 0 [2, 4, 6] esp_plain_S1 (fun y => esp_plain_1 N y.1.1 y.2.1 y.2.2.1))) (NxOk.go hb (esp_plain_1_b N hb)) rfl (fun x => by kernel_rfl)
def esp_plain_ctr (N : Nat) : Ctr := ⟨esp_plain_S2, esp_plain_S3.un [true, false], 0, (fun y => esp_plain N y.1.1)⟩
theorem esp_plain_ctrs (N : Nat) : CtrsOk Tryd.prog (esp_plain_C N) := ctrs_of (Γ := esp_plain_C N) G_ifs_ok (by
 intro p hp
 simp only [esp_plain_C, List.mem_cons, List.not_mem_nil, or_false] at hp
 rcases hp with rfl
 · exact lookup_See_ok N)
theorem esp_plain_ok (N : Nat) : Ctr.ok Tryd.prog G_globs 145 (esp_plain_ctr N) :=
 ctr_fn (Γ := esp_plain_C N) (rfit := esp_plain_S3) (bs := [true, false]) (res := [2, 3]) (by kernel_rfl) (tys_ok G_tys_ok) (esp_plain_ctrs N) Tryd.func145 (by kernel_rfl) (by kernel_rfl) Tryd.ntmps145 (by kernel_rfl) (by kernel_rfl) (by kernel_rfl) (by kernel_rfl) (fun E hb => esp_plain_b N hb)
/-! ipsecgate/esp.Transport$1 -/
abbrev esp_Transport_f1_R : Type := ((Int × Unit) × ((List UInt8) × Unit))
def esp_Transport_f1 (N : Nat) (sealed_0 : (List UInt8)) (t_1 : D107) : Option esp_Transport_f1_R :=
 Option.bind (esp_hidden N t_1.1.1 t_1.1.2.1) fun y1 =>
 Option.bind (lookup_Build N y1.1.1 sealed_0) fun y2 =>
 some ((y2.1.1, ()), (y2.2.1, ()))
def esp_Transport_f1_C (N : Nat) : Ctx := ⟨16, G_tys, [(144, esp_hidden_ctr N), (143, lookup_Build_ctr N)], G_globs, G_ifs⟩
def esp_Transport_f1_S0 : Spec := ⟨[.val (.sl .u8), .fp T107], []⟩
def esp_Transport_f1_S1 : Spec := ⟨[.row 0, .val .i64], [(.row 5 .u8, .pos 0)]⟩
def esp_Transport_f1_K (_N : Nat) : XE → GS → Option esp_Transport_f1_R := retK 0 [3, 4] [false, false] esp_Transport_f1_S1
def esp_Transport_f1_L : List Code := (bodyOf (some Tryd.f146))
theorem esp_Transport_f1_b {E : Env} (N : Nat) (hb : Base Tryd.prog (esp_Transport_f1_C N) E 0) : Blk Tryd.prog (esp_Transport_f1_C N) E (List.range esp_Transport_f1_S0.ks.length) esp_Transport_f1_S0 (esp_Transport_f1_L.drop 0) (fun y => esp_Transport_f1 N y.1.1 y.1.2.1) (esp_Transport_f1_K N) :=
 Blk.chunkAt hb 3 (X := (esp_Transport_f1_K N .normal)) (NxOk.end (by kernel_rfl)) rfl (fun x => by kernel_rfl)
def esp_Transport_f1_ctr (N : Nat) : Ctr := ⟨esp_Transport_f1_S0, esp_Transport_f1_S1.un [false, false], 0, (fun y => esp_Transport_f1 N y.1.1 y.1.2.1)⟩
theorem esp_Transport_f1_ctrs (N : Nat) : CtrsOk Tryd.prog (esp_Transport_f1_C N) := ctrs_of (Γ := esp_Transport_f1_C N) G_ifs_ok (by
 intro p hp
 simp only [esp_Transport_f1_C, List.mem_cons, List.not_mem_nil, or_false] at hp
 rcases hp with rfl | rfl
 · exact esp_hidden_ok N
 · exact lookup_Build_ok N)
theorem esp_Transport_f1_ok (N : Nat) : Ctr.ok Tryd.prog G_globs 146 (esp_Transport_f1_ctr N) :=
 ctr_fn (Γ := esp_Transport_f1_C N) (rfit := esp_Transport_f1_S1) (bs := [false, false]) (res := [3, 4]) (by kernel_rfl) (tys_ok G_tys_ok) (esp_Transport_f1_ctrs N) Tryd.func146 (by kernel_rfl) (by kernel_rfl) Tryd.ntmps146 (by kernel_rfl) (by kernel_rfl) (by kernel_rfl) (by kernel_rfl) (fun E hb => esp_Transport_f1_b N hb)
/-! ipsecgate/esp.wrap_esp.Transport$1 -/
abbrev esp_wrap_esp_Transport_f1_R : Type := ((Int × Unit) × ((List UInt8) × Unit))
def esp_wrap_esp_Transport_f1 (N : Nat) (key_0 : (List UInt8)) (spi_1 : UInt32) (number_2 : UInt64) (next_3 : Int) (payload_4 : (List UInt8)) (build_5_0 : D107) : Option esp_wrap_esp_Transport_f1_R :=
 Option.bind (esp_Seal N key_0 spi_1 number_2 next_3 payload_4 (0 : Int)) fun y1 =>
 bif (!(decide (y1.1.1 = (0 : Int)))) then
 some ((y1.1.1, ()), (([] : List UInt8), ()))
 else
 Option.bind (esp_Transport_f1 N y1.2.1 build_5_0) fun y3 =>
 some ((y3.1.1, ()), (y3.2.1, ()))
def esp_wrap_esp_Transport_f1_C (N : Nat) : Ctx := ⟨33, G_tys, [(29, esp_Seal_ctr N), (146, esp_Transport_f1_ctr N)], G_globs, G_ifs⟩
def esp_wrap_esp_Transport_f1_S0 : Spec := ⟨[.val (.sl .u8), .val .u32, .val .u64, .val .i64, .val (.sl .u8), .clo 146 [(0, T107)]], [(.box 108 T107, .cap 5 0)]⟩
def esp_wrap_esp_Transport_f1_S1 : Spec := ⟨[.row 0, .val .i64], [(.row 5 .u8, .pos 0)]⟩
def esp_wrap_esp_Transport_f1_K (_N : Nat) : XE → GS → Option esp_wrap_esp_Transport_f1_R := retK 0 [12, 13] [false, false] esp_wrap_esp_Transport_f1_S1
def esp_wrap_esp_Transport_f1_L : List Code := (bodyOf (some Tryd.f140))
theorem esp_wrap_esp_Transport_f1_b {E : Env} (N : Nat) (hb : Base Tryd.prog (esp_wrap_esp_Transport_f1_C N) E 0) : Blk Tryd.prog (esp_wrap_esp_Transport_f1_C N) E (List.range esp_wrap_esp_Transport_f1_S0.ks.length) esp_wrap_esp_Transport_f1_S0 (esp_wrap_esp_Transport_f1_L.drop 0) (fun y => esp_wrap_esp_Transport_f1 N y.1.1 y.1.2.1 y.1.2.2.1 y.1.2.2.2.1 y.1.2.2.2.2.1 y.2.1) (esp_wrap_esp_Transport_f1_K N) :=
 Blk.chunkAt hb 6 (X := (esp_wrap_esp_Transport_f1_K N .normal)) (NxOk.end (by kernel_rfl)) rfl (fun x => by kernel_rfl)
def esp_wrap_esp_Transport_f1_ctr (N : Nat) : Ctr := ⟨esp_wrap_esp_Transport_f1_S0, esp_wrap_esp_Transport_f1_S1.un [false, false], 0, (fun y => esp_wrap_esp_Transport_f1 N y.1.1 y.1.2.1 y.1.2.2.1 y.1.2.2.2.1 y.1.2.2.2.2.1 y.2.1)⟩
theorem esp_wrap_esp_Transport_f1_ctrs (N : Nat) : CtrsOk Tryd.prog (esp_wrap_esp_Transport_f1_C N) := ctrs_of (Γ := esp_wrap_esp_Transport_f1_C N) G_ifs_ok (by
 intro p hp
 simp only [esp_wrap_esp_Transport_f1_C, List.mem_cons, List.not_mem_nil, or_false] at hp
 rcases hp with rfl | rfl
 · exact esp_Seal_ok N
 · exact esp_Transport_f1_ok N)
theorem esp_wrap_esp_Transport_f1_ok (N : Nat) : Ctr.ok Tryd.prog G_globs 140 (esp_wrap_esp_Transport_f1_ctr N) :=
 ctr_fn (Γ := esp_wrap_esp_Transport_f1_C N) (rfit := esp_wrap_esp_Transport_f1_S1) (bs := [false, false]) (res := [12, 13]) (by kernel_rfl) (tys_ok G_tys_ok) (esp_wrap_esp_Transport_f1_ctrs N) Tryd.func140 (by kernel_rfl) (by kernel_rfl) Tryd.ntmps140 (by kernel_rfl) (by kernel_rfl) (by kernel_rfl) (by kernel_rfl) (fun E hb => esp_wrap_esp_Transport_f1_b N hb)
/-! ipsecgate/esp.Transport -/
abbrev esp_Transport_R : Type := ((Int × Unit) × ((List UInt8) × Unit))
def esp_Transport (N : Nat) (key_0 : (List UInt8)) (spi_1 : UInt32) (number_2 : UInt64) (b_3 : (List UInt8)) : Option esp_Transport_R :=
 Option.bind (esp_plain N b_3) fun y1 =>
 bif (!(decide (y1.1.2.1 = (0 : Int)))) then
 some ((y1.1.2.1, ()), (([] : List UInt8), ()))
 else
 bif decide (0 ≤ y1.1.1.2.2.2.2.1) && decide (y1.1.1.2.2.2.2.1 ≤ (b_3.length : Int)) && decide ((b_3.length : Int) ≤ (b_3.length : Int)) && true then
 Option.bind (esp_wrap_esp_Transport_f1 N key_0 spi_1 number_2 y1.1.1.1.2.2.1 (cut b_3 y1.1.1.2.2.2.2.1.toNat b_3.length) y1.1.1) fun y4 =>
 some ((y4.1.1, ()), (y4.2.1, ()))
 else none
def esp_Transport_C (N : Nat) : Ctx := ⟨34, G_tys, [(145, esp_plain_ctr N), (140, esp_wrap_esp_Transport_f1_ctr N)], G_globs, G_ifs⟩
def esp_Transport_S0 : Spec := ⟨[.val (.sl .u8), .val .u32, .val .u64, .val (.sl .u8)], []⟩
def esp_Transport_S1 : Spec := ⟨[.row 0, .val .i64], [(.row 5 .u8, .pos 0)]⟩
def esp_Transport_K (_N : Nat) : XE → GS → Option esp_Transport_R := retK 0 [8, 9] [false, false] esp_Transport_S1
def esp_Transport_L : List Code := (bodyOf (some Tryd.f77))
theorem esp_Transport_b {E : Env} (N : Nat) (hb : Base Tryd.prog (esp_Transport_C N) E 0) : Blk Tryd.prog (esp_Transport_C N) E (List.range esp_Transport_S0.ks.length) esp_Transport_S0 (esp_Transport_L.drop 0) (fun y => esp_Transport N y.1.1 y.1.2.1 y.1.2.2.1 y.1.2.2.2.1) (esp_Transport_K N) :=
 Blk.chunkAt hb 6 (X := (esp_Transport_K N .normal)) (NxOk.end (by kernel_rfl)) rfl (fun x => by kernel_rfl)
def esp_Transport_ctr (N : Nat) : Ctr := ⟨esp_Transport_S0, esp_Transport_S1.un [false, false], 0, (fun y => esp_Transport N y.1.1 y.1.2.1 y.1.2.2.1 y.1.2.2.2.1)⟩
theorem esp_Transport_ctrs (N : Nat) : CtrsOk Tryd.prog (esp_Transport_C N) := ctrs_of (Γ := esp_Transport_C N) G_ifs_ok (by
 intro p hp
 simp only [esp_Transport_C, List.mem_cons, List.not_mem_nil, or_false] at hp
 rcases hp with rfl | rfl
 · exact esp_plain_ok N
 · exact esp_wrap_esp_Transport_f1_ok N)
theorem esp_Transport_ok (N : Nat) : Ctr.ok Tryd.prog G_globs 77 (esp_Transport_ctr N) :=
 ctr_fn (Γ := esp_Transport_C N) (rfit := esp_Transport_S1) (bs := [false, false]) (res := [8, 9]) (by kernel_rfl) (tys_ok G_tys_ok) (esp_Transport_ctrs N) Tryd.func77 (by kernel_rfl) (by kernel_rfl) Tryd.ntmps77 (by kernel_rfl) (by kernel_rfl) (by kernel_rfl) (by kernel_rfl) (fun E hb => esp_Transport_b N hb)
/-! ipsecgate/esp.Untransport -/
abbrev esp_Untransport_R : Type := ((Int × Unit) × ((List UInt8) × Unit))
def esp_Untransport (N : Nat) (key_0 : (List UInt8)) (b_1 : (List UInt8)) (number_2 : UInt64) : Option esp_Untransport_R :=
 Option.bind (esp_plain N b_1) fun y1 =>
 bif (!(decide (y1.1.2.1 = (0 : Int)))) then
 some ((y1.1.2.1, ()), (([] : List UInt8), ()))
 else
 bif (!(decide (y1.1.1.1.2.2.1 = (50 : Int)))) then
 some (((4 : Int), ()), (([] : List UInt8), ()))
 else
 bif decide (0 ≤ y1.1.1.2.2.2.2.1) && decide (y1.1.1.2.2.2.2.1 ≤ (b_1.length : Int)) && decide ((b_1.length : Int) ≤ (b_1.length : Int)) && true then
 Option.bind (esp_Open N key_0 (cut b_1 y1.1.1.2.2.2.2.1.toNat b_1.length) number_2) fun y5 =>
 bif (!(decide (y5.1.2.2.1 = (0 : Int)))) then
 some ((y5.1.2.2.1, ()), (([] : List UInt8), ()))
 else
 Option.bind (esp_hidden N y1.1.1.1.1 y1.1.1.1.2.1) fun y7 =>
 Option.bind (lookup_Build N (y7.1.1.1, y7.1.1.2.1, y5.1.2.1, y7.1.1.2.2.2.1, y7.1.1.2.2.2.2.1, ()) y5.1.1) fun y8 =>
 some ((y8.1.1, ()), (y8.2.1, ()))
 else none
def esp_Untransport_C (N : Nat) : Ctx := ⟨55, G_tys, [(145, esp_plain_ctr N), (33, esp_Open_ctr N), (144, esp_hidden_ctr N), (143, lookup_Build_ctr N)], G_globs, G_ifs⟩
def esp_Untransport_S0 : Spec := ⟨[.val (.sl .u8), .val (.sl .u8), .val .u64], []⟩
def esp_Untransport_S1 : Spec := ⟨[.row 0, .val .i64], [(.row 5 .u8, .pos 0)]⟩
def esp_Untransport_K (_N : Nat) : XE → GS → Option esp_Untransport_R := retK 0 [6, 7] [false, false] esp_Untransport_S1
def esp_Untransport_L : List Code := (bodyOf (some Tryd.f78))
theorem esp_Untransport_b {E : Env} (N : Nat) (hb : Base Tryd.prog (esp_Untransport_C N) E 0) : Blk Tryd.prog (esp_Untransport_C N) E (List.range esp_Untransport_S0.ks.length) esp_Untransport_S0 (esp_Untransport_L.drop 0) (fun y => esp_Untransport N y.1.1 y.1.2.1 y.1.2.2.1) (esp_Untransport_K N) :=
 Blk.chunkAt hb 10 (X := (esp_Untransport_K N .normal)) (NxOk.end (by kernel_rfl)) rfl (fun x => by kernel_rfl)
def esp_Untransport_ctr (N : Nat) : Ctr := ⟨esp_Untransport_S0, esp_Untransport_S1.un [false, false], 0, (fun y => esp_Untransport N y.1.1 y.1.2.1 y.1.2.2.1)⟩
theorem esp_Untransport_ctrs (N : Nat) : CtrsOk Tryd.prog (esp_Untransport_C N) := ctrs_of (Γ := esp_Untransport_C N) G_ifs_ok (by
 intro p hp
 simp only [esp_Untransport_C, List.mem_cons, List.not_mem_nil, or_false] at hp
 rcases hp with rfl | rfl | rfl | rfl
 · exact esp_plain_ok N
 · exact esp_Open_ok N
 · exact esp_hidden_ok N
 · exact lookup_Build_ok N)
theorem esp_Untransport_ok (N : Nat) : Ctr.ok Tryd.prog G_globs 78 (esp_Untransport_ctr N) :=
 ctr_fn (Γ := esp_Untransport_C N) (rfit := esp_Untransport_S1) (bs := [false, false]) (res := [6, 7]) (by kernel_rfl) (tys_ok G_tys_ok) (esp_Untransport_ctrs N) Tryd.func78 (by kernel_rfl) (by kernel_rfl) Tryd.ntmps78 (by kernel_rfl) (by kernel_rfl) (by kernel_rfl) (by kernel_rfl) (fun E hb => esp_Untransport_b N hb)
/-! ipsecgate/ipsecgatelaw24.EspCarries -/
abbrev law24_EspCarries_R : Type := ((Bool × Unit) × (Unit))
def law24_EspCarries_3 (N : Nat) (t_109 : Bool) (b_7 : (List UInt8)) (s_8 : D107) (t_16 : (List UInt8)) (x_17 : (List UInt8)) : Option law24_EspCarries_R :=
 bif t_109 then
 some ((false, ()), (()))
 else
 Option.bind (ref22_See N x_17) fun y25 =>
 Option.bind (ref22_See N t_16) fun y26 =>
 bif (decide (y25.1.2.1 = (0 : Int))) then
 bif (decide (y26.1.2.1 = (0 : Int))) then
 bif (decide (y26.1.1.1.2.2.1 = (50 : Int))) then
 bif (dq T103 y26.1.1.1.1 s_8.1.1) then
 bif (dq T105 y25.1.1.1 s_8.1) then
 bif decide (0 ≤ y25.1.1.2.2.2.2.1) && decide (y25.1.1.2.2.2.2.1 ≤ (x_17.length : Int)) && decide ((x_17.length : Int) ≤ (x_17.length : Int)) && true then
 bif decide (0 ≤ s_8.2.2.2.2.1) && decide (s_8.2.2.2.2.1 ≤ (b_7.length : Int)) && decide ((b_7.length : Int) ≤ (b_7.length : Int)) && true then
 Option.bind (ref24_SameBytes N (cut x_17 y25.1.1.2.2.2.2.1.toNat x_17.length) (cut b_7 s_8.2.2.2.2.1.toNat b_7.length)) fun y34 =>
 some ((y34.1.1, ()), (()))
 else none
 else none
 else
 some ((false, ()), (()))
 else
 some ((false, ()), (()))
 else
 some ((false, ()), (()))
 else
 some ((false, ()), (()))
 else
 some ((false, ()), (()))
def law24_EspCarries_2 (N : Nat) (k_6 : (List UInt8)) (b_7 : (List UInt8)) (s_8 : D107) : Option law24_EspCarries_R :=
 Option.bind (esp_Transport N k_6 (3 : UInt32) (4 : UInt64) b_7) fun y22 =>
 Option.bind (esp_Untransport N k_6 y22.2.1 (4 : UInt64)) fun y23 =>
 bif (!(decide (y22.1.1 = (0 : Int)))) then
 law24_EspCarries_3 N true b_7 s_8 y22.2.1 y23.2.1
 else
 law24_EspCarries_3 N (!(decide (y23.1.1 = (0 : Int)))) b_7 s_8 y22.2.1 y23.2.1
def law24_EspCarries_1 (N : Nat) (codes_0 : (List UInt8)) (data_1 : (List UInt8)) (t_29 : Bool) : Option law24_EspCarries_R :=
 bif t_29 then
 some (((decide ((200 : Int) < (data_1.length : Int))), ()), (()))
 else
 Option.bind (draw_New N codes_0 (40 : Int)) fun y5 =>
 Option.bind (draw_Codes_Next N (36 : Int) y5.2.1) fun y6 =>
 Option.bind (draw_Codes_Next N (256 : Int) y6.2.1) fun y7 =>
 bif inR y6.1.1 ((List.replicate 36 (0 : UInt8)).length) then
 let x9 := ((List.replicate 36 (0 : UInt8)).set y6.1.1.toNat (iu8 y7.1.1))
 Option.bind (law24_packet N data_1 y7.2.1) fun y10 =>
 Option.bind (ref22_See N y10.2.2.1) fun y11 =>
 bif (!(decide (y11.1.2.1 = (0 : Int)))) then
 some ((false, ()), (()))
 else
 Option.bind (draw_Codes_Packet N (0 : Int) y10.2.1) fun y13 =>
 Option.bind (draw_Codes_Packet N (1 : Int) y13.2.1) fun y14 =>
 bif (decide (y13.1.1.1.1 = y14.1.1.1.1)) then
 Option.bind (esp_Tunnel N x9 (3 : UInt32) (4 : UInt64) y13.1.1.1 y14.1.1.1 y10.2.2.1) fun y16 =>
 Option.bind (esp_Untunnel N x9 y16.2.1 (4 : UInt64)) fun y17 =>
 bif (!(decide (y16.1.1 = (0 : Int)))) then
 some ((false, ()), (()))
 else
 bif (!(decide (y17.1.2.1 = (0 : Int)))) then
 some ((false, ()), (()))
 else
 Option.bind (ref24_SameBytes N y17.1.1 y10.2.2.1) fun y20 =>
 bif (!y20.1.1) then
 some ((false, ()), (()))
 else
 law24_EspCarries_2 N x9 y10.2.2.1 y11.1.1
 else
 law24_EspCarries_2 N x9 y10.2.2.1 y11.1.1
 else none
def law24_EspCarries (N : Nat) (codes_0 : (List UInt8)) (data_1 : (List UInt8)) : Option law24_EspCarries_R :=
 Option.bind (law24_awake N) fun y1 =>
 bif (!y1.1.1) then
 law24_EspCarries_1 N codes_0 data_1 true
 else
 law24_EspCarries_1 N codes_0 data_1 (decide ((200 : Int) < (data_1.length : Int)))
def law24_EspCarries_C (N : Nat) : Ctx := ⟨159, G_tys, [(25, law24_awake_ctr N), (26, draw_New_ctr N), (32, draw_Codes_Next_ctr N), (72, law24_packet_ctr N), (73, ref22_See_ctr N), (74, draw_Codes_Packet_ctr N), (75, esp_Tunnel_ctr N), (76, esp_Untunnel_ctr N), (31, ref24_SameBytes_ctr N), (77, esp_Transport_ctr N), (78, esp_Untransport_ctr N)], G_globs, G_ifs⟩
def law24_EspCarries_S0 : Spec := ⟨[.row 0, .ref 1 T107, .row 2, .row 3, .val .bool], [(.row 5 .u8, .pos 0), (.box 108 T107, .pos 1), (.row 5 .u8, .pos 2), (.row 5 .u8, .pos 3)]⟩
def law24_EspCarries_S1 : Spec := ⟨[.val (.sl .u8), .row 0, .ref 1 T107], [(.row 5 .u8, .pos 1), (.box 108 T107, .pos 2)]⟩
def law24_EspCarries_S2 : Spec := ⟨[.val (.sl .u8), .val (.sl .u8), .val .bool], []⟩
def law24_EspCarries_S3 : Spec := ⟨[.val (.sl .u8), .val (.sl .u8)], []⟩
def law24_EspCarries_S4 : Spec := ⟨[.val .bool], []⟩
def law24_EspCarries_K (_N : Nat) : XE → GS → Option law24_EspCarries_R := retK 0 [4] [false] law24_EspCarries_S4
def law24_EspCarries_L : List Code := (bodyOf (some Tryd.f12))
theorem law24_EspCarries_3_b {E : Env} (N : Nat) (hb : Base Tryd.prog (law24_EspCarries_C N) E 0) : Blk Tryd.prog (law24_EspCarries_C N) E [7, 8, 16, 17, 109] law24_EspCarries_S0 (law24_EspCarries_L.drop 16) (fun y => law24_EspCarries_3 N y.1.1 y.2.1 y.2.2.1 y.2.2.2.1 y.2.2.2.2.1) (law24_EspCarries_K N) :=
 Blk.chunkAt hb 5 (X := (law24_EspCarries_K N .normal)) (NxOk.end (by kernel_rfl)) rfl (fun x => by kernel_rfl)
theorem law24_EspCarries_2_b {E : Env} (N : Nat) (hb : Base Tryd.prog (law24_EspCarries_C N) E 0) : Blk Tryd.prog (law24_EspCarries_C N) E [6, 7, 8] law24_EspCarries_S1 (law24_EspCarries_L.drop 13) (fun y => law24_EspCarries_2 N y.1.1 y.2.1 y.2.2.1) (law24_EspCarries_K N) :=
 Blk.chunkAt hb 3 (X := (goK 0 [7, 8, 16, 17, 109] law24_EspCarries_S0 (fun y => law24_EspCarries_3 N y.1.1 y.2.1 y.2.2.1 y.2.2.2.1 y.2.2.2.2.1))) (NxOk.go hb (law24_EspCarries_3_b N hb)) rfl (fun x => by kernel_rfl)
theorem law24_EspCarries_1_b {E : Env} (N : Nat) (hb : Base Tryd.prog (law24_EspCarries_C N) E 0) : Blk Tryd.prog (law24_EspCarries_C N) E [0, 1, 29] law24_EspCarries_S2 (law24_EspCarries_L.drop 2) (fun y => law24_EspCarries_1 N y.1.1 y.1.2.1 y.1.2.2.1) (law24_EspCarries_K N) :=
 Blk.chunkAt hb 11 (X := (goK 0 [6, 7, 8] law24_EspCarries_S1 (fun y => law24_EspCarries_2 N y.1.1 y.2.1 y.2.2.1))) (NxOk.go hb (law24_EspCarries_2_b N hb)) rfl (fun x => by kernel_rfl)
theorem law24_EspCarries_b {E : Env} (N : Nat) (hb : Base Tryd.prog (law24_EspCarries_C N) E 0) : Blk Tryd.prog (law24_EspCarries_C N) E (List.range law24_EspCarries_S3.ks.length) law24_EspCarries_S3 (law24_EspCarries_L.drop 0) (fun y => law24_EspCarries N y.1.1 y.1.2.1) (law24_EspCarries_K N) :=
 Blk.chunkAt hb 2 (X := (goK 0 [0, 1, 29] law24_EspCarries_S2 (fun y => law24_EspCarries_1 N y.1.1 y.1.2.1 y.1.2.2.1))) (NxOk.go hb (law24_EspCarries_1_b N hb)) rfl (fun x => by kernel_rfl)
def law24_EspCarries_ctr (N : Nat) : Ctr := ⟨law24_EspCarries_S3, law24_EspCarries_S4.un [false], 0, (fun y => law24_EspCarries N y.1.1 y.1.2.1)⟩
theorem law24_EspCarries_ctrs (N : Nat) : CtrsOk Tryd.prog (law24_EspCarries_C N) := ctrs_of (Γ := law24_EspCarries_C N) G_ifs_ok (by
 intro p hp
 simp only [law24_EspCarries_C, List.mem_cons, List.not_mem_nil, or_false] at hp
 rcases hp with rfl | rfl | rfl | rfl | rfl | rfl | rfl | rfl | rfl | rfl | rfl
 · exact law24_awake_ok N
 · exact draw_New_ok N
 · exact draw_Codes_Next_ok N
 · exact law24_packet_ok N
 · exact ref22_See_ok N
 · exact draw_Codes_Packet_ok N
 · exact esp_Tunnel_ok N
 · exact esp_Untunnel_ok N
 · exact ref24_SameBytes_ok N
 · exact esp_Transport_ok N
 · exact esp_Untransport_ok N)
theorem law24_EspCarries_ok (N : Nat) : Ctr.ok Tryd.prog G_globs 12 (law24_EspCarries_ctr N) :=
 ctr_fn (Γ := law24_EspCarries_C N) (rfit := law24_EspCarries_S4) (bs := [false]) (res := [4]) (by kernel_rfl) (tys_ok G_tys_ok) (law24_EspCarries_ctrs N) Tryd.func12 (by kernel_rfl) (by kernel_rfl) Tryd.ntmps12 (by kernel_rfl) (by kernel_rfl) (by kernel_rfl) (by kernel_rfl) (fun E hb => law24_EspCarries_b N hb)
/-! ipsecgate/ipsecgateref10.word -/
abbrev ref10_word_R : Type := ((UInt32 × Unit) × (Unit))
def ref10_word (N : Nat) (b_0 : (List UInt8)) (i_1 : Int) : Option ref10_word_R :=
 let x1 := w64 ((4 : Int) * i_1)
 bif inR x1 b_0.length then
 let x4 := w64 ((w64 ((4 : Int) * i_1)) + (1 : Int))
 bif inR x4 b_0.length then
 let x9 := w64 ((w64 ((4 : Int) * i_1)) + (2 : Int))
 bif inR x9 b_0.length then
 let x14 := w64 ((w64 ((4 : Int) * i_1)) + (3 : Int))
 bif inR x14 b_0.length then
 some ((((((b_0.getD x1.toNat (0 : UInt8)).toUInt32 ||| (shl32 (b_0.getD x4.toNat (0 : UInt8)).toUInt32 8)) ||| (shl32 (b_0.getD x9.toNat (0 : UInt8)).toUInt32 16)) ||| (shl32 (b_0.getD x14.toNat (0 : UInt8)).toUInt32 24)), ()), (()))
 else none
 else none
 else none
 else none
def ref10_word_C (N : Nat) : Ctx := ⟨38, G_tys, [], G_globs, G_ifs⟩
def ref10_word_S0 : Spec := ⟨[.val (.sl .u8), .val .i64], []⟩
def ref10_word_S1 : Spec := ⟨[.val .u32], []⟩
def ref10_word_K (_N : Nat) : XE → GS → Option ref10_word_R := retK 0 [4] [false] ref10_word_S1
def ref10_word_L : List Code := (bodyOf (some Tryd.f217))
theorem ref10_word_b {E : Env} (N : Nat) (hb : Base Tryd.prog (ref10_word_C N) E 0) : Blk Tryd.prog (ref10_word_C N) E (List.range ref10_word_S0.ks.length) ref10_word_S0 (ref10_word_L.drop 0) (fun y => ref10_word N y.1.1 y.1.2.1) (ref10_word_K N) :=
 Blk.chunkAt hb 3 (X := (ref10_word_K N .normal)) (NxOk.end (by kernel_rfl)) rfl (fun x => by kernel_rfl)
def ref10_word_ctr (N : Nat) : Ctr := ⟨ref10_word_S0, ref10_word_S1.un [false], 0, (fun y => ref10_word N y.1.1 y.1.2.1)⟩
theorem ref10_word_ctrs (N : Nat) : CtrsOk Tryd.prog (ref10_word_C N) := ctrs_nil G_ifs_ok rfl
theorem ref10_word_ok (N : Nat) : Ctr.ok Tryd.prog G_globs 217 (ref10_word_ctr N) :=
 ctr_fn (Γ := ref10_word_C N) (rfit := ref10_word_S1) (bs := [false]) (res := [4]) (by kernel_rfl) (tys_ok G_tys_ok) (ref10_word_ctrs N) Tryd.func217 (by kernel_rfl) (by kernel_rfl) Tryd.ntmps217 (by kernel_rfl) (by kernel_rfl) (by kernel_rfl) (by kernel_rfl) (fun E hb => ref10_word_b N hb)
/-! ipsecgate/ipsecgateref10.turn -/
abbrev ref10_turn_R : Type := ((UInt32 × Unit) × (Unit))
def ref10_turn (N : Nat) (x_0 : UInt32) (n_1 : UInt64) : Option ref10_turn_R :=
 some ((((shl32 x_0 n_1.toNat) ||| (shr32 x_0 ((32 : UInt64) - n_1).toNat)), ()), (()))
def ref10_turn_C (N : Nat) : Ctx := ⟨13, G_tys, [], G_globs, G_ifs⟩
def ref10_turn_S0 : Spec := ⟨[.val .u32, .val .u64], []⟩
def ref10_turn_S1 : Spec := ⟨[.val .u32], []⟩
def ref10_turn_K (_N : Nat) : XE → GS → Option ref10_turn_R := retK 0 [4] [false] ref10_turn_S1
def ref10_turn_L : List Code := (bodyOf (some Tryd.f229))
theorem ref10_turn_b {E : Env} (N : Nat) (hb : Base Tryd.prog (ref10_turn_C N) E 0) : Blk Tryd.prog (ref10_turn_C N) E (List.range ref10_turn_S0.ks.length) ref10_turn_S0 (ref10_turn_L.drop 0) (fun y => ref10_turn N y.1.1 y.1.2.1) (ref10_turn_K N) :=
 Blk.chunkAt hb 3 (X := (ref10_turn_K N .normal)) (NxOk.end (by kernel_rfl)) rfl (fun x => by kernel_rfl)
def ref10_turn_ctr (N : Nat) : Ctr := ⟨ref10_turn_S0, ref10_turn_S1.un [false], 0, (fun y => ref10_turn N y.1.1 y.1.2.1)⟩
theorem ref10_turn_ctrs (N : Nat) : CtrsOk Tryd.prog (ref10_turn_C N) := ctrs_nil G_ifs_ok rfl
theorem ref10_turn_ok (N : Nat) : Ctr.ok Tryd.prog G_globs 229 (ref10_turn_ctr N) :=
 ctr_fn (Γ := ref10_turn_C N) (rfit := ref10_turn_S1) (bs := [false]) (res := [4]) (by kernel_rfl) (tys_ok G_tys_ok) (ref10_turn_ctrs N) Tryd.func229 (by kernel_rfl) (by kernel_rfl) Tryd.ntmps229 (by kernel_rfl) (by kernel_rfl) (by kernel_rfl) (by kernel_rfl) (fun E hb => ref10_turn_b N hb)
/-! ipsecgate/ipsecgateref10.Quarter -/
abbrev ref10_Quarter_R : Type := ((UInt32 × UInt32 × UInt32 × UInt32 × Unit) × (Unit))
def ref10_Quarter (N : Nat) (a_0 : UInt32) (b_1 : UInt32) (c_2 : UInt32) (d_3 : UInt32) : Option ref10_Quarter_R :=
 Option.bind (ref10_turn N (d_3 ^^^ (a_0 + b_1)) (16 : UInt64)) fun y3 =>
 Option.bind (ref10_turn N (b_1 ^^^ (c_2 + y3.1.1)) (12 : UInt64)) fun y6 =>
 Option.bind (ref10_turn N (y3.1.1 ^^^ ((a_0 + b_1) + y6.1.1)) (8 : UInt64)) fun y9 =>
 Option.bind (ref10_turn N (y6.1.1 ^^^ ((c_2 + y3.1.1) + y9.1.1)) (7 : UInt64)) fun y12 =>
 some ((((a_0 + b_1) + y6.1.1), y12.1.1, ((c_2 + y3.1.1) + y9.1.1), y9.1.1, ()), (()))
def ref10_Quarter_C (N : Nat) : Ctx := ⟨44, G_tys, [(229, ref10_turn_ctr N)], G_globs, G_ifs⟩
def ref10_Quarter_S0 : Spec := ⟨[.val .u32, .val .u32, .val .u32, .val .u32], []⟩
def ref10_Quarter_K (_N : Nat) : XE → GS → Option ref10_Quarter_R := retK 0 [8, 9, 10, 11] [false, false, false, false] ref10_Quarter_S0
def ref10_Quarter_L : List Code := (bodyOf (some Tryd.f228))
theorem ref10_Quarter_b {E : Env} (N : Nat) (hb : Base Tryd.prog (ref10_Quarter_C N) E 0) : Blk Tryd.prog (ref10_Quarter_C N) E (List.range ref10_Quarter_S0.ks.length) ref10_Quarter_S0 (ref10_Quarter_L.drop 0) (fun y => ref10_Quarter N y.1.1 y.1.2.1 y.1.2.2.1 y.1.2.2.2.1) (ref10_Quarter_K N) :=
 Blk.chunkAt hb 11 (X := (ref10_Quarter_K N .normal)) (NxOk.end (by kernel_rfl)) rfl (fun x => by kernel_rfl)
def ref10_Quarter_ctr (N : Nat) : Ctr := ⟨ref10_Quarter_S0, ref10_Quarter_S0.un [false, false, false, false], 0, (fun y => ref10_Quarter N y.1.1 y.1.2.1 y.1.2.2.1 y.1.2.2.2.1)⟩
theorem ref10_Quarter_ctrs (N : Nat) : CtrsOk Tryd.prog (ref10_Quarter_C N) := ctrs_of (Γ := ref10_Quarter_C N) G_ifs_ok (by
 intro p hp
 simp only [ref10_Quarter_C, List.mem_cons, List.not_mem_nil, or_false] at hp
 rcases hp with rfl
 · exact ref10_turn_ok N)
theorem ref10_Quarter_ok (N : Nat) : Ctr.ok Tryd.prog G_globs 228 (ref10_Quarter_ctr N) :=
 ctr_fn (Γ := ref10_Quarter_C N) (rfit := ref10_Quarter_S0) (bs := [false, false, false, false]) (res := [8, 9, 10, 11]) (by kernel_rfl) (tys_ok G_tys_ok) (ref10_Quarter_ctrs N) Tryd.func228 (by kernel_rfl) (by kernel_rfl) Tryd.ntmps228 (by kernel_rfl) (by kernel_rfl) (by kernel_rfl) (by kernel_rfl) (fun E hb => ref10_Quarter_b N hb)
/-! ipsecgate/ipsecgateref10.mix -/
abbrev ref10_mix_R : Type := (((List UInt32) × Unit) × (Unit))
def ref10_mix (N : Nat) (s_0 : (List UInt32)) (i_1 : Int) (j_2 : Int) (k_3 : Int) (l_4 : Int) : Option ref10_mix_R :=
 bif inR i_1 16 then
 bif inR j_2 16 then
 bif inR k_3 16 then
 bif inR l_4 16 then
 Option.bind (ref10_Quarter N (s_0.getD i_1.toNat (0 : UInt32)) (s_0.getD j_2.toNat (0 : UInt32)) (s_0.getD k_3.toNat (0 : UInt32)) (s_0.getD l_4.toNat (0 : UInt32))) fun y5 =>
 bif inR i_1 16 then
 bif inR j_2 16 then
 bif inR k_3 16 then
 bif inR l_4 16 then
 some ((((((s_0.set i_1.toNat y5.1.1).set j_2.toNat y5.1.2.1).set k_3.toNat y5.1.2.2.1).set l_4.toNat y5.1.2.2.2.1), ()), (()))
 else none
 else none
 else none
 else none
 else none
 else none
 else none
 else none
def ref10_mix_C (N : Nat) : Ctx := ⟨46, G_tys, [(228, ref10_Quarter_ctr N)], G_globs, G_ifs⟩
def ref10_mix_S0 : Spec := ⟨[.val (.arr 16 .u32), .val .i64, .val .i64, .val .i64, .val .i64], []⟩
def ref10_mix_S1 : Spec := ⟨[.fp (.arr 16 .u32)], []⟩
def ref10_mix_K (_N : Nat) : XE → GS → Option ref10_mix_R := retK 0 [10] [true] ref10_mix_S1
def ref10_mix_L : List Code := (bodyOf (some Tryd.f218))
theorem ref10_mix_b {E : Env} (N : Nat) (hb : Base Tryd.prog (ref10_mix_C N) E 0) : Blk Tryd.prog (ref10_mix_C N) E (List.range ref10_mix_S0.ks.length) ref10_mix_S0 (ref10_mix_L.drop 0) (fun y => ref10_mix N y.1.1 y.1.2.1 y.1.2.2.1 y.1.2.2.2.1 y.1.2.2.2.2.1) (ref10_mix_K N) :=
 Blk.chunkAt hb 8 (X := (ref10_mix_K N .normal)) (NxOk.end (by kernel_rfl)) rfl (fun x => by kernel_rfl)
def ref10_mix_ctr (N : Nat) : Ctr := ⟨ref10_mix_S0, ref10_mix_S1.un [true], 0, (fun y => ref10_mix N y.1.1 y.1.2.1 y.1.2.2.1 y.1.2.2.2.1 y.1.2.2.2.2.1)⟩
theorem ref10_mix_ctrs (N : Nat) : CtrsOk Tryd.prog (ref10_mix_C N) := ctrs_of (Γ := ref10_mix_C N) G_ifs_ok (by
 intro p hp
 simp only [ref10_mix_C, List.mem_cons, List.not_mem_nil, or_false] at hp
 rcases hp with rfl
 · exact ref10_Quarter_ok N)
theorem ref10_mix_ok (N : Nat) : Ctr.ok Tryd.prog G_globs 218 (ref10_mix_ctr N) :=
 ctr_fn (Γ := ref10_mix_C N) (rfit := ref10_mix_S1) (bs := [true]) (res := [10]) (by kernel_rfl) (tys_ok G_tys_ok) (ref10_mix_ctrs N) Tryd.func218 (by kernel_rfl) (by kernel_rfl) Tryd.ntmps218 (by kernel_rfl) (by kernel_rfl) (by kernel_rfl) (by kernel_rfl) (fun E hb => ref10_mix_b N hb)
/-! ipsecgate/ipsecgateref10.Block -/
abbrev ref10_Block_R : Type := ((Bool × Unit) × ((List UInt8) × Unit))
def ref10_Block_s3 (N : Nat) (key_0 : (List UInt8)) (counter_1 : UInt32) (nonce_2 : (List UInt8)) (i_9 : Int) (first_8 : (List UInt32)) : Option (Lo (((List UInt8) × UInt32 × (List UInt8) × Int × Unit) × ((List UInt32) × Unit)) ((UInt32 × (List UInt8) × Unit) × ((List UInt32) × Unit)) ref10_Block_R) :=
 bif (decide (i_9 < (8 : Int))) then
 let x5 := w64 ((4 : Int) + i_9)
 Option.bind (ref10_word N key_0 i_9) fun y6 =>
 bif inR x5 16 then
 some (.go ((key_0, counter_1, nonce_2, (w64 (i_9 + (1 : Int))), ()), ((first_8.set x5.toNat y6.1.1), ())))
 else none
 else
 some (.br ((counter_1, nonce_2, ()), (first_8, ())))
def ref10_Block_s6 (N : Nat) (nonce_2 : (List UInt8)) (i_10 : Int) (first_8 : (List UInt32)) : Option (Lo (((List UInt8) × Int × Unit) × ((List UInt32) × Unit)) ((Unit) × ((List UInt32) × Unit)) ref10_Block_R) :=
 bif (decide (i_10 < (3 : Int))) then
 let x11 := w64 ((13 : Int) + i_10)
 Option.bind (ref10_word N nonce_2 i_10) fun y12 =>
 bif inR x11 16 then
 some (.go ((nonce_2, (w64 (i_10 + (1 : Int))), ()), ((first_8.set x11.toNat y12.1.1), ())))
 else none
 else
 some (.br ((()), (first_8, ())))
def ref10_Block_s14 (N : Nat) (round_12 : Int) (i_13 : Int) (first_8 : (List UInt32)) (s_11 : (List UInt32)) : Option (Lo ((Int × Int × Unit) × ((List UInt32) × (List UInt32) × Unit)) ((Int × Unit) × ((List UInt32) × (List UInt32) × Unit)) (Lo ((Int × Unit) × ((List UInt32) × (List UInt32) × Unit)) ((Unit) × ((List UInt32) × (List UInt32) × Unit)) ref10_Block_R)) :=
 bif (decide (i_13 < (4 : Int))) then
 Option.bind (ref10_mix N s_11 i_13 (w64 ((4 : Int) + i_13)) (w64 ((8 : Int) + i_13)) (w64 ((12 : Int) + i_13))) fun y20 =>
 some (.go ((round_12, (w64 (i_13 + (1 : Int))), ()), (first_8, y20.1.1, ())))
 else
 some (.br ((round_12, ()), (first_8, s_11, ())))
def ref10_Block_s17 (N : Nat) (round_12 : Int) (i_14 : Int) (first_8 : (List UInt32)) (s_11 : (List UInt32)) : Option (Lo ((Int × Int × Unit) × ((List UInt32) × (List UInt32) × Unit)) ((Int × Unit) × ((List UInt32) × (List UInt32) × Unit)) (Lo ((Int × Unit) × ((List UInt32) × (List UInt32) × Unit)) ((Unit) × ((List UInt32) × (List UInt32) × Unit)) ref10_Block_R)) :=
 bif (decide (i_14 < (4 : Int))) then
 Option.bind (ref10_mix N s_11 i_14 (w64 ((4 : Int) + ((w64 (i_14 + (1 : Int))).tmod (4 : Int)))) (w64 ((8 : Int) + ((w64 (i_14 + (2 : Int))).tmod (4 : Int)))) (w64 ((12 : Int) + ((w64 (i_14 + (3 : Int))).tmod (4 : Int))))) fun y32 =>
 some (.go ((round_12, (w64 (i_14 + (1 : Int))), ()), (first_8, y32.1.1, ())))
 else
 some (.br ((round_12, ()), (first_8, s_11, ())))
def ref10_Block_18 (N : Nat) (round_12 : Int) (first_8 : (List UInt32)) (s_11 : (List UInt32)) : Option (Lo ((Int × Unit) × ((List UInt32) × (List UInt32) × Unit)) ((Unit) × ((List UInt32) × (List UInt32) × Unit)) ref10_Block_R) :=
 some (.go (((w64 (round_12 + (1 : Int))), ()), (first_8, s_11, ())))
def ref10_Block_16 (N : Nat) (round_12 : Int) (i_14 : Int) (first_8 : (List UInt32)) (s_11 : (List UInt32)) : Option (Lo ((Int × Unit) × ((List UInt32) × (List UInt32) × Unit)) ((Unit) × ((List UInt32) × (List UInt32) × Unit)) ref10_Block_R) :=
 loopK N (fun y => ref10_Block_s17 N y.1.1 y.1.2.1 y.2.1 y.2.2.1) (fun (e : ((Int × Unit) × ((List UInt32) × (List UInt32) × Unit))) => ref10_Block_18 N e.1.1 e.2.1 e.2.2.1) ((round_12, i_14, ()), (first_8, s_11, ()))
def ref10_Block_15 (N : Nat) (round_12 : Int) (first_8 : (List UInt32)) (s_11 : (List UInt32)) : Option (Lo ((Int × Unit) × ((List UInt32) × (List UInt32) × Unit)) ((Unit) × ((List UInt32) × (List UInt32) × Unit)) ref10_Block_R) :=
 ref10_Block_16 N round_12 (0 : Int) first_8 s_11
def ref10_Block_13 (N : Nat) (round_12 : Int) (i_13 : Int) (first_8 : (List UInt32)) (s_11 : (List UInt32)) : Option (Lo ((Int × Unit) × ((List UInt32) × (List UInt32) × Unit)) ((Unit) × ((List UInt32) × (List UInt32) × Unit)) ref10_Block_R) :=
 loopK N (fun y => ref10_Block_s14 N y.1.1 y.1.2.1 y.2.1 y.2.2.1) (fun (e : ((Int × Unit) × ((List UInt32) × (List UInt32) × Unit))) => ref10_Block_15 N e.1.1 e.2.1 e.2.2.1) ((round_12, i_13, ()), (first_8, s_11, ()))
def ref10_Block_12 (N : Nat) (round_12 : Int) (first_8 : (List UInt32)) (s_11 : (List UInt32)) : Option (Lo ((Int × Unit) × ((List UInt32) × (List UInt32) × Unit)) ((Unit) × ((List UInt32) × (List UInt32) × Unit)) ref10_Block_R) :=
 ref10_Block_13 N round_12 (0 : Int) first_8 s_11
def ref10_Block_10 (N : Nat) (round_12 : Int) (first_8 : (List UInt32)) (s_11 : (List UInt32)) : Option (Lo ((Int × Unit) × ((List UInt32) × (List UInt32) × Unit)) ((Unit) × ((List UInt32) × (List UInt32) × Unit)) ref10_Block_R) :=
 ref10_Block_12 N round_12 first_8 s_11
def ref10_Block_s9 (N : Nat) (round_12 : Int) (first_8 : (List UInt32)) (s_11 : (List UInt32)) : Option (Lo ((Int × Unit) × ((List UInt32) × (List UInt32) × Unit)) ((Unit) × ((List UInt32) × (List UInt32) × Unit)) ref10_Block_R) :=
 bif (decide (round_12 < (10 : Int))) then
 ref10_Block_10 N round_12 first_8 s_11
 else
 some (.br ((()), (first_8, s_11, ())))
def ref10_Block_s21 (N : Nat) (i_16 : Int) (first_8 : (List UInt32)) (s_11 : (List UInt32)) (out_15 : (List UInt8)) : Option (Lo ((Int × Unit) × ((List UInt32) × (List UInt32) × (List UInt8) × Unit)) ((Unit) × ((List UInt8) × Unit)) ref10_Block_R) :=
 bif (decide (i_16 < (16 : Int))) then
 bif inR i_16 16 then
 let x36 := (s_11.getD i_16.toNat (0 : UInt32))
 bif inR i_16 16 then
 let x37 := (first_8.getD i_16.toNat (0 : UInt32))
 bif room (out_15.length + ([(x36 + x37).toUInt8, (shr32 (x36 + x37) 8).toUInt8, (shr32 (x36 + x37) 16).toUInt8, (shr32 (x36 + x37) 24).toUInt8] : List UInt8).length) 1 then
 some (.go (((w64 (i_16 + (1 : Int))), ()), (first_8, s_11, (out_15 ++ ([(x36 + x37).toUInt8, (shr32 (x36 + x37) 8).toUInt8, (shr32 (x36 + x37) 16).toUInt8, (shr32 (x36 + x37) 24).toUInt8] : List UInt8)), ())))
 else none
 else none
 else none
 else
 some (.br ((()), (out_15, ())))
def ref10_Block_22 (N : Nat) (out_15 : (List UInt8)) : Option ref10_Block_R :=
 some ((true, ()), (out_15, ()))
def ref10_Block_20 (N : Nat) (i_16 : Int) (first_8 : (List UInt32)) (s_11 : (List UInt32)) (out_15 : (List UInt8)) : Option ref10_Block_R :=
 loopK N (fun y => ref10_Block_s21 N y.1.1 y.2.1 y.2.2.1 y.2.2.2.1) (fun (e : ((Unit) × ((List UInt8) × Unit))) => ref10_Block_22 N e.2.1) ((i_16, ()), (first_8, s_11, out_15, ()))
def ref10_Block_19 (N : Nat) (first_8 : (List UInt32)) (s_11 : (List UInt32)) : Option ref10_Block_R :=
 ref10_Block_20 N (0 : Int) first_8 s_11 ([] : List UInt8)
def ref10_Block_8 (N : Nat) (round_12 : Int) (first_8 : (List UInt32)) (s_11 : (List UInt32)) : Option ref10_Block_R :=
 loopK N (fun y => ref10_Block_s9 N y.1.1 y.2.1 y.2.2.1) (fun (e : ((Unit) × ((List UInt32) × (List UInt32) × Unit))) => ref10_Block_19 N e.2.1 e.2.2.1) ((round_12, ()), (first_8, s_11, ()))
def ref10_Block_7 (N : Nat) (first_8 : (List UInt32)) : Option ref10_Block_R :=
 ref10_Block_8 N (0 : Int) first_8 first_8
def ref10_Block_5 (N : Nat) (nonce_2 : (List UInt8)) (i_10 : Int) (first_8 : (List UInt32)) : Option ref10_Block_R :=
 loopK N (fun y => ref10_Block_s6 N y.1.1 y.1.2.1 y.2.1) (fun (e : ((Unit) × ((List UInt32) × Unit))) => ref10_Block_7 N e.2.1) ((nonce_2, i_10, ()), (first_8, ()))
def ref10_Block_4 (N : Nat) (counter_1 : UInt32) (nonce_2 : (List UInt8)) (first_8 : (List UInt32)) : Option ref10_Block_R :=
 ref10_Block_5 N nonce_2 (0 : Int) (first_8.set 12 counter_1)
def ref10_Block_2 (N : Nat) (key_0 : (List UInt8)) (counter_1 : UInt32) (nonce_2 : (List UInt8)) (i_9 : Int) (first_8 : (List UInt32)) : Option ref10_Block_R :=
 loopK N (fun y => ref10_Block_s3 N y.1.1 y.1.2.1 y.1.2.2.1 y.1.2.2.2.1 y.2.1) (fun (e : ((UInt32 × (List UInt8) × Unit) × ((List UInt32) × Unit))) => ref10_Block_4 N e.1.1 e.1.2.1 e.2.1) ((key_0, counter_1, nonce_2, i_9, ()), (first_8, ()))
def ref10_Block_1 (N : Nat) (key_0 : (List UInt8)) (counter_1 : UInt32) (nonce_2 : (List UInt8)) (t_25 : Bool) : Option ref10_Block_R :=
 bif t_25 then
 some ((false, ()), (([] : List UInt8), ()))
 else
 ref10_Block_2 N key_0 counter_1 nonce_2 (0 : Int) (((((List.replicate 16 (0 : UInt32)).set 0 (1634760805 : UInt32)).set 1 (857760878 : UInt32)).set 2 (2036477234 : UInt32)).set 3 (1797285236 : UInt32))
def ref10_Block (N : Nat) (key_0 : (List UInt8)) (counter_1 : UInt32) (nonce_2 : (List UInt8)) : Option ref10_Block_R :=
 bif (!(decide ((key_0.length : Int) = (32 : Int)))) then
 ref10_Block_1 N key_0 counter_1 nonce_2 true
 else
 ref10_Block_1 N key_0 counter_1 nonce_2 (!(decide ((nonce_2.length : Int) = (12 : Int))))
def ref10_Block_C (N : Nat) : Ctx := ⟨112, G_tys, [(217, ref10_word_ctr N), (218, ref10_mix_ctr N)], G_globs, G_ifs⟩
def ref10_Block_S0 : Spec := ⟨[.val (.sl .u8), .val .u32, .val (.sl .u8), .ref 0 (.arr 16 .u32), .val .i64], [(.box 184 (.arr 16 .u32), .pos 3)]⟩
def ref10_Block_S1 : Spec := ⟨[.val (.sl .u8), .ref 0 (.arr 16 .u32), .val .i64], [(.box 184 (.arr 16 .u32), .pos 1)]⟩
def ref10_Block_S2 : Spec := ⟨[.ref 0 (.arr 16 .u32), .ref 1 (.arr 16 .u32), .val .i64, .val .i64], [(.box 184 (.arr 16 .u32), .pos 0), (.box 184 (.arr 16 .u32), .pos 1)]⟩
def ref10_Block_S3 : Spec := ⟨[.ref 0 (.arr 16 .u32), .ref 1 (.arr 16 .u32), .val .i64], [(.box 184 (.arr 16 .u32), .pos 0), (.box 184 (.arr 16 .u32), .pos 1)]⟩
def ref10_Block_S4 : Spec := ⟨[.ref 0 (.arr 16 .u32), .ref 1 (.arr 16 .u32), .row 2, .val .i64], [(.box 184 (.arr 16 .u32), .pos 0), (.box 184 (.arr 16 .u32), .pos 1), (.row 5 .u8, .pos 2)]⟩
def ref10_Block_S5 : Spec := ⟨[.row 0], [(.row 5 .u8, .pos 0)]⟩
def ref10_Block_S6 : Spec := ⟨[.ref 0 (.arr 16 .u32), .ref 1 (.arr 16 .u32)], [(.box 184 (.arr 16 .u32), .pos 0), (.box 184 (.arr 16 .u32), .pos 1)]⟩
def ref10_Block_S7 : Spec := ⟨[.ref 0 (.arr 16 .u32)], [(.box 184 (.arr 16 .u32), .pos 0)]⟩
def ref10_Block_S8 : Spec := ⟨[.val .u32, .val (.sl .u8), .ref 0 (.arr 16 .u32)], [(.box 184 (.arr 16 .u32), .pos 2)]⟩
def ref10_Block_S9 : Spec := ⟨[.val (.sl .u8), .val .u32, .val (.sl .u8), .val .bool], []⟩
def ref10_Block_S10 : Spec := ⟨[.val (.sl .u8), .val .u32, .val (.sl .u8)], []⟩
def ref10_Block_S11 : Spec := ⟨[.row 0, .val .bool], [(.row 5 .u8, .pos 0)]⟩
def ref10_Block_K (_N : Nat) : XE → GS → Option ref10_Block_R := retK 0 [6, 7] [false, false] ref10_Block_S11
def ref10_Block_L : List Code := (bodyOf (some Tryd.f194))
def ref10_Block_L3 : List Code := (loopOf (ref10_Block_L[5]?))
def ref10_Block_L6 : List Code := (loopOf (ref10_Block_L[8]?))
def ref10_Block_L9 : List Code := (loopOf (ref10_Block_L[11]?))
def ref10_Block_L11b : List Code := (blockOf (ref10_Block_L9[2]?))
def ref10_Block_L14 : List Code := (loopOf (ref10_Block_L11b[1]?))
def ref10_Block_L17 : List Code := (loopOf (ref10_Block_L11b[3]?))
def ref10_Block_L21 : List Code := (loopOf (ref10_Block_L[14]?))
def ref10_Block_K3 (N : Nat) : XE → GS → Option (Lo (((List UInt8) × UInt32 × (List UInt8) × Int × Unit) × ((List UInt32) × Unit)) ((UInt32 × (List UInt8) × Unit) × ((List UInt32) × Unit)) ref10_Block_R) := roundK (some 0) (fit 0 [0, 1, 2, 8, 9] ref10_Block_S0) (fit 0 [1, 2, 8] ref10_Block_S8) (ref10_Block_K N)
def ref10_Block_K6 (N : Nat) : XE → GS → Option (Lo (((List UInt8) × Int × Unit) × ((List UInt32) × Unit)) ((Unit) × ((List UInt32) × Unit)) ref10_Block_R) := roundK (some 2) (fit 0 [2, 8, 10] ref10_Block_S1) (fit 0 [8] ref10_Block_S7) (ref10_Block_K N)
def ref10_Block_K9 (N : Nat) : XE → GS → Option (Lo ((Int × Unit) × ((List UInt32) × (List UInt32) × Unit)) ((Unit) × ((List UInt32) × (List UInt32) × Unit)) ref10_Block_R) := roundK (some 4) (fit 0 [8, 11, 12] ref10_Block_S3) (fit 0 [8, 11] ref10_Block_S6) (ref10_Block_K N)
def ref10_Block_K21 (N : Nat) : XE → GS → Option (Lo ((Int × Unit) × ((List UInt32) × (List UInt32) × (List UInt8) × Unit)) ((Unit) × ((List UInt8) × Unit)) ref10_Block_R) := roundK (some 10) (fit 0 [8, 11, 15, 16] ref10_Block_S4) (fit 0 [15] ref10_Block_S5) (ref10_Block_K N)
def ref10_Block_K11 (N : Nat) : XE → GS → Option (Lo ((Int × Unit) × ((List UInt32) × (List UInt32) × Unit)) ((Unit) × ((List UInt32) × (List UInt32) × Unit)) ref10_Block_R) := blockK 5 (goK 0 [8, 11, 12] ref10_Block_S3 (fun y => ref10_Block_18 N y.1.1 y.2.1 y.2.2.1)) (ref10_Block_K9 N)
def ref10_Block_K14 (N : Nat) : XE → GS → Option (Lo ((Int × Int × Unit) × ((List UInt32) × (List UInt32) × Unit)) ((Int × Unit) × ((List UInt32) × (List UInt32) × Unit)) (Lo ((Int × Unit) × ((List UInt32) × (List UInt32) × Unit)) ((Unit) × ((List UInt32) × (List UInt32) × Unit)) ref10_Block_R)) := roundK (some 6) (fit 0 [8, 11, 12, 13] ref10_Block_S2) (fit 0 [8, 11, 12] ref10_Block_S3) (ref10_Block_K11 N)
def ref10_Block_K17 (N : Nat) : XE → GS → Option (Lo ((Int × Int × Unit) × ((List UInt32) × (List UInt32) × Unit)) ((Int × Unit) × ((List UInt32) × (List UInt32) × Unit)) (Lo ((Int × Unit) × ((List UInt32) × (List UInt32) × Unit)) ((Unit) × ((List UInt32) × (List UInt32) × Unit)) ref10_Block_R)) := roundK (some 8) (fit 0 [8, 11, 12, 14] ref10_Block_S2) (fit 0 [8, 11, 12] ref10_Block_S3) (ref10_Block_K11 N)
theorem ref10_Block_s3_b {E : Env} (N : Nat) (hb : Base Tryd.prog (ref10_Block_C N) E 0) : Blk Tryd.prog (ref10_Block_C N) E [0, 1, 2, 8, 9] ref10_Block_S0 (ref10_Block_L3.drop 0) (fun y => ref10_Block_s3 N y.1.1 y.1.2.1 y.1.2.2.1 y.1.2.2.2.1 y.2.1) (ref10_Block_K3 N) :=
 Blk.chunkAt hb 4 (X := (ref10_Block_K3 N .normal)) (NxOk.end (by kernel_rfl)) rfl (fun x => by kernel_rfl)
theorem ref10_Block_s6_b {E : Env} (N : Nat) (hb : Base Tryd.prog (ref10_Block_C N) E 0) : Blk Tryd.prog (ref10_Block_C N) E [2, 8, 10] ref10_Block_S1 (ref10_Block_L6.drop 0) (fun y => ref10_Block_s6 N y.1.1 y.1.2.1 y.2.1) (ref10_Block_K6 N) :=
 Blk.chunkAt hb 4 (X := (ref10_Block_K6 N .normal)) (NxOk.end (by kernel_rfl)) rfl (fun x => by kernel_rfl)
theorem ref10_Block_s14_b {E : Env} (N : Nat) (hb : Base Tryd.prog (ref10_Block_C N) E 0) : Blk Tryd.prog (ref10_Block_C N) E [8, 11, 12, 13] ref10_Block_S2 (ref10_Block_L14.drop 0) (fun y => ref10_Block_s14 N y.1.1 y.1.2.1 y.2.1 y.2.2.1) (ref10_Block_K14 N) :=
 Blk.chunkAt hb 4 (X := (ref10_Block_K14 N .normal)) (NxOk.end (by kernel_rfl)) rfl (fun x => by kernel_rfl)
theorem ref10_Block_s17_b {E : Env} (N : Nat) (hb : Base Tryd.prog (ref10_Block_C N) E 0) : Blk Tryd.prog (ref10_Block_C N) E [8, 11, 12, 14] ref10_Block_S2 (ref10_Block_L17.drop 0) (fun y => ref10_Block_s17 N y.1.1 y.1.2.1 y.2.1 y.2.2.1) (ref10_Block_K17 N) :=
 Blk.chunkAt hb 4 (X := (ref10_Block_K17 N .normal)) (NxOk.end (by kernel_rfl)) rfl (fun x => by kernel_rfl)
theorem ref10_Block_18_b {E : Env} (N : Nat) (hb : Base Tryd.prog (ref10_Block_C N) E 0) : Blk Tryd.prog (ref10_Block_C N) E [8, 11, 12] ref10_Block_S3 (ref10_Block_L9.drop 3) (fun y => ref10_Block_18 N y.1.1 y.2.1 y.2.2.1) (ref10_Block_K9 N) :=
 Blk.chunkAt hb 1 (X := (ref10_Block_K9 N .normal)) (NxOk.end (by kernel_rfl)) rfl (fun x => by kernel_rfl)
theorem ref10_Block_16_b {E : Env} (N : Nat) (hb : Base Tryd.prog (ref10_Block_C N) E 0) : Blk Tryd.prog (ref10_Block_C N) E [8, 11, 12, 14] ref10_Block_S2 (ref10_Block_L11b.drop 3) (fun y => ref10_Block_16 N y.1.1 y.1.2.1 y.2.1 y.2.2.1) (ref10_Block_K11 N) :=
 Blk.loopAt (Nf := N) (hns := [8, 11, 12, 14]) (ans := [8, 11, 12]) (hc := ref10_Block_S2) (ac := ref10_Block_S3) (bid := 8) (step := (fun y => ref10_Block_s17 N y.1.1 y.1.2.1 y.2.1 y.2.2.1)) (J := (fun e => (ref10_Block_K11 N .normal) (ref10_Block_S3.st [8, 11, 12] e))) hb (by kernel_rfl) (Blk.into (X := (ref10_Block_K11 N .normal)) (NxOk.end (by kernel_rfl)) (fun x => by kernel_rfl)) (ref10_Block_s17_b N hb) (fun x => by kernel_rfl)
theorem ref10_Block_15_b {E : Env} (N : Nat) (hb : Base Tryd.prog (ref10_Block_C N) E 0) : Blk Tryd.prog (ref10_Block_C N) E [8, 11, 12] ref10_Block_S3 (ref10_Block_L11b.drop 2) (fun y => ref10_Block_15 N y.1.1 y.2.1 y.2.2.1) (ref10_Block_K11 N) :=
 Blk.chunkAt hb 1 (X := (goK 0 [8, 11, 12, 14] ref10_Block_S2 (fun y => ref10_Block_16 N y.1.1 y.1.2.1 y.2.1 y.2.2.1))) (NxOk.go hb (ref10_Block_16_b N hb)) rfl (fun x => by kernel_rfl)
theorem ref10_Block_13_b {E : Env} (N : Nat) (hb : Base Tryd.prog (ref10_Block_C N) E 0) : Blk Tryd.prog (ref10_Block_C N) E [8, 11, 12, 13] ref10_Block_S2 (ref10_Block_L11b.drop 1) (fun y => ref10_Block_13 N y.1.1 y.1.2.1 y.2.1 y.2.2.1) (ref10_Block_K11 N) :=
 Blk.loopAt (Nf := N) (hns := [8, 11, 12, 13]) (ans := [8, 11, 12]) (hc := ref10_Block_S2) (ac := ref10_Block_S3) (bid := 6) (step := (fun y => ref10_Block_s14 N y.1.1 y.1.2.1 y.2.1 y.2.2.1)) (J := (fun e => (goK 0 [8, 11, 12] ref10_Block_S3 (fun y => ref10_Block_15 N y.1.1 y.2.1 y.2.2.1)) (ref10_Block_S3.st [8, 11, 12] e))) hb (by kernel_rfl) (Blk.into (X := (goK 0 [8, 11, 12] ref10_Block_S3 (fun y => ref10_Block_15 N y.1.1 y.2.1 y.2.2.1))) (NxOk.go hb (ref10_Block_15_b N hb)) (fun x => by kernel_rfl)) (ref10_Block_s14_b N hb) (fun x => by kernel_rfl)
theorem ref10_Block_12_b {E : Env} (N : Nat) (hb : Base Tryd.prog (ref10_Block_C N) E 0) : Blk Tryd.prog (ref10_Block_C N) E [8, 11, 12] ref10_Block_S3 (ref10_Block_L11b.drop 0) (fun y => ref10_Block_12 N y.1.1 y.2.1 y.2.2.1) (ref10_Block_K11 N) :=
 Blk.chunkAt hb 1 (X := (goK 0 [8, 11, 12, 13] ref10_Block_S2 (fun y => ref10_Block_13 N y.1.1 y.1.2.1 y.2.1 y.2.2.1))) (NxOk.go hb (ref10_Block_13_b N hb)) rfl (fun x => by kernel_rfl)
theorem ref10_Block_10_b {E : Env} (N : Nat) (hb : Base Tryd.prog (ref10_Block_C N) E 0) : Blk Tryd.prog (ref10_Block_C N) E [8, 11, 12] ref10_Block_S3 (ref10_Block_L9.drop 2) (fun y => ref10_Block_10 N y.1.1 y.2.1 y.2.2.1) (ref10_Block_K9 N) :=
 Blk.blockAt (bid := 5) (X := (goK 0 [8, 11, 12] ref10_Block_S3 (fun y => ref10_Block_18 N y.1.1 y.2.1 y.2.2.1))) (Y := (goK 0 [8, 11, 12] ref10_Block_S3 (fun y => ref10_Block_12 N y.1.1 y.2.1 y.2.2.1))) (by kernel_rfl) (NxOk.go hb (ref10_Block_18_b N hb)) (NxOk.go hb (ref10_Block_12_b N hb)) (fun x => by kernel_rfl)
theorem ref10_Block_s9_b {E : Env} (N : Nat) (hb : Base Tryd.prog (ref10_Block_C N) E 0) : Blk Tryd.prog (ref10_Block_C N) E [8, 11, 12] ref10_Block_S3 (ref10_Block_L9.drop 0) (fun y => ref10_Block_s9 N y.1.1 y.2.1 y.2.2.1) (ref10_Block_K9 N) :=
 Blk.chunkAt hb 2 (X := (goK 0 [8, 11, 12] ref10_Block_S3 (fun y => ref10_Block_10 N y.1.1 y.2.1 y.2.2.1))) (NxOk.go hb (ref10_Block_10_b N hb)) rfl (fun x => by kernel_rfl)
theorem ref10_Block_s21_b {E : Env} (N : Nat) (hb : Base Tryd.prog (ref10_Block_C N) E 0) : Blk Tryd.prog (ref10_Block_C N) E [8, 11, 15, 16] ref10_Block_S4 (ref10_Block_L21.drop 0) (fun y => ref10_Block_s21 N y.1.1 y.2.1 y.2.2.1 y.2.2.2.1) (ref10_Block_K21 N) :=
 Blk.chunkAt hb 4 (X := (ref10_Block_K21 N .normal)) (NxOk.end (by kernel_rfl)) rfl (fun x => by kernel_rfl)
theorem ref10_Block_22_b {E : Env} (N : Nat) (hb : Base Tryd.prog (ref10_Block_C N) E 0) : Blk Tryd.prog (ref10_Block_C N) E [15] ref10_Block_S5 (ref10_Block_L.drop 15) (fun y => ref10_Block_22 N y.2.1) (ref10_Block_K N) :=
 Blk.chunkAt hb 2 (X := (ref10_Block_K N .normal)) (NxOk.end (by kernel_rfl)) rfl (fun x => by kernel_rfl)
theorem ref10_Block_20_b {E : Env} (N : Nat) (hb : Base Tryd.prog (ref10_Block_C N) E 0) : Blk Tryd.prog (ref10_Block_C N) E [8, 11, 15, 16] ref10_Block_S4 (ref10_Block_L.drop 14) (fun y => ref10_Block_20 N y.1.1 y.2.1 y.2.2.1 y.2.2.2.1) (ref10_Block_K N) :=
 Blk.loopAt (Nf := N) (hns := [8, 11, 15, 16]) (ans := [15]) (hc := ref10_Block_S4) (ac := ref10_Block_S5) (bid := 10) (step := (fun y => ref10_Block_s21 N y.1.1 y.2.1 y.2.2.1 y.2.2.2.1)) (J := (fun e => (goK 0 [15] ref10_Block_S5 (fun y => ref10_Block_22 N y.2.1)) (ref10_Block_S5.st [15] e))) hb (by kernel_rfl) (Blk.into (X := (goK 0 [15] ref10_Block_S5 (fun y => ref10_Block_22 N y.2.1))) (NxOk.go hb (ref10_Block_22_b N hb)) (fun x => by kernel_rfl)) (ref10_Block_s21_b N hb) (fun x => by kernel_rfl)
theorem ref10_Block_19_b {E : Env} (N : Nat) (hb : Base Tryd.prog (ref10_Block_C N) E 0) : Blk Tryd.prog (ref10_Block_C N) E [8, 11] ref10_Block_S6 (ref10_Block_L.drop 12) (fun y => ref10_Block_19 N y.2.1 y.2.2.1) (ref10_Block_K N) :=
 Blk.chunkAt hb 2 (X := (goK 0 [8, 11, 15, 16] ref10_Block_S4 (fun y => ref10_Block_20 N y.1.1 y.2.1 y.2.2.1 y.2.2.2.1))) (NxOk.go hb (ref10_Block_20_b N hb)) rfl (fun x => by kernel_rfl)
theorem ref10_Block_8_b {E : Env} (N : Nat) (hb : Base Tryd.prog (ref10_Block_C N) E 0) : Blk Tryd.prog (ref10_Block_C N) E [8, 11, 12] ref10_Block_S3 (ref10_Block_L.drop 11) (fun y => ref10_Block_8 N y.1.1 y.2.1 y.2.2.1) (ref10_Block_K N) :=
 Blk.loopAt (Nf := N) (hns := [8, 11, 12]) (ans := [8, 11]) (hc := ref10_Block_S3) (ac := ref10_Block_S6) (bid := 4) (step := (fun y => ref10_Block_s9 N y.1.1 y.2.1 y.2.2.1)) (J := (fun e => (goK 0 [8, 11] ref10_Block_S6 (fun y => ref10_Block_19 N y.2.1 y.2.2.1)) (ref10_Block_S6.st [8, 11] e))) hb (by kernel_rfl) (Blk.into (X := (goK 0 [8, 11] ref10_Block_S6 (fun y => ref10_Block_19 N y.2.1 y.2.2.1))) (NxOk.go hb (ref10_Block_19_b N hb)) (fun x => by kernel_rfl)) (ref10_Block_s9_b N hb) (fun x => by kernel_rfl)
theorem ref10_Block_7_b {E : Env} (N : Nat) (hb : Base Tryd.prog (ref10_Block_C N) E 0) : Blk Tryd.prog (ref10_Block_C N) E [8] ref10_Block_S7 (ref10_Block_L.drop 9) (fun y => ref10_Block_7 N y.2.1) (ref10_Block_K N) :=
 Blk.chunkAt hb 2 (X := (goK 0 [8, 11, 12] ref10_Block_S3 (fun y => ref10_Block_8 N y.1.1 y.2.1 y.2.2.1))) (NxOk.go hb (ref10_Block_8_b N hb)) rfl (fun x => by kernel_rfl)
theorem ref10_Block_5_b {E : Env} (N : Nat) (hb : Base Tryd.prog (ref10_Block_C N) E 0) : Blk Tryd.prog (ref10_Block_C N) E [2, 8, 10] ref10_Block_S1 (ref10_Block_L.drop 8) (fun y => ref10_Block_5 N y.1.1 y.1.2.1 y.2.1) (ref10_Block_K N) :=
 Blk.loopAt (Nf := N) (hns := [2, 8, 10]) (ans := [8]) (hc := ref10_Block_S1) (ac := ref10_Block_S7) (bid := 2) (step := (fun y => ref10_Block_s6 N y.1.1 y.1.2.1 y.2.1)) (J := (fun e => (goK 0 [8] ref10_Block_S7 (fun y => ref10_Block_7 N y.2.1)) (ref10_Block_S7.st [8] e))) hb (by kernel_rfl) (Blk.into (X := (goK 0 [8] ref10_Block_S7 (fun y => ref10_Block_7 N y.2.1))) (NxOk.go hb (ref10_Block_7_b N hb)) (fun x => by kernel_rfl)) (ref10_Block_s6_b N hb) (fun x => by kernel_rfl)
theorem ref10_Block_4_b {E : Env} (N : Nat) (hb : Base Tryd.prog (ref10_Block_C N) E 0) : Blk Tryd.prog (ref10_Block_C N) E [1, 2, 8] ref10_Block_S8 (ref10_Block_L.drop 6) (fun y => ref10_Block_4 N y.1.1 y.1.2.1 y.2.1) (ref10_Block_K N) :=
 Blk.chunkAt hb 2 (X := (goK 0 [2, 8, 10] ref10_Block_S1 (fun y => ref10_Block_5 N y.1.1 y.1.2.1 y.2.1))) (NxOk.go hb (ref10_Block_5_b N hb)) rfl (fun x => by kernel_rfl)
theorem ref10_Block_2_b {E : Env} (N : Nat) (hb : Base Tryd.prog (ref10_Block_C N) E 0) : Blk Tryd.prog (ref10_Block_C N) E [0, 1, 2, 8, 9] ref10_Block_S0 (ref10_Block_L.drop 5) (fun y => ref10_Block_2 N y.1.1 y.1.2.1 y.1.2.2.1 y.1.2.2.2.1 y.2.1) (ref10_Block_K N) :=
 Blk.loopAt (Nf := N) (hns := [0, 1, 2, 8, 9]) (ans := [1, 2, 8]) (hc := ref10_Block_S0) (ac := ref10_Block_S8) (bid := 0) (step := (fun y => ref10_Block_s3 N y.1.1 y.1.2.1 y.1.2.2.1 y.1.2.2.2.1 y.2.1)) (J := (fun e => (goK 0 [1, 2, 8] ref10_Block_S8 (fun y => ref10_Block_4 N y.1.1 y.1.2.1 y.2.1)) (ref10_Block_S8.st [1, 2, 8] e))) hb (by kernel_rfl) (Blk.into (X := (goK 0 [1, 2, 8] ref10_Block_S8 (fun y => ref10_Block_4 N y.1.1 y.1.2.1 y.2.1))) (NxOk.go hb (ref10_Block_4_b N hb)) (fun x => by kernel_rfl)) (ref10_Block_s3_b N hb) (fun x => by kernel_rfl)
theorem ref10_Block_1_b {E : Env} (N : Nat) (hb : Base Tryd.prog (ref10_Block_C N) E 0) : Blk Tryd.prog (ref10_Block_C N) E [0, 1, 2, 25] ref10_Block_S9 (ref10_Block_L.drop 2) (fun y => ref10_Block_1 N y.1.1 y.1.2.1 y.1.2.2.1 y.1.2.2.2.1) (ref10_Block_K N) :=
 Blk.chunkAt hb 3 (X := (goK 0 [0, 1, 2, 8, 9] ref10_Block_S0 (fun y => ref10_Block_2 N y.1.1 y.1.2.1 y.1.2.2.1 y.1.2.2.2.1 y.2.1))) (NxOk.go hb (ref10_Block_2_b N hb)) rfl (fun x => by kernel_rfl)
theorem ref10_Block_b {E : Env} (N : Nat) (hb : Base Tryd.prog (ref10_Block_C N) E 0) : Blk Tryd.prog (ref10_Block_C N) E (List.range ref10_Block_S10.ks.length) ref10_Block_S10 (ref10_Block_L.drop 0) (fun y => ref10_Block N y.1.1 y.1.2.1 y.1.2.2.1) (ref10_Block_K N) :=
 Blk.chunkAt hb 2 (X := (goK 0 [0, 1, 2, 25] ref10_Block_S9 (fun y => ref10_Block_1 N y.1.1 y.1.2.1 y.1.2.2.1 y.1.2.2.2.1))) (NxOk.go hb (ref10_Block_1_b N hb)) rfl (fun x => by kernel_rfl)
def ref10_Block_ctr (N : Nat) : Ctr := ⟨ref10_Block_S10, ref10_Block_S11.un [false, false], 0, (fun y => ref10_Block N y.1.1 y.1.2.1 y.1.2.2.1)⟩
theorem ref10_Block_ctrs (N : Nat) : CtrsOk Tryd.prog (ref10_Block_C N) := ctrs_of (Γ := ref10_Block_C N) G_ifs_ok (by
 intro p hp
 simp only [ref10_Block_C, List.mem_cons, List.not_mem_nil, or_false] at hp
 rcases hp with rfl | rfl
 · exact ref10_word_ok N
 · exact ref10_mix_ok N)
theorem ref10_Block_ok (N : Nat) : Ctr.ok Tryd.prog G_globs 194 (ref10_Block_ctr N) :=
 ctr_fn (Γ := ref10_Block_C N) (rfit := ref10_Block_S11) (bs := [false, false]) (res := [6, 7]) (by kernel_rfl) (tys_ok G_tys_ok) (ref10_Block_ctrs N) Tryd.func194 (by kernel_rfl) (by kernel_rfl) Tryd.ntmps194 (by kernel_rfl) (by kernel_rfl) (by kernel_rfl) (by kernel_rfl) (fun E hb => ref10_Block_b N hb)
end
end Go.Proofs.YtofajgidjkjnpaaDoor