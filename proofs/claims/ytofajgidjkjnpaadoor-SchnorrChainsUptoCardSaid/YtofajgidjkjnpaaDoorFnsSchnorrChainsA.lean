/- Functions of the program as plain functions, each with the proof that the text computes it. -/
import Derived.Test.YtofajgidjkjnpaaDoorGmRule
import Derived.Test.YtofajgidjkjnpaaDoorProg
set_option linter.unusedVariables false
set_option linter.unusedSimpArgs false
namespace Go.Proofs.YtofajgidjkjnpaaDoor
open Go
set_option maxRecDepth 100000
set_option linter.unusedVariables false
noncomputable def G_tys : List (Nat × TI) := [(2, ⟨.i64, 8, 0, false⟩), (3, ⟨.i64, 8, 0, false⟩), (4, ⟨.bool, 1, 0, false⟩), (5, ⟨.u8, 1, 0, false⟩), (6, ⟨.u8, 1, 0, false⟩), (7, ⟨(.pair .i64 (.pair .i64 (.pair .bool (.pair .u8 .unit)))), 24, 0, false⟩), (8, ⟨(.pair .i64 (.pair .i64 (.pair .bool (.pair .u8 .unit)))), 24, 0, false⟩), (9, ⟨.str, 16, 0, false⟩), (10, ⟨.str, 16, 0, false⟩), (11, ⟨.str, 16, 0, false⟩), (12, ⟨.u64, 8, 0, false⟩), (13, ⟨(.pair .str (.pair .u64 .unit)), 24, 0, false⟩), (14, ⟨(.pair .str (.pair .u64 .unit)), 24, 0, false⟩), (22, ⟨(.sl .u8), 24, 5, false⟩), (23, ⟨.u64, 8, 0, false⟩), (28, ⟨.i64, 8, 0, false⟩), (33, ⟨(.sl .u64), 24, 23, false⟩), (36, ⟨(.pair .u64 (.pair (.sl .u8) .unit)), 32, 0, false⟩), (37, ⟨(.sl (.pair .u64 (.pair (.sl .u8) .unit))), 24, 36, false⟩), (40, ⟨.u32, 4, 0, false⟩), (44, ⟨(.arr 2 .i64), 16, 3, false⟩), (46, ⟨(.sl (.arr 2 .i64)), 24, 44, false⟩), (50, ⟨(.sl (.sl .u8)), 24, 22, false⟩), (57, ⟨(.sl (.pair .str (.pair .u64 (.pair .i64 (.pair .i64 (.pair .bool (.pair (.sl .u8) .unit))))))), 24, 66, false⟩), (65, ⟨(.pair .str (.pair .u64 (.pair .i64 (.pair .i64 (.pair .bool (.pair (.sl .u8) .unit)))))), 72, 0, false⟩), (66, ⟨(.pair .str (.pair .u64 (.pair .i64 (.pair .i64 (.pair .bool (.pair (.sl .u8) .unit)))))), 72, 0, false⟩), (69, ⟨(.sl (.sl (.pair .str (.pair .u64 (.pair .i64 (.pair .i64 (.pair .bool (.pair (.sl .u8) .unit)))))))), 24, 57, false⟩), (75, ⟨(.pair .u64 (.pair .u64 (.pair .i64 (.pair .i64 (.pair .i64 (.pair .u32 .unit)))))), 48, 0, false⟩), (76, ⟨(.pair .u64 (.pair .u64 (.pair .i64 (.pair .i64 (.pair .i64 (.pair .u32 .unit)))))), 48, 0, false⟩), (91, ⟨(.pair .i64 (.pair .i64 (.pair .i64 (.pair (.sl .u8) .unit)))), 48, 0, false⟩), (92, ⟨(.pair .i64 (.pair .i64 (.pair .i64 (.pair (.sl .u8) .unit)))), 48, 0, false⟩), (96, ⟨(.sl (.pair .i64 (.pair .i64 (.pair .i64 (.pair (.sl .u8) .unit))))), 24, 92, false⟩), (99, ⟨(.sl .i64), 24, 3, false⟩), (103, ⟨(.pair .i64 (.pair .u64 (.pair .u64 .unit))), 24, 0, false⟩), (104, ⟨(.pair .i64 (.pair .u64 (.pair .u64 .unit))), 24, 0, false⟩), (105, ⟨(.pair (.pair .i64 (.pair .u64 (.pair .u64 .unit))) (.pair (.pair .i64 (.pair .u64 (.pair .u64 .unit))) (.pair .i64 (.pair .i64 (.pair .i64 .unit))))), 72, 0, false⟩), (106, ⟨(.pair (.pair .i64 (.pair .u64 (.pair .u64 .unit))) (.pair (.pair .i64 (.pair .u64 (.pair .u64 .unit))) (.pair .i64 (.pair .i64 (.pair .i64 .unit))))), 72, 0, false⟩), (107, ⟨(.pair (.pair (.pair .i64 (.pair .u64 (.pair .u64 .unit))) (.pair (.pair .i64 (.pair .u64 (.pair .u64 .unit))) (.pair .i64 (.pair .i64 (.pair .i64 .unit))))) (.pair .i64 (.pair .bool (.pair .bool (.pair .i64 .unit))))), 96, 0, false⟩), (108, ⟨(.pair (.pair (.pair .i64 (.pair .u64 (.pair .u64 .unit))) (.pair (.pair .i64 (.pair .u64 (.pair .u64 .unit))) (.pair .i64 (.pair .i64 (.pair .i64 .unit))))) (.pair .i64 (.pair .bool (.pair .bool (.pair .i64 .unit))))), 96, 0, false⟩), (121, ⟨(.pair (.sl .u8) (.pair .i64 .unit)), 32, 0, false⟩), (122, ⟨(.pair (.sl .u8) (.pair .i64 .unit)), 32, 0, false⟩), (132, ⟨.u64, 8, 0, false⟩), (133, ⟨(.arr 2 .u64), 16, 23, false⟩), (134, ⟨(.arr 2 .u64), 16, 23, false⟩), (135, ⟨(.pair (.sl .u8) (.pair .i64 .unit)), 32, 0, false⟩), (136, ⟨(.pair (.sl .u8) (.pair .i64 .unit)), 32, 0, false⟩), (143, ⟨(.sl .str), 24, 9, false⟩), (154, ⟨(.pair (.pair .u64 (.pair .u64 (.pair .i64 (.pair .i64 (.pair .i64 (.pair .u32 .unit)))))) (.pair .i64 (.pair (.sl .u8) .unit))), 80, 0, false⟩), (155, ⟨(.pair (.pair .u64 (.pair .u64 (.pair .i64 (.pair .i64 (.pair .i64 (.pair .u32 .unit)))))) (.pair .i64 (.pair (.sl .u8) .unit))), 80, 0, false⟩), (177, ⟨(.arr 64 .u8), 64, 5, false⟩), (184, ⟨(.arr 16 .u32), 64, 40, false⟩), (192, ⟨(.sl (.pair .i64 (.pair .bool (.pair (.sl .u8) .unit)))), 24, 196, false⟩), (195, ⟨(.pair .i64 (.pair .bool (.pair (.sl .u8) .unit))), 40, 0, false⟩), (196, ⟨(.pair .i64 (.pair .bool (.pair (.sl .u8) .unit))), 40, 0, false⟩), (210, ⟨(.pair (.sl .u8) .unit), 24, 0, false⟩), (211, ⟨(.pair (.sl .u8) .unit), 24, 0, false⟩), (216, ⟨(.sl (.pair .i64 (.pair .u64 (.pair .u64 .unit)))), 24, 104, false⟩), (218, ⟨(.arr 8 .u32), 32, 40, false⟩), (243, ⟨(.arr 64 .u32), 256, 40, false⟩)]
noncomputable def g_sha256_initial : (List UInt32) := [1779033703, 3144134277, 1013904242, 2773480762, 1359893119, 2600822924, 528734635, 1541459225]
noncomputable def g_sha256_constants : (List UInt32) := [1116352408, 1899447441, 3049323471, 3921009573, 961987163, 1508970993, 2453635748, 2870763221, 3624381080, 310598401, 607225278, 1426881987, 1925078388, 2162078206, 2614888103, 3248222580, 3835390401, 4022224774, 264347078, 604807628, 770255983, 1249150122, 1555081692, 1996064986, 2554220882, 2821834349, 2952996808, 3210313671, 3336571891, 3584528711, 113926993, 338241895, 666307205, 773529912, 1294757372, 1396182291, 1695183700, 1986661051, 2177026350, 2456956037, 2730485921, 2820302411, 3259730800, 3345764771, 3516065817, 3600352804, 4094571909, 275423344, 430227734, 506948616, 659060556, 883997877, 958139571, 1322822218, 1537002063, 1747873779, 1955562222, 2024104815, 2227730452, 2361852424, 2428436474, 2756734187, 3204031479, 3329325298]
noncomputable def G_globs : List (Nat × Dt) := [(0, ⟨(.arr 8 .u32), g_sha256_initial⟩), (4, ⟨(.arr 64 .u32), g_sha256_constants⟩)]
theorem G_tys_ok : tyChk Tryd.prog G_tys = true := by kernel_rfl
end Go.Proofs.YtofajgidjkjnpaaDoor
namespace Go.Proofs.YtofajgidjkjnpaaDoor
open Go
set_option maxRecDepth 100000
set_option linter.unusedVariables false
/-! ipsecgate/group.valid -/
abbrev group_valid_R : Type := ((Bool × Unit) × (Unit))
noncomputable def group_valid (N : Nat) (secret_0 : UInt64) : Option group_valid_R :=
  bif (decide ((1 : UInt64) ≤ secret_0)) then
    some (((decide (secret_0 < (2305843009213688669 : UInt64))), ()), (()))
  else
    some ((false, ()), (()))
noncomputable def group_valid_C (N : Nat) : Ctx := ⟨9, G_tys, [], G_globs⟩
noncomputable def group_valid_S0 : Spec := ⟨[.val .u64], []⟩
noncomputable def group_valid_S1 : Spec := ⟨[.val .bool], []⟩
noncomputable def group_valid_K (_N : Nat) : XE → GS → Option group_valid_R := retK 0 [2] [false] group_valid_S1
noncomputable def group_valid_L : List Code := (bodyOf (some Tryd.f154))
theorem group_valid_b {E : Env} (N : Nat) (hb : Base Tryd.prog (group_valid_C N) E 0) : Blk Tryd.prog (group_valid_C N) E (List.range group_valid_S0.ks.length) group_valid_S0 (group_valid_L.drop 0) (fun y => group_valid N y.1.1) (group_valid_K N) :=
  Blk.chunkAt hb 3 (X := (group_valid_K N .normal)) (NxOk.end (by kernel_rfl)) rfl (fun x => by kernel_rfl)
noncomputable def group_valid_ctr (N : Nat) : Ctr := ⟨group_valid_S0, group_valid_S1.un [false], 0, (fun y => group_valid N y.1.1)⟩
theorem group_valid_ctrs (N : Nat) : CtrsOk Tryd.prog (group_valid_C N) := ctrs_nil rfl
theorem group_valid_ok (N : Nat) : Ctr.ok Tryd.prog G_globs 154 (group_valid_ctr N) :=
  ctr_fn (Γ := group_valid_C N) (rfit := group_valid_S1) (bs := [false]) (res := [2]) (by kernel_rfl) (tys_ok G_tys_ok) (group_valid_ctrs N) Tryd.func154 (by kernel_rfl) (by kernel_rfl) Tryd.ntmps154 (by kernel_rfl) (by kernel_rfl) (by kernel_rfl) (by kernel_rfl) (fun E hb => group_valid_b N hb)
end Go.Proofs.YtofajgidjkjnpaaDoor
namespace Go.Proofs.YtofajgidjkjnpaaDoor
open Go
set_option maxRecDepth 100000
set_option linter.unusedVariables false
/-! math/bits.Mul64 -/
abbrev math_bits_Mul64_R : Type := ((UInt64 × UInt64 × Unit) × (Unit))
noncomputable def math_bits_Mul64 (N : Nat) (x_0 : UInt64) (y_1 : UInt64) : Option math_bits_Mul64_R :=
  let x1 := x_0 &&& (4294967295 : UInt64)
  let x3 := y_1 &&& (4294967295 : UInt64)
  some ((((((shr64 x_0 32) * (shr64 y_1 32)) + (shr64 (((shr64 x_0 32) * x3) + (shr64 (x1 * x3) 32)) 32)) + (shr64 (((((shr64 x_0 32) * x3) + (shr64 (x1 * x3) 32)) &&& (4294967295 : UInt64)) + (x1 * (shr64 y_1 32))) 32)), (x_0 * y_1), ()), (()))
noncomputable def math_bits_Mul64_C (N : Nat) : Ctx := ⟨51, G_tys, [], G_globs⟩
noncomputable def math_bits_Mul64_S0 : Spec := ⟨[.val .u64, .val .u64], []⟩
noncomputable def math_bits_Mul64_K (_N : Nat) : XE → GS → Option math_bits_Mul64_R := retK 0 [4, 5] [false, false] math_bits_Mul64_S0
noncomputable def math_bits_Mul64_L : List Code := (bodyOf (some Tryd.f157))
theorem math_bits_Mul64_b {E : Env} (N : Nat) (hb : Base Tryd.prog (math_bits_Mul64_C N) E 0) : Blk Tryd.prog (math_bits_Mul64_C N) E (List.range math_bits_Mul64_S0.ks.length) math_bits_Mul64_S0 (math_bits_Mul64_L.drop 0) (fun y => math_bits_Mul64 N y.1.1 y.1.2.1) (math_bits_Mul64_K N) :=
  Blk.chunkAt hb 13 (X := (math_bits_Mul64_K N .normal)) (NxOk.end (by kernel_rfl)) rfl (fun x => by kernel_rfl)
noncomputable def math_bits_Mul64_ctr (N : Nat) : Ctr := ⟨math_bits_Mul64_S0, math_bits_Mul64_S0.un [false, false], 0, (fun y => math_bits_Mul64 N y.1.1 y.1.2.1)⟩
theorem math_bits_Mul64_ctrs (N : Nat) : CtrsOk Tryd.prog (math_bits_Mul64_C N) := ctrs_nil rfl
theorem math_bits_Mul64_ok (N : Nat) : Ctr.ok Tryd.prog G_globs 157 (math_bits_Mul64_ctr N) :=
  ctr_fn (Γ := math_bits_Mul64_C N) (rfit := math_bits_Mul64_S0) (bs := [false, false]) (res := [4, 5]) (by kernel_rfl) (tys_ok G_tys_ok) (math_bits_Mul64_ctrs N) Tryd.func157 (by kernel_rfl) (by kernel_rfl) Tryd.ntmps157 (by kernel_rfl) (by kernel_rfl) (by kernel_rfl) (by kernel_rfl) (fun E hb => math_bits_Mul64_b N hb)
end Go.Proofs.YtofajgidjkjnpaaDoor
namespace Go.Proofs.YtofajgidjkjnpaaDoor
open Go
set_option maxRecDepth 100000
set_option linter.unusedVariables false
/-! math/bits.Len64 -/
abbrev math_bits_Len64_R : Type := ((Int × Unit) × (Unit))
noncomputable def math_bits_Len64_3 (N : Nat) (x_0 : UInt64) (n_2 : Int) : Option math_bits_Len64_R :=
  bif inR (x_0.toUInt8.toNat : Int) (([0, 1, 2, 2, 3, 3, 3, 3, 4, 4, 4, 4, 4, 4, 4, 4, 5, 5, 5, 5, 5, 5, 5, 5, 5, 5, 5, 5, 5, 5, 5, 5, 6, 6, 6, 6, 6, 6, 6, 6, 6, 6, 6, 6, 6, 6, 6, 6, 6, 6, 6, 6, 6, 6, 6, 6, 6, 6, 6, 6, 6, 6, 6, 6, 7, 7, 7, 7, 7, 7, 7, 7, 7, 7, 7, 7, 7, 7, 7, 7, 7, 7, 7, 7, 7, 7, 7, 7, 7, 7, 7, 7, 7, 7, 7, 7, 7, 7, 7, 7, 7, 7, 7, 7, 7, 7, 7, 7, 7, 7, 7, 7, 7, 7, 7, 7, 7, 7, 7, 7, 7, 7, 7, 7, 7, 7, 7, 7, 8, 8, 8, 8, 8, 8, 8, 8, 8, 8, 8, 8, 8, 8, 8, 8, 8, 8, 8, 8, 8, 8, 8, 8, 8, 8, 8, 8, 8, 8, 8, 8, 8, 8, 8, 8, 8, 8, 8, 8, 8, 8, 8, 8, 8, 8, 8, 8, 8, 8, 8, 8, 8, 8, 8, 8, 8, 8, 8, 8, 8, 8, 8, 8, 8, 8, 8, 8, 8, 8, 8, 8, 8, 8, 8, 8, 8, 8, 8, 8, 8, 8, 8, 8, 8, 8, 8, 8, 8, 8, 8, 8, 8, 8, 8, 8, 8, 8, 8, 8, 8, 8, 8, 8, 8, 8, 8, 8, 8, 8, 8, 8, 8, 8, 8, 8, 8, 8, 8, 8, 8, 8, 8, 8, 8, 8, 8, 8] : List UInt8).length) then
  some (((w64 (n_2 + ((([0, 1, 2, 2, 3, 3, 3, 3, 4, 4, 4, 4, 4, 4, 4, 4, 5, 5, 5, 5, 5, 5, 5, 5, 5, 5, 5, 5, 5, 5, 5, 5, 6, 6, 6, 6, 6, 6, 6, 6, 6, 6, 6, 6, 6, 6, 6, 6, 6, 6, 6, 6, 6, 6, 6, 6, 6, 6, 6, 6, 6, 6, 6, 6, 7, 7, 7, 7, 7, 7, 7, 7, 7, 7, 7, 7, 7, 7, 7, 7, 7, 7, 7, 7, 7, 7, 7, 7, 7, 7, 7, 7, 7, 7, 7, 7, 7, 7, 7, 7, 7, 7, 7, 7, 7, 7, 7, 7, 7, 7, 7, 7, 7, 7, 7, 7, 7, 7, 7, 7, 7, 7, 7, 7, 7, 7, 7, 7, 8, 8, 8, 8, 8, 8, 8, 8, 8, 8, 8, 8, 8, 8, 8, 8, 8, 8, 8, 8, 8, 8, 8, 8, 8, 8, 8, 8, 8, 8, 8, 8, 8, 8, 8, 8, 8, 8, 8, 8, 8, 8, 8, 8, 8, 8, 8, 8, 8, 8, 8, 8, 8, 8, 8, 8, 8, 8, 8, 8, 8, 8, 8, 8, 8, 8, 8, 8, 8, 8, 8, 8, 8, 8, 8, 8, 8, 8, 8, 8, 8, 8, 8, 8, 8, 8, 8, 8, 8, 8, 8, 8, 8, 8, 8, 8, 8, 8, 8, 8, 8, 8, 8, 8, 8, 8, 8, 8, 8, 8, 8, 8, 8, 8, 8, 8, 8, 8, 8, 8, 8, 8, 8, 8, 8, 8, 8, 8] : List UInt8).getD ((x_0.toUInt8.toNat : Int).toNat) 0).toNat : Int))), ()), (()))
  else none
noncomputable def math_bits_Len64_2 (N : Nat) (x_0 : UInt64) (n_2 : Int) : Option math_bits_Len64_R :=
  bif (decide ((256 : UInt64) ≤ x_0)) then
    math_bits_Len64_3 N (shr64 x_0 8) (w64 (n_2 + (8 : Int)))
  else
    math_bits_Len64_3 N x_0 n_2
noncomputable def math_bits_Len64_1 (N : Nat) (x_0 : UInt64) (n_2 : Int) : Option math_bits_Len64_R :=
  bif (decide ((65536 : UInt64) ≤ x_0)) then
    math_bits_Len64_2 N (shr64 x_0 16) (w64 (n_2 + (16 : Int)))
  else
    math_bits_Len64_2 N x_0 n_2
noncomputable def math_bits_Len64 (N : Nat) (x_0 : UInt64) : Option math_bits_Len64_R :=
  bif (decide ((4294967296 : UInt64) ≤ x_0)) then
    math_bits_Len64_1 N (shr64 x_0 32) (32 : Int)
  else
    math_bits_Len64_1 N x_0 (0 : Int)
noncomputable def math_bits_Len64_C (N : Nat) : Ctx := ⟨25, G_tys, [], G_globs⟩
noncomputable def math_bits_Len64_S0 : Spec := ⟨[.val .u64, .val .i64], []⟩
noncomputable def math_bits_Len64_S1 : Spec := ⟨[.val .u64], []⟩
noncomputable def math_bits_Len64_S2 : Spec := ⟨[.val .i64], []⟩
noncomputable def math_bits_Len64_K (_N : Nat) : XE → GS → Option math_bits_Len64_R := retK 0 [2] [false] math_bits_Len64_S2
noncomputable def math_bits_Len64_L : List Code := (bodyOf (some Tryd.f216))
theorem math_bits_Len64_3_b {E : Env} (N : Nat) (hb : Base Tryd.prog (math_bits_Len64_C N) E 0) : Blk Tryd.prog (math_bits_Len64_C N) E [0, 2] math_bits_Len64_S0 (math_bits_Len64_L.drop 7) (fun y => math_bits_Len64_3 N y.1.1 y.1.2.1) (math_bits_Len64_K N) :=
  Blk.chunkAt hb 2 (X := (math_bits_Len64_K N .normal)) (NxOk.end (by kernel_rfl)) rfl (fun x => by kernel_rfl)
theorem math_bits_Len64_2_b {E : Env} (N : Nat) (hb : Base Tryd.prog (math_bits_Len64_C N) E 0) : Blk Tryd.prog (math_bits_Len64_C N) E [0, 2] math_bits_Len64_S0 (math_bits_Len64_L.drop 5) (fun y => math_bits_Len64_2 N y.1.1 y.1.2.1) (math_bits_Len64_K N) :=
  Blk.chunkAt hb 2 (X := (goK 0 [0, 2] math_bits_Len64_S0 (fun y => math_bits_Len64_3 N y.1.1 y.1.2.1))) (NxOk.go hb (math_bits_Len64_3_b N hb)) rfl (fun x => by kernel_rfl)
theorem math_bits_Len64_1_b {E : Env} (N : Nat) (hb : Base Tryd.prog (math_bits_Len64_C N) E 0) : Blk Tryd.prog (math_bits_Len64_C N) E [0, 2] math_bits_Len64_S0 (math_bits_Len64_L.drop 3) (fun y => math_bits_Len64_1 N y.1.1 y.1.2.1) (math_bits_Len64_K N) :=
  Blk.chunkAt hb 2 (X := (goK 0 [0, 2] math_bits_Len64_S0 (fun y => math_bits_Len64_2 N y.1.1 y.1.2.1))) (NxOk.go hb (math_bits_Len64_2_b N hb)) rfl (fun x => by kernel_rfl)
theorem math_bits_Len64_b {E : Env} (N : Nat) (hb : Base Tryd.prog (math_bits_Len64_C N) E 0) : Blk Tryd.prog (math_bits_Len64_C N) E (List.range math_bits_Len64_S1.ks.length) math_bits_Len64_S1 (math_bits_Len64_L.drop 0) (fun y => math_bits_Len64 N y.1.1) (math_bits_Len64_K N) :=
  Blk.chunkAt hb 3 (X := (goK 0 [0, 2] math_bits_Len64_S0 (fun y => math_bits_Len64_1 N y.1.1 y.1.2.1))) (NxOk.go hb (math_bits_Len64_1_b N hb)) rfl (fun x => by kernel_rfl)
noncomputable def math_bits_Len64_ctr (N : Nat) : Ctr := ⟨math_bits_Len64_S1, math_bits_Len64_S2.un [false], 0, (fun y => math_bits_Len64 N y.1.1)⟩
theorem math_bits_Len64_ctrs (N : Nat) : CtrsOk Tryd.prog (math_bits_Len64_C N) := ctrs_nil rfl
theorem math_bits_Len64_ok (N : Nat) : Ctr.ok Tryd.prog G_globs 216 (math_bits_Len64_ctr N) :=
  ctr_fn (Γ := math_bits_Len64_C N) (rfit := math_bits_Len64_S2) (bs := [false]) (res := [2]) (by kernel_rfl) (tys_ok G_tys_ok) (math_bits_Len64_ctrs N) Tryd.func216 (by kernel_rfl) (by kernel_rfl) Tryd.ntmps216 (by kernel_rfl) (by kernel_rfl) (by kernel_rfl) (by kernel_rfl) (fun E hb => math_bits_Len64_b N hb)
end Go.Proofs.YtofajgidjkjnpaaDoor
namespace Go.Proofs.YtofajgidjkjnpaaDoor
open Go
set_option maxRecDepth 100000
set_option linter.unusedVariables false
/-! math/bits.LeadingZeros64 -/
abbrev math_bits_LeadingZeros64_R : Type := ((Int × Unit) × (Unit))
noncomputable def math_bits_LeadingZeros64 (N : Nat) (x_0 : UInt64) : Option math_bits_LeadingZeros64_R :=
  Option.bind (math_bits_Len64 N x_0) fun y1 =>
  some (((w64 ((64 : Int) - y1.1.1)), ()), (()))
noncomputable def math_bits_LeadingZeros64_C (N : Nat) : Ctx := ⟨6, G_tys, [(216, math_bits_Len64_ctr N)], G_globs⟩
noncomputable def math_bits_LeadingZeros64_S0 : Spec := ⟨[.val .u64], []⟩
noncomputable def math_bits_LeadingZeros64_S1 : Spec := ⟨[.val .i64], []⟩
noncomputable def math_bits_LeadingZeros64_K (_N : Nat) : XE → GS → Option math_bits_LeadingZeros64_R := retK 0 [2] [false] math_bits_LeadingZeros64_S1
noncomputable def math_bits_LeadingZeros64_L : List Code := (bodyOf (some Tryd.f193))
theorem math_bits_LeadingZeros64_b {E : Env} (N : Nat) (hb : Base Tryd.prog (math_bits_LeadingZeros64_C N) E 0) : Blk Tryd.prog (math_bits_LeadingZeros64_C N) E (List.range math_bits_LeadingZeros64_S0.ks.length) math_bits_LeadingZeros64_S0 (math_bits_LeadingZeros64_L.drop 0) (fun y => math_bits_LeadingZeros64 N y.1.1) (math_bits_LeadingZeros64_K N) :=
  Blk.chunkAt hb 3 (X := (math_bits_LeadingZeros64_K N .normal)) (NxOk.end (by kernel_rfl)) rfl (fun x => by kernel_rfl)
noncomputable def math_bits_LeadingZeros64_ctr (N : Nat) : Ctr := ⟨math_bits_LeadingZeros64_S0, math_bits_LeadingZeros64_S1.un [false], 0, (fun y => math_bits_LeadingZeros64 N y.1.1)⟩
theorem math_bits_LeadingZeros64_ctrs (N : Nat) : CtrsOk Tryd.prog (math_bits_LeadingZeros64_C N) := ctrs_of (Γ := math_bits_LeadingZeros64_C N) (by
  intro p hp
  simp only [math_bits_LeadingZeros64_C, List.mem_cons, List.not_mem_nil, or_false] at hp
  rcases hp with rfl
  · exact math_bits_Len64_ok N)
theorem math_bits_LeadingZeros64_ok (N : Nat) : Ctr.ok Tryd.prog G_globs 193 (math_bits_LeadingZeros64_ctr N) :=
  ctr_fn (Γ := math_bits_LeadingZeros64_C N) (rfit := math_bits_LeadingZeros64_S1) (bs := [false]) (res := [2]) (by kernel_rfl) (tys_ok G_tys_ok) (math_bits_LeadingZeros64_ctrs N) Tryd.func193 (by kernel_rfl) (by kernel_rfl) Tryd.ntmps193 (by kernel_rfl) (by kernel_rfl) (by kernel_rfl) (by kernel_rfl) (fun E hb => math_bits_LeadingZeros64_b N hb)
end Go.Proofs.YtofajgidjkjnpaaDoor
namespace Go.Proofs.YtofajgidjkjnpaaDoor
open Go
set_option maxRecDepth 100000
set_option linter.unusedVariables false
/-! math/bits.Div64 -/
abbrev math_bits_Div64_R : Type := ((UInt64 × UInt64 × Unit) × (Unit))
noncomputable def math_bits_Div64_5 (N : Nat) (y_2 : UInt64) (s_8 : UInt64) (yn1_9 : UInt64) (yn0_10 : UInt64) (un32_11 : UInt64) (un1_13 : UInt64) (un0_14 : UInt64) (q1_15 : UInt64) (rhat_16 : UInt64) (t_78 : Bool) : Option (Lo ((UInt64 × UInt64 × UInt64 × UInt64 × UInt64 × UInt64 × UInt64 × UInt64 × UInt64 × Unit) × (Unit)) ((UInt64 × UInt64 × UInt64 × UInt64 × UInt64 × UInt64 × UInt64 × UInt64 × Unit) × (Unit)) math_bits_Div64_R) :=
  bif t_78 then
    let x22 := q1_15 - (1 : UInt64)
    let x23 := rhat_16 + yn1_9
    bif (decide ((4294967296 : UInt64) ≤ x23)) then
      some (.br ((y_2, s_8, yn1_9, yn0_10, un32_11, un1_13, un0_14, x22, ()), (())))
    else
      some (.go ((y_2, s_8, yn1_9, yn0_10, un32_11, un1_13, un0_14, x22, x23, ()), (())))
  else
    some (.br ((y_2, s_8, yn1_9, yn0_10, un32_11, un1_13, un0_14, q1_15, ()), (())))
noncomputable def math_bits_Div64_s4 (N : Nat) (y_2 : UInt64) (s_8 : UInt64) (yn1_9 : UInt64) (yn0_10 : UInt64) (un32_11 : UInt64) (un1_13 : UInt64) (un0_14 : UInt64) (q1_15 : UInt64) (rhat_16 : UInt64) : Option (Lo ((UInt64 × UInt64 × UInt64 × UInt64 × UInt64 × UInt64 × UInt64 × UInt64 × UInt64 × Unit) × (Unit)) ((UInt64 × UInt64 × UInt64 × UInt64 × UInt64 × UInt64 × UInt64 × UInt64 × Unit) × (Unit)) math_bits_Div64_R) :=
  bif (decide ((4294967296 : UInt64) ≤ q1_15)) then
    math_bits_Div64_5 N y_2 s_8 yn1_9 yn0_10 un32_11 un1_13 un0_14 q1_15 rhat_16 true
  else
    math_bits_Div64_5 N y_2 s_8 yn1_9 yn0_10 un32_11 un1_13 un0_14 q1_15 rhat_16 (decide ((((4294967296 : UInt64) * rhat_16) + un1_13) < (q1_15 * yn0_10)))
noncomputable def math_bits_Div64_9 (N : Nat) (y_2 : UInt64) (s_8 : UInt64) (yn1_9 : UInt64) (yn0_10 : UInt64) (un0_14 : UInt64) (q1_15 : UInt64) (rhat_16 : UInt64) (un21_17 : UInt64) (q0_18 : UInt64) (t_113 : Bool) : Option (Lo ((UInt64 × UInt64 × UInt64 × UInt64 × UInt64 × UInt64 × UInt64 × UInt64 × UInt64 × Unit) × (Unit)) ((UInt64 × UInt64 × UInt64 × UInt64 × UInt64 × UInt64 × Unit) × (Unit)) math_bits_Div64_R) :=
  bif t_113 then
    let x37 := q0_18 - (1 : UInt64)
    let x38 := rhat_16 + yn1_9
    bif (decide ((4294967296 : UInt64) ≤ x38)) then
      some (.br ((y_2, s_8, un0_14, q1_15, un21_17, x37, ()), (())))
    else
      some (.go ((y_2, s_8, yn1_9, yn0_10, un0_14, q1_15, x38, un21_17, x37, ()), (())))
  else
    some (.br ((y_2, s_8, un0_14, q1_15, un21_17, q0_18, ()), (())))
noncomputable def math_bits_Div64_s8 (N : Nat) (y_2 : UInt64) (s_8 : UInt64) (yn1_9 : UInt64) (yn0_10 : UInt64) (un0_14 : UInt64) (q1_15 : UInt64) (rhat_16 : UInt64) (un21_17 : UInt64) (q0_18 : UInt64) : Option (Lo ((UInt64 × UInt64 × UInt64 × UInt64 × UInt64 × UInt64 × UInt64 × UInt64 × UInt64 × Unit) × (Unit)) ((UInt64 × UInt64 × UInt64 × UInt64 × UInt64 × UInt64 × Unit) × (Unit)) math_bits_Div64_R) :=
  bif (decide ((4294967296 : UInt64) ≤ q0_18)) then
    math_bits_Div64_9 N y_2 s_8 yn1_9 yn0_10 un0_14 q1_15 rhat_16 un21_17 q0_18 true
  else
    math_bits_Div64_9 N y_2 s_8 yn1_9 yn0_10 un0_14 q1_15 rhat_16 un21_17 q0_18 (decide ((((4294967296 : UInt64) * rhat_16) + un0_14) < (q0_18 * yn0_10)))
noncomputable def math_bits_Div64_10 (N : Nat) (y_2 : UInt64) (s_8 : UInt64) (un0_14 : UInt64) (q1_15 : UInt64) (un21_17 : UInt64) (q0_18 : UInt64) : Option math_bits_Div64_R :=
  some ((((q1_15 * (4294967296 : UInt64)) + q0_18), (shr64 (((un21_17 * (4294967296 : UInt64)) + un0_14) - (q0_18 * y_2)) s_8.toNat), ()), (()))
noncomputable def math_bits_Div64_7 (N : Nat) (y_2 : UInt64) (s_8 : UInt64) (yn1_9 : UInt64) (yn0_10 : UInt64) (un0_14 : UInt64) (q1_15 : UInt64) (rhat_16 : UInt64) (un21_17 : UInt64) (q0_18 : UInt64) : Option math_bits_Div64_R :=
  loopK N (fun y => math_bits_Div64_s8 N y.1.1 y.1.2.1 y.1.2.2.1 y.1.2.2.2.1 y.1.2.2.2.2.1 y.1.2.2.2.2.2.1 y.1.2.2.2.2.2.2.1 y.1.2.2.2.2.2.2.2.1 y.1.2.2.2.2.2.2.2.2.1) (fun (e : ((UInt64 × UInt64 × UInt64 × UInt64 × UInt64 × UInt64 × Unit) × (Unit))) => math_bits_Div64_10 N e.1.1 e.1.2.1 e.1.2.2.1 e.1.2.2.2.1 e.1.2.2.2.2.1 e.1.2.2.2.2.2.1) ((y_2, s_8, yn1_9, yn0_10, un0_14, q1_15, rhat_16, un21_17, q0_18, ()), (()))
noncomputable def math_bits_Div64_6 (N : Nat) (y_2 : UInt64) (s_8 : UInt64) (yn1_9 : UInt64) (yn0_10 : UInt64) (un32_11 : UInt64) (un1_13 : UInt64) (un0_14 : UInt64) (q1_15 : UInt64) : Option math_bits_Div64_R :=
  let x29 := un32_11 * (4294967296 : UInt64)
  bif !(decide (yn1_9 = 0)) then
  math_bits_Div64_7 N y_2 s_8 yn1_9 yn0_10 un0_14 q1_15 (((x29 + un1_13) - (q1_15 * y_2)) - ((((x29 + un1_13) - (q1_15 * y_2)) / yn1_9) * yn1_9)) ((x29 + un1_13) - (q1_15 * y_2)) (((x29 + un1_13) - (q1_15 * y_2)) / yn1_9)
  else none
noncomputable def math_bits_Div64_3 (N : Nat) (y_2 : UInt64) (s_8 : UInt64) (yn1_9 : UInt64) (yn0_10 : UInt64) (un32_11 : UInt64) (un1_13 : UInt64) (un0_14 : UInt64) (q1_15 : UInt64) (rhat_16 : UInt64) : Option math_bits_Div64_R :=
  loopK N (fun y => math_bits_Div64_s4 N y.1.1 y.1.2.1 y.1.2.2.1 y.1.2.2.2.1 y.1.2.2.2.2.1 y.1.2.2.2.2.2.1 y.1.2.2.2.2.2.2.1 y.1.2.2.2.2.2.2.2.1 y.1.2.2.2.2.2.2.2.2.1) (fun (e : ((UInt64 × UInt64 × UInt64 × UInt64 × UInt64 × UInt64 × UInt64 × UInt64 × Unit) × (Unit))) => math_bits_Div64_6 N e.1.1 e.1.2.1 e.1.2.2.1 e.1.2.2.2.1 e.1.2.2.2.2.1 e.1.2.2.2.2.2.1 e.1.2.2.2.2.2.2.1 e.1.2.2.2.2.2.2.2.1) ((y_2, s_8, yn1_9, yn0_10, un32_11, un1_13, un0_14, q1_15, rhat_16, ()), (()))
noncomputable def math_bits_Div64_2 (N : Nat) (hi_0 : UInt64) (lo_1 : UInt64) (y_2 : UInt64) : Option math_bits_Div64_R :=
  bif (decide (hi_0 = (0 : UInt64))) then
    bif !(decide (y_2 = 0)) then
    bif !(decide (y_2 = 0)) then
    some (((lo_1 / y_2), (lo_1 % y_2), ()), (()))
    else none
    else none
  else
    Option.bind (math_bits_LeadingZeros64 N y_2) fun y6 =>
    let x8 := shl64 y_2 (iu64 y6.1.1).toNat
    let x11 := shl64 hi_0 (iu64 y6.1.1).toNat
    let x13 := shr64 lo_1 ((64 : UInt64) - (iu64 y6.1.1)).toNat
    let x15 := shl64 lo_1 (iu64 y6.1.1).toNat
    bif !(decide ((shr64 x8 32) = 0)) then
    math_bits_Div64_3 N x8 (iu64 y6.1.1) (shr64 x8 32) (x8 &&& (4294967295 : UInt64)) (x11 ||| x13) (shr64 x15 32) (x15 &&& (4294967295 : UInt64)) ((x11 ||| x13) / (shr64 x8 32)) ((x11 ||| x13) - (((x11 ||| x13) / (shr64 x8 32)) * (shr64 x8 32)))
    else none
noncomputable def math_bits_Div64_1 (N : Nat) (hi_0 : UInt64) (lo_1 : UInt64) (y_2 : UInt64) : Option math_bits_Div64_R :=
  bif (decide (y_2 ≤ hi_0)) then
    none
  else
    math_bits_Div64_2 N hi_0 lo_1 y_2
noncomputable def math_bits_Div64 (N : Nat) (hi_0 : UInt64) (lo_1 : UInt64) (y_2 : UInt64) : Option math_bits_Div64_R :=
  bif (decide (y_2 = (0 : UInt64))) then
    none
  else
    math_bits_Div64_1 N hi_0 lo_1 y_2
noncomputable def math_bits_Div64_C (N : Nat) : Ctx := ⟨135, G_tys, [(193, math_bits_LeadingZeros64_ctr N)], G_globs⟩
noncomputable def math_bits_Div64_S0 : Spec := ⟨[.val .u64, .val .u64, .val .u64, .val .u64, .val .u64, .val .u64, .val .u64, .val .u64, .val .u64, .val .bool], []⟩
noncomputable def math_bits_Div64_S1 : Spec := ⟨[.val .u64, .val .u64, .val .u64, .val .u64, .val .u64, .val .u64, .val .u64, .val .u64, .val .u64], []⟩
noncomputable def math_bits_Div64_S2 : Spec := ⟨[.val .u64, .val .u64, .val .u64, .val .u64, .val .u64, .val .u64], []⟩
noncomputable def math_bits_Div64_S3 : Spec := ⟨[.val .u64, .val .u64, .val .u64, .val .u64, .val .u64, .val .u64, .val .u64, .val .u64], []⟩
noncomputable def math_bits_Div64_S4 : Spec := ⟨[.val .u64, .val .u64, .val .u64], []⟩
noncomputable def math_bits_Div64_S5 : Spec := ⟨[.val .u64, .val .u64], []⟩
noncomputable def math_bits_Div64_K (_N : Nat) : XE → GS → Option math_bits_Div64_R := retK 0 [6, 7] [false, false] math_bits_Div64_S5
noncomputable def math_bits_Div64_L : List Code := (bodyOf (some Tryd.f158))
noncomputable def math_bits_Div64_L4 : List Code := (loopOf (math_bits_Div64_L[17]?))
noncomputable def math_bits_Div64_L8 : List Code := (loopOf (math_bits_Div64_L[21]?))
noncomputable def math_bits_Div64_K4 (N : Nat) : XE → GS → Option (Lo ((UInt64 × UInt64 × UInt64 × UInt64 × UInt64 × UInt64 × UInt64 × UInt64 × UInt64 × Unit) × (Unit)) ((UInt64 × UInt64 × UInt64 × UInt64 × UInt64 × UInt64 × UInt64 × UInt64 × Unit) × (Unit)) math_bits_Div64_R) := roundK (some 0) (fit 0 [2, 8, 9, 10, 11, 13, 14, 15, 16] math_bits_Div64_S1) (fit 0 [2, 8, 9, 10, 11, 13, 14, 15] math_bits_Div64_S3) (math_bits_Div64_K N)
noncomputable def math_bits_Div64_K8 (N : Nat) : XE → GS → Option (Lo ((UInt64 × UInt64 × UInt64 × UInt64 × UInt64 × UInt64 × UInt64 × UInt64 × UInt64 × Unit) × (Unit)) ((UInt64 × UInt64 × UInt64 × UInt64 × UInt64 × UInt64 × Unit) × (Unit)) math_bits_Div64_R) := roundK (some 2) (fit 0 [2, 8, 9, 10, 14, 15, 16, 17, 18] math_bits_Div64_S1) (fit 0 [2, 8, 14, 15, 17, 18] math_bits_Div64_S2) (math_bits_Div64_K N)
theorem math_bits_Div64_5_b {E : Env} (N : Nat) (hb : Base Tryd.prog (math_bits_Div64_C N) E 0) : Blk Tryd.prog (math_bits_Div64_C N) E [2, 8, 9, 10, 11, 13, 14, 15, 16, 78] math_bits_Div64_S0 (math_bits_Div64_L4.drop 1) (fun y => math_bits_Div64_5 N y.1.1 y.1.2.1 y.1.2.2.1 y.1.2.2.2.1 y.1.2.2.2.2.1 y.1.2.2.2.2.2.1 y.1.2.2.2.2.2.2.1 y.1.2.2.2.2.2.2.2.1 y.1.2.2.2.2.2.2.2.2.1 y.1.2.2.2.2.2.2.2.2.2.1) (math_bits_Div64_K4 N) :=
  Blk.chunkAt hb 2 (X := (math_bits_Div64_K4 N .normal)) (NxOk.end (by kernel_rfl)) rfl (fun x => by kernel_rfl)
theorem math_bits_Div64_s4_b {E : Env} (N : Nat) (hb : Base Tryd.prog (math_bits_Div64_C N) E 0) : Blk Tryd.prog (math_bits_Div64_C N) E [2, 8, 9, 10, 11, 13, 14, 15, 16] math_bits_Div64_S1 (math_bits_Div64_L4.drop 0) (fun y => math_bits_Div64_s4 N y.1.1 y.1.2.1 y.1.2.2.1 y.1.2.2.2.1 y.1.2.2.2.2.1 y.1.2.2.2.2.2.1 y.1.2.2.2.2.2.2.1 y.1.2.2.2.2.2.2.2.1 y.1.2.2.2.2.2.2.2.2.1) (math_bits_Div64_K4 N) :=
  Blk.chunkAt hb 1 (X := (goK 0 [2, 8, 9, 10, 11, 13, 14, 15, 16, 78] math_bits_Div64_S0 (fun y => math_bits_Div64_5 N y.1.1 y.1.2.1 y.1.2.2.1 y.1.2.2.2.1 y.1.2.2.2.2.1 y.1.2.2.2.2.2.1 y.1.2.2.2.2.2.2.1 y.1.2.2.2.2.2.2.2.1 y.1.2.2.2.2.2.2.2.2.1 y.1.2.2.2.2.2.2.2.2.2.1))) (NxOk.go hb (math_bits_Div64_5_b N hb)) rfl (fun x => by kernel_rfl)
theorem math_bits_Div64_9_b {E : Env} (N : Nat) (hb : Base Tryd.prog (math_bits_Div64_C N) E 0) : Blk Tryd.prog (math_bits_Div64_C N) E [2, 8, 9, 10, 14, 15, 16, 17, 18, 113] math_bits_Div64_S0 (math_bits_Div64_L8.drop 1) (fun y => math_bits_Div64_9 N y.1.1 y.1.2.1 y.1.2.2.1 y.1.2.2.2.1 y.1.2.2.2.2.1 y.1.2.2.2.2.2.1 y.1.2.2.2.2.2.2.1 y.1.2.2.2.2.2.2.2.1 y.1.2.2.2.2.2.2.2.2.1 y.1.2.2.2.2.2.2.2.2.2.1) (math_bits_Div64_K8 N) :=
  Blk.chunkAt hb 2 (X := (math_bits_Div64_K8 N .normal)) (NxOk.end (by kernel_rfl)) rfl (fun x => by kernel_rfl)
theorem math_bits_Div64_s8_b {E : Env} (N : Nat) (hb : Base Tryd.prog (math_bits_Div64_C N) E 0) : Blk Tryd.prog (math_bits_Div64_C N) E [2, 8, 9, 10, 14, 15, 16, 17, 18] math_bits_Div64_S1 (math_bits_Div64_L8.drop 0) (fun y => math_bits_Div64_s8 N y.1.1 y.1.2.1 y.1.2.2.1 y.1.2.2.2.1 y.1.2.2.2.2.1 y.1.2.2.2.2.2.1 y.1.2.2.2.2.2.2.1 y.1.2.2.2.2.2.2.2.1 y.1.2.2.2.2.2.2.2.2.1) (math_bits_Div64_K8 N) :=
  Blk.chunkAt hb 1 (X := (goK 0 [2, 8, 9, 10, 14, 15, 16, 17, 18, 113] math_bits_Div64_S0 (fun y => math_bits_Div64_9 N y.1.1 y.1.2.1 y.1.2.2.1 y.1.2.2.2.1 y.1.2.2.2.2.1 y.1.2.2.2.2.2.1 y.1.2.2.2.2.2.2.1 y.1.2.2.2.2.2.2.2.1 y.1.2.2.2.2.2.2.2.2.1 y.1.2.2.2.2.2.2.2.2.2.1))) (NxOk.go hb (math_bits_Div64_9_b N hb)) rfl (fun x => by kernel_rfl)
theorem math_bits_Div64_10_b {E : Env} (N : Nat) (hb : Base Tryd.prog (math_bits_Div64_C N) E 0) : Blk Tryd.prog (math_bits_Div64_C N) E [2, 8, 14, 15, 17, 18] math_bits_Div64_S2 (math_bits_Div64_L.drop 22) (fun y => math_bits_Div64_10 N y.1.1 y.1.2.1 y.1.2.2.1 y.1.2.2.2.1 y.1.2.2.2.2.1 y.1.2.2.2.2.2.1) (math_bits_Div64_K N) :=
  Blk.chunkAt hb 2 (X := (math_bits_Div64_K N .normal)) (NxOk.end (by kernel_rfl)) rfl (fun x => by kernel_rfl)
theorem math_bits_Div64_7_b {E : Env} (N : Nat) (hb : Base Tryd.prog (math_bits_Div64_C N) E 0) : Blk Tryd.prog (math_bits_Div64_C N) E [2, 8, 9, 10, 14, 15, 16, 17, 18] math_bits_Div64_S1 (math_bits_Div64_L.drop 21) (fun y => math_bits_Div64_7 N y.1.1 y.1.2.1 y.1.2.2.1 y.1.2.2.2.1 y.1.2.2.2.2.1 y.1.2.2.2.2.2.1 y.1.2.2.2.2.2.2.1 y.1.2.2.2.2.2.2.2.1 y.1.2.2.2.2.2.2.2.2.1) (math_bits_Div64_K N) :=
  Blk.loopAt (Nf := N) (hns := [2, 8, 9, 10, 14, 15, 16, 17, 18]) (ans := [2, 8, 14, 15, 17, 18]) (hc := math_bits_Div64_S1) (ac := math_bits_Div64_S2) (bid := 2) (step := (fun y => math_bits_Div64_s8 N y.1.1 y.1.2.1 y.1.2.2.1 y.1.2.2.2.1 y.1.2.2.2.2.1 y.1.2.2.2.2.2.1 y.1.2.2.2.2.2.2.1 y.1.2.2.2.2.2.2.2.1 y.1.2.2.2.2.2.2.2.2.1)) (J := (fun e => (goK 0 [2, 8, 14, 15, 17, 18] math_bits_Div64_S2 (fun y => math_bits_Div64_10 N y.1.1 y.1.2.1 y.1.2.2.1 y.1.2.2.2.1 y.1.2.2.2.2.1 y.1.2.2.2.2.2.1)) (math_bits_Div64_S2.st [2, 8, 14, 15, 17, 18] e))) hb (by kernel_rfl) (Blk.into (X := (goK 0 [2, 8, 14, 15, 17, 18] math_bits_Div64_S2 (fun y => math_bits_Div64_10 N y.1.1 y.1.2.1 y.1.2.2.1 y.1.2.2.2.1 y.1.2.2.2.2.1 y.1.2.2.2.2.2.1))) (NxOk.go hb (math_bits_Div64_10_b N hb)) (fun x => by kernel_rfl)) (math_bits_Div64_s8_b N hb) (fun x => by kernel_rfl)
theorem math_bits_Div64_6_b {E : Env} (N : Nat) (hb : Base Tryd.prog (math_bits_Div64_C N) E 0) : Blk Tryd.prog (math_bits_Div64_C N) E [2, 8, 9, 10, 11, 13, 14, 15] math_bits_Div64_S3 (math_bits_Div64_L.drop 18) (fun y => math_bits_Div64_6 N y.1.1 y.1.2.1 y.1.2.2.1 y.1.2.2.2.1 y.1.2.2.2.2.1 y.1.2.2.2.2.2.1 y.1.2.2.2.2.2.2.1 y.1.2.2.2.2.2.2.2.1) (math_bits_Div64_K N) :=
  Blk.chunkAt hb 3 (X := (goK 0 [2, 8, 9, 10, 14, 15, 16, 17, 18] math_bits_Div64_S1 (fun y => math_bits_Div64_7 N y.1.1 y.1.2.1 y.1.2.2.1 y.1.2.2.2.1 y.1.2.2.2.2.1 y.1.2.2.2.2.2.1 y.1.2.2.2.2.2.2.1 y.1.2.2.2.2.2.2.2.1 y.1.2.2.2.2.2.2.2.2.1))) (NxOk.go hb (math_bits_Div64_7_b N hb)) rfl (fun x => by kernel_rfl)
theorem math_bits_Div64_3_b {E : Env} (N : Nat) (hb : Base Tryd.prog (math_bits_Div64_C N) E 0) : Blk Tryd.prog (math_bits_Div64_C N) E [2, 8, 9, 10, 11, 13, 14, 15, 16] math_bits_Div64_S1 (math_bits_Div64_L.drop 17) (fun y => math_bits_Div64_3 N y.1.1 y.1.2.1 y.1.2.2.1 y.1.2.2.2.1 y.1.2.2.2.2.1 y.1.2.2.2.2.2.1 y.1.2.2.2.2.2.2.1 y.1.2.2.2.2.2.2.2.1 y.1.2.2.2.2.2.2.2.2.1) (math_bits_Div64_K N) :=
  Blk.loopAt (Nf := N) (hns := [2, 8, 9, 10, 11, 13, 14, 15, 16]) (ans := [2, 8, 9, 10, 11, 13, 14, 15]) (hc := math_bits_Div64_S1) (ac := math_bits_Div64_S3) (bid := 0) (step := (fun y => math_bits_Div64_s4 N y.1.1 y.1.2.1 y.1.2.2.1 y.1.2.2.2.1 y.1.2.2.2.2.1 y.1.2.2.2.2.2.1 y.1.2.2.2.2.2.2.1 y.1.2.2.2.2.2.2.2.1 y.1.2.2.2.2.2.2.2.2.1)) (J := (fun e => (goK 0 [2, 8, 9, 10, 11, 13, 14, 15] math_bits_Div64_S3 (fun y => math_bits_Div64_6 N y.1.1 y.1.2.1 y.1.2.2.1 y.1.2.2.2.1 y.1.2.2.2.2.1 y.1.2.2.2.2.2.1 y.1.2.2.2.2.2.2.1 y.1.2.2.2.2.2.2.2.1)) (math_bits_Div64_S3.st [2, 8, 9, 10, 11, 13, 14, 15] e))) hb (by kernel_rfl) (Blk.into (X := (goK 0 [2, 8, 9, 10, 11, 13, 14, 15] math_bits_Div64_S3 (fun y => math_bits_Div64_6 N y.1.1 y.1.2.1 y.1.2.2.1 y.1.2.2.2.1 y.1.2.2.2.2.1 y.1.2.2.2.2.2.1 y.1.2.2.2.2.2.2.1 y.1.2.2.2.2.2.2.2.1))) (NxOk.go hb (math_bits_Div64_6_b N hb)) (fun x => by kernel_rfl)) (math_bits_Div64_s4_b N hb) (fun x => by kernel_rfl)
theorem math_bits_Div64_2_b {E : Env} (N : Nat) (hb : Base Tryd.prog (math_bits_Div64_C N) E 0) : Blk Tryd.prog (math_bits_Div64_C N) E [0, 1, 2] math_bits_Div64_S4 (math_bits_Div64_L.drop 5) (fun y => math_bits_Div64_2 N y.1.1 y.1.2.1 y.1.2.2.1) (math_bits_Div64_K N) :=
  Blk.chunkAt hb 12 (X := (goK 0 [2, 8, 9, 10, 11, 13, 14, 15, 16] math_bits_Div64_S1 (fun y => math_bits_Div64_3 N y.1.1 y.1.2.1 y.1.2.2.1 y.1.2.2.2.1 y.1.2.2.2.2.1 y.1.2.2.2.2.2.1 y.1.2.2.2.2.2.2.1 y.1.2.2.2.2.2.2.2.1 y.1.2.2.2.2.2.2.2.2.1))) (NxOk.go hb (math_bits_Div64_3_b N hb)) rfl (fun x => by kernel_rfl)
theorem math_bits_Div64_1_b {E : Env} (N : Nat) (hb : Base Tryd.prog (math_bits_Div64_C N) E 0) : Blk Tryd.prog (math_bits_Div64_C N) E [0, 1, 2] math_bits_Div64_S4 (math_bits_Div64_L.drop 3) (fun y => math_bits_Div64_1 N y.1.1 y.1.2.1 y.1.2.2.1) (math_bits_Div64_K N) :=
  Blk.chunkAt hb 2 (X := (goK 0 [0, 1, 2] math_bits_Div64_S4 (fun y => math_bits_Div64_2 N y.1.1 y.1.2.1 y.1.2.2.1))) (NxOk.go hb (math_bits_Div64_2_b N hb)) rfl (fun x => by kernel_rfl)
theorem math_bits_Div64_b {E : Env} (N : Nat) (hb : Base Tryd.prog (math_bits_Div64_C N) E 0) : Blk Tryd.prog (math_bits_Div64_C N) E (List.range math_bits_Div64_S4.ks.length) math_bits_Div64_S4 (math_bits_Div64_L.drop 0) (fun y => math_bits_Div64 N y.1.1 y.1.2.1 y.1.2.2.1) (math_bits_Div64_K N) :=
  Blk.chunkAt hb 3 (X := (goK 0 [0, 1, 2] math_bits_Div64_S4 (fun y => math_bits_Div64_1 N y.1.1 y.1.2.1 y.1.2.2.1))) (NxOk.go hb (math_bits_Div64_1_b N hb)) rfl (fun x => by kernel_rfl)
noncomputable def math_bits_Div64_ctr (N : Nat) : Ctr := ⟨math_bits_Div64_S4, math_bits_Div64_S5.un [false, false], 0, (fun y => math_bits_Div64 N y.1.1 y.1.2.1 y.1.2.2.1)⟩
theorem math_bits_Div64_ctrs (N : Nat) : CtrsOk Tryd.prog (math_bits_Div64_C N) := ctrs_of (Γ := math_bits_Div64_C N) (by
  intro p hp
  simp only [math_bits_Div64_C, List.mem_cons, List.not_mem_nil, or_false] at hp
  rcases hp with rfl
  · exact math_bits_LeadingZeros64_ok N)
theorem math_bits_Div64_ok (N : Nat) : Ctr.ok Tryd.prog G_globs 158 (math_bits_Div64_ctr N) :=
  ctr_fn (Γ := math_bits_Div64_C N) (rfit := math_bits_Div64_S5) (bs := [false, false]) (res := [6, 7]) (by kernel_rfl) (tys_ok G_tys_ok) (math_bits_Div64_ctrs N) Tryd.func158 (by kernel_rfl) (by kernel_rfl) Tryd.ntmps158 (by kernel_rfl) (by kernel_rfl) (by kernel_rfl) (by kernel_rfl) (fun E hb => math_bits_Div64_b N hb)
end Go.Proofs.YtofajgidjkjnpaaDoor
namespace Go.Proofs.YtofajgidjkjnpaaDoor
open Go
set_option maxRecDepth 100000
set_option linter.unusedVariables false
/-! ipsecgate/group.Mul -/
abbrev group_Mul_R : Type := ((UInt64 × Unit) × (Unit))
noncomputable def group_Mul (N : Nat) (a_0 : UInt64) (b_1 : UInt64) : Option group_Mul_R :=
  Option.bind (math_bits_Mul64 N (a_0 % (4611686018427377339 : UInt64)) (b_1 % (4611686018427377339 : UInt64))) fun y3 =>
  Option.bind (math_bits_Div64 N y3.1.1 y3.1.2.1 (4611686018427377339 : UInt64)) fun y4 =>
  some ((y4.1.2.1, ()), (()))
noncomputable def group_Mul_C (N : Nat) : Ctx := ⟨24, G_tys, [(157, math_bits_Mul64_ctr N), (158, math_bits_Div64_ctr N)], G_globs⟩
noncomputable def group_Mul_S0 : Spec := ⟨[.val .u64, .val .u64], []⟩
noncomputable def group_Mul_S1 : Spec := ⟨[.val .u64], []⟩
noncomputable def group_Mul_K (_N : Nat) : XE → GS → Option group_Mul_R := retK 0 [4] [false] group_Mul_S1
noncomputable def group_Mul_L : List Code := (bodyOf (some Tryd.f97))
theorem group_Mul_b {E : Env} (N : Nat) (hb : Base Tryd.prog (group_Mul_C N) E 0) : Blk Tryd.prog (group_Mul_C N) E (List.range group_Mul_S0.ks.length) group_Mul_S0 (group_Mul_L.drop 0) (fun y => group_Mul N y.1.1 y.1.2.1) (group_Mul_K N) :=
  Blk.chunkAt hb 5 (X := (group_Mul_K N .normal)) (NxOk.end (by kernel_rfl)) rfl (fun x => by kernel_rfl)
noncomputable def group_Mul_ctr (N : Nat) : Ctr := ⟨group_Mul_S0, group_Mul_S1.un [false], 0, (fun y => group_Mul N y.1.1 y.1.2.1)⟩
theorem group_Mul_ctrs (N : Nat) : CtrsOk Tryd.prog (group_Mul_C N) := ctrs_of (Γ := group_Mul_C N) (by
  intro p hp
  simp only [group_Mul_C, List.mem_cons, List.not_mem_nil, or_false] at hp
  rcases hp with rfl | rfl
  · exact math_bits_Mul64_ok N
  · exact math_bits_Div64_ok N)
theorem group_Mul_ok (N : Nat) : Ctr.ok Tryd.prog G_globs 97 (group_Mul_ctr N) :=
  ctr_fn (Γ := group_Mul_C N) (rfit := group_Mul_S1) (bs := [false]) (res := [4]) (by kernel_rfl) (tys_ok G_tys_ok) (group_Mul_ctrs N) Tryd.func97 (by kernel_rfl) (by kernel_rfl) Tryd.ntmps97 (by kernel_rfl) (by kernel_rfl) (by kernel_rfl) (by kernel_rfl) (fun E hb => group_Mul_b N hb)
end Go.Proofs.YtofajgidjkjnpaaDoor
namespace Go.Proofs.YtofajgidjkjnpaaDoor
open Go
set_option maxRecDepth 100000
set_option linter.unusedVariables false
/-! ipsecgate/group.Power -/
abbrev group_Power_R : Type := ((UInt64 × Unit) × (Unit))
noncomputable def group_Power_s2 (N : Nat) (a_0 : UInt64) (e_1 : UInt64) (r_5 : UInt64) : Option (Lo ((UInt64 × UInt64 × UInt64 × Unit) × (Unit)) ((UInt64 × Unit) × (Unit)) group_Power_R) :=
  bif (decide ((0 : UInt64) < e_1)) then
    bif (decide ((e_1 &&& (1 : UInt64)) = (1 : UInt64))) then
      Option.bind (group_Mul N r_5 a_0) fun y4 =>
      Option.bind (group_Mul N a_0 a_0) fun y5 =>
      some (.go ((y5.1.1, (shr64 e_1 1), y4.1.1, ()), (())))
    else
      Option.bind (group_Mul N a_0 a_0) fun y7 =>
      some (.go ((y7.1.1, (shr64 e_1 1), r_5, ()), (())))
  else
    some (.br ((r_5, ()), (())))
noncomputable def group_Power_3 (N : Nat) (r_5 : UInt64) : Option group_Power_R :=
  some ((r_5, ()), (()))
noncomputable def group_Power_1 (N : Nat) (a_0 : UInt64) (e_1 : UInt64) (r_5 : UInt64) : Option group_Power_R :=
  loopK N (fun y => group_Power_s2 N y.1.1 y.1.2.1 y.1.2.2.1) (fun (e : ((UInt64 × Unit) × (Unit))) => group_Power_3 N e.1.1) ((a_0, e_1, r_5, ()), (()))
noncomputable def group_Power (N : Nat) (a_0 : UInt64) (e_1 : UInt64) : Option group_Power_R :=
  group_Power_1 N a_0 e_1 (1 : UInt64)
noncomputable def group_Power_C (N : Nat) : Ctx := ⟨20, G_tys, [(97, group_Mul_ctr N)], G_globs⟩
noncomputable def group_Power_S0 : Spec := ⟨[.val .u64, .val .u64, .val .u64], []⟩
noncomputable def group_Power_S1 : Spec := ⟨[.val .u64], []⟩
noncomputable def group_Power_S2 : Spec := ⟨[.val .u64, .val .u64], []⟩
noncomputable def group_Power_K (_N : Nat) : XE → GS → Option group_Power_R := retK 0 [4] [false] group_Power_S1
noncomputable def group_Power_L : List Code := (bodyOf (some Tryd.f93))
noncomputable def group_Power_L2 : List Code := (loopOf (group_Power_L[2]?))
noncomputable def group_Power_K2 (N : Nat) : XE → GS → Option (Lo ((UInt64 × UInt64 × UInt64 × Unit) × (Unit)) ((UInt64 × Unit) × (Unit)) group_Power_R) := roundK (some 0) (fit 0 [0, 1, 5] group_Power_S0) (fit 0 [5] group_Power_S1) (group_Power_K N)
theorem group_Power_s2_b {E : Env} (N : Nat) (hb : Base Tryd.prog (group_Power_C N) E 0) : Blk Tryd.prog (group_Power_C N) E [0, 1, 5] group_Power_S0 (group_Power_L2.drop 0) (fun y => group_Power_s2 N y.1.1 y.1.2.1 y.1.2.2.1) (group_Power_K2 N) :=
  Blk.chunkAt hb 4 (X := (group_Power_K2 N .normal)) (NxOk.end (by kernel_rfl)) rfl (fun x => by kernel_rfl)
theorem group_Power_3_b {E : Env} (N : Nat) (hb : Base Tryd.prog (group_Power_C N) E 0) : Blk Tryd.prog (group_Power_C N) E [5] group_Power_S1 (group_Power_L.drop 3) (fun y => group_Power_3 N y.1.1) (group_Power_K N) :=
  Blk.chunkAt hb 2 (X := (group_Power_K N .normal)) (NxOk.end (by kernel_rfl)) rfl (fun x => by kernel_rfl)
theorem group_Power_1_b {E : Env} (N : Nat) (hb : Base Tryd.prog (group_Power_C N) E 0) : Blk Tryd.prog (group_Power_C N) E [0, 1, 5] group_Power_S0 (group_Power_L.drop 2) (fun y => group_Power_1 N y.1.1 y.1.2.1 y.1.2.2.1) (group_Power_K N) :=
  Blk.loopAt (Nf := N) (hns := [0, 1, 5]) (ans := [5]) (hc := group_Power_S0) (ac := group_Power_S1) (bid := 0) (step := (fun y => group_Power_s2 N y.1.1 y.1.2.1 y.1.2.2.1)) (J := (fun e => (goK 0 [5] group_Power_S1 (fun y => group_Power_3 N y.1.1)) (group_Power_S1.st [5] e))) hb (by kernel_rfl) (Blk.into (X := (goK 0 [5] group_Power_S1 (fun y => group_Power_3 N y.1.1))) (NxOk.go hb (group_Power_3_b N hb)) (fun x => by kernel_rfl)) (group_Power_s2_b N hb) (fun x => by kernel_rfl)
theorem group_Power_b {E : Env} (N : Nat) (hb : Base Tryd.prog (group_Power_C N) E 0) : Blk Tryd.prog (group_Power_C N) E (List.range group_Power_S2.ks.length) group_Power_S2 (group_Power_L.drop 0) (fun y => group_Power N y.1.1 y.1.2.1) (group_Power_K N) :=
  Blk.chunkAt hb 2 (X := (goK 0 [0, 1, 5] group_Power_S0 (fun y => group_Power_1 N y.1.1 y.1.2.1 y.1.2.2.1))) (NxOk.go hb (group_Power_1_b N hb)) rfl (fun x => by kernel_rfl)
noncomputable def group_Power_ctr (N : Nat) : Ctr := ⟨group_Power_S2, group_Power_S1.un [false], 0, (fun y => group_Power N y.1.1 y.1.2.1)⟩
theorem group_Power_ctrs (N : Nat) : CtrsOk Tryd.prog (group_Power_C N) := ctrs_of (Γ := group_Power_C N) (by
  intro p hp
  simp only [group_Power_C, List.mem_cons, List.not_mem_nil, or_false] at hp
  rcases hp with rfl
  · exact group_Mul_ok N)
theorem group_Power_ok (N : Nat) : Ctr.ok Tryd.prog G_globs 93 (group_Power_ctr N) :=
  ctr_fn (Γ := group_Power_C N) (rfit := group_Power_S1) (bs := [false]) (res := [4]) (by kernel_rfl) (tys_ok G_tys_ok) (group_Power_ctrs N) Tryd.func93 (by kernel_rfl) (by kernel_rfl) Tryd.ntmps93 (by kernel_rfl) (by kernel_rfl) (by kernel_rfl) (by kernel_rfl) (fun E hb => group_Power_b N hb)
end Go.Proofs.YtofajgidjkjnpaaDoor
namespace Go.Proofs.YtofajgidjkjnpaaDoor
open Go
set_option maxRecDepth 100000
set_option linter.unusedVariables false
/-! ipsecgate/group.Public -/
abbrev group_Public_R : Type := ((UInt64 × Int × Unit) × (Unit))
noncomputable def group_Public (N : Nat) (secret_0 : UInt64) : Option group_Public_R :=
  Option.bind (group_valid N secret_0) fun y1 =>
  bif (!y1.1.1) then
    some (((0 : UInt64), (13 : Int), ()), (()))
  else
    Option.bind (group_Power N (4 : UInt64) secret_0) fun y3 =>
    some ((y3.1.1, (0 : Int), ()), (()))
noncomputable def group_Public_C (N : Nat) : Ctx := ⟨9, G_tys, [(154, group_valid_ctr N), (93, group_Power_ctr N)], G_globs⟩
noncomputable def group_Public_S0 : Spec := ⟨[.val .u64], []⟩
noncomputable def group_Public_S1 : Spec := ⟨[.val .u64, .val .i64], []⟩
noncomputable def group_Public_K (_N : Nat) : XE → GS → Option group_Public_R := retK 0 [2, 3] [false, false] group_Public_S1
noncomputable def group_Public_L : List Code := (bodyOf (some Tryd.f88))
theorem group_Public_b {E : Env} (N : Nat) (hb : Base Tryd.prog (group_Public_C N) E 0) : Blk Tryd.prog (group_Public_C N) E (List.range group_Public_S0.ks.length) group_Public_S0 (group_Public_L.drop 0) (fun y => group_Public N y.1.1) (group_Public_K N) :=
  Blk.chunkAt hb 5 (X := (group_Public_K N .normal)) (NxOk.end (by kernel_rfl)) rfl (fun x => by kernel_rfl)
noncomputable def group_Public_ctr (N : Nat) : Ctr := ⟨group_Public_S0, group_Public_S1.un [false, false], 0, (fun y => group_Public N y.1.1)⟩
theorem group_Public_ctrs (N : Nat) : CtrsOk Tryd.prog (group_Public_C N) := ctrs_of (Γ := group_Public_C N) (by
  intro p hp
  simp only [group_Public_C, List.mem_cons, List.not_mem_nil, or_false] at hp
  rcases hp with rfl | rfl
  · exact group_valid_ok N
  · exact group_Power_ok N)
theorem group_Public_ok (N : Nat) : Ctr.ok Tryd.prog G_globs 88 (group_Public_ctr N) :=
  ctr_fn (Γ := group_Public_C N) (rfit := group_Public_S1) (bs := [false, false]) (res := [2, 3]) (by kernel_rfl) (tys_ok G_tys_ok) (group_Public_ctrs N) Tryd.func88 (by kernel_rfl) (by kernel_rfl) Tryd.ntmps88 (by kernel_rfl) (by kernel_rfl) (by kernel_rfl) (by kernel_rfl) (fun E hb => group_Public_b N hb)
end Go.Proofs.YtofajgidjkjnpaaDoor
namespace Go.Proofs.YtofajgidjkjnpaaDoor
open Go
set_option maxRecDepth 100000
set_option linter.unusedVariables false
/-! ipsecgate/wire.Put -/
abbrev wire_Put_R : Type := ((Unit) × ((List UInt8) × Unit))
noncomputable def wire_Put_s3 (N : Nat) (v_1 : UInt64) (i_7 : Int) (b_0 : (List UInt8)) : Option (Lo ((UInt64 × Int × Unit) × ((List UInt8) × Unit)) ((Unit) × ((List UInt8) × Unit)) wire_Put_R) :=
  bif (decide ((0 : Int) ≤ i_7)) then
    let x4 := w64 ((8 : Int) * i_7)
    bif decide (0 ≤ x4) then
    let x5 := shr64 v_1 x4.toNat
    bif room (b_0.length + ([x5.toUInt8] : List UInt8).length) 1 then
    some (.go ((v_1, (w64 (i_7 - (1 : Int))), ()), ((b_0 ++ ([x5.toUInt8] : List UInt8)), ())))
    else none
    else none
  else
    some (.br ((()), (b_0, ())))
noncomputable def wire_Put_4 (N : Nat) (b_0 : (List UInt8)) : Option wire_Put_R :=
  some ((()), (b_0, ()))
noncomputable def wire_Put_2 (N : Nat) (v_1 : UInt64) (i_7 : Int) (b_0 : (List UInt8)) : Option wire_Put_R :=
  loopK N (fun y => wire_Put_s3 N y.1.1 y.1.2.1 y.2.1) (fun (e : ((Unit) × ((List UInt8) × Unit))) => wire_Put_4 N e.2.1) ((v_1, i_7, ()), (b_0, ()))
noncomputable def wire_Put_1 (N : Nat) (v_1 : UInt64) (width_2 : Int) (t_13 : Bool) (b_0 : (List UInt8)) : Option wire_Put_R :=
  bif t_13 then
    some ((()), (b_0, ()))
  else
    wire_Put_2 N v_1 (w64 (width_2 - (1 : Int))) b_0
noncomputable def wire_Put (N : Nat) (v_1 : UInt64) (width_2 : Int) (b_0 : (List UInt8)) : Option wire_Put_R :=
  bif (decide (width_2 < (1 : Int))) then
    wire_Put_1 N v_1 width_2 true b_0
  else
    wire_Put_1 N v_1 width_2 (decide ((8 : Int) < width_2)) b_0
noncomputable def wire_Put_C (N : Nat) : Ctx := ⟨30, G_tys, [], G_globs⟩
noncomputable def wire_Put_S0 : Spec := ⟨[.row 0, .val .u64, .val .i64], [(.row 5 .u8, .pos 0)]⟩
noncomputable def wire_Put_S1 : Spec := ⟨[.row 0], [(.row 5 .u8, .pos 0)]⟩
noncomputable def wire_Put_S2 : Spec := ⟨[.row 0, .val .u64, .val .i64, .val .bool], [(.row 5 .u8, .pos 0)]⟩
noncomputable def wire_Put_K (_N : Nat) : XE → GS → Option wire_Put_R := retK 0 [6] [false] wire_Put_S1
noncomputable def wire_Put_L : List Code := (bodyOf (some Tryd.f91))
noncomputable def wire_Put_L3 : List Code := (loopOf (wire_Put_L[4]?))
noncomputable def wire_Put_K3 (N : Nat) : XE → GS → Option (Lo ((UInt64 × Int × Unit) × ((List UInt8) × Unit)) ((Unit) × ((List UInt8) × Unit)) wire_Put_R) := roundK (some 0) (fit 0 [0, 1, 7] wire_Put_S0) (fit 0 [0] wire_Put_S1) (wire_Put_K N)
theorem wire_Put_s3_b {E : Env} (N : Nat) (hb : Base Tryd.prog (wire_Put_C N) E 0) : Blk Tryd.prog (wire_Put_C N) E [0, 1, 7] wire_Put_S0 (wire_Put_L3.drop 0) (fun y => wire_Put_s3 N y.1.1 y.1.2.1 y.2.1) (wire_Put_K3 N) :=
  Blk.chunkAt hb 4 (X := (wire_Put_K3 N .normal)) (NxOk.end (by kernel_rfl)) rfl (fun x => by kernel_rfl)
theorem wire_Put_4_b {E : Env} (N : Nat) (hb : Base Tryd.prog (wire_Put_C N) E 0) : Blk Tryd.prog (wire_Put_C N) E [0] wire_Put_S1 (wire_Put_L.drop 5) (fun y => wire_Put_4 N y.2.1) (wire_Put_K N) :=
  Blk.chunkAt hb 2 (X := (wire_Put_K N .normal)) (NxOk.end (by kernel_rfl)) rfl (fun x => by kernel_rfl)
theorem wire_Put_2_b {E : Env} (N : Nat) (hb : Base Tryd.prog (wire_Put_C N) E 0) : Blk Tryd.prog (wire_Put_C N) E [0, 1, 7] wire_Put_S0 (wire_Put_L.drop 4) (fun y => wire_Put_2 N y.1.1 y.1.2.1 y.2.1) (wire_Put_K N) :=
  Blk.loopAt (Nf := N) (hns := [0, 1, 7]) (ans := [0]) (hc := wire_Put_S0) (ac := wire_Put_S1) (bid := 0) (step := (fun y => wire_Put_s3 N y.1.1 y.1.2.1 y.2.1)) (J := (fun e => (goK 0 [0] wire_Put_S1 (fun y => wire_Put_4 N y.2.1)) (wire_Put_S1.st [0] e))) hb (by kernel_rfl) (Blk.into (X := (goK 0 [0] wire_Put_S1 (fun y => wire_Put_4 N y.2.1))) (NxOk.go hb (wire_Put_4_b N hb)) (fun x => by kernel_rfl)) (wire_Put_s3_b N hb) (fun x => by kernel_rfl)
theorem wire_Put_1_b {E : Env} (N : Nat) (hb : Base Tryd.prog (wire_Put_C N) E 0) : Blk Tryd.prog (wire_Put_C N) E [0, 1, 2, 13] wire_Put_S2 (wire_Put_L.drop 2) (fun y => wire_Put_1 N y.1.1 y.1.2.1 y.1.2.2.1 y.2.1) (wire_Put_K N) :=
  Blk.chunkAt hb 2 (X := (goK 0 [0, 1, 7] wire_Put_S0 (fun y => wire_Put_2 N y.1.1 y.1.2.1 y.2.1))) (NxOk.go hb (wire_Put_2_b N hb)) rfl (fun x => by kernel_rfl)
theorem wire_Put_b {E : Env} (N : Nat) (hb : Base Tryd.prog (wire_Put_C N) E 0) : Blk Tryd.prog (wire_Put_C N) E (List.range wire_Put_S0.ks.length) wire_Put_S0 (wire_Put_L.drop 0) (fun y => wire_Put N y.1.1 y.1.2.1 y.2.1) (wire_Put_K N) :=
  Blk.chunkAt hb 2 (X := (goK 0 [0, 1, 2, 13] wire_Put_S2 (fun y => wire_Put_1 N y.1.1 y.1.2.1 y.1.2.2.1 y.2.1))) (NxOk.go hb (wire_Put_1_b N hb)) rfl (fun x => by kernel_rfl)
noncomputable def wire_Put_ctr (N : Nat) : Ctr := ⟨wire_Put_S0, wire_Put_S1.un [false], 0, (fun y => wire_Put N y.1.1 y.1.2.1 y.2.1)⟩
theorem wire_Put_ctrs (N : Nat) : CtrsOk Tryd.prog (wire_Put_C N) := ctrs_nil rfl
theorem wire_Put_ok (N : Nat) : Ctr.ok Tryd.prog G_globs 91 (wire_Put_ctr N) :=
  ctr_fn (Γ := wire_Put_C N) (rfit := wire_Put_S1) (bs := [false]) (res := [6]) (by kernel_rfl) (tys_ok G_tys_ok) (wire_Put_ctrs N) Tryd.func91 (by kernel_rfl) (by kernel_rfl) Tryd.ntmps91 (by kernel_rfl) (by kernel_rfl) (by kernel_rfl) (by kernel_rfl) (fun E hb => wire_Put_b N hb)
end Go.Proofs.YtofajgidjkjnpaaDoor
namespace Go.Proofs.YtofajgidjkjnpaaDoor
open Go
set_option maxRecDepth 100000
set_option linter.unusedVariables false
/-! ipsecgate/sha256.Pad -/
abbrev sha256_Pad_R : Type := ((Unit) × ((List UInt8) × Unit))
noncomputable def sha256_Pad_s2 (N : Nat) (length_0 : Int) (b_3 : (List UInt8)) : Option (Lo ((Int × Unit) × ((List UInt8) × Unit)) ((Int × Unit) × ((List UInt8) × Unit)) sha256_Pad_R) :=
  bif (!(decide (((w64 ((length_0.tmod (64 : Int)) + (b_3.length : Int))).tmod (64 : Int)) = (56 : Int)))) then
    bif room (b_3.length + ([(0 : UInt8)] : List UInt8).length) 1 then
    some (.go ((length_0, ()), ((b_3 ++ ([(0 : UInt8)] : List UInt8)), ())))
    else none
  else
    some (.br ((length_0, ()), (b_3, ())))
noncomputable def sha256_Pad_3 (N : Nat) (length_0 : Int) (b_3 : (List UInt8)) : Option sha256_Pad_R :=
  Option.bind (wire_Put N ((iu64 length_0) * (8 : UInt64)) (8 : Int) b_3) fun y10 =>
  some ((()), (y10.2.1, ()))
noncomputable def sha256_Pad_1 (N : Nat) (length_0 : Int) (b_3 : (List UInt8)) : Option sha256_Pad_R :=
  loopK N (fun y => sha256_Pad_s2 N y.1.1 y.2.1) (fun (e : ((Int × Unit) × ((List UInt8) × Unit))) => sha256_Pad_3 N e.1.1 e.2.1) ((length_0, ()), (b_3, ()))
noncomputable def sha256_Pad (N : Nat) (length_0 : Int) : Option sha256_Pad_R :=
  bif (decide (length_0 < (0 : Int))) then
    some ((()), (([] : List UInt8), ()))
  else
    sha256_Pad_1 N length_0 ([(128 : UInt8)] : List UInt8)
noncomputable def sha256_Pad_C (N : Nat) : Ctx := ⟨22, G_tys, [(91, wire_Put_ctr N)], G_globs⟩
noncomputable def sha256_Pad_S0 : Spec := ⟨[.val .i64, .row 0], [(.row 5 .u8, .pos 1)]⟩
noncomputable def sha256_Pad_S1 : Spec := ⟨[.val .i64], []⟩
noncomputable def sha256_Pad_S2 : Spec := ⟨[.row 0], [(.row 5 .u8, .pos 0)]⟩
noncomputable def sha256_Pad_K (_N : Nat) : XE → GS → Option sha256_Pad_R := retK 0 [2] [false] sha256_Pad_S2
noncomputable def sha256_Pad_L : List Code := (bodyOf (some Tryd.f191))
noncomputable def sha256_Pad_L2 : List Code := (loopOf (sha256_Pad_L[4]?))
noncomputable def sha256_Pad_K2 (N : Nat) : XE → GS → Option (Lo ((Int × Unit) × ((List UInt8) × Unit)) ((Int × Unit) × ((List UInt8) × Unit)) sha256_Pad_R) := roundK (some 0) (fit 0 [0, 3] sha256_Pad_S0) (fit 0 [0, 3] sha256_Pad_S0) (sha256_Pad_K N)
theorem sha256_Pad_s2_b {E : Env} (N : Nat) (hb : Base Tryd.prog (sha256_Pad_C N) E 0) : Blk Tryd.prog (sha256_Pad_C N) E [0, 3] sha256_Pad_S0 (sha256_Pad_L2.drop 0) (fun y => sha256_Pad_s2 N y.1.1 y.2.1) (sha256_Pad_K2 N) :=
  Blk.chunkAt hb 3 (X := (sha256_Pad_K2 N .normal)) (NxOk.end (by kernel_rfl)) rfl (fun x => by kernel_rfl)
theorem sha256_Pad_3_b {E : Env} (N : Nat) (hb : Base Tryd.prog (sha256_Pad_C N) E 0) : Blk Tryd.prog (sha256_Pad_C N) E [0, 3] sha256_Pad_S0 (sha256_Pad_L.drop 5) (fun y => sha256_Pad_3 N y.1.1 y.2.1) (sha256_Pad_K N) :=
  Blk.chunkAt hb 2 (X := (sha256_Pad_K N .normal)) (NxOk.end (by kernel_rfl)) rfl (fun x => by kernel_rfl)
theorem sha256_Pad_1_b {E : Env} (N : Nat) (hb : Base Tryd.prog (sha256_Pad_C N) E 0) : Blk Tryd.prog (sha256_Pad_C N) E [0, 3] sha256_Pad_S0 (sha256_Pad_L.drop 4) (fun y => sha256_Pad_1 N y.1.1 y.2.1) (sha256_Pad_K N) :=
  Blk.loopAt (Nf := N) (hns := [0, 3]) (ans := [0, 3]) (hc := sha256_Pad_S0) (ac := sha256_Pad_S0) (bid := 0) (step := (fun y => sha256_Pad_s2 N y.1.1 y.2.1)) (J := (fun e => (goK 0 [0, 3] sha256_Pad_S0 (fun y => sha256_Pad_3 N y.1.1 y.2.1)) (sha256_Pad_S0.st [0, 3] e))) hb (by kernel_rfl) (Blk.into (X := (goK 0 [0, 3] sha256_Pad_S0 (fun y => sha256_Pad_3 N y.1.1 y.2.1))) (NxOk.go hb (sha256_Pad_3_b N hb)) (fun x => by kernel_rfl)) (sha256_Pad_s2_b N hb) (fun x => by kernel_rfl)
theorem sha256_Pad_b {E : Env} (N : Nat) (hb : Base Tryd.prog (sha256_Pad_C N) E 0) : Blk Tryd.prog (sha256_Pad_C N) E (List.range sha256_Pad_S1.ks.length) sha256_Pad_S1 (sha256_Pad_L.drop 0) (fun y => sha256_Pad N y.1.1) (sha256_Pad_K N) :=
  Blk.chunkAt hb 4 (X := (goK 0 [0, 3] sha256_Pad_S0 (fun y => sha256_Pad_1 N y.1.1 y.2.1))) (NxOk.go hb (sha256_Pad_1_b N hb)) rfl (fun x => by kernel_rfl)
noncomputable def sha256_Pad_ctr (N : Nat) : Ctr := ⟨sha256_Pad_S1, sha256_Pad_S2.un [false], 0, (fun y => sha256_Pad N y.1.1)⟩
theorem sha256_Pad_ctrs (N : Nat) : CtrsOk Tryd.prog (sha256_Pad_C N) := ctrs_of (Γ := sha256_Pad_C N) (by
  intro p hp
  simp only [sha256_Pad_C, List.mem_cons, List.not_mem_nil, or_false] at hp
  rcases hp with rfl
  · exact wire_Put_ok N)
theorem sha256_Pad_ok (N : Nat) : Ctr.ok Tryd.prog G_globs 191 (sha256_Pad_ctr N) :=
  ctr_fn (Γ := sha256_Pad_C N) (rfit := sha256_Pad_S2) (bs := [false]) (res := [2]) (by kernel_rfl) (tys_ok G_tys_ok) (sha256_Pad_ctrs N) Tryd.func191 (by kernel_rfl) (by kernel_rfl) Tryd.ntmps191 (by kernel_rfl) (by kernel_rfl) (by kernel_rfl) (by kernel_rfl) (fun E hb => sha256_Pad_b N hb)
end Go.Proofs.YtofajgidjkjnpaaDoor
namespace Go.Proofs.YtofajgidjkjnpaaDoor
open Go
set_option maxRecDepth 100000
set_option linter.unusedVariables false
/-! ipsecgate/wire.Slice -/
abbrev wire_Slice_R : Type := (((List UInt8) × Bool × Unit) × (Unit))
noncomputable def wire_Slice_1 (N : Nat) (b_0 : (List UInt8)) (at_1 : Int) (n_2 : Int) (t_27 : Bool) : Option wire_Slice_R :=
  bif t_27 then
    some ((([] : List UInt8), false, ()), (()))
  else
    let x2 := w64 (at_1 + n_2)
    let x3 := w64 (at_1 + n_2)
    bif decide (0 ≤ at_1) && decide (at_1 ≤ x2) && decide (x2 ≤ (b_0.length : Int)) && (decide (x2 ≤ x3) && decide (x3 ≤ (b_0.length : Int))) then
    some (((cut b_0 at_1.toNat x2.toNat), true, ()), (()))
    else none
noncomputable def wire_Slice (N : Nat) (b_0 : (List UInt8)) (at_1 : Int) (n_2 : Int) : Option wire_Slice_R :=
  bif (decide (at_1 < (0 : Int))) then
    wire_Slice_1 N b_0 at_1 n_2 true
  else
    bif (decide (n_2 < (0 : Int))) then
      wire_Slice_1 N b_0 at_1 n_2 true
    else
      bif (decide ((b_0.length : Int) < at_1)) then
        wire_Slice_1 N b_0 at_1 n_2 true
      else
        wire_Slice_1 N b_0 at_1 n_2 (decide ((w64 ((b_0.length : Int) - at_1)) < n_2))
noncomputable def wire_Slice_C (N : Nat) : Ctx := ⟨37, G_tys, [], G_globs⟩
noncomputable def wire_Slice_S0 : Spec := ⟨[.val (.sl .u8), .val .i64, .val .i64, .val .bool], []⟩
noncomputable def wire_Slice_S1 : Spec := ⟨[.val (.sl .u8), .val .i64, .val .i64], []⟩
noncomputable def wire_Slice_S2 : Spec := ⟨[.val (.sl .u8), .val .bool], []⟩
noncomputable def wire_Slice_K (_N : Nat) : XE → GS → Option wire_Slice_R := retK 0 [6, 7] [false, false] wire_Slice_S2
noncomputable def wire_Slice_L : List Code := (bodyOf (some Tryd.f162))
theorem wire_Slice_1_b {E : Env} (N : Nat) (hb : Base Tryd.prog (wire_Slice_C N) E 0) : Blk Tryd.prog (wire_Slice_C N) E [0, 1, 2, 27] wire_Slice_S0 (wire_Slice_L.drop 2) (fun y => wire_Slice_1 N y.1.1 y.1.2.1 y.1.2.2.1 y.1.2.2.2.1) (wire_Slice_K N) :=
  Blk.chunkAt hb 3 (X := (wire_Slice_K N .normal)) (NxOk.end (by kernel_rfl)) rfl (fun x => by kernel_rfl)
theorem wire_Slice_b {E : Env} (N : Nat) (hb : Base Tryd.prog (wire_Slice_C N) E 0) : Blk Tryd.prog (wire_Slice_C N) E (List.range wire_Slice_S1.ks.length) wire_Slice_S1 (wire_Slice_L.drop 0) (fun y => wire_Slice N y.1.1 y.1.2.1 y.1.2.2.1) (wire_Slice_K N) :=
  Blk.chunkAt hb 2 (X := (goK 0 [0, 1, 2, 27] wire_Slice_S0 (fun y => wire_Slice_1 N y.1.1 y.1.2.1 y.1.2.2.1 y.1.2.2.2.1))) (NxOk.go hb (wire_Slice_1_b N hb)) rfl (fun x => by kernel_rfl)
noncomputable def wire_Slice_ctr (N : Nat) : Ctr := ⟨wire_Slice_S1, wire_Slice_S2.un [false, false], 0, (fun y => wire_Slice N y.1.1 y.1.2.1 y.1.2.2.1)⟩
theorem wire_Slice_ctrs (N : Nat) : CtrsOk Tryd.prog (wire_Slice_C N) := ctrs_nil rfl
theorem wire_Slice_ok (N : Nat) : Ctr.ok Tryd.prog G_globs 162 (wire_Slice_ctr N) :=
  ctr_fn (Γ := wire_Slice_C N) (rfit := wire_Slice_S2) (bs := [false, false]) (res := [6, 7]) (by kernel_rfl) (tys_ok G_tys_ok) (wire_Slice_ctrs N) Tryd.func162 (by kernel_rfl) (by kernel_rfl) Tryd.ntmps162 (by kernel_rfl) (by kernel_rfl) (by kernel_rfl) (by kernel_rfl) (fun E hb => wire_Slice_b N hb)
end Go.Proofs.YtofajgidjkjnpaaDoor
namespace Go.Proofs.YtofajgidjkjnpaaDoor
open Go
set_option maxRecDepth 100000
set_option linter.unusedVariables false
/-! ipsecgate/wire.Number -/
abbrev wire_Number_R : Type := ((UInt64 × Bool × Unit) × (Unit))
noncomputable def wire_Number_s3 (N : Nat) (v_10 : UInt64) (t_28 : (List UInt8)) (t_29 : Int) (t_30 : Int) : Option (Lo ((UInt64 × (List UInt8) × Int × Int × Unit) × (Unit)) ((UInt64 × Unit) × (Unit)) wire_Number_R) :=
  bif (decide (t_30 < t_29)) then
    bif inR t_30 t_28.length then
    some (.go ((((shl64 v_10 8) ||| (t_28.getD t_30.toNat (0 : UInt8)).toUInt64), t_28, t_29, (w64 (t_30 + (1 : Int))), ()), (())))
    else none
  else
    some (.br ((v_10, ()), (())))
noncomputable def wire_Number_4 (N : Nat) (v_10 : UInt64) : Option wire_Number_R :=
  some ((v_10, true, ()), (()))
noncomputable def wire_Number_2 (N : Nat) (v_10 : UInt64) (t_28 : (List UInt8)) (t_29 : Int) (t_30 : Int) : Option wire_Number_R :=
  loopK N (fun y => wire_Number_s3 N y.1.1 y.1.2.1 y.1.2.2.1 y.1.2.2.2.1) (fun (e : ((UInt64 × Unit) × (Unit))) => wire_Number_4 N e.1.1) ((v_10, t_28, t_29, t_30, ()), (()))
noncomputable def wire_Number_1 (N : Nat) (b_0 : (List UInt8)) (at_1 : Int) (width_2 : Int) (t_18 : Bool) : Option wire_Number_R :=
  bif t_18 then
    some (((0 : UInt64), false, ()), (()))
  else
    Option.bind (wire_Slice N b_0 at_1 width_2) fun y2 =>
    bif (!y2.1.2.1) then
      some (((0 : UInt64), false, ()), (()))
    else
      wire_Number_2 N (0 : UInt64) y2.1.1 (y2.1.1.length : Int) (0 : Int)
noncomputable def wire_Number (N : Nat) (b_0 : (List UInt8)) (at_1 : Int) (width_2 : Int) : Option wire_Number_R :=
  bif (decide (width_2 < (1 : Int))) then
    wire_Number_1 N b_0 at_1 width_2 true
  else
    wire_Number_1 N b_0 at_1 width_2 (decide ((8 : Int) < width_2))
noncomputable def wire_Number_C (N : Nat) : Ctx := ⟨41, G_tys, [(162, wire_Slice_ctr N)], G_globs⟩
noncomputable def wire_Number_S0 : Spec := ⟨[.val .u64, .val (.sl .u8), .val .i64, .val .i64], []⟩
noncomputable def wire_Number_S1 : Spec := ⟨[.val .u64], []⟩
noncomputable def wire_Number_S2 : Spec := ⟨[.val (.sl .u8), .val .i64, .val .i64, .val .bool], []⟩
noncomputable def wire_Number_S3 : Spec := ⟨[.val (.sl .u8), .val .i64, .val .i64], []⟩
noncomputable def wire_Number_S4 : Spec := ⟨[.val .u64, .val .bool], []⟩
noncomputable def wire_Number_K (_N : Nat) : XE → GS → Option wire_Number_R := retK 0 [6, 7] [false, false] wire_Number_S4
noncomputable def wire_Number_L : List Code := (bodyOf (some Tryd.f107))
noncomputable def wire_Number_L3 : List Code := (loopOf (wire_Number_L[8]?))
noncomputable def wire_Number_K3 (N : Nat) : XE → GS → Option (Lo ((UInt64 × (List UInt8) × Int × Int × Unit) × (Unit)) ((UInt64 × Unit) × (Unit)) wire_Number_R) := roundK (some 0) (fit 0 [10, 28, 29, 30] wire_Number_S0) (fit 0 [10] wire_Number_S1) (wire_Number_K N)
theorem wire_Number_s3_b {E : Env} (N : Nat) (hb : Base Tryd.prog (wire_Number_C N) E 0) : Blk Tryd.prog (wire_Number_C N) E [10, 28, 29, 30] wire_Number_S0 (wire_Number_L3.drop 0) (fun y => wire_Number_s3 N y.1.1 y.1.2.1 y.1.2.2.1 y.1.2.2.2.1) (wire_Number_K3 N) :=
  Blk.chunkAt hb 4 (X := (wire_Number_K3 N .normal)) (NxOk.end (by kernel_rfl)) rfl (fun x => by kernel_rfl)
theorem wire_Number_4_b {E : Env} (N : Nat) (hb : Base Tryd.prog (wire_Number_C N) E 0) : Blk Tryd.prog (wire_Number_C N) E [10] wire_Number_S1 (wire_Number_L.drop 9) (fun y => wire_Number_4 N y.1.1) (wire_Number_K N) :=
  Blk.chunkAt hb 2 (X := (wire_Number_K N .normal)) (NxOk.end (by kernel_rfl)) rfl (fun x => by kernel_rfl)
theorem wire_Number_2_b {E : Env} (N : Nat) (hb : Base Tryd.prog (wire_Number_C N) E 0) : Blk Tryd.prog (wire_Number_C N) E [10, 28, 29, 30] wire_Number_S0 (wire_Number_L.drop 8) (fun y => wire_Number_2 N y.1.1 y.1.2.1 y.1.2.2.1 y.1.2.2.2.1) (wire_Number_K N) :=
  Blk.loopAt (Nf := N) (hns := [10, 28, 29, 30]) (ans := [10]) (hc := wire_Number_S0) (ac := wire_Number_S1) (bid := 0) (step := (fun y => wire_Number_s3 N y.1.1 y.1.2.1 y.1.2.2.1 y.1.2.2.2.1)) (J := (fun e => (goK 0 [10] wire_Number_S1 (fun y => wire_Number_4 N y.1.1)) (wire_Number_S1.st [10] e))) hb (by kernel_rfl) (Blk.into (X := (goK 0 [10] wire_Number_S1 (fun y => wire_Number_4 N y.1.1))) (NxOk.go hb (wire_Number_4_b N hb)) (fun x => by kernel_rfl)) (wire_Number_s3_b N hb) (fun x => by kernel_rfl)
theorem wire_Number_1_b {E : Env} (N : Nat) (hb : Base Tryd.prog (wire_Number_C N) E 0) : Blk Tryd.prog (wire_Number_C N) E [0, 1, 2, 18] wire_Number_S2 (wire_Number_L.drop 2) (fun y => wire_Number_1 N y.1.1 y.1.2.1 y.1.2.2.1 y.1.2.2.2.1) (wire_Number_K N) :=
  Blk.chunkAt hb 6 (X := (goK 0 [10, 28, 29, 30] wire_Number_S0 (fun y => wire_Number_2 N y.1.1 y.1.2.1 y.1.2.2.1 y.1.2.2.2.1))) (NxOk.go hb (wire_Number_2_b N hb)) rfl (fun x => by kernel_rfl)
theorem wire_Number_b {E : Env} (N : Nat) (hb : Base Tryd.prog (wire_Number_C N) E 0) : Blk Tryd.prog (wire_Number_C N) E (List.range wire_Number_S3.ks.length) wire_Number_S3 (wire_Number_L.drop 0) (fun y => wire_Number N y.1.1 y.1.2.1 y.1.2.2.1) (wire_Number_K N) :=
  Blk.chunkAt hb 2 (X := (goK 0 [0, 1, 2, 18] wire_Number_S2 (fun y => wire_Number_1 N y.1.1 y.1.2.1 y.1.2.2.1 y.1.2.2.2.1))) (NxOk.go hb (wire_Number_1_b N hb)) rfl (fun x => by kernel_rfl)
noncomputable def wire_Number_ctr (N : Nat) : Ctr := ⟨wire_Number_S3, wire_Number_S4.un [false, false], 0, (fun y => wire_Number N y.1.1 y.1.2.1 y.1.2.2.1)⟩
theorem wire_Number_ctrs (N : Nat) : CtrsOk Tryd.prog (wire_Number_C N) := ctrs_of (Γ := wire_Number_C N) (by
  intro p hp
  simp only [wire_Number_C, List.mem_cons, List.not_mem_nil, or_false] at hp
  rcases hp with rfl
  · exact wire_Slice_ok N)
theorem wire_Number_ok (N : Nat) : Ctr.ok Tryd.prog G_globs 107 (wire_Number_ctr N) :=
  ctr_fn (Γ := wire_Number_C N) (rfit := wire_Number_S4) (bs := [false, false]) (res := [6, 7]) (by kernel_rfl) (tys_ok G_tys_ok) (wire_Number_ctrs N) Tryd.func107 (by kernel_rfl) (by kernel_rfl) Tryd.ntmps107 (by kernel_rfl) (by kernel_rfl) (by kernel_rfl) (by kernel_rfl) (fun E hb => wire_Number_b N hb)
end Go.Proofs.YtofajgidjkjnpaaDoor
namespace Go.Proofs.YtofajgidjkjnpaaDoor
open Go
set_option maxRecDepth 100000
set_option linter.unusedVariables false
/-! math/bits.RotateLeft32 -/
abbrev math_bits_RotateLeft32_R : Type := ((UInt32 × Unit) × (Unit))
noncomputable def math_bits_RotateLeft32 (N : Nat) (x_0 : UInt32) (k_1 : Int) : Option math_bits_RotateLeft32_R :=
  let x2 := (iu64 k_1) &&& (31 : UInt64)
  some ((((shl32 x_0 x2.toNat) ||| (shr32 x_0 ((32 : UInt64) - x2).toNat)), ()), (()))
noncomputable def math_bits_RotateLeft32_C (N : Nat) : Ctx := ⟨17, G_tys, [], G_globs⟩
noncomputable def math_bits_RotateLeft32_S0 : Spec := ⟨[.val .u32, .val .i64], []⟩
noncomputable def math_bits_RotateLeft32_S1 : Spec := ⟨[.val .u32], []⟩
noncomputable def math_bits_RotateLeft32_K (_N : Nat) : XE → GS → Option math_bits_RotateLeft32_R := retK 0 [4] [false] math_bits_RotateLeft32_S1
noncomputable def math_bits_RotateLeft32_L : List Code := (bodyOf (some Tryd.f222))
theorem math_bits_RotateLeft32_b {E : Env} (N : Nat) (hb : Base Tryd.prog (math_bits_RotateLeft32_C N) E 0) : Blk Tryd.prog (math_bits_RotateLeft32_C N) E (List.range math_bits_RotateLeft32_S0.ks.length) math_bits_RotateLeft32_S0 (math_bits_RotateLeft32_L.drop 0) (fun y => math_bits_RotateLeft32 N y.1.1 y.1.2.1) (math_bits_RotateLeft32_K N) :=
  Blk.chunkAt hb 4 (X := (math_bits_RotateLeft32_K N .normal)) (NxOk.end (by kernel_rfl)) rfl (fun x => by kernel_rfl)
noncomputable def math_bits_RotateLeft32_ctr (N : Nat) : Ctr := ⟨math_bits_RotateLeft32_S0, math_bits_RotateLeft32_S1.un [false], 0, (fun y => math_bits_RotateLeft32 N y.1.1 y.1.2.1)⟩
theorem math_bits_RotateLeft32_ctrs (N : Nat) : CtrsOk Tryd.prog (math_bits_RotateLeft32_C N) := ctrs_nil rfl
theorem math_bits_RotateLeft32_ok (N : Nat) : Ctr.ok Tryd.prog G_globs 222 (math_bits_RotateLeft32_ctr N) :=
  ctr_fn (Γ := math_bits_RotateLeft32_C N) (rfit := math_bits_RotateLeft32_S1) (bs := [false]) (res := [4]) (by kernel_rfl) (tys_ok G_tys_ok) (math_bits_RotateLeft32_ctrs N) Tryd.func222 (by kernel_rfl) (by kernel_rfl) Tryd.ntmps222 (by kernel_rfl) (by kernel_rfl) (by kernel_rfl) (by kernel_rfl) (fun E hb => math_bits_RotateLeft32_b N hb)
end Go.Proofs.YtofajgidjkjnpaaDoor
namespace Go.Proofs.YtofajgidjkjnpaaDoor
open Go
set_option maxRecDepth 100000
set_option linter.unusedVariables false
/-! ipsecgate/sha256.right -/
abbrev sha256_right_R : Type := ((UInt32 × Unit) × (Unit))
noncomputable def sha256_right (N : Nat) (x_0 : UInt32) (n_1 : Int) : Option sha256_right_R :=
  Option.bind (math_bits_RotateLeft32 N x_0 (w64 (0 - n_1))) fun y2 =>
  some ((y2.1.1, ()), (()))
noncomputable def sha256_right_C (N : Nat) : Ctx := ⟨9, G_tys, [(222, math_bits_RotateLeft32_ctr N)], G_globs⟩
noncomputable def sha256_right_S0 : Spec := ⟨[.val .u32, .val .i64], []⟩
noncomputable def sha256_right_S1 : Spec := ⟨[.val .u32], []⟩
noncomputable def sha256_right_K (_N : Nat) : XE → GS → Option sha256_right_R := retK 0 [4] [false] sha256_right_S1
noncomputable def sha256_right_L : List Code := (bodyOf (some Tryd.f215))
theorem sha256_right_b {E : Env} (N : Nat) (hb : Base Tryd.prog (sha256_right_C N) E 0) : Blk Tryd.prog (sha256_right_C N) E (List.range sha256_right_S0.ks.length) sha256_right_S0 (sha256_right_L.drop 0) (fun y => sha256_right N y.1.1 y.1.2.1) (sha256_right_K N) :=
  Blk.chunkAt hb 3 (X := (sha256_right_K N .normal)) (NxOk.end (by kernel_rfl)) rfl (fun x => by kernel_rfl)
noncomputable def sha256_right_ctr (N : Nat) : Ctr := ⟨sha256_right_S0, sha256_right_S1.un [false], 0, (fun y => sha256_right N y.1.1 y.1.2.1)⟩
theorem sha256_right_ctrs (N : Nat) : CtrsOk Tryd.prog (sha256_right_C N) := ctrs_of (Γ := sha256_right_C N) (by
  intro p hp
  simp only [sha256_right_C, List.mem_cons, List.not_mem_nil, or_false] at hp
  rcases hp with rfl
  · exact math_bits_RotateLeft32_ok N)
theorem sha256_right_ok (N : Nat) : Ctr.ok Tryd.prog G_globs 215 (sha256_right_ctr N) :=
  ctr_fn (Γ := sha256_right_C N) (rfit := sha256_right_S1) (bs := [false]) (res := [4]) (by kernel_rfl) (tys_ok G_tys_ok) (sha256_right_ctrs N) Tryd.func215 (by kernel_rfl) (by kernel_rfl) Tryd.ntmps215 (by kernel_rfl) (by kernel_rfl) (by kernel_rfl) (by kernel_rfl) (fun E hb => sha256_right_b N hb)
end Go.Proofs.YtofajgidjkjnpaaDoor
namespace Go.Proofs.YtofajgidjkjnpaaDoor
open Go
set_option maxRecDepth 100000
set_option linter.unusedVariables false
/-! ipsecgate/sha256.schedule -/
abbrev sha256_schedule_R : Type := (((List UInt32) × Unit) × (Unit))
noncomputable def sha256_schedule_s2 (N : Nat) (block_0 : (List UInt8)) (t_9 : Int) (t_2 : (List UInt32)) (w_3 : (List UInt32)) : Option (Lo (((List UInt8) × Int × Unit) × ((List UInt32) × (List UInt32) × Unit)) ((Unit) × ((List UInt32) × (List UInt32) × Unit)) sha256_schedule_R) :=
  bif (decide (t_9 < (64 : Int))) then
    bif (decide (t_9 < (16 : Int))) then
      Option.bind (wire_Number N block_0 (w64 ((4 : Int) * t_9)) (4 : Int)) fun y4 =>
      bif inR t_9 64 then
      some (.go ((block_0, (w64 (t_9 + (1 : Int))), ()), (t_2, (w_3.set t_9.toNat y4.1.1.toUInt32), ())))
      else none
    else
      let x7 := w64 (t_9 - (2 : Int))
      bif inR x7 64 then
      let x8 := (w_3.getD x7.toNat (0 : UInt32))
      let x9 := w64 (t_9 - (15 : Int))
      bif inR x9 64 then
      let x10 := (w_3.getD x9.toNat (0 : UInt32))
      Option.bind (sha256_right N x8 (17 : Int)) fun y11 =>
      Option.bind (sha256_right N x8 (19 : Int)) fun y12 =>
      let x16 := w64 (t_9 - (7 : Int))
      bif inR x16 64 then
      Option.bind (sha256_right N x10 (7 : Int)) fun y19 =>
      Option.bind (sha256_right N x10 (18 : Int)) fun y20 =>
      let x25 := w64 (t_9 - (16 : Int))
      bif inR x25 64 then
      bif inR t_9 64 then
      some (.go ((block_0, (w64 (t_9 + (1 : Int))), ()), (t_2, (w_3.set t_9.toNat (((((y11.1.1 ^^^ y12.1.1) ^^^ (shr32 x8 10)) + (w_3.getD x16.toNat (0 : UInt32))) + ((y19.1.1 ^^^ y20.1.1) ^^^ (shr32 x10 3))) + (w_3.getD x25.toNat (0 : UInt32)))), ())))
      else none
      else none
      else none
      else none
      else none
  else
    some (.br ((()), (t_2, w_3, ())))
noncomputable def sha256_schedule_3 (N : Nat) (t_2 : (List UInt32)) (w_3 : (List UInt32)) : Option sha256_schedule_R :=
  some ((w_3, ()), (()))
noncomputable def sha256_schedule_1 (N : Nat) (block_0 : (List UInt8)) (t_9 : Int) (t_2 : (List UInt32)) (w_3 : (List UInt32)) : Option sha256_schedule_R :=
  loopK N (fun y => sha256_schedule_s2 N y.1.1 y.1.2.1 y.2.1 y.2.2.1) (fun (e : ((Unit) × ((List UInt32) × (List UInt32) × Unit))) => sha256_schedule_3 N e.2.1 e.2.2.1) ((block_0, t_9, ()), (t_2, w_3, ()))
noncomputable def sha256_schedule (N : Nat) (block_0 : (List UInt8)) : Option sha256_schedule_R :=
  sha256_schedule_1 N block_0 (0 : Int) (List.replicate 64 (0 : UInt32)) (List.replicate 64 (0 : UInt32))
noncomputable def sha256_schedule_C (N : Nat) : Ctx := ⟨64, G_tys, [(107, wire_Number_ctr N), (215, sha256_right_ctr N)], G_globs⟩
noncomputable def sha256_schedule_S0 : Spec := ⟨[.val (.sl .u8), .ref 0 (.arr 64 .u32), .ref 1 (.arr 64 .u32), .val .i64], [(.box 243 (.arr 64 .u32), .pos 1), (.box 243 (.arr 64 .u32), .pos 2)]⟩
noncomputable def sha256_schedule_S1 : Spec := ⟨[.ref 0 (.arr 64 .u32), .ref 1 (.arr 64 .u32)], [(.box 243 (.arr 64 .u32), .pos 0), (.box 243 (.arr 64 .u32), .pos 1)]⟩
noncomputable def sha256_schedule_S2 : Spec := ⟨[.val (.sl .u8)], []⟩
noncomputable def sha256_schedule_S3 : Spec := ⟨[.fp (.arr 64 .u32)], []⟩
noncomputable def sha256_schedule_K (_N : Nat) : XE → GS → Option sha256_schedule_R := retK 0 [2] [true] sha256_schedule_S3
noncomputable def sha256_schedule_L : List Code := (bodyOf (some Tryd.f214))
noncomputable def sha256_schedule_L2 : List Code := (loopOf (sha256_schedule_L[3]?))
noncomputable def sha256_schedule_K2 (N : Nat) : XE → GS → Option (Lo (((List UInt8) × Int × Unit) × ((List UInt32) × (List UInt32) × Unit)) ((Unit) × ((List UInt32) × (List UInt32) × Unit)) sha256_schedule_R) := roundK (some 0) (fit 0 [0, 2, 3, 9] sha256_schedule_S0) (fit 0 [2, 3] sha256_schedule_S1) (sha256_schedule_K N)
theorem sha256_schedule_s2_b {E : Env} (N : Nat) (hb : Base Tryd.prog (sha256_schedule_C N) E 0) : Blk Tryd.prog (sha256_schedule_C N) E [0, 2, 3, 9] sha256_schedule_S0 (sha256_schedule_L2.drop 0) (fun y => sha256_schedule_s2 N y.1.1 y.1.2.1 y.2.1 y.2.2.1) (sha256_schedule_K2 N) :=
  Blk.chunkAt hb 4 (X := (sha256_schedule_K2 N .normal)) (NxOk.end (by kernel_rfl)) rfl (fun x => by kernel_rfl)
theorem sha256_schedule_3_b {E : Env} (N : Nat) (hb : Base Tryd.prog (sha256_schedule_C N) E 0) : Blk Tryd.prog (sha256_schedule_C N) E [2, 3] sha256_schedule_S1 (sha256_schedule_L.drop 4) (fun y => sha256_schedule_3 N y.2.1 y.2.2.1) (sha256_schedule_K N) :=
  Blk.chunkAt hb 2 (X := (sha256_schedule_K N .normal)) (NxOk.end (by kernel_rfl)) rfl (fun x => by kernel_rfl)
theorem sha256_schedule_1_b {E : Env} (N : Nat) (hb : Base Tryd.prog (sha256_schedule_C N) E 0) : Blk Tryd.prog (sha256_schedule_C N) E [0, 2, 3, 9] sha256_schedule_S0 (sha256_schedule_L.drop 3) (fun y => sha256_schedule_1 N y.1.1 y.1.2.1 y.2.1 y.2.2.1) (sha256_schedule_K N) :=
  Blk.loopAt (Nf := N) (hns := [0, 2, 3, 9]) (ans := [2, 3]) (hc := sha256_schedule_S0) (ac := sha256_schedule_S1) (bid := 0) (step := (fun y => sha256_schedule_s2 N y.1.1 y.1.2.1 y.2.1 y.2.2.1)) (J := (fun e => (goK 0 [2, 3] sha256_schedule_S1 (fun y => sha256_schedule_3 N y.2.1 y.2.2.1)) (sha256_schedule_S1.st [2, 3] e))) hb (by kernel_rfl) (Blk.into (X := (goK 0 [2, 3] sha256_schedule_S1 (fun y => sha256_schedule_3 N y.2.1 y.2.2.1))) (NxOk.go hb (sha256_schedule_3_b N hb)) (fun x => by kernel_rfl)) (sha256_schedule_s2_b N hb) (fun x => by kernel_rfl)
theorem sha256_schedule_b {E : Env} (N : Nat) (hb : Base Tryd.prog (sha256_schedule_C N) E 0) : Blk Tryd.prog (sha256_schedule_C N) E (List.range sha256_schedule_S2.ks.length) sha256_schedule_S2 (sha256_schedule_L.drop 0) (fun y => sha256_schedule N y.1.1) (sha256_schedule_K N) :=
  Blk.chunkAt hb 3 (X := (goK 0 [0, 2, 3, 9] sha256_schedule_S0 (fun y => sha256_schedule_1 N y.1.1 y.1.2.1 y.2.1 y.2.2.1))) (NxOk.go hb (sha256_schedule_1_b N hb)) rfl (fun x => by kernel_rfl)
noncomputable def sha256_schedule_ctr (N : Nat) : Ctr := ⟨sha256_schedule_S2, sha256_schedule_S3.un [true], 0, (fun y => sha256_schedule N y.1.1)⟩
theorem sha256_schedule_ctrs (N : Nat) : CtrsOk Tryd.prog (sha256_schedule_C N) := ctrs_of (Γ := sha256_schedule_C N) (by
  intro p hp
  simp only [sha256_schedule_C, List.mem_cons, List.not_mem_nil, or_false] at hp
  rcases hp with rfl | rfl
  · exact wire_Number_ok N
  · exact sha256_right_ok N)
theorem sha256_schedule_ok (N : Nat) : Ctr.ok Tryd.prog G_globs 214 (sha256_schedule_ctr N) :=
  ctr_fn (Γ := sha256_schedule_C N) (rfit := sha256_schedule_S3) (bs := [true]) (res := [2]) (by kernel_rfl) (tys_ok G_tys_ok) (sha256_schedule_ctrs N) Tryd.func214 (by kernel_rfl) (by kernel_rfl) Tryd.ntmps214 (by kernel_rfl) (by kernel_rfl) (by kernel_rfl) (by kernel_rfl) (fun E hb => sha256_schedule_b N hb)
end Go.Proofs.YtofajgidjkjnpaaDoor
namespace Go.Proofs.YtofajgidjkjnpaaDoor
open Go
set_option maxRecDepth 100000
set_option linter.unusedVariables false
/-! ipsecgate/sha256.Block -/
abbrev sha256_Block_R : Type := (((List UInt32) × Bool × Unit) × (Unit))
noncomputable def sha256_Block_s2 (N : Nat) (a_6 : UInt32) (b_7 : UInt32) (c_8 : UInt32) (d_9 : UInt32) (e_10 : UInt32) (f_11 : UInt32) (g_12 : UInt32) (h_13 : UInt32) (t_41 : (List UInt32)) (t_42 : Int) (state_2 : (List UInt32)) (t_4 : (List UInt32)) : Option (Lo ((UInt32 × UInt32 × UInt32 × UInt32 × UInt32 × UInt32 × UInt32 × UInt32 × (List UInt32) × Int × Unit) × ((List UInt32) × (List UInt32) × Unit)) ((UInt32 × UInt32 × UInt32 × UInt32 × UInt32 × UInt32 × UInt32 × UInt32 × Unit) × ((List UInt32) × (List UInt32) × Unit)) sha256_Block_R) :=
  bif (decide (t_42 < (64 : Int))) then
    bif inR t_42 64 then
    let x14 := t_41.getD t_42.toNat (0 : UInt32)
    Option.bind (sha256_right N e_10 (6 : Int)) fun y15 =>
    Option.bind (sha256_right N e_10 (11 : Int)) fun y16 =>
    Option.bind (sha256_right N e_10 (25 : Int)) fun y18 =>
    let x19 := (y15.1.1 ^^^ y16.1.1) ^^^ y18.1.1
    bif inR t_42 64 then
    let x26 := g_sha256_constants.getD t_42.toNat (0 : UInt32)
    Option.bind (sha256_right N a_6 (2 : Int)) fun y29 =>
    Option.bind (sha256_right N a_6 (13 : Int)) fun y30 =>
    Option.bind (sha256_right N a_6 (22 : Int)) fun y32 =>
    some (.go (((((((h_13 + x19) + ((e_10 &&& f_11) ^^^ ((~~~ e_10) &&& g_12))) + x26) + x14) + (((y29.1.1 ^^^ y30.1.1) ^^^ y32.1.1) + (((a_6 &&& b_7) ^^^ (a_6 &&& c_8)) ^^^ (b_7 &&& c_8)))), a_6, b_7, c_8, (d_9 + ((((h_13 + x19) + ((e_10 &&& f_11) ^^^ ((~~~ e_10) &&& g_12))) + x26) + x14)), e_10, f_11, g_12, t_41, (w64 (t_42 + (1 : Int))), ()), (state_2, t_4, ())))
    else none
    else none
  else
    some (.br ((a_6, b_7, c_8, d_9, e_10, f_11, g_12, h_13, ()), (state_2, t_4, ())))
noncomputable def sha256_Block_s5 (N : Nat) (t_112 : (List UInt32)) (t_113 : Int) (state_2 : (List UInt32)) (t_4 : (List UInt32)) : Option (Lo (((List UInt32) × Int × Unit) × ((List UInt32) × (List UInt32) × Unit)) ((Unit) × ((List UInt32) × (List UInt32) × Unit)) sha256_Block_R) :=
  bif (decide (t_113 < (8 : Int))) then
    bif inR t_113 8 then
    bif inR t_113 8 then
    bif inR t_113 8 then
    some (.go ((t_112, (w64 (t_113 + (1 : Int))), ()), ((state_2.set t_113.toNat ((state_2.getD t_113.toNat (0 : UInt32)) + (t_112.getD t_113.toNat (0 : UInt32)))), t_4, ())))
    else none
    else none
    else none
  else
    some (.br ((()), (state_2, t_4, ())))
noncomputable def sha256_Block_6 (N : Nat) (state_2 : (List UInt32)) (t_4 : (List UInt32)) : Option sha256_Block_R :=
  some ((state_2, true, ()), (()))
noncomputable def sha256_Block_4 (N : Nat) (t_112 : (List UInt32)) (t_113 : Int) (state_2 : (List UInt32)) (t_4 : (List UInt32)) : Option sha256_Block_R :=
  loopK N (fun y => sha256_Block_s5 N y.1.1 y.1.2.1 y.2.1 y.2.2.1) (fun (e : ((Unit) × ((List UInt32) × (List UInt32) × Unit))) => sha256_Block_6 N e.2.1 e.2.2.1) ((t_112, t_113, ()), (state_2, t_4, ()))
noncomputable def sha256_Block_3 (N : Nat) (a_6 : UInt32) (b_7 : UInt32) (c_8 : UInt32) (d_9 : UInt32) (e_10 : UInt32) (f_11 : UInt32) (g_12 : UInt32) (h_13 : UInt32) (state_2 : (List UInt32)) (t_4 : (List UInt32)) : Option sha256_Block_R :=
  sha256_Block_4 N ([a_6, b_7, c_8, d_9, e_10, f_11, g_12, h_13] : List UInt32) (0 : Int) state_2 t_4
noncomputable def sha256_Block_1 (N : Nat) (a_6 : UInt32) (b_7 : UInt32) (c_8 : UInt32) (d_9 : UInt32) (e_10 : UInt32) (f_11 : UInt32) (g_12 : UInt32) (h_13 : UInt32) (t_41 : (List UInt32)) (t_42 : Int) (state_2 : (List UInt32)) (t_4 : (List UInt32)) : Option sha256_Block_R :=
  loopK N (fun y => sha256_Block_s2 N y.1.1 y.1.2.1 y.1.2.2.1 y.1.2.2.2.1 y.1.2.2.2.2.1 y.1.2.2.2.2.2.1 y.1.2.2.2.2.2.2.1 y.1.2.2.2.2.2.2.2.1 y.1.2.2.2.2.2.2.2.2.1 y.1.2.2.2.2.2.2.2.2.2.1 y.2.1 y.2.2.1) (fun (e : ((UInt32 × UInt32 × UInt32 × UInt32 × UInt32 × UInt32 × UInt32 × UInt32 × Unit) × ((List UInt32) × (List UInt32) × Unit))) => sha256_Block_3 N e.1.1 e.1.2.1 e.1.2.2.1 e.1.2.2.2.1 e.1.2.2.2.2.1 e.1.2.2.2.2.2.1 e.1.2.2.2.2.2.2.1 e.1.2.2.2.2.2.2.2.1 e.2.1 e.2.2.1) ((a_6, b_7, c_8, d_9, e_10, f_11, g_12, h_13, t_41, t_42, ()), (state_2, t_4, ()))
noncomputable def sha256_Block (N : Nat) (state_0 : (List UInt32)) (block_1 : (List UInt8)) : Option sha256_Block_R :=
  bif (!(decide ((block_1.length : Int) = (64 : Int)))) then
    some (((List.replicate 8 (0 : UInt32)), false, ()), (()))
  else
    Option.bind (sha256_schedule N block_1) fun y12 =>
    sha256_Block_1 N (state_0.getD 0 (0 : UInt32)) (state_0.getD 1 (0 : UInt32)) (state_0.getD 2 (0 : UInt32)) (state_0.getD 3 (0 : UInt32)) (state_0.getD 4 (0 : UInt32)) (state_0.getD 5 (0 : UInt32)) (state_0.getD 6 (0 : UInt32)) (state_0.getD 7 (0 : UInt32)) y12.1.1 (0 : Int) state_0 (List.replicate 8 (0 : UInt32))
noncomputable def sha256_Block_C (N : Nat) : Ctx := ⟨125, G_tys, [(214, sha256_schedule_ctr N), (215, sha256_right_ctr N)], G_globs⟩
noncomputable def sha256_Block_S0 : Spec := ⟨[.ref 0 (.arr 8 .u32), .ref 1 (.arr 8 .u32), .val .u32, .val .u32, .val .u32, .val .u32, .val .u32, .val .u32, .val .u32, .val .u32, .val (.arr 64 .u32), .val .i64], [(.box 218 (.arr 8 .u32), .pos 0), (.box 218 (.arr 8 .u32), .pos 1)]⟩
noncomputable def sha256_Block_S1 : Spec := ⟨[.ref 0 (.arr 8 .u32), .ref 1 (.arr 8 .u32), .val (.arr 8 .u32), .val .i64], [(.box 218 (.arr 8 .u32), .pos 0), (.box 218 (.arr 8 .u32), .pos 1)]⟩
noncomputable def sha256_Block_S2 : Spec := ⟨[.ref 0 (.arr 8 .u32), .ref 1 (.arr 8 .u32)], [(.box 218 (.arr 8 .u32), .pos 0), (.box 218 (.arr 8 .u32), .pos 1)]⟩
noncomputable def sha256_Block_S3 : Spec := ⟨[.ref 0 (.arr 8 .u32), .ref 1 (.arr 8 .u32), .val .u32, .val .u32, .val .u32, .val .u32, .val .u32, .val .u32, .val .u32, .val .u32], [(.box 218 (.arr 8 .u32), .pos 0), (.box 218 (.arr 8 .u32), .pos 1)]⟩
noncomputable def sha256_Block_S4 : Spec := ⟨[.val (.arr 8 .u32), .val (.sl .u8)], []⟩
noncomputable def sha256_Block_S5 : Spec := ⟨[.fp (.arr 8 .u32), .val .bool], []⟩
noncomputable def sha256_Block_K (_N : Nat) : XE → GS → Option sha256_Block_R := retK 0 [4, 5] [true, false] sha256_Block_S5
noncomputable def sha256_Block_L : List Code := (bodyOf (some Tryd.f192))
noncomputable def sha256_Block_L2 : List Code := (loopOf (sha256_Block_L[5]?))
noncomputable def sha256_Block_L5 : List Code := (loopOf (sha256_Block_L[7]?))
noncomputable def sha256_Block_K2 (N : Nat) : XE → GS → Option (Lo ((UInt32 × UInt32 × UInt32 × UInt32 × UInt32 × UInt32 × UInt32 × UInt32 × (List UInt32) × Int × Unit) × ((List UInt32) × (List UInt32) × Unit)) ((UInt32 × UInt32 × UInt32 × UInt32 × UInt32 × UInt32 × UInt32 × UInt32 × Unit) × ((List UInt32) × (List UInt32) × Unit)) sha256_Block_R) := roundK (some 0) (fit 0 [2, 4, 6, 7, 8, 9, 10, 11, 12, 13, 41, 42] sha256_Block_S0) (fit 0 [2, 4, 6, 7, 8, 9, 10, 11, 12, 13] sha256_Block_S3) (sha256_Block_K N)
noncomputable def sha256_Block_K5 (N : Nat) : XE → GS → Option (Lo (((List UInt32) × Int × Unit) × ((List UInt32) × (List UInt32) × Unit)) ((Unit) × ((List UInt32) × (List UInt32) × Unit)) sha256_Block_R) := roundK (some 2) (fit 0 [2, 4, 112, 113] sha256_Block_S1) (fit 0 [2, 4] sha256_Block_S2) (sha256_Block_K N)
theorem sha256_Block_s2_b {E : Env} (N : Nat) (hb : Base Tryd.prog (sha256_Block_C N) E 0) : Blk Tryd.prog (sha256_Block_C N) E [2, 4, 6, 7, 8, 9, 10, 11, 12, 13, 41, 42] sha256_Block_S0 (sha256_Block_L2.drop 0) (fun y => sha256_Block_s2 N y.1.1 y.1.2.1 y.1.2.2.1 y.1.2.2.2.1 y.1.2.2.2.2.1 y.1.2.2.2.2.2.1 y.1.2.2.2.2.2.2.1 y.1.2.2.2.2.2.2.2.1 y.1.2.2.2.2.2.2.2.2.1 y.1.2.2.2.2.2.2.2.2.2.1 y.2.1 y.2.2.1) (sha256_Block_K2 N) :=
  Blk.chunkAt hb 4 (X := (sha256_Block_K2 N .normal)) (NxOk.end (by kernel_rfl)) rfl (fun x => by kernel_rfl)
theorem sha256_Block_s5_b {E : Env} (N : Nat) (hb : Base Tryd.prog (sha256_Block_C N) E 0) : Blk Tryd.prog (sha256_Block_C N) E [2, 4, 112, 113] sha256_Block_S1 (sha256_Block_L5.drop 0) (fun y => sha256_Block_s5 N y.1.1 y.1.2.1 y.2.1 y.2.2.1) (sha256_Block_K5 N) :=
  Blk.chunkAt hb 4 (X := (sha256_Block_K5 N .normal)) (NxOk.end (by kernel_rfl)) rfl (fun x => by kernel_rfl)
theorem sha256_Block_6_b {E : Env} (N : Nat) (hb : Base Tryd.prog (sha256_Block_C N) E 0) : Blk Tryd.prog (sha256_Block_C N) E [2, 4] sha256_Block_S2 (sha256_Block_L.drop 8) (fun y => sha256_Block_6 N y.2.1 y.2.2.1) (sha256_Block_K N) :=
  Blk.chunkAt hb 2 (X := (sha256_Block_K N .normal)) (NxOk.end (by kernel_rfl)) rfl (fun x => by kernel_rfl)
theorem sha256_Block_4_b {E : Env} (N : Nat) (hb : Base Tryd.prog (sha256_Block_C N) E 0) : Blk Tryd.prog (sha256_Block_C N) E [2, 4, 112, 113] sha256_Block_S1 (sha256_Block_L.drop 7) (fun y => sha256_Block_4 N y.1.1 y.1.2.1 y.2.1 y.2.2.1) (sha256_Block_K N) :=
  Blk.loopAt (Nf := N) (hns := [2, 4, 112, 113]) (ans := [2, 4]) (hc := sha256_Block_S1) (ac := sha256_Block_S2) (bid := 2) (step := (fun y => sha256_Block_s5 N y.1.1 y.1.2.1 y.2.1 y.2.2.1)) (J := (fun e => (goK 0 [2, 4] sha256_Block_S2 (fun y => sha256_Block_6 N y.2.1 y.2.2.1)) (sha256_Block_S2.st [2, 4] e))) hb (by kernel_rfl) (Blk.into (X := (goK 0 [2, 4] sha256_Block_S2 (fun y => sha256_Block_6 N y.2.1 y.2.2.1))) (NxOk.go hb (sha256_Block_6_b N hb)) (fun x => by kernel_rfl)) (sha256_Block_s5_b N hb) (fun x => by kernel_rfl)
theorem sha256_Block_3_b {E : Env} (N : Nat) (hb : Base Tryd.prog (sha256_Block_C N) E 0) : Blk Tryd.prog (sha256_Block_C N) E [2, 4, 6, 7, 8, 9, 10, 11, 12, 13] sha256_Block_S3 (sha256_Block_L.drop 6) (fun y => sha256_Block_3 N y.1.1 y.1.2.1 y.1.2.2.1 y.1.2.2.2.1 y.1.2.2.2.2.1 y.1.2.2.2.2.2.1 y.1.2.2.2.2.2.2.1 y.1.2.2.2.2.2.2.2.1 y.2.1 y.2.2.1) (sha256_Block_K N) :=
  Blk.chunkAt hb 1 (X := (goK 0 [2, 4, 112, 113] sha256_Block_S1 (fun y => sha256_Block_4 N y.1.1 y.1.2.1 y.2.1 y.2.2.1))) (NxOk.go hb (sha256_Block_4_b N hb)) rfl (fun x => by kernel_rfl)
theorem sha256_Block_1_b {E : Env} (N : Nat) (hb : Base Tryd.prog (sha256_Block_C N) E 0) : Blk Tryd.prog (sha256_Block_C N) E [2, 4, 6, 7, 8, 9, 10, 11, 12, 13, 41, 42] sha256_Block_S0 (sha256_Block_L.drop 5) (fun y => sha256_Block_1 N y.1.1 y.1.2.1 y.1.2.2.1 y.1.2.2.2.1 y.1.2.2.2.2.1 y.1.2.2.2.2.2.1 y.1.2.2.2.2.2.2.1 y.1.2.2.2.2.2.2.2.1 y.1.2.2.2.2.2.2.2.2.1 y.1.2.2.2.2.2.2.2.2.2.1 y.2.1 y.2.2.1) (sha256_Block_K N) :=
  Blk.loopAt (Nf := N) (hns := [2, 4, 6, 7, 8, 9, 10, 11, 12, 13, 41, 42]) (ans := [2, 4, 6, 7, 8, 9, 10, 11, 12, 13]) (hc := sha256_Block_S0) (ac := sha256_Block_S3) (bid := 0) (step := (fun y => sha256_Block_s2 N y.1.1 y.1.2.1 y.1.2.2.1 y.1.2.2.2.1 y.1.2.2.2.2.1 y.1.2.2.2.2.2.1 y.1.2.2.2.2.2.2.1 y.1.2.2.2.2.2.2.2.1 y.1.2.2.2.2.2.2.2.2.1 y.1.2.2.2.2.2.2.2.2.2.1 y.2.1 y.2.2.1)) (J := (fun e => (goK 0 [2, 4, 6, 7, 8, 9, 10, 11, 12, 13] sha256_Block_S3 (fun y => sha256_Block_3 N y.1.1 y.1.2.1 y.1.2.2.1 y.1.2.2.2.1 y.1.2.2.2.2.1 y.1.2.2.2.2.2.1 y.1.2.2.2.2.2.2.1 y.1.2.2.2.2.2.2.2.1 y.2.1 y.2.2.1)) (sha256_Block_S3.st [2, 4, 6, 7, 8, 9, 10, 11, 12, 13] e))) hb (by kernel_rfl) (Blk.into (X := (goK 0 [2, 4, 6, 7, 8, 9, 10, 11, 12, 13] sha256_Block_S3 (fun y => sha256_Block_3 N y.1.1 y.1.2.1 y.1.2.2.1 y.1.2.2.2.1 y.1.2.2.2.2.1 y.1.2.2.2.2.2.1 y.1.2.2.2.2.2.2.1 y.1.2.2.2.2.2.2.2.1 y.2.1 y.2.2.1))) (NxOk.go hb (sha256_Block_3_b N hb)) (fun x => by kernel_rfl)) (sha256_Block_s2_b N hb) (fun x => by kernel_rfl)
theorem sha256_Block_b {E : Env} (N : Nat) (hb : Base Tryd.prog (sha256_Block_C N) E 0) : Blk Tryd.prog (sha256_Block_C N) E (List.range sha256_Block_S4.ks.length) sha256_Block_S4 (sha256_Block_L.drop 0) (fun y => sha256_Block N y.1.1 y.1.2.1) (sha256_Block_K N) :=
  Blk.chunkAt hb 5 (X := (goK 0 [2, 4, 6, 7, 8, 9, 10, 11, 12, 13, 41, 42] sha256_Block_S0 (fun y => sha256_Block_1 N y.1.1 y.1.2.1 y.1.2.2.1 y.1.2.2.2.1 y.1.2.2.2.2.1 y.1.2.2.2.2.2.1 y.1.2.2.2.2.2.2.1 y.1.2.2.2.2.2.2.2.1 y.1.2.2.2.2.2.2.2.2.1 y.1.2.2.2.2.2.2.2.2.2.1 y.2.1 y.2.2.1))) (NxOk.go hb (sha256_Block_1_b N hb)) rfl (fun x => by kernel_rfl)
noncomputable def sha256_Block_ctr (N : Nat) : Ctr := ⟨sha256_Block_S4, sha256_Block_S5.un [true, false], 0, (fun y => sha256_Block N y.1.1 y.1.2.1)⟩
theorem sha256_Block_ctrs (N : Nat) : CtrsOk Tryd.prog (sha256_Block_C N) := ctrs_of (Γ := sha256_Block_C N) (by
  intro p hp
  simp only [sha256_Block_C, List.mem_cons, List.not_mem_nil, or_false] at hp
  rcases hp with rfl | rfl
  · exact sha256_schedule_ok N
  · exact sha256_right_ok N)
theorem sha256_Block_ok (N : Nat) : Ctr.ok Tryd.prog G_globs 192 (sha256_Block_ctr N) :=
  ctr_fn (Γ := sha256_Block_C N) (rfit := sha256_Block_S5) (bs := [true, false]) (res := [4, 5]) (by kernel_rfl) (tys_ok G_tys_ok) (sha256_Block_ctrs N) Tryd.func192 (by kernel_rfl) (by kernel_rfl) Tryd.ntmps192 (by kernel_rfl) (by kernel_rfl) (by kernel_rfl) (by kernel_rfl) (fun E hb => sha256_Block_b N hb)
end Go.Proofs.YtofajgidjkjnpaaDoor
namespace Go.Proofs.YtofajgidjkjnpaaDoor
open Go
set_option maxRecDepth 100000
set_option linter.unusedVariables false
/-! ipsecgate/sha256.Sum -/
abbrev sha256_Sum_R : Type := ((Unit) × ((List UInt8) × Unit))
noncomputable def sha256_Sum_s2 (N : Nat) (all_3 : (List UInt8)) (at_5 : Int) (state_4 : (List UInt32)) : Option (Lo (((List UInt8) × Int × Unit) × ((List UInt32) × Unit)) ((Unit) × ((List UInt32) × Unit)) sha256_Sum_R) :=
  bif (decide (at_5 < (all_3.length : Int))) then
    let x6 := w64 (at_5 + (64 : Int))
    bif decide (0 ≤ at_5) && decide (at_5 ≤ x6) && decide (x6 ≤ (all_3.length : Int)) && true then
    Option.bind (sha256_Block N state_4 (cut all_3 at_5.toNat x6.toNat)) fun y8 =>
    some (.go ((all_3, (w64 (at_5 + (64 : Int))), ()), (y8.1.1, ())))
    else none
  else
    some (.br ((()), (state_4, ())))
noncomputable def sha256_Sum_s5 (N : Nat) (t_32 : (List UInt32)) (t_33 : Int) (out_6 : (List UInt8)) : Option (Lo (((List UInt32) × Int × Unit) × ((List UInt8) × Unit)) ((Unit) × ((List UInt8) × Unit)) sha256_Sum_R) :=
  bif (decide (t_33 < (8 : Int))) then
    bif inR t_33 8 then
    Option.bind (wire_Put N (t_32.getD t_33.toNat (0 : UInt32)).toUInt64 (4 : Int) out_6) fun y12 =>
    some (.go ((t_32, (w64 (t_33 + (1 : Int))), ()), (y12.2.1, ())))
    else none
  else
    some (.br ((()), (out_6, ())))
noncomputable def sha256_Sum_6 (N : Nat) (out_6 : (List UInt8)) : Option sha256_Sum_R :=
  some ((()), (out_6, ()))
noncomputable def sha256_Sum_4 (N : Nat) (t_32 : (List UInt32)) (t_33 : Int) (out_6 : (List UInt8)) : Option sha256_Sum_R :=
  loopK N (fun y => sha256_Sum_s5 N y.1.1 y.1.2.1 y.2.1) (fun (e : ((Unit) × ((List UInt8) × Unit))) => sha256_Sum_6 N e.2.1) ((t_32, t_33, ()), (out_6, ()))
noncomputable def sha256_Sum_3 (N : Nat) (state_4 : (List UInt32)) : Option sha256_Sum_R :=
  sha256_Sum_4 N state_4 (0 : Int) ([] : List UInt8)
noncomputable def sha256_Sum_1 (N : Nat) (at_5 : Int) (all_3 : (List UInt8)) (state_4 : (List UInt32)) : Option sha256_Sum_R :=
  loopK N (fun y => sha256_Sum_s2 N y.1.1 y.1.2.1 y.2.1) (fun (e : ((Unit) × ((List UInt32) × Unit))) => sha256_Sum_3 N e.2.1) ((all_3, at_5, ()), (state_4, ()))
noncomputable def sha256_Sum (N : Nat) (b_0 : (List UInt8)) : Option sha256_Sum_R :=
  bif room (0 + b_0.length) 1 then
  Option.bind (sha256_Pad N (b_0.length : Int)) fun y2 =>
  bif room (b_0.length + y2.2.1.length) 1 then
  sha256_Sum_1 N (0 : Int) (b_0 ++ y2.2.1) g_sha256_initial
  else none
  else none
noncomputable def sha256_Sum_C (N : Nat) : Ctx := ⟨42, G_tys, [(191, sha256_Pad_ctr N), (192, sha256_Block_ctr N), (91, wire_Put_ctr N)], G_globs⟩
noncomputable def sha256_Sum_S0 : Spec := ⟨[.val (.sl .u8), .ref 0 (.arr 8 .u32), .val .i64], [(.box 218 (.arr 8 .u32), .pos 1)]⟩
noncomputable def sha256_Sum_S1 : Spec := ⟨[.row 0, .val (.arr 8 .u32), .val .i64], [(.row 5 .u8, .pos 0)]⟩
noncomputable def sha256_Sum_S2 : Spec := ⟨[.row 0], [(.row 5 .u8, .pos 0)]⟩
noncomputable def sha256_Sum_S3 : Spec := ⟨[.ref 0 (.arr 8 .u32)], [(.box 218 (.arr 8 .u32), .pos 0)]⟩
noncomputable def sha256_Sum_S4 : Spec := ⟨[.row 0, .ref 1 (.arr 8 .u32), .val .i64], [(.row 5 .u8, .pos 0), (.box 218 (.arr 8 .u32), .pos 1)]⟩
noncomputable def sha256_Sum_S5 : Spec := ⟨[.val (.sl .u8)], []⟩
noncomputable def sha256_Sum_K (_N : Nat) : XE → GS → Option sha256_Sum_R := retK 0 [2] [false] sha256_Sum_S2
noncomputable def sha256_Sum_L : List Code := (bodyOf (some Tryd.f155))
noncomputable def sha256_Sum_L2 : List Code := (loopOf (sha256_Sum_L[4]?))
noncomputable def sha256_Sum_L5 : List Code := (loopOf (sha256_Sum_L[7]?))
noncomputable def sha256_Sum_K2 (N : Nat) : XE → GS → Option (Lo (((List UInt8) × Int × Unit) × ((List UInt32) × Unit)) ((Unit) × ((List UInt32) × Unit)) sha256_Sum_R) := roundK (some 0) (fit 0 [3, 4, 5] sha256_Sum_S0) (fit 0 [4] sha256_Sum_S3) (sha256_Sum_K N)
noncomputable def sha256_Sum_K5 (N : Nat) : XE → GS → Option (Lo (((List UInt32) × Int × Unit) × ((List UInt8) × Unit)) ((Unit) × ((List UInt8) × Unit)) sha256_Sum_R) := roundK (some 2) (fit 0 [6, 32, 33] sha256_Sum_S1) (fit 0 [6] sha256_Sum_S2) (sha256_Sum_K N)
theorem sha256_Sum_s2_b {E : Env} (N : Nat) (hb : Base Tryd.prog (sha256_Sum_C N) E 0) : Blk Tryd.prog (sha256_Sum_C N) E [3, 4, 5] sha256_Sum_S0 (sha256_Sum_L2.drop 0) (fun y => sha256_Sum_s2 N y.1.1 y.1.2.1 y.2.1) (sha256_Sum_K2 N) :=
  Blk.chunkAt hb 4 (X := (sha256_Sum_K2 N .normal)) (NxOk.end (by kernel_rfl)) rfl (fun x => by kernel_rfl)
theorem sha256_Sum_s5_b {E : Env} (N : Nat) (hb : Base Tryd.prog (sha256_Sum_C N) E 0) : Blk Tryd.prog (sha256_Sum_C N) E [6, 32, 33] sha256_Sum_S1 (sha256_Sum_L5.drop 0) (fun y => sha256_Sum_s5 N y.1.1 y.1.2.1 y.2.1) (sha256_Sum_K5 N) :=
  Blk.chunkAt hb 4 (X := (sha256_Sum_K5 N .normal)) (NxOk.end (by kernel_rfl)) rfl (fun x => by kernel_rfl)
theorem sha256_Sum_6_b {E : Env} (N : Nat) (hb : Base Tryd.prog (sha256_Sum_C N) E 0) : Blk Tryd.prog (sha256_Sum_C N) E [6] sha256_Sum_S2 (sha256_Sum_L.drop 8) (fun y => sha256_Sum_6 N y.2.1) (sha256_Sum_K N) :=
  Blk.chunkAt hb 2 (X := (sha256_Sum_K N .normal)) (NxOk.end (by kernel_rfl)) rfl (fun x => by kernel_rfl)
theorem sha256_Sum_4_b {E : Env} (N : Nat) (hb : Base Tryd.prog (sha256_Sum_C N) E 0) : Blk Tryd.prog (sha256_Sum_C N) E [6, 32, 33] sha256_Sum_S1 (sha256_Sum_L.drop 7) (fun y => sha256_Sum_4 N y.1.1 y.1.2.1 y.2.1) (sha256_Sum_K N) :=
  Blk.loopAt (Nf := N) (hns := [6, 32, 33]) (ans := [6]) (hc := sha256_Sum_S1) (ac := sha256_Sum_S2) (bid := 2) (step := (fun y => sha256_Sum_s5 N y.1.1 y.1.2.1 y.2.1)) (J := (fun e => (goK 0 [6] sha256_Sum_S2 (fun y => sha256_Sum_6 N y.2.1)) (sha256_Sum_S2.st [6] e))) hb (by kernel_rfl) (Blk.into (X := (goK 0 [6] sha256_Sum_S2 (fun y => sha256_Sum_6 N y.2.1))) (NxOk.go hb (sha256_Sum_6_b N hb)) (fun x => by kernel_rfl)) (sha256_Sum_s5_b N hb) (fun x => by kernel_rfl)
theorem sha256_Sum_3_b {E : Env} (N : Nat) (hb : Base Tryd.prog (sha256_Sum_C N) E 0) : Blk Tryd.prog (sha256_Sum_C N) E [4] sha256_Sum_S3 (sha256_Sum_L.drop 5) (fun y => sha256_Sum_3 N y.2.1) (sha256_Sum_K N) :=
  Blk.chunkAt hb 2 (X := (goK 0 [6, 32, 33] sha256_Sum_S1 (fun y => sha256_Sum_4 N y.1.1 y.1.2.1 y.2.1))) (NxOk.go hb (sha256_Sum_4_b N hb)) rfl (fun x => by kernel_rfl)
theorem sha256_Sum_1_b {E : Env} (N : Nat) (hb : Base Tryd.prog (sha256_Sum_C N) E 0) : Blk Tryd.prog (sha256_Sum_C N) E [3, 4, 5] sha256_Sum_S4 (sha256_Sum_L.drop 4) (fun y => sha256_Sum_1 N y.1.1 y.2.1 y.2.2.1) (sha256_Sum_K N) :=
  Blk.loopAt (Nf := N) (hns := [3, 4, 5]) (ans := [4]) (hc := sha256_Sum_S0) (ac := sha256_Sum_S3) (bid := 0) (step := (fun y => sha256_Sum_s2 N y.1.1 y.1.2.1 y.2.1)) (J := (fun e => (goK 0 [4] sha256_Sum_S3 (fun y => sha256_Sum_3 N y.2.1)) (sha256_Sum_S3.st [4] e))) hb (by kernel_rfl) (Blk.into (X := (goK 0 [4] sha256_Sum_S3 (fun y => sha256_Sum_3 N y.2.1))) (NxOk.go hb (sha256_Sum_3_b N hb)) (fun x => by kernel_rfl)) (sha256_Sum_s2_b N hb) (fun x => by kernel_rfl)
theorem sha256_Sum_b {E : Env} (N : Nat) (hb : Base Tryd.prog (sha256_Sum_C N) E 0) : Blk Tryd.prog (sha256_Sum_C N) E (List.range sha256_Sum_S5.ks.length) sha256_Sum_S5 (sha256_Sum_L.drop 0) (fun y => sha256_Sum N y.1.1) (sha256_Sum_K N) :=
  Blk.chunkAt hb 4 (X := (goK 0 [3, 4, 5] sha256_Sum_S4 (fun y => sha256_Sum_1 N y.1.1 y.2.1 y.2.2.1))) (NxOk.go hb (sha256_Sum_1_b N hb)) rfl (fun x => by kernel_rfl)
noncomputable def sha256_Sum_ctr (N : Nat) : Ctr := ⟨sha256_Sum_S5, sha256_Sum_S2.un [false], 0, (fun y => sha256_Sum N y.1.1)⟩
theorem sha256_Sum_ctrs (N : Nat) : CtrsOk Tryd.prog (sha256_Sum_C N) := ctrs_of (Γ := sha256_Sum_C N) (by
  intro p hp
  simp only [sha256_Sum_C, List.mem_cons, List.not_mem_nil, or_false] at hp
  rcases hp with rfl | rfl | rfl
  · exact sha256_Pad_ok N
  · exact sha256_Block_ok N
  · exact wire_Put_ok N)
theorem sha256_Sum_ok (N : Nat) : Ctr.ok Tryd.prog G_globs 155 (sha256_Sum_ctr N) :=
  ctr_fn (Γ := sha256_Sum_C N) (rfit := sha256_Sum_S2) (bs := [false]) (res := [2]) (by kernel_rfl) (tys_ok G_tys_ok) (sha256_Sum_ctrs N) Tryd.func155 (by kernel_rfl) (by kernel_rfl) Tryd.ntmps155 (by kernel_rfl) (by kernel_rfl) (by kernel_rfl) (by kernel_rfl) (fun E hb => sha256_Sum_b N hb)
end Go.Proofs.YtofajgidjkjnpaaDoor
namespace Go.Proofs.YtofajgidjkjnpaaDoor
open Go
set_option maxRecDepth 100000
set_option linter.unusedVariables false
/-! ipsecgate/prf.Hmac$1 -/
abbrev prf_Hmac_f1_R : Type := ((Unit) × ((List UInt8) × Unit))
noncomputable def prf_Hmac_f1_s2 (N : Nat) (mask_0 : UInt8) (b_1 : (List UInt8)) (t_9 : (List UInt8)) (t_10 : Int) (l_6 : (List UInt8)) : Option (Lo ((UInt8 × (List UInt8) × (List UInt8) × Int × Unit) × ((List UInt8) × Unit)) (((List UInt8) × Unit) × ((List UInt8) × Unit)) prf_Hmac_f1_R) :=
  bif (decide (t_10 < (64 : Int))) then
    bif inR t_10 64 then
    let x2 := t_9.getD t_10.toNat (0 : UInt8)
    bif room (l_6.length + ([(x2 ^^^ mask_0)] : List UInt8).length) 1 then
    some (.go ((mask_0, b_1, t_9, (w64 (t_10 + (1 : Int))), ()), ((l_6 ++ ([(x2 ^^^ mask_0)] : List UInt8)), ())))
    else none
    else none
  else
    some (.br ((b_1, ()), (l_6, ())))
noncomputable def prf_Hmac_f1_3 (N : Nat) (b_1 : (List UInt8)) (l_6 : (List UInt8)) : Option prf_Hmac_f1_R :=
  bif room (l_6.length + b_1.length) 1 then
  Option.bind (sha256_Sum N (l_6 ++ b_1)) fun y7 =>
  some ((()), (y7.2.1, ()))
  else none
noncomputable def prf_Hmac_f1_1 (N : Nat) (mask_0 : UInt8) (b_1 : (List UInt8)) (t_9 : (List UInt8)) (t_10 : Int) (l_6 : (List UInt8)) : Option prf_Hmac_f1_R :=
  loopK N (fun y => prf_Hmac_f1_s2 N y.1.1 y.1.2.1 y.1.2.2.1 y.1.2.2.2.1 y.2.1) (fun (e : (((List UInt8) × Unit) × ((List UInt8) × Unit))) => prf_Hmac_f1_3 N e.1.1 e.2.1) ((mask_0, b_1, t_9, t_10, ()), (l_6, ()))
noncomputable def prf_Hmac_f1 (N : Nat) (mask_0 : UInt8) (b_1 : (List UInt8)) (t_2 : (List UInt8)) : Option prf_Hmac_f1_R :=
  prf_Hmac_f1_1 N mask_0 b_1 t_2 (0 : Int) ([] : List UInt8)
noncomputable def prf_Hmac_f1_C (N : Nat) : Ctx := ⟨24, G_tys, [(155, sha256_Sum_ctr N)], G_globs⟩
noncomputable def prf_Hmac_f1_S0 : Spec := ⟨[.val .u8, .val (.sl .u8), .row 0, .val (.arr 64 .u8), .val .i64], [(.row 5 .u8, .pos 2)]⟩
noncomputable def prf_Hmac_f1_S1 : Spec := ⟨[.val (.sl .u8), .row 0], [(.row 5 .u8, .pos 1)]⟩
noncomputable def prf_Hmac_f1_S2 : Spec := ⟨[.val .u8, .val (.sl .u8), .fp (.arr 64 .u8)], []⟩
noncomputable def prf_Hmac_f1_S3 : Spec := ⟨[.row 0], [(.row 5 .u8, .pos 0)]⟩
noncomputable def prf_Hmac_f1_K (_N : Nat) : XE → GS → Option prf_Hmac_f1_R := retK 0 [5] [false] prf_Hmac_f1_S3
noncomputable def prf_Hmac_f1_L : List Code := (bodyOf (some Tryd.f156))
noncomputable def prf_Hmac_f1_L2 : List Code := (loopOf (prf_Hmac_f1_L[3]?))
noncomputable def prf_Hmac_f1_K2 (N : Nat) : XE → GS → Option (Lo ((UInt8 × (List UInt8) × (List UInt8) × Int × Unit) × ((List UInt8) × Unit)) (((List UInt8) × Unit) × ((List UInt8) × Unit)) prf_Hmac_f1_R) := roundK (some 0) (fit 0 [0, 1, 6, 9, 10] prf_Hmac_f1_S0) (fit 0 [1, 6] prf_Hmac_f1_S1) (prf_Hmac_f1_K N)
theorem prf_Hmac_f1_s2_b {E : Env} (N : Nat) (hb : Base Tryd.prog (prf_Hmac_f1_C N) E 0) : Blk Tryd.prog (prf_Hmac_f1_C N) E [0, 1, 6, 9, 10] prf_Hmac_f1_S0 (prf_Hmac_f1_L2.drop 0) (fun y => prf_Hmac_f1_s2 N y.1.1 y.1.2.1 y.1.2.2.1 y.1.2.2.2.1 y.2.1) (prf_Hmac_f1_K2 N) :=
  Blk.chunkAt hb 4 (X := (prf_Hmac_f1_K2 N .normal)) (NxOk.end (by kernel_rfl)) rfl (fun x => by kernel_rfl)
theorem prf_Hmac_f1_3_b {E : Env} (N : Nat) (hb : Base Tryd.prog (prf_Hmac_f1_C N) E 0) : Blk Tryd.prog (prf_Hmac_f1_C N) E [1, 6] prf_Hmac_f1_S1 (prf_Hmac_f1_L.drop 4) (fun y => prf_Hmac_f1_3 N y.1.1 y.2.1) (prf_Hmac_f1_K N) :=
  Blk.chunkAt hb 2 (X := (prf_Hmac_f1_K N .normal)) (NxOk.end (by kernel_rfl)) rfl (fun x => by kernel_rfl)
theorem prf_Hmac_f1_1_b {E : Env} (N : Nat) (hb : Base Tryd.prog (prf_Hmac_f1_C N) E 0) : Blk Tryd.prog (prf_Hmac_f1_C N) E [0, 1, 6, 9, 10] prf_Hmac_f1_S0 (prf_Hmac_f1_L.drop 3) (fun y => prf_Hmac_f1_1 N y.1.1 y.1.2.1 y.1.2.2.1 y.1.2.2.2.1 y.2.1) (prf_Hmac_f1_K N) :=
  Blk.loopAt (Nf := N) (hns := [0, 1, 6, 9, 10]) (ans := [1, 6]) (hc := prf_Hmac_f1_S0) (ac := prf_Hmac_f1_S1) (bid := 0) (step := (fun y => prf_Hmac_f1_s2 N y.1.1 y.1.2.1 y.1.2.2.1 y.1.2.2.2.1 y.2.1)) (J := (fun e => (goK 0 [1, 6] prf_Hmac_f1_S1 (fun y => prf_Hmac_f1_3 N y.1.1 y.2.1)) (prf_Hmac_f1_S1.st [1, 6] e))) hb (by kernel_rfl) (Blk.into (X := (goK 0 [1, 6] prf_Hmac_f1_S1 (fun y => prf_Hmac_f1_3 N y.1.1 y.2.1))) (NxOk.go hb (prf_Hmac_f1_3_b N hb)) (fun x => by kernel_rfl)) (prf_Hmac_f1_s2_b N hb) (fun x => by kernel_rfl)
theorem prf_Hmac_f1_b {E : Env} (N : Nat) (hb : Base Tryd.prog (prf_Hmac_f1_C N) E 0) : Blk Tryd.prog (prf_Hmac_f1_C N) E (List.range prf_Hmac_f1_S2.ks.length) prf_Hmac_f1_S2 (prf_Hmac_f1_L.drop 0) (fun y => prf_Hmac_f1 N y.1.1 y.1.2.1 y.1.2.2.1) (prf_Hmac_f1_K N) :=
  Blk.chunkAt hb 3 (X := (goK 0 [0, 1, 6, 9, 10] prf_Hmac_f1_S0 (fun y => prf_Hmac_f1_1 N y.1.1 y.1.2.1 y.1.2.2.1 y.1.2.2.2.1 y.2.1))) (NxOk.go hb (prf_Hmac_f1_1_b N hb)) rfl (fun x => by kernel_rfl)
noncomputable def prf_Hmac_f1_ctr (N : Nat) : Ctr := ⟨prf_Hmac_f1_S2, prf_Hmac_f1_S3.un [false], 0, (fun y => prf_Hmac_f1 N y.1.1 y.1.2.1 y.1.2.2.1)⟩
theorem prf_Hmac_f1_ctrs (N : Nat) : CtrsOk Tryd.prog (prf_Hmac_f1_C N) := ctrs_of (Γ := prf_Hmac_f1_C N) (by
  intro p hp
  simp only [prf_Hmac_f1_C, List.mem_cons, List.not_mem_nil, or_false] at hp
  rcases hp with rfl
  · exact sha256_Sum_ok N)
theorem prf_Hmac_f1_ok (N : Nat) : Ctr.ok Tryd.prog G_globs 156 (prf_Hmac_f1_ctr N) :=
  ctr_fn (Γ := prf_Hmac_f1_C N) (rfit := prf_Hmac_f1_S3) (bs := [false]) (res := [5]) (by kernel_rfl) (tys_ok G_tys_ok) (prf_Hmac_f1_ctrs N) Tryd.func156 (by kernel_rfl) (by kernel_rfl) Tryd.ntmps156 (by kernel_rfl) (by kernel_rfl) (by kernel_rfl) (by kernel_rfl) (fun E hb => prf_Hmac_f1_b N hb)
end Go.Proofs.YtofajgidjkjnpaaDoor
namespace Go.Proofs.YtofajgidjkjnpaaDoor
open Go
set_option maxRecDepth 100000
set_option linter.unusedVariables false
/-! ipsecgate/prf.Hmac -/
abbrev prf_Hmac_R : Type := ((Unit) × ((List UInt8) × Unit))
noncomputable def prf_Hmac_1 (N : Nat) (key_0 : (List UInt8)) (b_1 : (List UInt8)) (padded_5 : (List UInt8)) : Option prf_Hmac_R :=
  let x4 := splice padded_5 key_0
  Option.bind (prf_Hmac_f1 N (54 : UInt8) b_1 x4) fun y5 =>
  Option.bind (prf_Hmac_f1 N (92 : UInt8) y5.2.1 x4) fun y6 =>
  some ((()), (y6.2.1, ()))
noncomputable def prf_Hmac (N : Nat) (key_0 : (List UInt8)) (b_1 : (List UInt8)) : Option prf_Hmac_R :=
  bif (decide ((64 : Int) < (key_0.length : Int))) then
    Option.bind (sha256_Sum N key_0) fun y3 =>
    prf_Hmac_1 N y3.2.1 b_1 (List.replicate 64 (0 : UInt8))
  else
    prf_Hmac_1 N key_0 b_1 (List.replicate 64 (0 : UInt8))
noncomputable def prf_Hmac_C (N : Nat) : Ctx := ⟨21, G_tys, [(155, sha256_Sum_ctr N), (156, prf_Hmac_f1_ctr N)], G_globs⟩
noncomputable def prf_Hmac_S0 : Spec := ⟨[.val (.sl .u8), .val (.sl .u8), .ref 0 (.arr 64 .u8)], [(.box 177 (.arr 64 .u8), .pos 2)]⟩
noncomputable def prf_Hmac_S1 : Spec := ⟨[.val (.sl .u8), .val (.sl .u8)], []⟩
noncomputable def prf_Hmac_S2 : Spec := ⟨[.row 0], [(.row 5 .u8, .pos 0)]⟩
noncomputable def prf_Hmac_K (_N : Nat) : XE → GS → Option prf_Hmac_R := retK 0 [4] [false] prf_Hmac_S2
noncomputable def prf_Hmac_L : List Code := (bodyOf (some Tryd.f90))
theorem prf_Hmac_1_b {E : Env} (N : Nat) (hb : Base Tryd.prog (prf_Hmac_C N) E 0) : Blk Tryd.prog (prf_Hmac_C N) E [0, 1, 5] prf_Hmac_S0 (prf_Hmac_L.drop 4) (fun y => prf_Hmac_1 N y.1.1 y.1.2.1 y.2.1) (prf_Hmac_K N) :=
  Blk.chunkAt hb 4 (X := (prf_Hmac_K N .normal)) (NxOk.end (by kernel_rfl)) rfl (fun x => by kernel_rfl)
theorem prf_Hmac_b {E : Env} (N : Nat) (hb : Base Tryd.prog (prf_Hmac_C N) E 0) : Blk Tryd.prog (prf_Hmac_C N) E (List.range prf_Hmac_S1.ks.length) prf_Hmac_S1 (prf_Hmac_L.drop 0) (fun y => prf_Hmac N y.1.1 y.1.2.1) (prf_Hmac_K N) :=
  Blk.chunkAt hb 4 (X := (goK 0 [0, 1, 5] prf_Hmac_S0 (fun y => prf_Hmac_1 N y.1.1 y.1.2.1 y.2.1))) (NxOk.go hb (prf_Hmac_1_b N hb)) rfl (fun x => by kernel_rfl)
noncomputable def prf_Hmac_ctr (N : Nat) : Ctr := ⟨prf_Hmac_S1, prf_Hmac_S2.un [false], 0, (fun y => prf_Hmac N y.1.1 y.1.2.1)⟩
theorem prf_Hmac_ctrs (N : Nat) : CtrsOk Tryd.prog (prf_Hmac_C N) := ctrs_of (Γ := prf_Hmac_C N) (by
  intro p hp
  simp only [prf_Hmac_C, List.mem_cons, List.not_mem_nil, or_false] at hp
  rcases hp with rfl | rfl
  · exact sha256_Sum_ok N
  · exact prf_Hmac_f1_ok N)
theorem prf_Hmac_ok (N : Nat) : Ctr.ok Tryd.prog G_globs 90 (prf_Hmac_ctr N) :=
  ctr_fn (Γ := prf_Hmac_C N) (rfit := prf_Hmac_S2) (bs := [false]) (res := [4]) (by kernel_rfl) (tys_ok G_tys_ok) (prf_Hmac_ctrs N) Tryd.func90 (by kernel_rfl) (by kernel_rfl) Tryd.ntmps90 (by kernel_rfl) (by kernel_rfl) (by kernel_rfl) (by kernel_rfl) (fun E hb => prf_Hmac_b N hb)
end Go.Proofs.YtofajgidjkjnpaaDoor
namespace Go.Proofs.YtofajgidjkjnpaaDoor
open Go
set_option maxRecDepth 100000
set_option linter.unusedVariables false
/-! ipsecgate/schnorr.first -/
abbrev schnorr_first_R : Type := ((UInt64 × Unit) × (Unit))
noncomputable def schnorr_first (N : Nat) (b_0 : (List UInt8)) : Option schnorr_first_R :=
  Option.bind (wire_Number N b_0 (0 : Int) (8 : Int)) fun y1 =>
  some ((y1.1.1, ()), (()))
noncomputable def schnorr_first_C (N : Nat) : Ctx := ⟨11, G_tys, [(107, wire_Number_ctr N)], G_globs⟩
noncomputable def schnorr_first_S0 : Spec := ⟨[.val (.sl .u8)], []⟩
noncomputable def schnorr_first_S1 : Spec := ⟨[.val .u64], []⟩
noncomputable def schnorr_first_K (_N : Nat) : XE → GS → Option schnorr_first_R := retK 0 [2] [false] schnorr_first_S1
noncomputable def schnorr_first_L : List Code := (bodyOf (some Tryd.f89))
theorem schnorr_first_b {E : Env} (N : Nat) (hb : Base Tryd.prog (schnorr_first_C N) E 0) : Blk Tryd.prog (schnorr_first_C N) E (List.range schnorr_first_S0.ks.length) schnorr_first_S0 (schnorr_first_L.drop 0) (fun y => schnorr_first N y.1.1) (schnorr_first_K N) :=
  Blk.chunkAt hb 4 (X := (schnorr_first_K N .normal)) (NxOk.end (by kernel_rfl)) rfl (fun x => by kernel_rfl)
noncomputable def schnorr_first_ctr (N : Nat) : Ctr := ⟨schnorr_first_S0, schnorr_first_S1.un [false], 0, (fun y => schnorr_first N y.1.1)⟩
theorem schnorr_first_ctrs (N : Nat) : CtrsOk Tryd.prog (schnorr_first_C N) := ctrs_of (Γ := schnorr_first_C N) (by
  intro p hp
  simp only [schnorr_first_C, List.mem_cons, List.not_mem_nil, or_false] at hp
  rcases hp with rfl
  · exact wire_Number_ok N)
theorem schnorr_first_ok (N : Nat) : Ctr.ok Tryd.prog G_globs 89 (schnorr_first_ctr N) :=
  ctr_fn (Γ := schnorr_first_C N) (rfit := schnorr_first_S1) (bs := [false]) (res := [2]) (by kernel_rfl) (tys_ok G_tys_ok) (schnorr_first_ctrs N) Tryd.func89 (by kernel_rfl) (by kernel_rfl) Tryd.ntmps89 (by kernel_rfl) (by kernel_rfl) (by kernel_rfl) (by kernel_rfl) (fun E hb => schnorr_first_b N hb)
end Go.Proofs.YtofajgidjkjnpaaDoor
namespace Go.Proofs.YtofajgidjkjnpaaDoor
open Go
set_option maxRecDepth 100000
set_option linter.unusedVariables false
/-! ipsecgate/schnorr.challenge -/
abbrev schnorr_challenge_R : Type := ((UInt64 × Unit) × (Unit))
noncomputable def schnorr_challenge (N : Nat) (r_0 : UInt64) (y_1 : UInt64) (message_2 : (List UInt8)) : Option schnorr_challenge_R :=
  Option.bind (wire_Put N r_0 (8 : Int) ([] : List UInt8)) fun y1 =>
  Option.bind (wire_Put N y_1 (8 : Int) y1.2.1) fun y2 =>
  bif room (y2.2.1.length + message_2.length) 1 then
  Option.bind (sha256_Sum N (y2.2.1 ++ message_2)) fun y4 =>
  Option.bind (schnorr_first N y4.2.1) fun y5 =>
  some (((y5.1.1 % (2305843009213688669 : UInt64)), ()), (()))
  else none
noncomputable def schnorr_challenge_C (N : Nat) : Ctx := ⟨18, G_tys, [(91, wire_Put_ctr N), (155, sha256_Sum_ctr N), (89, schnorr_first_ctr N)], G_globs⟩
noncomputable def schnorr_challenge_S0 : Spec := ⟨[.val .u64, .val .u64, .val (.sl .u8)], []⟩
noncomputable def schnorr_challenge_S1 : Spec := ⟨[.val .u64], []⟩
noncomputable def schnorr_challenge_K (_N : Nat) : XE → GS → Option schnorr_challenge_R := retK 0 [6] [false] schnorr_challenge_S1
noncomputable def schnorr_challenge_L : List Code := (bodyOf (some Tryd.f92))
theorem schnorr_challenge_b {E : Env} (N : Nat) (hb : Base Tryd.prog (schnorr_challenge_C N) E 0) : Blk Tryd.prog (schnorr_challenge_C N) E (List.range schnorr_challenge_S0.ks.length) schnorr_challenge_S0 (schnorr_challenge_L.drop 0) (fun y => schnorr_challenge N y.1.1 y.1.2.1 y.1.2.2.1) (schnorr_challenge_K N) :=
  Blk.chunkAt hb 4 (X := (schnorr_challenge_K N .normal)) (NxOk.end (by kernel_rfl)) rfl (fun x => by kernel_rfl)
noncomputable def schnorr_challenge_ctr (N : Nat) : Ctr := ⟨schnorr_challenge_S0, schnorr_challenge_S1.un [false], 0, (fun y => schnorr_challenge N y.1.1 y.1.2.1 y.1.2.2.1)⟩
theorem schnorr_challenge_ctrs (N : Nat) : CtrsOk Tryd.prog (schnorr_challenge_C N) := ctrs_of (Γ := schnorr_challenge_C N) (by
  intro p hp
  simp only [schnorr_challenge_C, List.mem_cons, List.not_mem_nil, or_false] at hp
  rcases hp with rfl | rfl | rfl
  · exact wire_Put_ok N
  · exact sha256_Sum_ok N
  · exact schnorr_first_ok N)
theorem schnorr_challenge_ok (N : Nat) : Ctr.ok Tryd.prog G_globs 92 (schnorr_challenge_ctr N) :=
  ctr_fn (Γ := schnorr_challenge_C N) (rfit := schnorr_challenge_S1) (bs := [false]) (res := [6]) (by kernel_rfl) (tys_ok G_tys_ok) (schnorr_challenge_ctrs N) Tryd.func92 (by kernel_rfl) (by kernel_rfl) Tryd.ntmps92 (by kernel_rfl) (by kernel_rfl) (by kernel_rfl) (by kernel_rfl) (fun E hb => schnorr_challenge_b N hb)
end Go.Proofs.YtofajgidjkjnpaaDoor
namespace Go.Proofs.YtofajgidjkjnpaaDoor
open Go
set_option maxRecDepth 100000
set_option linter.unusedVariables false
/-! ipsecgate/schnorr.sum -/
abbrev schnorr_sum_R : Type := ((UInt64 × Unit) × (Unit))
noncomputable def schnorr_sum (N : Nat) (a_0 : UInt64) (b_1 : UInt64) (c_2 : UInt64) : Option schnorr_sum_R :=
  Option.bind (math_bits_Mul64 N b_1 c_2) fun y1 =>
  Option.bind (math_bits_Div64 N y1.1.1 y1.1.2.1 (2305843009213688669 : UInt64)) fun y2 =>
  some (((((a_0 % (2305843009213688669 : UInt64)) + y2.1.2.1) % (2305843009213688669 : UInt64)), ()), (()))
noncomputable def schnorr_sum_C (N : Nat) : Ctx := ⟨28, G_tys, [(157, math_bits_Mul64_ctr N), (158, math_bits_Div64_ctr N)], G_globs⟩
noncomputable def schnorr_sum_S0 : Spec := ⟨[.val .u64, .val .u64, .val .u64], []⟩
noncomputable def schnorr_sum_S1 : Spec := ⟨[.val .u64], []⟩
noncomputable def schnorr_sum_K (_N : Nat) : XE → GS → Option schnorr_sum_R := retK 0 [6] [false] schnorr_sum_S1
noncomputable def schnorr_sum_L : List Code := (bodyOf (some Tryd.f94))
theorem schnorr_sum_b {E : Env} (N : Nat) (hb : Base Tryd.prog (schnorr_sum_C N) E 0) : Blk Tryd.prog (schnorr_sum_C N) E (List.range schnorr_sum_S0.ks.length) schnorr_sum_S0 (schnorr_sum_L.drop 0) (fun y => schnorr_sum N y.1.1 y.1.2.1 y.1.2.2.1) (schnorr_sum_K N) :=
  Blk.chunkAt hb 5 (X := (schnorr_sum_K N .normal)) (NxOk.end (by kernel_rfl)) rfl (fun x => by kernel_rfl)
noncomputable def schnorr_sum_ctr (N : Nat) : Ctr := ⟨schnorr_sum_S0, schnorr_sum_S1.un [false], 0, (fun y => schnorr_sum N y.1.1 y.1.2.1 y.1.2.2.1)⟩
theorem schnorr_sum_ctrs (N : Nat) : CtrsOk Tryd.prog (schnorr_sum_C N) := ctrs_of (Γ := schnorr_sum_C N) (by
  intro p hp
  simp only [schnorr_sum_C, List.mem_cons, List.not_mem_nil, or_false] at hp
  rcases hp with rfl | rfl
  · exact math_bits_Mul64_ok N
  · exact math_bits_Div64_ok N)
theorem schnorr_sum_ok (N : Nat) : Ctr.ok Tryd.prog G_globs 94 (schnorr_sum_ctr N) :=
  ctr_fn (Γ := schnorr_sum_C N) (rfit := schnorr_sum_S1) (bs := [false]) (res := [6]) (by kernel_rfl) (tys_ok G_tys_ok) (schnorr_sum_ctrs N) Tryd.func94 (by kernel_rfl) (by kernel_rfl) Tryd.ntmps94 (by kernel_rfl) (by kernel_rfl) (by kernel_rfl) (by kernel_rfl) (fun E hb => schnorr_sum_b N hb)
end Go.Proofs.YtofajgidjkjnpaaDoor
namespace Go.Proofs.YtofajgidjkjnpaaDoor
open Go
set_option maxRecDepth 100000
set_option linter.unusedVariables false
/-! ipsecgate/schnorr.Sign -/
abbrev schnorr_Sign_R : Type := ((Int × Unit) × ((List UInt8) × Unit))
noncomputable def schnorr_Sign (N : Nat) (secret_0 : UInt64) (message_1 : (List UInt8)) : Option schnorr_Sign_R :=
  Option.bind (group_Public N secret_0) fun y1 =>
  bif (!(decide (y1.1.2.1 = (0 : Int)))) then
    some ((y1.1.2.1, ()), (([] : List UInt8), ()))
  else
    Option.bind (wire_Put N secret_0 (8 : Int) ([] : List UInt8)) fun y3 =>
    Option.bind (prf_Hmac N y3.2.1 message_1) fun y4 =>
    Option.bind (schnorr_first N y4.2.1) fun y5 =>
    let x7 := (1 : UInt64) + (y5.1.1 % (2305843009213688668 : UInt64))
    Option.bind (group_Power N (4 : UInt64) x7) fun y8 =>
    Option.bind (schnorr_challenge N y8.1.1 y1.1.1 message_1) fun y9 =>
    Option.bind (wire_Put N y9.1.1 (8 : Int) ([] : List UInt8)) fun y10 =>
    Option.bind (schnorr_sum N x7 y9.1.1 secret_0) fun y11 =>
    Option.bind (wire_Put N y11.1.1 (8 : Int) y10.2.1) fun y12 =>
    some (((0 : Int), ()), (y12.2.1, ()))
noncomputable def schnorr_Sign_C (N : Nat) : Ctx := ⟨37, G_tys, [(88, group_Public_ctr N), (91, wire_Put_ctr N), (90, prf_Hmac_ctr N), (89, schnorr_first_ctr N), (93, group_Power_ctr N), (92, schnorr_challenge_ctr N), (94, schnorr_sum_ctr N)], G_globs⟩
noncomputable def schnorr_Sign_S0 : Spec := ⟨[.val .u64, .val (.sl .u8)], []⟩
noncomputable def schnorr_Sign_S1 : Spec := ⟨[.row 0, .val .i64], [(.row 5 .u8, .pos 0)]⟩
noncomputable def schnorr_Sign_K (_N : Nat) : XE → GS → Option schnorr_Sign_R := retK 0 [4, 5] [false, false] schnorr_Sign_S1
noncomputable def schnorr_Sign_L : List Code := (bodyOf (some Tryd.f20))
theorem schnorr_Sign_b {E : Env} (N : Nat) (hb : Base Tryd.prog (schnorr_Sign_C N) E 0) : Blk Tryd.prog (schnorr_Sign_C N) E (List.range schnorr_Sign_S0.ks.length) schnorr_Sign_S0 (schnorr_Sign_L.drop 0) (fun y => schnorr_Sign N y.1.1 y.1.2.1) (schnorr_Sign_K N) :=
  Blk.chunkAt hb 8 (X := (schnorr_Sign_K N .normal)) (NxOk.end (by kernel_rfl)) rfl (fun x => by kernel_rfl)
noncomputable def schnorr_Sign_ctr (N : Nat) : Ctr := ⟨schnorr_Sign_S0, schnorr_Sign_S1.un [false, false], 0, (fun y => schnorr_Sign N y.1.1 y.1.2.1)⟩
theorem schnorr_Sign_ctrs (N : Nat) : CtrsOk Tryd.prog (schnorr_Sign_C N) := ctrs_of (Γ := schnorr_Sign_C N) (by
  intro p hp
  simp only [schnorr_Sign_C, List.mem_cons, List.not_mem_nil, or_false] at hp
  rcases hp with rfl | rfl | rfl | rfl | rfl | rfl | rfl
  · exact group_Public_ok N
  · exact wire_Put_ok N
  · exact prf_Hmac_ok N
  · exact schnorr_first_ok N
  · exact group_Power_ok N
  · exact schnorr_challenge_ok N
  · exact schnorr_sum_ok N)
theorem schnorr_Sign_ok (N : Nat) : Ctr.ok Tryd.prog G_globs 20 (schnorr_Sign_ctr N) :=
  ctr_fn (Γ := schnorr_Sign_C N) (rfit := schnorr_Sign_S1) (bs := [false, false]) (res := [4, 5]) (by kernel_rfl) (tys_ok G_tys_ok) (schnorr_Sign_ctrs N) Tryd.func20 (by kernel_rfl) (by kernel_rfl) Tryd.ntmps20 (by kernel_rfl) (by kernel_rfl) (by kernel_rfl) (by kernel_rfl) (fun E hb => schnorr_Sign_b N hb)
end Go.Proofs.YtofajgidjkjnpaaDoor
namespace Go.Proofs.YtofajgidjkjnpaaDoor
open Go
set_option maxRecDepth 100000
set_option linter.unusedVariables false
/-! ipsecgate/ipsecgateref13.Secret -/
abbrev ref13_Secret_R : Type := ((Bool × Unit) × (Unit))
noncomputable def ref13_Secret (N : Nat) (x_0 : UInt64) : Option ref13_Secret_R :=
  bif (decide ((1 : UInt64) ≤ x_0)) then
    some (((decide (x_0 < (2305843009213688669 : UInt64))), ()), (()))
  else
    some ((false, ()), (()))
noncomputable def ref13_Secret_C (N : Nat) : Ctx := ⟨9, G_tys, [], G_globs⟩
noncomputable def ref13_Secret_S0 : Spec := ⟨[.val .u64], []⟩
noncomputable def ref13_Secret_S1 : Spec := ⟨[.val .bool], []⟩
noncomputable def ref13_Secret_K (_N : Nat) : XE → GS → Option ref13_Secret_R := retK 0 [2] [false] ref13_Secret_S1
noncomputable def ref13_Secret_L : List Code := (bodyOf (some Tryd.f81))
theorem ref13_Secret_b {E : Env} (N : Nat) (hb : Base Tryd.prog (ref13_Secret_C N) E 0) : Blk Tryd.prog (ref13_Secret_C N) E (List.range ref13_Secret_S0.ks.length) ref13_Secret_S0 (ref13_Secret_L.drop 0) (fun y => ref13_Secret N y.1.1) (ref13_Secret_K N) :=
  Blk.chunkAt hb 3 (X := (ref13_Secret_K N .normal)) (NxOk.end (by kernel_rfl)) rfl (fun x => by kernel_rfl)
noncomputable def ref13_Secret_ctr (N : Nat) : Ctr := ⟨ref13_Secret_S0, ref13_Secret_S1.un [false], 0, (fun y => ref13_Secret N y.1.1)⟩
theorem ref13_Secret_ctrs (N : Nat) : CtrsOk Tryd.prog (ref13_Secret_C N) := ctrs_nil rfl
theorem ref13_Secret_ok (N : Nat) : Ctr.ok Tryd.prog G_globs 81 (ref13_Secret_ctr N) :=
  ctr_fn (Γ := ref13_Secret_C N) (rfit := ref13_Secret_S1) (bs := [false]) (res := [2]) (by kernel_rfl) (tys_ok G_tys_ok) (ref13_Secret_ctrs N) Tryd.func81 (by kernel_rfl) (by kernel_rfl) Tryd.ntmps81 (by kernel_rfl) (by kernel_rfl) (by kernel_rfl) (by kernel_rfl) (fun E hb => ref13_Secret_b N hb)
end Go.Proofs.YtofajgidjkjnpaaDoor
namespace Go.Proofs.YtofajgidjkjnpaaDoor
open Go
set_option maxRecDepth 100000
set_option linter.unusedVariables false
/-! ipsecgate/ipsecgateref13.Mul -/
abbrev ref13_Mul_R : Type := ((UInt64 × Unit) × (Unit))
noncomputable def ref13_Mul_s2 (N : Nat) (a_0 : UInt64) (b_1 : UInt64) (out_5 : UInt64) (i_6 : Int) : Option (Lo ((UInt64 × UInt64 × UInt64 × Int × Unit) × (Unit)) ((UInt64 × Unit) × (Unit)) ref13_Mul_R) :=
  bif (decide (i_6 < (62 : Int))) then
    bif (decide (((shr64 b_1 (iu64 i_6).toNat) &&& (1 : UInt64)) = (1 : UInt64))) then
      some (.go (((((2 : UInt64) * a_0) % (4611686018427377339 : UInt64)), b_1, ((out_5 + a_0) % (4611686018427377339 : UInt64)), (w64 (i_6 + (1 : Int))), ()), (())))
    else
      some (.go (((((2 : UInt64) * a_0) % (4611686018427377339 : UInt64)), b_1, out_5, (w64 (i_6 + (1 : Int))), ()), (())))
  else
    some (.br ((out_5, ()), (())))
noncomputable def ref13_Mul_3 (N : Nat) (out_5 : UInt64) : Option ref13_Mul_R :=
  some ((out_5, ()), (()))
noncomputable def ref13_Mul_1 (N : Nat) (a_0 : UInt64) (b_1 : UInt64) (out_5 : UInt64) (i_6 : Int) : Option ref13_Mul_R :=
  loopK N (fun y => ref13_Mul_s2 N y.1.1 y.1.2.1 y.1.2.2.1 y.1.2.2.2.1) (fun (e : ((UInt64 × Unit) × (Unit))) => ref13_Mul_3 N e.1.1) ((a_0, b_1, out_5, i_6, ()), (()))
noncomputable def ref13_Mul (N : Nat) (a_0 : UInt64) (b_1 : UInt64) : Option ref13_Mul_R :=
  ref13_Mul_1 N (a_0 % (4611686018427377339 : UInt64)) (b_1 % (4611686018427377339 : UInt64)) (0 : UInt64) (0 : Int)
noncomputable def ref13_Mul_C (N : Nat) : Ctx := ⟨29, G_tys, [], G_globs⟩
noncomputable def ref13_Mul_S0 : Spec := ⟨[.val .u64, .val .u64, .val .u64, .val .i64], []⟩
noncomputable def ref13_Mul_S1 : Spec := ⟨[.val .u64], []⟩
noncomputable def ref13_Mul_S2 : Spec := ⟨[.val .u64, .val .u64], []⟩
noncomputable def ref13_Mul_K (_N : Nat) : XE → GS → Option ref13_Mul_R := retK 0 [4] [false] ref13_Mul_S1
noncomputable def ref13_Mul_L : List Code := (bodyOf (some Tryd.f99))
noncomputable def ref13_Mul_L2 : List Code := (loopOf (ref13_Mul_L[5]?))
noncomputable def ref13_Mul_K2 (N : Nat) : XE → GS → Option (Lo ((UInt64 × UInt64 × UInt64 × Int × Unit) × (Unit)) ((UInt64 × Unit) × (Unit)) ref13_Mul_R) := roundK (some 0) (fit 0 [0, 1, 5, 6] ref13_Mul_S0) (fit 0 [5] ref13_Mul_S1) (ref13_Mul_K N)
theorem ref13_Mul_s2_b {E : Env} (N : Nat) (hb : Base Tryd.prog (ref13_Mul_C N) E 0) : Blk Tryd.prog (ref13_Mul_C N) E [0, 1, 5, 6] ref13_Mul_S0 (ref13_Mul_L2.drop 0) (fun y => ref13_Mul_s2 N y.1.1 y.1.2.1 y.1.2.2.1 y.1.2.2.2.1) (ref13_Mul_K2 N) :=
  Blk.chunkAt hb 4 (X := (ref13_Mul_K2 N .normal)) (NxOk.end (by kernel_rfl)) rfl (fun x => by kernel_rfl)
theorem ref13_Mul_3_b {E : Env} (N : Nat) (hb : Base Tryd.prog (ref13_Mul_C N) E 0) : Blk Tryd.prog (ref13_Mul_C N) E [5] ref13_Mul_S1 (ref13_Mul_L.drop 6) (fun y => ref13_Mul_3 N y.1.1) (ref13_Mul_K N) :=
  Blk.chunkAt hb 2 (X := (ref13_Mul_K N .normal)) (NxOk.end (by kernel_rfl)) rfl (fun x => by kernel_rfl)
theorem ref13_Mul_1_b {E : Env} (N : Nat) (hb : Base Tryd.prog (ref13_Mul_C N) E 0) : Blk Tryd.prog (ref13_Mul_C N) E [0, 1, 5, 6] ref13_Mul_S0 (ref13_Mul_L.drop 5) (fun y => ref13_Mul_1 N y.1.1 y.1.2.1 y.1.2.2.1 y.1.2.2.2.1) (ref13_Mul_K N) :=
  Blk.loopAt (Nf := N) (hns := [0, 1, 5, 6]) (ans := [5]) (hc := ref13_Mul_S0) (ac := ref13_Mul_S1) (bid := 0) (step := (fun y => ref13_Mul_s2 N y.1.1 y.1.2.1 y.1.2.2.1 y.1.2.2.2.1)) (J := (fun e => (goK 0 [5] ref13_Mul_S1 (fun y => ref13_Mul_3 N y.1.1)) (ref13_Mul_S1.st [5] e))) hb (by kernel_rfl) (Blk.into (X := (goK 0 [5] ref13_Mul_S1 (fun y => ref13_Mul_3 N y.1.1))) (NxOk.go hb (ref13_Mul_3_b N hb)) (fun x => by kernel_rfl)) (ref13_Mul_s2_b N hb) (fun x => by kernel_rfl)
theorem ref13_Mul_b {E : Env} (N : Nat) (hb : Base Tryd.prog (ref13_Mul_C N) E 0) : Blk Tryd.prog (ref13_Mul_C N) E (List.range ref13_Mul_S2.ks.length) ref13_Mul_S2 (ref13_Mul_L.drop 0) (fun y => ref13_Mul N y.1.1 y.1.2.1) (ref13_Mul_K N) :=
  Blk.chunkAt hb 5 (X := (goK 0 [0, 1, 5, 6] ref13_Mul_S0 (fun y => ref13_Mul_1 N y.1.1 y.1.2.1 y.1.2.2.1 y.1.2.2.2.1))) (NxOk.go hb (ref13_Mul_1_b N hb)) rfl (fun x => by kernel_rfl)
noncomputable def ref13_Mul_ctr (N : Nat) : Ctr := ⟨ref13_Mul_S2, ref13_Mul_S1.un [false], 0, (fun y => ref13_Mul N y.1.1 y.1.2.1)⟩
theorem ref13_Mul_ctrs (N : Nat) : CtrsOk Tryd.prog (ref13_Mul_C N) := ctrs_nil rfl
theorem ref13_Mul_ok (N : Nat) : Ctr.ok Tryd.prog G_globs 99 (ref13_Mul_ctr N) :=
  ctr_fn (Γ := ref13_Mul_C N) (rfit := ref13_Mul_S1) (bs := [false]) (res := [4]) (by kernel_rfl) (tys_ok G_tys_ok) (ref13_Mul_ctrs N) Tryd.func99 (by kernel_rfl) (by kernel_rfl) Tryd.ntmps99 (by kernel_rfl) (by kernel_rfl) (by kernel_rfl) (by kernel_rfl) (fun E hb => ref13_Mul_b N hb)
end Go.Proofs.YtofajgidjkjnpaaDoor
namespace Go.Proofs.YtofajgidjkjnpaaDoor
open Go
set_option maxRecDepth 100000
set_option linter.unusedVariables false
/-! ipsecgate/ipsecgateref13.Power -/
abbrev ref13_Power_R : Type := ((UInt64 × Unit) × (Unit))
noncomputable def ref13_Power_s2 (N : Nat) (a_0 : UInt64) (e_1 : UInt64) (out_5 : UInt64) : Option (Lo ((UInt64 × UInt64 × UInt64 × Unit) × (Unit)) ((UInt64 × Unit) × (Unit)) ref13_Power_R) :=
  bif (decide ((0 : UInt64) < e_1)) then
    bif (decide ((e_1 &&& (1 : UInt64)) = (1 : UInt64))) then
      Option.bind (ref13_Mul N out_5 a_0) fun y5 =>
      Option.bind (ref13_Mul N a_0 a_0) fun y6 =>
      some (.go ((y6.1.1, (shr64 e_1 1), y5.1.1, ()), (())))
    else
      Option.bind (ref13_Mul N a_0 a_0) fun y8 =>
      some (.go ((y8.1.1, (shr64 e_1 1), out_5, ()), (())))
  else
    some (.br ((out_5, ()), (())))
noncomputable def ref13_Power_3 (N : Nat) (out_5 : UInt64) : Option ref13_Power_R :=
  some ((out_5, ()), (()))
noncomputable def ref13_Power_1 (N : Nat) (a_0 : UInt64) (e_1 : UInt64) (out_5 : UInt64) : Option ref13_Power_R :=
  loopK N (fun y => ref13_Power_s2 N y.1.1 y.1.2.1 y.1.2.2.1) (fun (e : ((UInt64 × Unit) × (Unit))) => ref13_Power_3 N e.1.1) ((a_0, e_1, out_5, ()), (()))
noncomputable def ref13_Power (N : Nat) (a_0 : UInt64) (e_1 : UInt64) : Option ref13_Power_R :=
  ref13_Power_1 N (a_0 % (4611686018427377339 : UInt64)) e_1 (1 : UInt64)
noncomputable def ref13_Power_C (N : Nat) : Ctx := ⟨22, G_tys, [(99, ref13_Mul_ctr N)], G_globs⟩
noncomputable def ref13_Power_S0 : Spec := ⟨[.val .u64, .val .u64, .val .u64], []⟩
noncomputable def ref13_Power_S1 : Spec := ⟨[.val .u64], []⟩
noncomputable def ref13_Power_S2 : Spec := ⟨[.val .u64, .val .u64], []⟩
noncomputable def ref13_Power_K (_N : Nat) : XE → GS → Option ref13_Power_R := retK 0 [4] [false] ref13_Power_S1
noncomputable def ref13_Power_L : List Code := (bodyOf (some Tryd.f82))
noncomputable def ref13_Power_L2 : List Code := (loopOf (ref13_Power_L[3]?))
noncomputable def ref13_Power_K2 (N : Nat) : XE → GS → Option (Lo ((UInt64 × UInt64 × UInt64 × Unit) × (Unit)) ((UInt64 × Unit) × (Unit)) ref13_Power_R) := roundK (some 0) (fit 0 [0, 1, 5] ref13_Power_S0) (fit 0 [5] ref13_Power_S1) (ref13_Power_K N)
theorem ref13_Power_s2_b {E : Env} (N : Nat) (hb : Base Tryd.prog (ref13_Power_C N) E 0) : Blk Tryd.prog (ref13_Power_C N) E [0, 1, 5] ref13_Power_S0 (ref13_Power_L2.drop 0) (fun y => ref13_Power_s2 N y.1.1 y.1.2.1 y.1.2.2.1) (ref13_Power_K2 N) :=
  Blk.chunkAt hb 4 (X := (ref13_Power_K2 N .normal)) (NxOk.end (by kernel_rfl)) rfl (fun x => by kernel_rfl)
theorem ref13_Power_3_b {E : Env} (N : Nat) (hb : Base Tryd.prog (ref13_Power_C N) E 0) : Blk Tryd.prog (ref13_Power_C N) E [5] ref13_Power_S1 (ref13_Power_L.drop 4) (fun y => ref13_Power_3 N y.1.1) (ref13_Power_K N) :=
  Blk.chunkAt hb 2 (X := (ref13_Power_K N .normal)) (NxOk.end (by kernel_rfl)) rfl (fun x => by kernel_rfl)
theorem ref13_Power_1_b {E : Env} (N : Nat) (hb : Base Tryd.prog (ref13_Power_C N) E 0) : Blk Tryd.prog (ref13_Power_C N) E [0, 1, 5] ref13_Power_S0 (ref13_Power_L.drop 3) (fun y => ref13_Power_1 N y.1.1 y.1.2.1 y.1.2.2.1) (ref13_Power_K N) :=
  Blk.loopAt (Nf := N) (hns := [0, 1, 5]) (ans := [5]) (hc := ref13_Power_S0) (ac := ref13_Power_S1) (bid := 0) (step := (fun y => ref13_Power_s2 N y.1.1 y.1.2.1 y.1.2.2.1)) (J := (fun e => (goK 0 [5] ref13_Power_S1 (fun y => ref13_Power_3 N y.1.1)) (ref13_Power_S1.st [5] e))) hb (by kernel_rfl) (Blk.into (X := (goK 0 [5] ref13_Power_S1 (fun y => ref13_Power_3 N y.1.1))) (NxOk.go hb (ref13_Power_3_b N hb)) (fun x => by kernel_rfl)) (ref13_Power_s2_b N hb) (fun x => by kernel_rfl)
theorem ref13_Power_b {E : Env} (N : Nat) (hb : Base Tryd.prog (ref13_Power_C N) E 0) : Blk Tryd.prog (ref13_Power_C N) E (List.range ref13_Power_S2.ks.length) ref13_Power_S2 (ref13_Power_L.drop 0) (fun y => ref13_Power N y.1.1 y.1.2.1) (ref13_Power_K N) :=
  Blk.chunkAt hb 3 (X := (goK 0 [0, 1, 5] ref13_Power_S0 (fun y => ref13_Power_1 N y.1.1 y.1.2.1 y.1.2.2.1))) (NxOk.go hb (ref13_Power_1_b N hb)) rfl (fun x => by kernel_rfl)
noncomputable def ref13_Power_ctr (N : Nat) : Ctr := ⟨ref13_Power_S2, ref13_Power_S1.un [false], 0, (fun y => ref13_Power N y.1.1 y.1.2.1)⟩
theorem ref13_Power_ctrs (N : Nat) : CtrsOk Tryd.prog (ref13_Power_C N) := ctrs_of (Γ := ref13_Power_C N) (by
  intro p hp
  simp only [ref13_Power_C, List.mem_cons, List.not_mem_nil, or_false] at hp
  rcases hp with rfl
  · exact ref13_Mul_ok N)
theorem ref13_Power_ok (N : Nat) : Ctr.ok Tryd.prog G_globs 82 (ref13_Power_ctr N) :=
  ctr_fn (Γ := ref13_Power_C N) (rfit := ref13_Power_S1) (bs := [false]) (res := [4]) (by kernel_rfl) (tys_ok G_tys_ok) (ref13_Power_ctrs N) Tryd.func82 (by kernel_rfl) (by kernel_rfl) Tryd.ntmps82 (by kernel_rfl) (by kernel_rfl) (by kernel_rfl) (by kernel_rfl) (fun E hb => ref13_Power_b N hb)
end Go.Proofs.YtofajgidjkjnpaaDoor
namespace Go.Proofs.YtofajgidjkjnpaaDoor
open Go
set_option maxRecDepth 100000
set_option linter.unusedVariables false
/-! ipsecgate/ipsecgateref13.Public -/
abbrev ref13_Public_R : Type := ((UInt64 × Int × Unit) × (Unit))
noncomputable def ref13_Public (N : Nat) (secret_0 : UInt64) : Option ref13_Public_R :=
  Option.bind (ref13_Secret N secret_0) fun y1 =>
  bif (!y1.1.1) then
    some (((0 : UInt64), (13 : Int), ()), (()))
  else
    Option.bind (ref13_Power N (4 : UInt64) secret_0) fun y3 =>
    some ((y3.1.1, (0 : Int), ()), (()))
noncomputable def ref13_Public_C (N : Nat) : Ctx := ⟨9, G_tys, [(81, ref13_Secret_ctr N), (82, ref13_Power_ctr N)], G_globs⟩
noncomputable def ref13_Public_S0 : Spec := ⟨[.val .u64], []⟩
noncomputable def ref13_Public_S1 : Spec := ⟨[.val .u64, .val .i64], []⟩
noncomputable def ref13_Public_K (_N : Nat) : XE → GS → Option ref13_Public_R := retK 0 [2, 3] [false, false] ref13_Public_S1
noncomputable def ref13_Public_L : List Code := (bodyOf (some Tryd.f18))
theorem ref13_Public_b {E : Env} (N : Nat) (hb : Base Tryd.prog (ref13_Public_C N) E 0) : Blk Tryd.prog (ref13_Public_C N) E (List.range ref13_Public_S0.ks.length) ref13_Public_S0 (ref13_Public_L.drop 0) (fun y => ref13_Public N y.1.1) (ref13_Public_K N) :=
  Blk.chunkAt hb 5 (X := (ref13_Public_K N .normal)) (NxOk.end (by kernel_rfl)) rfl (fun x => by kernel_rfl)
noncomputable def ref13_Public_ctr (N : Nat) : Ctr := ⟨ref13_Public_S0, ref13_Public_S1.un [false, false], 0, (fun y => ref13_Public N y.1.1)⟩
theorem ref13_Public_ctrs (N : Nat) : CtrsOk Tryd.prog (ref13_Public_C N) := ctrs_of (Γ := ref13_Public_C N) (by
  intro p hp
  simp only [ref13_Public_C, List.mem_cons, List.not_mem_nil, or_false] at hp
  rcases hp with rfl | rfl
  · exact ref13_Secret_ok N
  · exact ref13_Power_ok N)
theorem ref13_Public_ok (N : Nat) : Ctr.ok Tryd.prog G_globs 18 (ref13_Public_ctr N) :=
  ctr_fn (Γ := ref13_Public_C N) (rfit := ref13_Public_S1) (bs := [false, false]) (res := [2, 3]) (by kernel_rfl) (tys_ok G_tys_ok) (ref13_Public_ctrs N) Tryd.func18 (by kernel_rfl) (by kernel_rfl) Tryd.ntmps18 (by kernel_rfl) (by kernel_rfl) (by kernel_rfl) (by kernel_rfl) (fun E hb => ref13_Public_b N hb)
end Go.Proofs.YtofajgidjkjnpaaDoor
namespace Go.Proofs.YtofajgidjkjnpaaDoor
open Go
set_option maxRecDepth 100000
set_option linter.unusedVariables false
/-! ipsecgate/schnorr.named -/
abbrev schnorr_named_R : Type := ((Bool × Unit) × (Unit))
noncomputable def schnorr_named_s2 (N : Nat) (s_0 : (List UInt8)) (t_6 : (List UInt8)) (t_7 : Int) (t_8 : Int) : Option (Lo (((List UInt8) × (List UInt8) × Int × Int × Unit) × (Unit)) (((List UInt8) × Unit) × (Unit)) schnorr_named_R) :=
  bif (decide (t_8 < t_7)) then
    bif inR t_8 t_6.length then
    let x3 := t_6.getD t_8.toNat (0 : UInt8)
    bif (decide (x3 < (33 : UInt8))) then
      some (.rt ((false, ()), (())))
    else
      bif (decide ((126 : UInt8) < x3)) then
        some (.rt ((false, ()), (())))
      else
        some (.go ((s_0, t_6, t_7, (w64 (t_8 + (1 : Int))), ()), (())))
    else none
  else
    some (.br ((s_0, ()), (())))
noncomputable def schnorr_named_3 (N : Nat) (s_0 : (List UInt8)) : Option schnorr_named_R :=
  bif (decide ((1 : Int) ≤ (s_0.length : Int))) then
    some (((decide ((s_0.length : Int) ≤ (16 : Int))), ()), (()))
  else
    some ((false, ()), (()))
noncomputable def schnorr_named_1 (N : Nat) (s_0 : (List UInt8)) (t_6 : (List UInt8)) (t_7 : Int) (t_8 : Int) : Option schnorr_named_R :=
  loopK N (fun y => schnorr_named_s2 N y.1.1 y.1.2.1 y.1.2.2.1 y.1.2.2.2.1) (fun (e : (((List UInt8) × Unit) × (Unit))) => schnorr_named_3 N e.1.1) ((s_0, t_6, t_7, t_8, ()), (()))
noncomputable def schnorr_named (N : Nat) (s_0 : (List UInt8)) : Option schnorr_named_R :=
  schnorr_named_1 N s_0 s_0 (s_0.length : Int) (0 : Int)
noncomputable def schnorr_named_C (N : Nat) : Ctx := ⟨27, G_tys, [], G_globs⟩
noncomputable def schnorr_named_S0 : Spec := ⟨[.val .str, .val (.sl .u8), .val .i64, .val .i64], []⟩
noncomputable def schnorr_named_S1 : Spec := ⟨[.val .str], []⟩
noncomputable def schnorr_named_S2 : Spec := ⟨[.val .bool], []⟩
noncomputable def schnorr_named_K (_N : Nat) : XE → GS → Option schnorr_named_R := retK 0 [2] [false] schnorr_named_S2
noncomputable def schnorr_named_L : List Code := (bodyOf (some Tryd.f111))
noncomputable def schnorr_named_L2 : List Code := (loopOf (schnorr_named_L[2]?))
noncomputable def schnorr_named_K2 (N : Nat) : XE → GS → Option (Lo (((List UInt8) × (List UInt8) × Int × Int × Unit) × (Unit)) (((List UInt8) × Unit) × (Unit)) schnorr_named_R) := roundK (some 0) (fit 0 [0, 6, 7, 8] schnorr_named_S0) (fit 0 [0] schnorr_named_S1) (schnorr_named_K N)
theorem schnorr_named_s2_b {E : Env} (N : Nat) (hb : Base Tryd.prog (schnorr_named_C N) E 0) : Blk Tryd.prog (schnorr_named_C N) E [0, 6, 7, 8] schnorr_named_S0 (schnorr_named_L2.drop 0) (fun y => schnorr_named_s2 N y.1.1 y.1.2.1 y.1.2.2.1 y.1.2.2.2.1) (schnorr_named_K2 N) :=
  Blk.chunkAt hb 4 (X := (schnorr_named_K2 N .normal)) (NxOk.end (by kernel_rfl)) rfl (fun x => by kernel_rfl)
theorem schnorr_named_3_b {E : Env} (N : Nat) (hb : Base Tryd.prog (schnorr_named_C N) E 0) : Blk Tryd.prog (schnorr_named_C N) E [0] schnorr_named_S1 (schnorr_named_L.drop 3) (fun y => schnorr_named_3 N y.1.1) (schnorr_named_K N) :=
  Blk.chunkAt hb 2 (X := (schnorr_named_K N .normal)) (NxOk.end (by kernel_rfl)) rfl (fun x => by kernel_rfl)
theorem schnorr_named_1_b {E : Env} (N : Nat) (hb : Base Tryd.prog (schnorr_named_C N) E 0) : Blk Tryd.prog (schnorr_named_C N) E [0, 6, 7, 8] schnorr_named_S0 (schnorr_named_L.drop 2) (fun y => schnorr_named_1 N y.1.1 y.1.2.1 y.1.2.2.1 y.1.2.2.2.1) (schnorr_named_K N) :=
  Blk.loopAt (Nf := N) (hns := [0, 6, 7, 8]) (ans := [0]) (hc := schnorr_named_S0) (ac := schnorr_named_S1) (bid := 0) (step := (fun y => schnorr_named_s2 N y.1.1 y.1.2.1 y.1.2.2.1 y.1.2.2.2.1)) (J := (fun e => (goK 0 [0] schnorr_named_S1 (fun y => schnorr_named_3 N y.1.1)) (schnorr_named_S1.st [0] e))) hb (by kernel_rfl) (Blk.into (X := (goK 0 [0] schnorr_named_S1 (fun y => schnorr_named_3 N y.1.1))) (NxOk.go hb (schnorr_named_3_b N hb)) (fun x => by kernel_rfl)) (schnorr_named_s2_b N hb) (fun x => by kernel_rfl)
theorem schnorr_named_b {E : Env} (N : Nat) (hb : Base Tryd.prog (schnorr_named_C N) E 0) : Blk Tryd.prog (schnorr_named_C N) E (List.range schnorr_named_S1.ks.length) schnorr_named_S1 (schnorr_named_L.drop 0) (fun y => schnorr_named N y.1.1) (schnorr_named_K N) :=
  Blk.chunkAt hb 2 (X := (goK 0 [0, 6, 7, 8] schnorr_named_S0 (fun y => schnorr_named_1 N y.1.1 y.1.2.1 y.1.2.2.1 y.1.2.2.2.1))) (NxOk.go hb (schnorr_named_1_b N hb)) rfl (fun x => by kernel_rfl)
noncomputable def schnorr_named_ctr (N : Nat) : Ctr := ⟨schnorr_named_S1, schnorr_named_S2.un [false], 0, (fun y => schnorr_named N y.1.1)⟩
theorem schnorr_named_ctrs (N : Nat) : CtrsOk Tryd.prog (schnorr_named_C N) := ctrs_nil rfl
theorem schnorr_named_ok (N : Nat) : Ctr.ok Tryd.prog G_globs 111 (schnorr_named_ctr N) :=
  ctr_fn (Γ := schnorr_named_C N) (rfit := schnorr_named_S2) (bs := [false]) (res := [2]) (by kernel_rfl) (tys_ok G_tys_ok) (schnorr_named_ctrs N) Tryd.func111 (by kernel_rfl) (by kernel_rfl) Tryd.ntmps111 (by kernel_rfl) (by kernel_rfl) (by kernel_rfl) (by kernel_rfl) (fun E hb => schnorr_named_b N hb)
end Go.Proofs.YtofajgidjkjnpaaDoor
namespace Go.Proofs.YtofajgidjkjnpaaDoor
open Go
set_option maxRecDepth 100000
set_option linter.unusedVariables false
/-! ipsecgate/group.Element -/
abbrev group_Element_R : Type := ((Bool × Unit) × (Unit))
noncomputable def group_Element (N : Nat) (a_0 : UInt64) : Option group_Element_R :=
  bif (decide ((2 : UInt64) ≤ a_0)) then
    bif (decide (a_0 < (4611686018427377339 : UInt64))) then
      Option.bind (group_Power N a_0 (2305843009213688669 : UInt64)) fun y3 =>
      some (((decide (y3.1.1 = (1 : UInt64))), ()), (()))
    else
      some ((false, ()), (()))
  else
    some ((false, ()), (()))
noncomputable def group_Element_C (N : Nat) : Ctx := ⟨14, G_tys, [(93, group_Power_ctr N)], G_globs⟩
noncomputable def group_Element_S0 : Spec := ⟨[.val .u64], []⟩
noncomputable def group_Element_S1 : Spec := ⟨[.val .bool], []⟩
noncomputable def group_Element_K (_N : Nat) : XE → GS → Option group_Element_R := retK 0 [2] [false] group_Element_S1
noncomputable def group_Element_L : List Code := (bodyOf (some Tryd.f96))
theorem group_Element_b {E : Env} (N : Nat) (hb : Base Tryd.prog (group_Element_C N) E 0) : Blk Tryd.prog (group_Element_C N) E (List.range group_Element_S0.ks.length) group_Element_S0 (group_Element_L.drop 0) (fun y => group_Element N y.1.1) (group_Element_K N) :=
  Blk.chunkAt hb 3 (X := (group_Element_K N .normal)) (NxOk.end (by kernel_rfl)) rfl (fun x => by kernel_rfl)
noncomputable def group_Element_ctr (N : Nat) : Ctr := ⟨group_Element_S0, group_Element_S1.un [false], 0, (fun y => group_Element N y.1.1)⟩
theorem group_Element_ctrs (N : Nat) : CtrsOk Tryd.prog (group_Element_C N) := ctrs_of (Γ := group_Element_C N) (by
  intro p hp
  simp only [group_Element_C, List.mem_cons, List.not_mem_nil, or_false] at hp
  rcases hp with rfl
  · exact group_Power_ok N)
theorem group_Element_ok (N : Nat) : Ctr.ok Tryd.prog G_globs 96 (group_Element_ctr N) :=
  ctr_fn (Γ := group_Element_C N) (rfit := group_Element_S1) (bs := [false]) (res := [2]) (by kernel_rfl) (tys_ok G_tys_ok) (group_Element_ctrs N) Tryd.func96 (by kernel_rfl) (by kernel_rfl) Tryd.ntmps96 (by kernel_rfl) (by kernel_rfl) (by kernel_rfl) (by kernel_rfl) (fun E hb => group_Element_b N hb)
end Go.Proofs.YtofajgidjkjnpaaDoor
namespace Go.Proofs.YtofajgidjkjnpaaDoor
open Go
set_option maxRecDepth 100000
set_option linter.unusedVariables false
/-! ipsecgate/schnorr.Body -/
abbrev schnorr_Body_R : Type := ((Int × Unit) × ((List UInt8) × Unit))
noncomputable def schnorr_Body_1 (N : Nat) (c_1 : ((List UInt8) × (UInt64 × (Int × (Int × (Bool × ((List UInt8) × Unit))))))) : Option schnorr_Body_R :=
  let x10 := (c_1.1.length : Int)
  bif room (([(iu8 x10)] : List UInt8).length + c_1.1.length) 1 then
  Option.bind (wire_Put N c_1.2.1 (8 : Int) (([(iu8 x10)] : List UInt8) ++ c_1.1)) fun y13 =>
  Option.bind (wire_Put N (iu64 c_1.2.2.1) (4 : Int) y13.2.1) fun y15 =>
  Option.bind (wire_Put N (iu64 c_1.2.2.2.1) (4 : Int) y15.2.1) fun y17 =>
  bif c_1.2.2.2.2.1 then
    bif room (y17.2.1.length + ([(1 : UInt8)] : List UInt8).length) 1 then
    some (((0 : Int), ()), ((y17.2.1 ++ ([(1 : UInt8)] : List UInt8)), ()))
    else none
  else
    bif room (y17.2.1.length + ([(0 : UInt8)] : List UInt8).length) 1 then
    some (((0 : Int), ()), ((y17.2.1 ++ ([(0 : UInt8)] : List UInt8)), ()))
    else none
  else none
noncomputable def schnorr_Body (N : Nat) (c_0 : ((List UInt8) × (UInt64 × (Int × (Int × (Bool × ((List UInt8) × Unit))))))) : Option schnorr_Body_R :=
  Option.bind (schnorr_named N c_0.1) fun y1 =>
  bif (!y1.1.1) then
    some (((14 : Int), ()), (([] : List UInt8), ()))
  else
    Option.bind (group_Element N c_0.2.1) fun y3 =>
    bif (!y3.1.1) then
      some (((13 : Int), ()), (([] : List UInt8), ()))
    else
      bif (decide (c_0.2.2.1 < (0 : Int))) then
        some (((5 : Int), ()), (([] : List UInt8), ()))
      else
        bif (decide ((2147483647 : Int) < c_0.2.2.1)) then
          some (((5 : Int), ()), (([] : List UInt8), ()))
        else
          bif (decide (c_0.2.2.2.1 < (0 : Int))) then
            some (((5 : Int), ()), (([] : List UInt8), ()))
          else
            bif (decide ((2147483647 : Int) < c_0.2.2.2.1)) then
              some (((5 : Int), ()), (([] : List UInt8), ()))
            else
              bif (decide (c_0.2.2.2.1 < c_0.2.2.1)) then
                some (((5 : Int), ()), (([] : List UInt8), ()))
              else
                schnorr_Body_1 N c_0
noncomputable def schnorr_Body_C (N : Nat) : Ctx := ⟨70, G_tys, [(111, schnorr_named_ctr N), (96, group_Element_ctr N), (91, wire_Put_ctr N)], G_globs⟩
noncomputable def schnorr_Body_S0 : Spec := ⟨[.ref 0 (.pair .str (.pair .u64 (.pair .i64 (.pair .i64 (.pair .bool (.pair (.sl .u8) .unit))))))], [(.box 66 (.pair .str (.pair .u64 (.pair .i64 (.pair .i64 (.pair .bool (.pair (.sl .u8) .unit)))))), .pos 0)]⟩
noncomputable def schnorr_Body_S1 : Spec := ⟨[.val (.pair .str (.pair .u64 (.pair .i64 (.pair .i64 (.pair .bool (.pair (.sl .u8) .unit))))))], []⟩
noncomputable def schnorr_Body_S2 : Spec := ⟨[.row 0, .val .i64], [(.row 5 .u8, .pos 0)]⟩
noncomputable def schnorr_Body_K (_N : Nat) : XE → GS → Option schnorr_Body_R := retK 0 [2, 3] [false, false] schnorr_Body_S2
noncomputable def schnorr_Body_L : List Code := (bodyOf (some Tryd.f50))
theorem schnorr_Body_1_b {E : Env} (N : Nat) (hb : Base Tryd.prog (schnorr_Body_C N) E 0) : Blk Tryd.prog (schnorr_Body_C N) E [1] schnorr_Body_S0 (schnorr_Body_L.drop 2) (fun y => schnorr_Body_1 N y.2.1) (schnorr_Body_K N) :=
  Blk.chunkAt hb 7 (X := (schnorr_Body_K N .normal)) (NxOk.end (by kernel_rfl)) rfl (fun x => by kernel_rfl)
theorem schnorr_Body_b {E : Env} (N : Nat) (hb : Base Tryd.prog (schnorr_Body_C N) E 0) : Blk Tryd.prog (schnorr_Body_C N) E (List.range schnorr_Body_S1.ks.length) schnorr_Body_S1 (schnorr_Body_L.drop 0) (fun y => schnorr_Body N y.1.1) (schnorr_Body_K N) :=
  Blk.chunkAt hb 2 (X := (goK 0 [1] schnorr_Body_S0 (fun y => schnorr_Body_1 N y.2.1))) (NxOk.go hb (schnorr_Body_1_b N hb)) rfl (fun x => by kernel_rfl)
noncomputable def schnorr_Body_ctr (N : Nat) : Ctr := ⟨schnorr_Body_S1, schnorr_Body_S2.un [false, false], 0, (fun y => schnorr_Body N y.1.1)⟩
theorem schnorr_Body_ctrs (N : Nat) : CtrsOk Tryd.prog (schnorr_Body_C N) := ctrs_of (Γ := schnorr_Body_C N) (by
  intro p hp
  simp only [schnorr_Body_C, List.mem_cons, List.not_mem_nil, or_false] at hp
  rcases hp with rfl | rfl | rfl
  · exact schnorr_named_ok N
  · exact group_Element_ok N
  · exact wire_Put_ok N)
theorem schnorr_Body_ok (N : Nat) : Ctr.ok Tryd.prog G_globs 50 (schnorr_Body_ctr N) :=
  ctr_fn (Γ := schnorr_Body_C N) (rfit := schnorr_Body_S2) (bs := [false, false]) (res := [2, 3]) (by kernel_rfl) (tys_ok G_tys_ok) (schnorr_Body_ctrs N) Tryd.func50 (by kernel_rfl) (by kernel_rfl) Tryd.ntmps50 (by kernel_rfl) (by kernel_rfl) (by kernel_rfl) (by kernel_rfl) (fun E hb => schnorr_Body_b N hb)
end Go.Proofs.YtofajgidjkjnpaaDoor
namespace Go.Proofs.YtofajgidjkjnpaaDoor
open Go
set_option maxRecDepth 100000
set_option linter.unusedVariables false
/-! ipsecgate/schnorr.Verify -/
abbrev schnorr_Verify_R : Type := ((Int × Unit) × (Unit))
noncomputable def schnorr_Verify_1 (N : Nat) (public_0 : UInt64) (message_1 : (List UInt8)) (t_28 : Bool) (s_7 : (List UInt64)) : Option schnorr_Verify_R :=
  bif t_28 then
    some (((5 : Int), ()), (()))
  else
    Option.bind (group_Power N (4 : UInt64) (s_7.getD 1 (0 : UInt64))) fun y12 =>
    Option.bind (group_Power N public_0 ((2305843009213688669 : UInt64) - (s_7.getD 0 (0 : UInt64)))) fun y15 =>
    Option.bind (group_Mul N y12.1.1 y15.1.1) fun y16 =>
    Option.bind (schnorr_challenge N y16.1.1 public_0 message_1) fun y17 =>
    bif (!(decide (y17.1.1 = (s_7.getD 0 (0 : UInt64))))) then
      some (((18 : Int), ()), (()))
    else
      some (((0 : Int), ()), (()))
noncomputable def schnorr_Verify (N : Nat) (public_0 : UInt64) (message_1 : (List UInt8)) (signature_2 : (List UInt8)) : Option schnorr_Verify_R :=
  Option.bind (group_Element N public_0) fun y1 =>
  bif (!y1.1.1) then
    some (((13 : Int), ()), (()))
  else
    bif (!(decide ((signature_2.length : Int) = (16 : Int)))) then
      some (((2 : Int), ()), (()))
    else
      Option.bind (schnorr_first N signature_2) fun y5 =>
      bif decide (0 ≤ (8 : Int)) && decide ((8 : Int) ≤ (signature_2.length : Int)) && decide ((signature_2.length : Int) ≤ (signature_2.length : Int)) && true then
      Option.bind (schnorr_first N (cut signature_2 8 signature_2.length)) fun y7 =>
      let x8 := ([y5.1.1, y7.1.1] : List UInt64)
      bif (decide ((2305843009213688669 : UInt64) ≤ (x8.getD 0 (0 : UInt64)))) then
        schnorr_Verify_1 N public_0 message_1 true x8
      else
        schnorr_Verify_1 N public_0 message_1 (decide ((2305843009213688669 : UInt64) ≤ (x8.getD 1 (0 : UInt64)))) x8
      else none
noncomputable def schnorr_Verify_C (N : Nat) : Ctx := ⟨45, G_tys, [(96, group_Element_ctr N), (89, schnorr_first_ctr N), (93, group_Power_ctr N), (97, group_Mul_ctr N), (92, schnorr_challenge_ctr N)], G_globs⟩
noncomputable def schnorr_Verify_S0 : Spec := ⟨[.val .u64, .val (.sl .u8), .ref 0 (.arr 2 .u64), .val .bool], [(.box 134 (.arr 2 .u64), .pos 2)]⟩
noncomputable def schnorr_Verify_S1 : Spec := ⟨[.val .u64, .val (.sl .u8), .val (.sl .u8)], []⟩
noncomputable def schnorr_Verify_S2 : Spec := ⟨[.val .i64], []⟩
noncomputable def schnorr_Verify_K (_N : Nat) : XE → GS → Option schnorr_Verify_R := retK 0 [6] [false] schnorr_Verify_S2
noncomputable def schnorr_Verify_L : List Code := (bodyOf (some Tryd.f23))
theorem schnorr_Verify_1_b {E : Env} (N : Nat) (hb : Base Tryd.prog (schnorr_Verify_C N) E 0) : Blk Tryd.prog (schnorr_Verify_C N) E [0, 1, 7, 28] schnorr_Verify_S0 (schnorr_Verify_L.drop 7) (fun y => schnorr_Verify_1 N y.1.1 y.1.2.1 y.1.2.2.1 y.2.1) (schnorr_Verify_K N) :=
  Blk.chunkAt hb 6 (X := (schnorr_Verify_K N .normal)) (NxOk.end (by kernel_rfl)) rfl (fun x => by kernel_rfl)
theorem schnorr_Verify_b {E : Env} (N : Nat) (hb : Base Tryd.prog (schnorr_Verify_C N) E 0) : Blk Tryd.prog (schnorr_Verify_C N) E (List.range schnorr_Verify_S1.ks.length) schnorr_Verify_S1 (schnorr_Verify_L.drop 0) (fun y => schnorr_Verify N y.1.1 y.1.2.1 y.1.2.2.1) (schnorr_Verify_K N) :=
  Blk.chunkAt hb 7 (X := (goK 0 [0, 1, 7, 28] schnorr_Verify_S0 (fun y => schnorr_Verify_1 N y.1.1 y.1.2.1 y.1.2.2.1 y.2.1))) (NxOk.go hb (schnorr_Verify_1_b N hb)) rfl (fun x => by kernel_rfl)
noncomputable def schnorr_Verify_ctr (N : Nat) : Ctr := ⟨schnorr_Verify_S1, schnorr_Verify_S2.un [false], 0, (fun y => schnorr_Verify N y.1.1 y.1.2.1 y.1.2.2.1)⟩
theorem schnorr_Verify_ctrs (N : Nat) : CtrsOk Tryd.prog (schnorr_Verify_C N) := ctrs_of (Γ := schnorr_Verify_C N) (by
  intro p hp
  simp only [schnorr_Verify_C, List.mem_cons, List.not_mem_nil, or_false] at hp
  rcases hp with rfl | rfl | rfl | rfl | rfl
  · exact group_Element_ok N
  · exact schnorr_first_ok N
  · exact group_Power_ok N
  · exact group_Mul_ok N
  · exact schnorr_challenge_ok N)
theorem schnorr_Verify_ok (N : Nat) : Ctr.ok Tryd.prog G_globs 23 (schnorr_Verify_ctr N) :=
  ctr_fn (Γ := schnorr_Verify_C N) (rfit := schnorr_Verify_S2) (bs := [false]) (res := [6]) (by kernel_rfl) (tys_ok G_tys_ok) (schnorr_Verify_ctrs N) Tryd.func23 (by kernel_rfl) (by kernel_rfl) Tryd.ntmps23 (by kernel_rfl) (by kernel_rfl) (by kernel_rfl) (by kernel_rfl) (fun E hb => schnorr_Verify_b N hb)
end Go.Proofs.YtofajgidjkjnpaaDoor
namespace Go.Proofs.YtofajgidjkjnpaaDoor
open Go
set_option maxRecDepth 100000
set_option linter.unusedVariables false
/-! ipsecgate/schnorr.walk -/
abbrev schnorr_walk_R : Type := ((Int × Unit) × (Unit))
noncomputable def schnorr_walk_2 (N : Nat) (rc : (List ((List UInt8) × (UInt64 × (Int × (Int × (Bool × ((List UInt8) × Unit))))))) → Bool → UInt64 → Int → Option schnorr_walk_R) (l_0 : (List ((List UInt8) × (UInt64 × (Int × (Int × (Bool × ((List UInt8) × Unit)))))))) (anchor_2 : UInt64) (now_3 : Int) (issuer_10 : UInt64) (c_9 : ((List UInt8) × (UInt64 × (Int × (Int × (Bool × ((List UInt8) × Unit))))))) (b_11 : (List UInt8)) : Option schnorr_walk_R :=
  Option.bind (schnorr_Verify N issuer_10 b_11 c_9.2.2.2.2.2.1) fun y13 =>
  bif (!(decide (y13.1.1 = (0 : Int)))) then
    some ((y13.1.1, ()), (()))
  else
    bif decide (0 ≤ (1 : Int)) && decide ((1 : Int) ≤ (l_0.length : Int)) && decide ((l_0.length : Int) ≤ (l_0.length : Int)) && true then
    Option.bind (rc (cut l_0 1 l_0.length) false anchor_2 now_3) fun y16 =>
    some ((y16.1.1, ()), (()))
    else none
noncomputable def schnorr_walk_1 (N : Nat) (rc : (List ((List UInt8) × (UInt64 × (Int × (Int × (Bool × ((List UInt8) × Unit))))))) → Bool → UInt64 → Int → Option schnorr_walk_R) (l_0 : (List ((List UInt8) × (UInt64 × (Int × (Int × (Bool × ((List UInt8) × Unit)))))))) (peer_1 : Bool) (anchor_2 : UInt64) (now_3 : Int) (issuer_10 : UInt64) (c_9 : ((List UInt8) × (UInt64 × (Int × (Int × (Bool × ((List UInt8) × Unit))))))) : Option schnorr_walk_R :=
  Option.bind (schnorr_Body N c_9) fun y7 =>
  bif (!(decide (y7.1.1 = (0 : Int)))) then
    some ((y7.1.1, ()), (()))
  else
    bif (!peer_1) then
      bif (!c_9.2.2.2.2.1) then
        some (((24 : Int), ()), (()))
      else
        bif (decide (now_3 < c_9.2.2.1)) then
          some (((19 : Int), ()), (()))
        else
          bif (decide (c_9.2.2.2.1 < now_3)) then
            some (((19 : Int), ()), (()))
          else
            schnorr_walk_2 N rc l_0 anchor_2 now_3 issuer_10 c_9 y7.2.1
    else
      bif (decide (now_3 < c_9.2.2.1)) then
        some (((19 : Int), ()), (()))
      else
        bif (decide (c_9.2.2.2.1 < now_3)) then
          some (((19 : Int), ()), (()))
        else
          schnorr_walk_2 N rc l_0 anchor_2 now_3 issuer_10 c_9 y7.2.1
noncomputable def schnorr_walk (N : Nat) (rc : (List ((List UInt8) × (UInt64 × (Int × (Int × (Bool × ((List UInt8) × Unit))))))) → Bool → UInt64 → Int → Option schnorr_walk_R) (l_0 : (List ((List UInt8) × (UInt64 × (Int × (Int × (Bool × ((List UInt8) × Unit)))))))) (peer_1 : Bool) (anchor_2 : UInt64) (now_3 : Int) : Option schnorr_walk_R :=
  bif (decide ((l_0.length : Int) = (0 : Int))) then
    some (((0 : Int), ()), (()))
  else
    bif inR (0 : Int) l_0.length then
    let x3 := l_0.getD 0 (([] : List UInt8), (0 : UInt64), (0 : Int), (0 : Int), false, ([] : List UInt8), ())
    bif (decide ((1 : Int) < (l_0.length : Int))) then
      bif inR (1 : Int) l_0.length then
      schnorr_walk_1 N rc l_0 peer_1 anchor_2 now_3 (l_0.getD 1 (([] : List UInt8), (0 : UInt64), (0 : Int), (0 : Int), false, ([] : List UInt8), ())).2.1 x3
      else none
    else
      schnorr_walk_1 N rc l_0 peer_1 anchor_2 now_3 anchor_2 x3
    else none
noncomputable def schnorr_walk_S0 : Spec := ⟨[.val (.sl (.pair .str (.pair .u64 (.pair .i64 (.pair .i64 (.pair .bool (.pair (.sl .u8) .unit))))))), .val .u64, .val .i64, .ref 0 (.pair .str (.pair .u64 (.pair .i64 (.pair .i64 (.pair .bool (.pair (.sl .u8) .unit)))))), .val .u64, .row 1], [(.box 66 (.pair .str (.pair .u64 (.pair .i64 (.pair .i64 (.pair .bool (.pair (.sl .u8) .unit)))))), .pos 3), (.row 5 .u8, .pos 5)]⟩
noncomputable def schnorr_walk_S1 : Spec := ⟨[.val (.sl (.pair .str (.pair .u64 (.pair .i64 (.pair .i64 (.pair .bool (.pair (.sl .u8) .unit))))))), .val .bool, .val .u64, .val .i64, .ref 0 (.pair .str (.pair .u64 (.pair .i64 (.pair .i64 (.pair .bool (.pair (.sl .u8) .unit)))))), .val .u64], [(.box 66 (.pair .str (.pair .u64 (.pair .i64 (.pair .i64 (.pair .bool (.pair (.sl .u8) .unit)))))), .pos 4)]⟩
noncomputable def schnorr_walk_S2 : Spec := ⟨[.val (.sl (.pair .str (.pair .u64 (.pair .i64 (.pair .i64 (.pair .bool (.pair (.sl .u8) .unit))))))), .val .bool, .val .u64, .val .i64], []⟩
noncomputable def schnorr_walk_S3 : Spec := ⟨[.val .i64], []⟩
noncomputable def schnorr_walk_ftr (N : Nat) (rc : (List ((List UInt8) × (UInt64 × (Int × (Int × (Bool × ((List UInt8) × Unit))))))) → Bool → UInt64 → Int → Option schnorr_walk_R) : Ctr := ⟨schnorr_walk_S2, schnorr_walk_S3.un [false], 0, (fun y => rc y.1.1 y.1.2.1 y.1.2.2.1 y.1.2.2.2.1)⟩
noncomputable def schnorr_walk_C (N : Nat) (rc : (List ((List UInt8) × (UInt64 × (Int × (Int × (Bool × ((List UInt8) × Unit))))))) → Bool → UInt64 → Int → Option schnorr_walk_R) : Ctx := ⟨69, G_tys, [(50, schnorr_Body_ctr N), (23, schnorr_Verify_ctr N), (109, schnorr_walk_ftr N rc)], G_globs⟩
noncomputable def schnorr_walk_K (_N : Nat) (_rc : (List ((List UInt8) × (UInt64 × (Int × (Int × (Bool × ((List UInt8) × Unit))))))) → Bool → UInt64 → Int → Option schnorr_walk_R) : XE → GS → Option schnorr_walk_R := retK 0 [8] [false] schnorr_walk_S3
noncomputable def schnorr_walk_L : List Code := (bodyOf (some Tryd.f109))
theorem schnorr_walk_2_b {E : Env} (N : Nat) (rc : (List ((List UInt8) × (UInt64 × (Int × (Int × (Bool × ((List UInt8) × Unit))))))) → Bool → UInt64 → Int → Option schnorr_walk_R) (hb : Base Tryd.prog (schnorr_walk_C N rc) E 0) : Blk Tryd.prog (schnorr_walk_C N rc) E [0, 2, 3, 9, 10, 11] schnorr_walk_S0 (schnorr_walk_L.drop 8) (fun y => schnorr_walk_2 N rc y.1.1 y.1.2.1 y.1.2.2.1 y.1.2.2.2.1 y.2.1 y.2.2.1) (schnorr_walk_K N rc) :=
  Blk.chunkAt hb 5 (X := (schnorr_walk_K N rc .normal)) (NxOk.end (by kernel_rfl)) rfl (fun x => by kernel_rfl)
theorem schnorr_walk_1_b {E : Env} (N : Nat) (rc : (List ((List UInt8) × (UInt64 × (Int × (Int × (Bool × ((List UInt8) × Unit))))))) → Bool → UInt64 → Int → Option schnorr_walk_R) (hb : Base Tryd.prog (schnorr_walk_C N rc) E 0) : Blk Tryd.prog (schnorr_walk_C N rc) E [0, 1, 2, 3, 9, 10] schnorr_walk_S1 (schnorr_walk_L.drop 6) (fun y => schnorr_walk_1 N rc y.1.1 y.1.2.1 y.1.2.2.1 y.1.2.2.2.1 y.1.2.2.2.2.1 y.2.1) (schnorr_walk_K N rc) :=
  Blk.chunkAt hb 2 (X := (goK 0 [0, 2, 3, 9, 10, 11] schnorr_walk_S0 (fun y => schnorr_walk_2 N rc y.1.1 y.1.2.1 y.1.2.2.1 y.1.2.2.2.1 y.2.1 y.2.2.1))) (NxOk.go hb (schnorr_walk_2_b N rc hb)) rfl (fun x => by kernel_rfl)
theorem schnorr_walk_b {E : Env} (N : Nat) (rc : (List ((List UInt8) × (UInt64 × (Int × (Int × (Bool × ((List UInt8) × Unit))))))) → Bool → UInt64 → Int → Option schnorr_walk_R) (hb : Base Tryd.prog (schnorr_walk_C N rc) E 0) : Blk Tryd.prog (schnorr_walk_C N rc) E (List.range schnorr_walk_S2.ks.length) schnorr_walk_S2 (schnorr_walk_L.drop 0) (fun y => schnorr_walk N rc y.1.1 y.1.2.1 y.1.2.2.1 y.1.2.2.2.1) (schnorr_walk_K N rc) :=
  Blk.chunkAt hb 6 (X := (goK 0 [0, 1, 2, 3, 9, 10] schnorr_walk_S1 (fun y => schnorr_walk_1 N rc y.1.1 y.1.2.1 y.1.2.2.1 y.1.2.2.2.1 y.1.2.2.2.2.1 y.2.1))) (NxOk.go hb (schnorr_walk_1_b N rc hb)) rfl (fun x => by kernel_rfl)
noncomputable def schnorr_walk_octr (N : Nat) (rc : (List ((List UInt8) × (UInt64 × (Int × (Int × (Bool × ((List UInt8) × Unit))))))) → Bool → UInt64 → Int → Option schnorr_walk_R) : Ctr := ⟨schnorr_walk_S2, schnorr_walk_S3.un [false], 0, (fun y => schnorr_walk N rc y.1.1 y.1.2.1 y.1.2.2.1 y.1.2.2.2.1)⟩
theorem schnorr_walk_ctrs (N : Nat) (rc : (List ((List UInt8) × (UInt64 × (Int × (Int × (Bool × ((List UInt8) × Unit))))))) → Bool → UInt64 → Int → Option schnorr_walk_R) (hf : Ctr.ok Tryd.prog G_globs 109 (schnorr_walk_ftr N rc)) : CtrsOk Tryd.prog (schnorr_walk_C N rc) := ctrs_of (Γ := schnorr_walk_C N rc) (by
  intro p hp
  simp only [schnorr_walk_C, List.mem_cons, List.not_mem_nil, or_false] at hp
  rcases hp with rfl | rfl | rfl
  · exact schnorr_Body_ok N
  · exact schnorr_Verify_ok N
  · exact hf)
theorem schnorr_walk_ook (N : Nat) (rc : (List ((List UInt8) × (UInt64 × (Int × (Int × (Bool × ((List UInt8) × Unit))))))) → Bool → UInt64 → Int → Option schnorr_walk_R) (hf : Ctr.ok Tryd.prog G_globs 109 (schnorr_walk_ftr N rc))  : Ctr.ok Tryd.prog G_globs 109 (schnorr_walk_octr N rc) :=
  ctr_fn (Γ := schnorr_walk_C N rc) (rfit := schnorr_walk_S3) (bs := [false]) (res := [8]) (by kernel_rfl) (tys_ok G_tys_ok) (schnorr_walk_ctrs N rc hf) Tryd.func109 (by kernel_rfl) (by kernel_rfl) Tryd.ntmps109 (by kernel_rfl) (by kernel_rfl) (by kernel_rfl) (by kernel_rfl) (fun E hb => schnorr_walk_b N rc hb)
noncomputable def schnorr_walkR (N : Nat) : Nat → (List ((List UInt8) × (UInt64 × (Int × (Int × (Bool × ((List UInt8) × Unit))))))) → Bool → UInt64 → Int → Option schnorr_walk_R
  | 0 => fun _ _ _ _ => none
  | n + 1 => fun l_0 peer_1 anchor_2 now_3 => schnorr_walk N (schnorr_walkR N n) l_0 peer_1 anchor_2 now_3
theorem schnorr_walkR_ok (N : Nat) : ∀ n : Nat, Ctr.ok Tryd.prog G_globs 109 (schnorr_walk_ftr N (schnorr_walkR N n))
  | 0 => ctr_never Tryd.func109 (by kernel_rfl) (by kernel_rfl) (fun x => rfl)
  | n + 1 => schnorr_walk_ook N (schnorr_walkR N n) (schnorr_walkR_ok N n)
noncomputable def schnorr_walk_ctr (N : Nat) : Ctr := schnorr_walk_ftr N (schnorr_walkR N N)
theorem schnorr_walk_ok (N : Nat) : Ctr.ok Tryd.prog G_globs 109 (schnorr_walk_ctr N) := schnorr_walkR_ok N N
end Go.Proofs.YtofajgidjkjnpaaDoor
namespace Go.Proofs.YtofajgidjkjnpaaDoor
open Go
set_option maxRecDepth 100000
set_option linter.unusedVariables false
/-! ipsecgate/schnorr.Chain -/
abbrev schnorr_Chain_R : Type := (((List UInt8) × UInt64 × Int × Unit) × (Unit))
noncomputable def schnorr_Chain (N : Nat) (l_0 : (List ((List UInt8) × (UInt64 × (Int × (Int × (Bool × ((List UInt8) × Unit)))))))) (anchor_1 : UInt64) (now_2 : Int) : Option schnorr_Chain_R :=
  bif (decide ((l_0.length : Int) = (0 : Int))) then
    some ((([] : List UInt8), (0 : UInt64), (8 : Int), ()), (()))
  else
    bif (decide ((6 : Int) < (l_0.length : Int))) then
      some ((([] : List UInt8), (0 : UInt64), (10 : Int), ()), (()))
    else
      Option.bind (schnorr_walkR N N l_0 true anchor_1 now_2) fun y5 =>
      bif (!(decide (y5.1.1 = (0 : Int)))) then
        some ((([] : List UInt8), (0 : UInt64), y5.1.1, ()), (()))
      else
        bif inR (0 : Int) l_0.length then
        bif inR (0 : Int) l_0.length then
        some (((l_0.getD 0 (([] : List UInt8), (0 : UInt64), (0 : Int), (0 : Int), false, ([] : List UInt8), ())).1, (l_0.getD 0 (([] : List UInt8), (0 : UInt64), (0 : Int), (0 : Int), false, ([] : List UInt8), ())).2.1, (0 : Int), ()), (()))
        else none
        else none
noncomputable def schnorr_Chain_C (N : Nat) : Ctx := ⟨31, G_tys, [(109, schnorr_walk_ctr N)], G_globs⟩
noncomputable def schnorr_Chain_S0 : Spec := ⟨[.val (.sl (.pair .str (.pair .u64 (.pair .i64 (.pair .i64 (.pair .bool (.pair (.sl .u8) .unit))))))), .val .u64, .val .i64], []⟩
noncomputable def schnorr_Chain_S1 : Spec := ⟨[.val .str, .val .u64, .val .i64], []⟩
noncomputable def schnorr_Chain_K (_N : Nat) : XE → GS → Option schnorr_Chain_R := retK 0 [6, 7, 8] [false, false, false] schnorr_Chain_S1
noncomputable def schnorr_Chain_L : List Code := (bodyOf (some Tryd.f38))
theorem schnorr_Chain_b {E : Env} (N : Nat) (hb : Base Tryd.prog (schnorr_Chain_C N) E 0) : Blk Tryd.prog (schnorr_Chain_C N) E (List.range schnorr_Chain_S0.ks.length) schnorr_Chain_S0 (schnorr_Chain_L.drop 0) (fun y => schnorr_Chain N y.1.1 y.1.2.1 y.1.2.2.1) (schnorr_Chain_K N) :=
  Blk.chunkAt hb 10 (X := (schnorr_Chain_K N .normal)) (NxOk.end (by kernel_rfl)) rfl (fun x => by kernel_rfl)
noncomputable def schnorr_Chain_ctr (N : Nat) : Ctr := ⟨schnorr_Chain_S0, schnorr_Chain_S1.un [false, false, false], 0, (fun y => schnorr_Chain N y.1.1 y.1.2.1 y.1.2.2.1)⟩
theorem schnorr_Chain_ctrs (N : Nat) : CtrsOk Tryd.prog (schnorr_Chain_C N) := ctrs_of (Γ := schnorr_Chain_C N) (by
  intro p hp
  simp only [schnorr_Chain_C, List.mem_cons, List.not_mem_nil, or_false] at hp
  rcases hp with rfl
  · exact schnorr_walk_ok N)
theorem schnorr_Chain_ok (N : Nat) : Ctr.ok Tryd.prog G_globs 38 (schnorr_Chain_ctr N) :=
  ctr_fn (Γ := schnorr_Chain_C N) (rfit := schnorr_Chain_S1) (bs := [false, false, false]) (res := [6, 7, 8]) (by kernel_rfl) (tys_ok G_tys_ok) (schnorr_Chain_ctrs N) Tryd.func38 (by kernel_rfl) (by kernel_rfl) Tryd.ntmps38 (by kernel_rfl) (by kernel_rfl) (by kernel_rfl) (by kernel_rfl) (fun E hb => schnorr_Chain_b N hb)
end Go.Proofs.YtofajgidjkjnpaaDoor
namespace Go.Proofs.YtofajgidjkjnpaaDoor
open Go
set_option maxRecDepth 100000
set_option linter.unusedVariables false
/-! ipsecgate/ipsecgatelaw15.awake -/
abbrev law15_awake_R : Type := ((Bool × Unit) × (Unit))
noncomputable def law15_awake (N : Nat) : Option law15_awake_R :=
  Option.bind (schnorr_Sign N (5 : UInt64) ([(109 : UInt8)] : List UInt8)) fun y1 =>
  Option.bind (ref13_Public N (5 : UInt64)) fun y2 =>
  Option.bind (schnorr_Sign N (0 : UInt64) ([] : List UInt8)) fun y3 =>
  Option.bind (schnorr_Chain N ([] : List ((List UInt8) × (UInt64 × (Int × (Int × (Bool × ((List UInt8) × Unit))))))) y2.1.1 (0 : Int)) fun y4 =>
  bif (decide (y1.1.1 = (0 : Int))) then
    Option.bind (schnorr_Verify N y2.1.1 ([(109 : UInt8)] : List UInt8) y1.2.1) fun y6 =>
    bif (decide (y6.1.1 = (0 : Int))) then
      bif (decide (y3.1.1 = (13 : Int))) then
        some (((decide (y4.1.2.2.1 = (8 : Int))), ()), (()))
      else
        some ((false, ()), (()))
    else
      some ((false, ()), (()))
  else
    some ((false, ()), (()))
noncomputable def law15_awake_C (N : Nat) : Ctx := ⟨48, G_tys, [(20, schnorr_Sign_ctr N), (18, ref13_Public_ctr N), (38, schnorr_Chain_ctr N), (23, schnorr_Verify_ctr N)], G_globs⟩
noncomputable def law15_awake_S0 : Spec := ⟨[], []⟩
noncomputable def law15_awake_S1 : Spec := ⟨[.val .bool], []⟩
noncomputable def law15_awake_K (_N : Nat) : XE → GS → Option law15_awake_R := retK 0 [0] [false] law15_awake_S1
noncomputable def law15_awake_L : List Code := (bodyOf (some Tryd.f15))
theorem law15_awake_b {E : Env} (N : Nat) (hb : Base Tryd.prog (law15_awake_C N) E 0) : Blk Tryd.prog (law15_awake_C N) E (List.range law15_awake_S0.ks.length) law15_awake_S0 (law15_awake_L.drop 0) (fun y => law15_awake N) (law15_awake_K N) :=
  Blk.chunkAt hb 7 (X := (law15_awake_K N .normal)) (NxOk.end (by kernel_rfl)) rfl (fun x => by kernel_rfl)
noncomputable def law15_awake_ctr (N : Nat) : Ctr := ⟨law15_awake_S0, law15_awake_S1.un [false], 0, (fun y => law15_awake N)⟩
theorem law15_awake_ctrs (N : Nat) : CtrsOk Tryd.prog (law15_awake_C N) := ctrs_of (Γ := law15_awake_C N) (by
  intro p hp
  simp only [law15_awake_C, List.mem_cons, List.not_mem_nil, or_false] at hp
  rcases hp with rfl | rfl | rfl | rfl
  · exact schnorr_Sign_ok N
  · exact ref13_Public_ok N
  · exact schnorr_Chain_ok N
  · exact schnorr_Verify_ok N)
theorem law15_awake_ok (N : Nat) : Ctr.ok Tryd.prog G_globs 15 (law15_awake_ctr N) :=
  ctr_fn (Γ := law15_awake_C N) (rfit := law15_awake_S1) (bs := [false]) (res := [0]) (by kernel_rfl) (tys_ok G_tys_ok) (law15_awake_ctrs N) Tryd.func15 (by kernel_rfl) (by kernel_rfl) Tryd.ntmps15 (by kernel_rfl) (by kernel_rfl) (by kernel_rfl) (by kernel_rfl) (fun E hb => law15_awake_b N hb)
end Go.Proofs.YtofajgidjkjnpaaDoor
namespace Go.Proofs.YtofajgidjkjnpaaDoor
open Go
set_option maxRecDepth 100000
set_option linter.unusedVariables false
/-! ipsecgate/ipsecgatemake.New -/
abbrev make_New_R : Type := ((Unit) × (((List UInt8) × (Int × Unit)) × Unit))
noncomputable def make_New_1 (N : Nat) (list_0 : (List UInt8)) : Option make_New_R :=
  some ((()), ((list_0, (0 : Int), ()), ()))
noncomputable def make_New (N : Nat) (list_0 : (List UInt8)) (most_1 : Int) : Option make_New_R :=
  bif (decide (most_1 < (list_0.length : Int))) then
    bif decide (0 ≤ (0 : Int)) && decide ((0 : Int) ≤ most_1) && decide (most_1 ≤ (list_0.length : Int)) && true then
    make_New_1 N (cut list_0 0 most_1.toNat)
    else none
  else
    make_New_1 N list_0
noncomputable def make_New_C (N : Nat) : Ctx := ⟨15, G_tys, [], G_globs⟩
noncomputable def make_New_S0 : Spec := ⟨[.val (.sl .u8)], []⟩
noncomputable def make_New_S1 : Spec := ⟨[.val (.sl .u8), .val .i64], []⟩
noncomputable def make_New_S2 : Spec := ⟨[.ref 0 (.pair (.sl .u8) (.pair .i64 .unit))], [(.box 122 (.pair (.sl .u8) (.pair .i64 .unit)), .pos 0)]⟩
noncomputable def make_New_K (_N : Nat) : XE → GS → Option make_New_R := retK 0 [4] [false] make_New_S2
noncomputable def make_New_L : List Code := (bodyOf (some Tryd.f16))
theorem make_New_1_b {E : Env} (N : Nat) (hb : Base Tryd.prog (make_New_C N) E 0) : Blk Tryd.prog (make_New_C N) E [0] make_New_S0 (make_New_L.drop 3) (fun y => make_New_1 N y.1.1) (make_New_K N) :=
  Blk.chunkAt hb 2 (X := (make_New_K N .normal)) (NxOk.end (by kernel_rfl)) rfl (fun x => by kernel_rfl)
theorem make_New_b {E : Env} (N : Nat) (hb : Base Tryd.prog (make_New_C N) E 0) : Blk Tryd.prog (make_New_C N) E (List.range make_New_S1.ks.length) make_New_S1 (make_New_L.drop 0) (fun y => make_New N y.1.1 y.1.2.1) (make_New_K N) :=
  Blk.chunkAt hb 3 (X := (goK 0 [0] make_New_S0 (fun y => make_New_1 N y.1.1))) (NxOk.go hb (make_New_1_b N hb)) rfl (fun x => by kernel_rfl)
noncomputable def make_New_ctr (N : Nat) : Ctr := ⟨make_New_S1, make_New_S2.un [false], 0, (fun y => make_New N y.1.1 y.1.2.1)⟩
theorem make_New_ctrs (N : Nat) : CtrsOk Tryd.prog (make_New_C N) := ctrs_nil rfl
theorem make_New_ok (N : Nat) : Ctr.ok Tryd.prog G_globs 16 (make_New_ctr N) :=
  ctr_fn (Γ := make_New_C N) (rfit := make_New_S2) (bs := [false]) (res := [4]) (by kernel_rfl) (tys_ok G_tys_ok) (make_New_ctrs N) Tryd.func16 (by kernel_rfl) (by kernel_rfl) Tryd.ntmps16 (by kernel_rfl) (by kernel_rfl) (by kernel_rfl) (by kernel_rfl) (fun E hb => make_New_b N hb)
end Go.Proofs.YtofajgidjkjnpaaDoor
namespace Go.Proofs.YtofajgidjkjnpaaDoor
open Go
set_option maxRecDepth 100000
set_option linter.unusedVariables false
/-! (*ipsecgate/ipsecgatemake.Codes).Left -/
abbrev make_Codes_Left_R : Type := ((Bool × Unit) × (Unit))
noncomputable def make_Codes_Left (N : Nat) (c_0 : ((List UInt8) × (Int × Unit))) : Option make_Codes_Left_R :=
  some (((decide (c_0.2.1 < (c_0.1.length : Int))), ()), (()))
noncomputable def make_Codes_Left_C (N : Nat) : Ctx := ⟨13, G_tys, [], G_globs⟩
noncomputable def make_Codes_Left_S0 : Spec := ⟨[.fp (.pair (.sl .u8) (.pair .i64 .unit))], []⟩
noncomputable def make_Codes_Left_S1 : Spec := ⟨[.val .bool], []⟩
noncomputable def make_Codes_Left_K (_N : Nat) : XE → GS → Option make_Codes_Left_R := retK 0 [2] [false] make_Codes_Left_S1
noncomputable def make_Codes_Left_L : List Code := (bodyOf (some Tryd.f124))
theorem make_Codes_Left_b {E : Env} (N : Nat) (hb : Base Tryd.prog (make_Codes_Left_C N) E 0) : Blk Tryd.prog (make_Codes_Left_C N) E (List.range make_Codes_Left_S0.ks.length) make_Codes_Left_S0 (make_Codes_Left_L.drop 0) (fun y => make_Codes_Left N y.1.1) (make_Codes_Left_K N) :=
  Blk.chunkAt hb 3 (X := (make_Codes_Left_K N .normal)) (NxOk.end (by kernel_rfl)) rfl (fun x => by kernel_rfl)
noncomputable def make_Codes_Left_ctr (N : Nat) : Ctr := ⟨make_Codes_Left_S0, make_Codes_Left_S1.un [false], 0, (fun y => make_Codes_Left N y.1.1)⟩
theorem make_Codes_Left_ctrs (N : Nat) : CtrsOk Tryd.prog (make_Codes_Left_C N) := ctrs_nil rfl
theorem make_Codes_Left_ok (N : Nat) : Ctr.ok Tryd.prog G_globs 124 (make_Codes_Left_ctr N) :=
  ctr_fn (Γ := make_Codes_Left_C N) (rfit := make_Codes_Left_S1) (bs := [false]) (res := [2]) (by kernel_rfl) (tys_ok G_tys_ok) (make_Codes_Left_ctrs N) Tryd.func124 (by kernel_rfl) (by kernel_rfl) Tryd.ntmps124 (by kernel_rfl) (by kernel_rfl) (by kernel_rfl) (by kernel_rfl) (fun E hb => make_Codes_Left_b N hb)
end Go.Proofs.YtofajgidjkjnpaaDoor
namespace Go.Proofs.YtofajgidjkjnpaaDoor
open Go
set_option maxRecDepth 100000
set_option linter.unusedVariables false
/-! (*ipsecgate/ipsecgatemake.Codes).Next -/
abbrev make_Codes_Next_R : Type := ((Int × Unit) × (((List UInt8) × (Int × Unit)) × Unit))
noncomputable def make_Codes_Next (N : Nat) (n_1 : Int) (c_0 : ((List UInt8) × (Int × Unit))) : Option make_Codes_Next_R :=
  Option.bind (make_Codes_Left N c_0) fun y1 =>
  bif (!y1.1.1) then
    some (((0 : Int), ()), (c_0, ()))
  else
    let x3 := w64 (c_0.2.1 + (1 : Int))
    let x4 := w64 (x3 - (1 : Int))
    bif inR x4 c_0.1.length then
    bif !(decide (n_1 = 0)) then
    some (((((c_0.1.getD x4.toNat (0 : UInt8)).toNat : Int).tmod n_1), ()), ((c_0.1, x3, ()), ()))
    else none
    else none
noncomputable def make_Codes_Next_C (N : Nat) : Ctx := ⟨29, G_tys, [(124, make_Codes_Left_ctr N)], G_globs⟩
noncomputable def make_Codes_Next_S0 : Spec := ⟨[.ref 0 (.pair (.sl .u8) (.pair .i64 .unit)), .val .i64], [(.box 122 (.pair (.sl .u8) (.pair .i64 .unit)), .pos 0)]⟩
noncomputable def make_Codes_Next_S1 : Spec := ⟨[.val .i64], [(.box 122 (.pair (.sl .u8) (.pair .i64 .unit)), .fix 0)]⟩
noncomputable def make_Codes_Next_K (_N : Nat) : XE → GS → Option make_Codes_Next_R := retK 1 [4] [false] make_Codes_Next_S1
noncomputable def make_Codes_Next_L : List Code := (bodyOf (some Tryd.f61))
theorem make_Codes_Next_b {E : Env} (N : Nat) (hb : Base Tryd.prog (make_Codes_Next_C N) E 1) : Blk Tryd.prog (make_Codes_Next_C N) E (List.range make_Codes_Next_S0.ks.length) make_Codes_Next_S0 (make_Codes_Next_L.drop 0) (fun y => make_Codes_Next N y.1.1 y.2.1) (make_Codes_Next_K N) :=
  Blk.chunkAt hb 6 (X := (make_Codes_Next_K N .normal)) (NxOk.end (by kernel_rfl)) rfl (fun x => by kernel_rfl)
noncomputable def make_Codes_Next_ctr (N : Nat) : Ctr := ⟨make_Codes_Next_S0, make_Codes_Next_S1.un [false], 1, (fun y => make_Codes_Next N y.1.1 y.2.1)⟩
theorem make_Codes_Next_ctrs (N : Nat) : CtrsOk Tryd.prog (make_Codes_Next_C N) := ctrs_of (Γ := make_Codes_Next_C N) (by
  intro p hp
  simp only [make_Codes_Next_C, List.mem_cons, List.not_mem_nil, or_false] at hp
  rcases hp with rfl
  · exact make_Codes_Left_ok N)
theorem make_Codes_Next_ok (N : Nat) : Ctr.ok Tryd.prog G_globs 61 (make_Codes_Next_ctr N) :=
  ctr_fn (Γ := make_Codes_Next_C N) (rfit := make_Codes_Next_S1) (bs := [false]) (res := [4]) (by kernel_rfl) (tys_ok G_tys_ok) (make_Codes_Next_ctrs N) Tryd.func61 (by kernel_rfl) (by kernel_rfl) Tryd.ntmps61 (by kernel_rfl) (by kernel_rfl) (by kernel_rfl) (by kernel_rfl) (fun E hb => make_Codes_Next_b N hb)
end Go.Proofs.YtofajgidjkjnpaaDoor
namespace Go.Proofs.YtofajgidjkjnpaaDoor
open Go
set_option maxRecDepth 100000
set_option linter.unusedVariables false
/-! (*ipsecgate/ipsecgatemake.Codes).Word -/
abbrev make_Codes_Word_R : Type := ((UInt64 × Unit) × (((List UInt8) × (Int × Unit)) × Unit))
noncomputable def make_Codes_Word_s2 (N : Nat) (v_3 : UInt64) (i_4 : Int) (p0 : ((List UInt8) × (Int × Unit))) : Option (Lo ((UInt64 × Int × Unit) × (((List UInt8) × (Int × Unit)) × Unit)) ((UInt64 × Unit) × (((List UInt8) × (Int × Unit)) × Unit)) make_Codes_Word_R) :=
  bif (decide (i_4 < (8 : Int))) then
    Option.bind (make_Codes_Next N (256 : Int) p0) fun y11 =>
    some (.go ((((shl64 v_3 8) ||| (iu64 y11.1.1)), (w64 (i_4 + (1 : Int))), ()), (y11.2.1, ())))
  else
    some (.br ((v_3, ()), (p0, ())))
noncomputable def make_Codes_Word_3 (N : Nat) (v_3 : UInt64) (p0 : ((List UInt8) × (Int × Unit))) : Option make_Codes_Word_R :=
  some ((v_3, ()), (p0, ()))
noncomputable def make_Codes_Word_1 (N : Nat) (v_3 : UInt64) (i_4 : Int) (p0 : ((List UInt8) × (Int × Unit))) : Option make_Codes_Word_R :=
  loopK N (fun y => make_Codes_Word_s2 N y.1.1 y.1.2.1 y.2.1) (fun (e : ((UInt64 × Unit) × (((List UInt8) × (Int × Unit)) × Unit))) => make_Codes_Word_3 N e.1.1 e.2.1) ((v_3, i_4, ()), (p0, ()))
noncomputable def make_Codes_Word (N : Nat) (c_0 : ((List UInt8) × (Int × Unit))) : Option make_Codes_Word_R :=
  Option.bind (make_Codes_Next N (6 : Int) c_0) fun y1 =>
  bif (decide (y1.1.1 = (0 : Int))) then
    Option.bind (make_Codes_Next N (4 : Int) y1.2.1) fun y3 =>
    some (((iu64 y3.1.1), ()), (y3.2.1, ()))
  else
    bif (decide (y1.1.1 = (1 : Int))) then
      Option.bind (make_Codes_Next N (3 : Int) y1.2.1) fun y6 =>
      some ((((18446744073709551615 : UInt64) - (iu64 y6.1.1)), ()), (y6.2.1, ()))
    else
      make_Codes_Word_1 N (0 : UInt64) (0 : Int) y1.2.1
noncomputable def make_Codes_Word_C (N : Nat) : Ctx := ⟨29, G_tys, [(61, make_Codes_Next_ctr N)], G_globs⟩
noncomputable def make_Codes_Word_S0 : Spec := ⟨[.ref 0 (.pair (.sl .u8) (.pair .i64 .unit)), .val .u64, .val .i64], [(.box 122 (.pair (.sl .u8) (.pair .i64 .unit)), .fix 0)]⟩
noncomputable def make_Codes_Word_S1 : Spec := ⟨[.val .u64], [(.box 122 (.pair (.sl .u8) (.pair .i64 .unit)), .fix 0)]⟩
noncomputable def make_Codes_Word_S2 : Spec := ⟨[.ref 0 (.pair (.sl .u8) (.pair .i64 .unit))], [(.box 122 (.pair (.sl .u8) (.pair .i64 .unit)), .pos 0)]⟩
noncomputable def make_Codes_Word_K (_N : Nat) : XE → GS → Option make_Codes_Word_R := retK 1 [2] [false] make_Codes_Word_S1
noncomputable def make_Codes_Word_L : List Code := (bodyOf (some Tryd.f44))
noncomputable def make_Codes_Word_L2 : List Code := (loopOf (make_Codes_Word_L[5]?))
noncomputable def make_Codes_Word_K2 (N : Nat) : XE → GS → Option (Lo ((UInt64 × Int × Unit) × (((List UInt8) × (Int × Unit)) × Unit)) ((UInt64 × Unit) × (((List UInt8) × (Int × Unit)) × Unit)) make_Codes_Word_R) := roundK (some 1) (fit 1 [0, 3, 4] make_Codes_Word_S0) (fit 1 [3] make_Codes_Word_S1) (make_Codes_Word_K N)
theorem make_Codes_Word_s2_b {E : Env} (N : Nat) (hb : Base Tryd.prog (make_Codes_Word_C N) E 1) : Blk Tryd.prog (make_Codes_Word_C N) E [0, 3, 4] make_Codes_Word_S0 (make_Codes_Word_L2.drop 0) (fun y => make_Codes_Word_s2 N y.1.1 y.1.2.1 y.2.1) (make_Codes_Word_K2 N) :=
  Blk.chunkAt hb 4 (X := (make_Codes_Word_K2 N .normal)) (NxOk.end (by kernel_rfl)) rfl (fun x => by kernel_rfl)
theorem make_Codes_Word_3_b {E : Env} (N : Nat) (hb : Base Tryd.prog (make_Codes_Word_C N) E 1) : Blk Tryd.prog (make_Codes_Word_C N) E [3] make_Codes_Word_S1 (make_Codes_Word_L.drop 6) (fun y => make_Codes_Word_3 N y.1.1 y.2.1) (make_Codes_Word_K N) :=
  Blk.chunkAt hb 2 (X := (make_Codes_Word_K N .normal)) (NxOk.end (by kernel_rfl)) rfl (fun x => by kernel_rfl)
theorem make_Codes_Word_1_b {E : Env} (N : Nat) (hb : Base Tryd.prog (make_Codes_Word_C N) E 1) : Blk Tryd.prog (make_Codes_Word_C N) E [0, 3, 4] make_Codes_Word_S0 (make_Codes_Word_L.drop 5) (fun y => make_Codes_Word_1 N y.1.1 y.1.2.1 y.2.1) (make_Codes_Word_K N) :=
  Blk.loopAt (Nf := N) (hns := [0, 3, 4]) (ans := [3]) (hc := make_Codes_Word_S0) (ac := make_Codes_Word_S1) (bid := 1) (step := (fun y => make_Codes_Word_s2 N y.1.1 y.1.2.1 y.2.1)) (J := (fun e => (goK 1 [3] make_Codes_Word_S1 (fun y => make_Codes_Word_3 N y.1.1 y.2.1)) (make_Codes_Word_S1.st [3] e))) hb (by kernel_rfl) (Blk.into (X := (goK 1 [3] make_Codes_Word_S1 (fun y => make_Codes_Word_3 N y.1.1 y.2.1))) (NxOk.go hb (make_Codes_Word_3_b N hb)) (fun x => by kernel_rfl)) (make_Codes_Word_s2_b N hb) (fun x => by kernel_rfl)
theorem make_Codes_Word_b {E : Env} (N : Nat) (hb : Base Tryd.prog (make_Codes_Word_C N) E 1) : Blk Tryd.prog (make_Codes_Word_C N) E (List.range make_Codes_Word_S2.ks.length) make_Codes_Word_S2 (make_Codes_Word_L.drop 0) (fun y => make_Codes_Word N y.2.1) (make_Codes_Word_K N) :=
  Blk.chunkAt hb 5 (X := (goK 1 [0, 3, 4] make_Codes_Word_S0 (fun y => make_Codes_Word_1 N y.1.1 y.1.2.1 y.2.1))) (NxOk.go hb (make_Codes_Word_1_b N hb)) rfl (fun x => by kernel_rfl)
noncomputable def make_Codes_Word_ctr (N : Nat) : Ctr := ⟨make_Codes_Word_S2, make_Codes_Word_S1.un [false], 1, (fun y => make_Codes_Word N y.2.1)⟩
theorem make_Codes_Word_ctrs (N : Nat) : CtrsOk Tryd.prog (make_Codes_Word_C N) := ctrs_of (Γ := make_Codes_Word_C N) (by
  intro p hp
  simp only [make_Codes_Word_C, List.mem_cons, List.not_mem_nil, or_false] at hp
  rcases hp with rfl
  · exact make_Codes_Next_ok N)
theorem make_Codes_Word_ok (N : Nat) : Ctr.ok Tryd.prog G_globs 44 (make_Codes_Word_ctr N) :=
  ctr_fn (Γ := make_Codes_Word_C N) (rfit := make_Codes_Word_S1) (bs := [false]) (res := [2]) (by kernel_rfl) (tys_ok G_tys_ok) (make_Codes_Word_ctrs N) Tryd.func44 (by kernel_rfl) (by kernel_rfl) Tryd.ntmps44 (by kernel_rfl) (by kernel_rfl) (by kernel_rfl) (by kernel_rfl) (fun E hb => make_Codes_Word_b N hb)
end Go.Proofs.YtofajgidjkjnpaaDoor
namespace Go.Proofs.YtofajgidjkjnpaaDoor
open Go
set_option maxRecDepth 100000
set_option linter.unusedVariables false
/-! (*ipsecgate/ipsecgatemake.Codes).Secret -/
abbrev make_Codes_Secret_R : Type := ((UInt64 × Unit) × (((List UInt8) × (Int × Unit)) × Unit))
noncomputable def make_Codes_Secret (N : Nat) (c_0 : ((List UInt8) × (Int × Unit))) : Option make_Codes_Secret_R :=
  Option.bind (make_Codes_Word N c_0) fun y1 =>
  some ((((1 : UInt64) + (y1.1.1 % (2305843009213688668 : UInt64))), ()), (y1.2.1, ()))
noncomputable def make_Codes_Secret_C (N : Nat) : Ctx := ⟨7, G_tys, [(44, make_Codes_Word_ctr N)], G_globs⟩
noncomputable def make_Codes_Secret_S0 : Spec := ⟨[.ref 0 (.pair (.sl .u8) (.pair .i64 .unit))], [(.box 122 (.pair (.sl .u8) (.pair .i64 .unit)), .pos 0)]⟩
noncomputable def make_Codes_Secret_S1 : Spec := ⟨[.val .u64], [(.box 122 (.pair (.sl .u8) (.pair .i64 .unit)), .fix 0)]⟩
noncomputable def make_Codes_Secret_K (_N : Nat) : XE → GS → Option make_Codes_Secret_R := retK 1 [2] [false] make_Codes_Secret_S1
noncomputable def make_Codes_Secret_L : List Code := (bodyOf (some Tryd.f17))
theorem make_Codes_Secret_b {E : Env} (N : Nat) (hb : Base Tryd.prog (make_Codes_Secret_C N) E 1) : Blk Tryd.prog (make_Codes_Secret_C N) E (List.range make_Codes_Secret_S0.ks.length) make_Codes_Secret_S0 (make_Codes_Secret_L.drop 0) (fun y => make_Codes_Secret N y.2.1) (make_Codes_Secret_K N) :=
  Blk.chunkAt hb 3 (X := (make_Codes_Secret_K N .normal)) (NxOk.end (by kernel_rfl)) rfl (fun x => by kernel_rfl)
noncomputable def make_Codes_Secret_ctr (N : Nat) : Ctr := ⟨make_Codes_Secret_S0, make_Codes_Secret_S1.un [false], 1, (fun y => make_Codes_Secret N y.2.1)⟩
theorem make_Codes_Secret_ctrs (N : Nat) : CtrsOk Tryd.prog (make_Codes_Secret_C N) := ctrs_of (Γ := make_Codes_Secret_C N) (by
  intro p hp
  simp only [make_Codes_Secret_C, List.mem_cons, List.not_mem_nil, or_false] at hp
  rcases hp with rfl
  · exact make_Codes_Word_ok N)
theorem make_Codes_Secret_ok (N : Nat) : Ctr.ok Tryd.prog G_globs 17 (make_Codes_Secret_ctr N) :=
  ctr_fn (Γ := make_Codes_Secret_C N) (rfit := make_Codes_Secret_S1) (bs := [false]) (res := [2]) (by kernel_rfl) (tys_ok G_tys_ok) (make_Codes_Secret_ctrs N) Tryd.func17 (by kernel_rfl) (by kernel_rfl) Tryd.ntmps17 (by kernel_rfl) (by kernel_rfl) (by kernel_rfl) (by kernel_rfl) (fun E hb => make_Codes_Secret_b N hb)
end Go.Proofs.YtofajgidjkjnpaaDoor
namespace Go.Proofs.YtofajgidjkjnpaaDoor
open Go
set_option maxRecDepth 100000
set_option linter.unusedVariables false
/-! (*ipsecgate/ipsecgatemake.Codes).Certificate -/
abbrev make_Codes_Certificate_R : Type := ((((List UInt8) × (UInt64 × (Int × (Int × (Bool × ((List UInt8) × Unit)))))) × Unit) × (((List UInt8) × (Int × Unit)) × Unit))
noncomputable def make_Codes_Certificate (N : Nat) (key_1 : UInt64) (authority_2 : Bool) (c_0 : ((List UInt8) × (Int × Unit))) : Option make_Codes_Certificate_R :=
  Option.bind (make_Codes_Next N (4 : Int) c_0) fun y1 =>
  bif inR y1.1.1 (([([97, 108, 105, 99, 101] : List UInt8), ([98, 111, 98] : List UInt8), ([114, 111, 111, 116] : List UInt8), ([103, 119, 46, 101, 120, 97, 109, 112, 108, 101] : List UInt8)] : List (List UInt8)).length) then
  Option.bind (make_Codes_Next N (10 : Int) y1.2.1) fun y3 =>
  Option.bind (make_Codes_Next N (60 : Int) y3.2.1) fun y4 =>
  some ((((([([97, 108, 105, 99, 101] : List UInt8), ([98, 111, 98] : List UInt8), ([114, 111, 111, 116] : List UInt8), ([103, 119, 46, 101, 120, 97, 109, 112, 108, 101] : List UInt8)] : List (List UInt8)).getD y1.1.1.toNat ([] : List UInt8)), key_1, y3.1.1, (w64 ((20 : Int) + y4.1.1)), authority_2, ([] : List UInt8), ()), ()), (y4.2.1, ()))
  else none
noncomputable def make_Codes_Certificate_C (N : Nat) : Ctx := ⟨20, G_tys, [(61, make_Codes_Next_ctr N)], G_globs⟩
noncomputable def make_Codes_Certificate_S0 : Spec := ⟨[.ref 0 (.pair (.sl .u8) (.pair .i64 .unit)), .val .u64, .val .bool], [(.box 122 (.pair (.sl .u8) (.pair .i64 .unit)), .pos 0)]⟩
noncomputable def make_Codes_Certificate_S1 : Spec := ⟨[.fp (.pair .str (.pair .u64 (.pair .i64 (.pair .i64 (.pair .bool (.pair (.sl .u8) .unit))))))], [(.box 122 (.pair (.sl .u8) (.pair .i64 .unit)), .fix 0)]⟩
noncomputable def make_Codes_Certificate_K (_N : Nat) : XE → GS → Option make_Codes_Certificate_R := retK 1 [6] [true] make_Codes_Certificate_S1
noncomputable def make_Codes_Certificate_L : List Code := (bodyOf (some Tryd.f108))
theorem make_Codes_Certificate_b {E : Env} (N : Nat) (hb : Base Tryd.prog (make_Codes_Certificate_C N) E 1) : Blk Tryd.prog (make_Codes_Certificate_C N) E (List.range make_Codes_Certificate_S0.ks.length) make_Codes_Certificate_S0 (make_Codes_Certificate_L.drop 0) (fun y => make_Codes_Certificate N y.1.1 y.1.2.1 y.2.1) (make_Codes_Certificate_K N) :=
  Blk.chunkAt hb 3 (X := (make_Codes_Certificate_K N .normal)) (NxOk.end (by kernel_rfl)) rfl (fun x => by kernel_rfl)
noncomputable def make_Codes_Certificate_ctr (N : Nat) : Ctr := ⟨make_Codes_Certificate_S0, make_Codes_Certificate_S1.un [true], 1, (fun y => make_Codes_Certificate N y.1.1 y.1.2.1 y.2.1)⟩
theorem make_Codes_Certificate_ctrs (N : Nat) : CtrsOk Tryd.prog (make_Codes_Certificate_C N) := ctrs_of (Γ := make_Codes_Certificate_C N) (by
  intro p hp
  simp only [make_Codes_Certificate_C, List.mem_cons, List.not_mem_nil, or_false] at hp
  rcases hp with rfl
  · exact make_Codes_Next_ok N)
theorem make_Codes_Certificate_ok (N : Nat) : Ctr.ok Tryd.prog G_globs 108 (make_Codes_Certificate_ctr N) :=
  ctr_fn (Γ := make_Codes_Certificate_C N) (rfit := make_Codes_Certificate_S1) (bs := [true]) (res := [6]) (by kernel_rfl) (tys_ok G_tys_ok) (make_Codes_Certificate_ctrs N) Tryd.func108 (by kernel_rfl) (by kernel_rfl) Tryd.ntmps108 (by kernel_rfl) (by kernel_rfl) (by kernel_rfl) (by kernel_rfl) (fun E hb => make_Codes_Certificate_b N hb)
end Go.Proofs.YtofajgidjkjnpaaDoor
namespace Go.Proofs.YtofajgidjkjnpaaDoor
open Go
set_option maxRecDepth 100000
set_option linter.unusedVariables false
/-! ipsecgate/ipsecgateref15.Name -/
abbrev ref15_Name_R : Type := ((Bool × Unit) × (Unit))
noncomputable def ref15_Name_s3 (N : Nat) (s_0 : (List UInt8)) (i_3 : Int) : Option (Lo (((List UInt8) × Int × Unit) × (Unit)) ((Unit) × (Unit)) ref15_Name_R) :=
  bif (decide (i_3 < (s_0.length : Int))) then
    bif inR i_3 s_0.length then
    bif (decide ((s_0.getD i_3.toNat 0) < (33 : UInt8))) then
      some (.rt ((false, ()), (())))
    else
      bif inR i_3 s_0.length then
      bif (decide ((126 : UInt8) < (s_0.getD i_3.toNat 0))) then
        some (.rt ((false, ()), (())))
      else
        some (.go ((s_0, (w64 (i_3 + (1 : Int))), ()), (())))
      else none
    else none
  else
    some (.br ((()), (())))
noncomputable def ref15_Name_4 (N : Nat) : Option ref15_Name_R :=
  some ((true, ()), (()))
noncomputable def ref15_Name_2 (N : Nat) (s_0 : (List UInt8)) (i_3 : Int) : Option ref15_Name_R :=
  loopK N (fun y => ref15_Name_s3 N y.1.1 y.1.2.1) (fun (e : ((Unit) × (Unit))) => ref15_Name_4 N) ((s_0, i_3, ()), (()))
noncomputable def ref15_Name_1 (N : Nat) (s_0 : (List UInt8)) (t_11 : Bool) : Option ref15_Name_R :=
  bif t_11 then
    some ((false, ()), (()))
  else
    ref15_Name_2 N s_0 (0 : Int)
noncomputable def ref15_Name (N : Nat) (s_0 : (List UInt8)) : Option ref15_Name_R :=
  bif (decide ((s_0.length : Int) < (1 : Int))) then
    ref15_Name_1 N s_0 true
  else
    ref15_Name_1 N s_0 (decide ((16 : Int) < (s_0.length : Int)))
noncomputable def ref15_Name_C (N : Nat) : Ctx := ⟨28, G_tys, [], G_globs⟩
noncomputable def ref15_Name_S0 : Spec := ⟨[.val .str, .val .i64], []⟩
noncomputable def ref15_Name_S1 : Spec := ⟨[], []⟩
noncomputable def ref15_Name_S2 : Spec := ⟨[.val .str, .val .bool], []⟩
noncomputable def ref15_Name_S3 : Spec := ⟨[.val .str], []⟩
noncomputable def ref15_Name_S4 : Spec := ⟨[.val .bool], []⟩
noncomputable def ref15_Name_K (_N : Nat) : XE → GS → Option ref15_Name_R := retK 0 [2] [false] ref15_Name_S4
noncomputable def ref15_Name_L : List Code := (bodyOf (some Tryd.f112))
noncomputable def ref15_Name_L3 : List Code := (loopOf (ref15_Name_L[4]?))
noncomputable def ref15_Name_K3 (N : Nat) : XE → GS → Option (Lo (((List UInt8) × Int × Unit) × (Unit)) ((Unit) × (Unit)) ref15_Name_R) := roundK (some 0) (fit 0 [0, 3] ref15_Name_S0) (fit 0 [] ref15_Name_S1) (ref15_Name_K N)
theorem ref15_Name_s3_b {E : Env} (N : Nat) (hb : Base Tryd.prog (ref15_Name_C N) E 0) : Blk Tryd.prog (ref15_Name_C N) E [0, 3] ref15_Name_S0 (ref15_Name_L3.drop 0) (fun y => ref15_Name_s3 N y.1.1 y.1.2.1) (ref15_Name_K3 N) :=
  Blk.chunkAt hb 4 (X := (ref15_Name_K3 N .normal)) (NxOk.end (by kernel_rfl)) rfl (fun x => by kernel_rfl)
theorem ref15_Name_4_b {E : Env} (N : Nat) (hb : Base Tryd.prog (ref15_Name_C N) E 0) : Blk Tryd.prog (ref15_Name_C N) E [] ref15_Name_S1 (ref15_Name_L.drop 5) (fun y => ref15_Name_4 N) (ref15_Name_K N) :=
  Blk.chunkAt hb 2 (X := (ref15_Name_K N .normal)) (NxOk.end (by kernel_rfl)) rfl (fun x => by kernel_rfl)
theorem ref15_Name_2_b {E : Env} (N : Nat) (hb : Base Tryd.prog (ref15_Name_C N) E 0) : Blk Tryd.prog (ref15_Name_C N) E [0, 3] ref15_Name_S0 (ref15_Name_L.drop 4) (fun y => ref15_Name_2 N y.1.1 y.1.2.1) (ref15_Name_K N) :=
  Blk.loopAt (Nf := N) (hns := [0, 3]) (ans := []) (hc := ref15_Name_S0) (ac := ref15_Name_S1) (bid := 0) (step := (fun y => ref15_Name_s3 N y.1.1 y.1.2.1)) (J := (fun e => (goK 0 [] ref15_Name_S1 (fun y => ref15_Name_4 N)) (ref15_Name_S1.st [] e))) hb (by kernel_rfl) (Blk.into (X := (goK 0 [] ref15_Name_S1 (fun y => ref15_Name_4 N))) (NxOk.go hb (ref15_Name_4_b N hb)) (fun x => by kernel_rfl)) (ref15_Name_s3_b N hb) (fun x => by kernel_rfl)
theorem ref15_Name_1_b {E : Env} (N : Nat) (hb : Base Tryd.prog (ref15_Name_C N) E 0) : Blk Tryd.prog (ref15_Name_C N) E [0, 11] ref15_Name_S2 (ref15_Name_L.drop 2) (fun y => ref15_Name_1 N y.1.1 y.1.2.1) (ref15_Name_K N) :=
  Blk.chunkAt hb 2 (X := (goK 0 [0, 3] ref15_Name_S0 (fun y => ref15_Name_2 N y.1.1 y.1.2.1))) (NxOk.go hb (ref15_Name_2_b N hb)) rfl (fun x => by kernel_rfl)
theorem ref15_Name_b {E : Env} (N : Nat) (hb : Base Tryd.prog (ref15_Name_C N) E 0) : Blk Tryd.prog (ref15_Name_C N) E (List.range ref15_Name_S3.ks.length) ref15_Name_S3 (ref15_Name_L.drop 0) (fun y => ref15_Name N y.1.1) (ref15_Name_K N) :=
  Blk.chunkAt hb 2 (X := (goK 0 [0, 11] ref15_Name_S2 (fun y => ref15_Name_1 N y.1.1 y.1.2.1))) (NxOk.go hb (ref15_Name_1_b N hb)) rfl (fun x => by kernel_rfl)
noncomputable def ref15_Name_ctr (N : Nat) : Ctr := ⟨ref15_Name_S3, ref15_Name_S4.un [false], 0, (fun y => ref15_Name N y.1.1)⟩
theorem ref15_Name_ctrs (N : Nat) : CtrsOk Tryd.prog (ref15_Name_C N) := ctrs_nil rfl
theorem ref15_Name_ok (N : Nat) : Ctr.ok Tryd.prog G_globs 112 (ref15_Name_ctr N) :=
  ctr_fn (Γ := ref15_Name_C N) (rfit := ref15_Name_S4) (bs := [false]) (res := [2]) (by kernel_rfl) (tys_ok G_tys_ok) (ref15_Name_ctrs N) Tryd.func112 (by kernel_rfl) (by kernel_rfl) Tryd.ntmps112 (by kernel_rfl) (by kernel_rfl) (by kernel_rfl) (by kernel_rfl) (fun E hb => ref15_Name_b N hb)
end Go.Proofs.YtofajgidjkjnpaaDoor
namespace Go.Proofs.YtofajgidjkjnpaaDoor
open Go
set_option maxRecDepth 100000
set_option linter.unusedVariables false
/-! ipsecgate/ipsecgateref13.Element -/
abbrev ref13_Element_R : Type := ((Bool × Unit) × (Unit))
noncomputable def ref13_Element (N : Nat) (a_0 : UInt64) : Option ref13_Element_R :=
  bif (decide ((2 : UInt64) ≤ a_0)) then
    bif (decide (a_0 < (4611686018427377339 : UInt64))) then
      Option.bind (ref13_Power N a_0 (2305843009213688669 : UInt64)) fun y3 =>
      some (((decide (y3.1.1 = (1 : UInt64))), ()), (()))
    else
      some ((false, ()), (()))
  else
    some ((false, ()), (()))
noncomputable def ref13_Element_C (N : Nat) : Ctx := ⟨14, G_tys, [(82, ref13_Power_ctr N)], G_globs⟩
noncomputable def ref13_Element_S0 : Spec := ⟨[.val .u64], []⟩
noncomputable def ref13_Element_S1 : Spec := ⟨[.val .bool], []⟩
noncomputable def ref13_Element_K (_N : Nat) : XE → GS → Option ref13_Element_R := retK 0 [2] [false] ref13_Element_S1
noncomputable def ref13_Element_L : List Code := (bodyOf (some Tryd.f98))
theorem ref13_Element_b {E : Env} (N : Nat) (hb : Base Tryd.prog (ref13_Element_C N) E 0) : Blk Tryd.prog (ref13_Element_C N) E (List.range ref13_Element_S0.ks.length) ref13_Element_S0 (ref13_Element_L.drop 0) (fun y => ref13_Element N y.1.1) (ref13_Element_K N) :=
  Blk.chunkAt hb 3 (X := (ref13_Element_K N .normal)) (NxOk.end (by kernel_rfl)) rfl (fun x => by kernel_rfl)
noncomputable def ref13_Element_ctr (N : Nat) : Ctr := ⟨ref13_Element_S0, ref13_Element_S1.un [false], 0, (fun y => ref13_Element N y.1.1)⟩
theorem ref13_Element_ctrs (N : Nat) : CtrsOk Tryd.prog (ref13_Element_C N) := ctrs_of (Γ := ref13_Element_C N) (by
  intro p hp
  simp only [ref13_Element_C, List.mem_cons, List.not_mem_nil, or_false] at hp
  rcases hp with rfl
  · exact ref13_Power_ok N)
theorem ref13_Element_ok (N : Nat) : Ctr.ok Tryd.prog G_globs 98 (ref13_Element_ctr N) :=
  ctr_fn (Γ := ref13_Element_C N) (rfit := ref13_Element_S1) (bs := [false]) (res := [2]) (by kernel_rfl) (tys_ok G_tys_ok) (ref13_Element_ctrs N) Tryd.func98 (by kernel_rfl) (by kernel_rfl) Tryd.ntmps98 (by kernel_rfl) (by kernel_rfl) (by kernel_rfl) (by kernel_rfl) (fun E hb => ref13_Element_b N hb)
end Go.Proofs.YtofajgidjkjnpaaDoor
namespace Go.Proofs.YtofajgidjkjnpaaDoor
open Go
set_option maxRecDepth 100000
set_option linter.unusedVariables false
/-! ipsecgate/ipsecgateref01.Put -/
abbrev ref01_Put_R : Type := ((Unit) × ((List UInt8) × Unit))
noncomputable def ref01_Put_s3 (N : Nat) (v_1 : UInt64) (i_8 : Int) (out_7 : (List UInt8)) : Option (Lo ((UInt64 × Int × Unit) × ((List UInt8) × Unit)) ((Unit) × ((List UInt8) × Unit)) ref01_Put_R) :=
  bif (decide ((0 : Int) ≤ i_8)) then
    let x6 := shr64 v_1 (iu64 (w64 ((8 : Int) * i_8))).toNat
    bif room (out_7.length + ([x6.toUInt8] : List UInt8).length) 1 then
    some (.go ((v_1, (w64 (i_8 - (1 : Int))), ()), ((out_7 ++ ([x6.toUInt8] : List UInt8)), ())))
    else none
  else
    some (.br ((()), (out_7, ())))
noncomputable def ref01_Put_4 (N : Nat) (out_7 : (List UInt8)) : Option ref01_Put_R :=
  some ((()), (out_7, ()))
noncomputable def ref01_Put_2 (N : Nat) (v_1 : UInt64) (i_8 : Int) (out_7 : (List UInt8)) : Option ref01_Put_R :=
  loopK N (fun y => ref01_Put_s3 N y.1.1 y.1.2.1 y.2.1) (fun (e : ((Unit) × ((List UInt8) × Unit))) => ref01_Put_4 N e.2.1) ((v_1, i_8, ()), (out_7, ()))
noncomputable def ref01_Put_1 (N : Nat) (v_1 : UInt64) (width_2 : Int) (t_16 : Bool) (out_7 : (List UInt8)) : Option ref01_Put_R :=
  bif t_16 then
    some ((()), (out_7, ()))
  else
    ref01_Put_2 N v_1 (w64 (width_2 - (1 : Int))) out_7
noncomputable def ref01_Put (N : Nat) (b_0 : (List UInt8)) (v_1 : UInt64) (width_2 : Int) : Option ref01_Put_R :=
  bif room (0 + b_0.length) 1 then
  bif (decide (width_2 < (1 : Int))) then
    ref01_Put_1 N v_1 width_2 true b_0
  else
    ref01_Put_1 N v_1 width_2 (decide ((8 : Int) < width_2)) b_0
  else none
noncomputable def ref01_Put_C (N : Nat) : Ctx := ⟨34, G_tys, [], G_globs⟩
noncomputable def ref01_Put_S0 : Spec := ⟨[.val .u64, .row 0, .val .i64], [(.row 5 .u8, .pos 1)]⟩
noncomputable def ref01_Put_S1 : Spec := ⟨[.row 0], [(.row 5 .u8, .pos 0)]⟩
noncomputable def ref01_Put_S2 : Spec := ⟨[.val .u64, .val .i64, .row 0, .val .bool], [(.row 5 .u8, .pos 2)]⟩
noncomputable def ref01_Put_S3 : Spec := ⟨[.val (.sl .u8), .val .u64, .val .i64], []⟩
noncomputable def ref01_Put_K (_N : Nat) : XE → GS → Option ref01_Put_R := retK 0 [6] [false] ref01_Put_S1
noncomputable def ref01_Put_L : List Code := (bodyOf (some Tryd.f113))
noncomputable def ref01_Put_L3 : List Code := (loopOf (ref01_Put_L[5]?))
noncomputable def ref01_Put_K3 (N : Nat) : XE → GS → Option (Lo ((UInt64 × Int × Unit) × ((List UInt8) × Unit)) ((Unit) × ((List UInt8) × Unit)) ref01_Put_R) := roundK (some 0) (fit 0 [1, 7, 8] ref01_Put_S0) (fit 0 [7] ref01_Put_S1) (ref01_Put_K N)
theorem ref01_Put_s3_b {E : Env} (N : Nat) (hb : Base Tryd.prog (ref01_Put_C N) E 0) : Blk Tryd.prog (ref01_Put_C N) E [1, 7, 8] ref01_Put_S0 (ref01_Put_L3.drop 0) (fun y => ref01_Put_s3 N y.1.1 y.1.2.1 y.2.1) (ref01_Put_K3 N) :=
  Blk.chunkAt hb 4 (X := (ref01_Put_K3 N .normal)) (NxOk.end (by kernel_rfl)) rfl (fun x => by kernel_rfl)
theorem ref01_Put_4_b {E : Env} (N : Nat) (hb : Base Tryd.prog (ref01_Put_C N) E 0) : Blk Tryd.prog (ref01_Put_C N) E [7] ref01_Put_S1 (ref01_Put_L.drop 6) (fun y => ref01_Put_4 N y.2.1) (ref01_Put_K N) :=
  Blk.chunkAt hb 2 (X := (ref01_Put_K N .normal)) (NxOk.end (by kernel_rfl)) rfl (fun x => by kernel_rfl)
theorem ref01_Put_2_b {E : Env} (N : Nat) (hb : Base Tryd.prog (ref01_Put_C N) E 0) : Blk Tryd.prog (ref01_Put_C N) E [1, 7, 8] ref01_Put_S0 (ref01_Put_L.drop 5) (fun y => ref01_Put_2 N y.1.1 y.1.2.1 y.2.1) (ref01_Put_K N) :=
  Blk.loopAt (Nf := N) (hns := [1, 7, 8]) (ans := [7]) (hc := ref01_Put_S0) (ac := ref01_Put_S1) (bid := 0) (step := (fun y => ref01_Put_s3 N y.1.1 y.1.2.1 y.2.1)) (J := (fun e => (goK 0 [7] ref01_Put_S1 (fun y => ref01_Put_4 N y.2.1)) (ref01_Put_S1.st [7] e))) hb (by kernel_rfl) (Blk.into (X := (goK 0 [7] ref01_Put_S1 (fun y => ref01_Put_4 N y.2.1))) (NxOk.go hb (ref01_Put_4_b N hb)) (fun x => by kernel_rfl)) (ref01_Put_s3_b N hb) (fun x => by kernel_rfl)
theorem ref01_Put_1_b {E : Env} (N : Nat) (hb : Base Tryd.prog (ref01_Put_C N) E 0) : Blk Tryd.prog (ref01_Put_C N) E [1, 2, 7, 16] ref01_Put_S2 (ref01_Put_L.drop 3) (fun y => ref01_Put_1 N y.1.1 y.1.2.1 y.1.2.2.1 y.2.1) (ref01_Put_K N) :=
  Blk.chunkAt hb 2 (X := (goK 0 [1, 7, 8] ref01_Put_S0 (fun y => ref01_Put_2 N y.1.1 y.1.2.1 y.2.1))) (NxOk.go hb (ref01_Put_2_b N hb)) rfl (fun x => by kernel_rfl)
theorem ref01_Put_b {E : Env} (N : Nat) (hb : Base Tryd.prog (ref01_Put_C N) E 0) : Blk Tryd.prog (ref01_Put_C N) E (List.range ref01_Put_S3.ks.length) ref01_Put_S3 (ref01_Put_L.drop 0) (fun y => ref01_Put N y.1.1 y.1.2.1 y.1.2.2.1) (ref01_Put_K N) :=
  Blk.chunkAt hb 3 (X := (goK 0 [1, 2, 7, 16] ref01_Put_S2 (fun y => ref01_Put_1 N y.1.1 y.1.2.1 y.1.2.2.1 y.2.1))) (NxOk.go hb (ref01_Put_1_b N hb)) rfl (fun x => by kernel_rfl)
noncomputable def ref01_Put_ctr (N : Nat) : Ctr := ⟨ref01_Put_S3, ref01_Put_S1.un [false], 0, (fun y => ref01_Put N y.1.1 y.1.2.1 y.1.2.2.1)⟩
theorem ref01_Put_ctrs (N : Nat) : CtrsOk Tryd.prog (ref01_Put_C N) := ctrs_nil rfl
theorem ref01_Put_ok (N : Nat) : Ctr.ok Tryd.prog G_globs 113 (ref01_Put_ctr N) :=
  ctr_fn (Γ := ref01_Put_C N) (rfit := ref01_Put_S1) (bs := [false]) (res := [6]) (by kernel_rfl) (tys_ok G_tys_ok) (ref01_Put_ctrs N) Tryd.func113 (by kernel_rfl) (by kernel_rfl) Tryd.ntmps113 (by kernel_rfl) (by kernel_rfl) (by kernel_rfl) (by kernel_rfl) (fun E hb => ref01_Put_b N hb)
end Go.Proofs.YtofajgidjkjnpaaDoor
namespace Go.Proofs.YtofajgidjkjnpaaDoor
open Go
set_option maxRecDepth 100000
set_option linter.unusedVariables false
/-! ipsecgate/ipsecgateref13.Bytes -/
abbrev ref13_Bytes_R : Type := ((Unit) × ((List UInt8) × Unit))
noncomputable def ref13_Bytes (N : Nat) (a_0 : UInt64) : Option ref13_Bytes_R :=
  Option.bind (ref01_Put N ([] : List UInt8) a_0 (8 : Int)) fun y1 =>
  some ((()), (y1.2.1, ()))
noncomputable def ref13_Bytes_C (N : Nat) : Ctx := ⟨5, G_tys, [(113, ref01_Put_ctr N)], G_globs⟩
noncomputable def ref13_Bytes_S0 : Spec := ⟨[.val .u64], []⟩
noncomputable def ref13_Bytes_S1 : Spec := ⟨[.row 0], [(.row 5 .u8, .pos 0)]⟩
noncomputable def ref13_Bytes_K (_N : Nat) : XE → GS → Option ref13_Bytes_R := retK 0 [2] [false] ref13_Bytes_S1
noncomputable def ref13_Bytes_L : List Code := (bodyOf (some Tryd.f85))
theorem ref13_Bytes_b {E : Env} (N : Nat) (hb : Base Tryd.prog (ref13_Bytes_C N) E 0) : Blk Tryd.prog (ref13_Bytes_C N) E (List.range ref13_Bytes_S0.ks.length) ref13_Bytes_S0 (ref13_Bytes_L.drop 0) (fun y => ref13_Bytes N y.1.1) (ref13_Bytes_K N) :=
  Blk.chunkAt hb 3 (X := (ref13_Bytes_K N .normal)) (NxOk.end (by kernel_rfl)) rfl (fun x => by kernel_rfl)
noncomputable def ref13_Bytes_ctr (N : Nat) : Ctr := ⟨ref13_Bytes_S0, ref13_Bytes_S1.un [false], 0, (fun y => ref13_Bytes N y.1.1)⟩
theorem ref13_Bytes_ctrs (N : Nat) : CtrsOk Tryd.prog (ref13_Bytes_C N) := ctrs_of (Γ := ref13_Bytes_C N) (by
  intro p hp
  simp only [ref13_Bytes_C, List.mem_cons, List.not_mem_nil, or_false] at hp
  rcases hp with rfl
  · exact ref01_Put_ok N)
theorem ref13_Bytes_ok (N : Nat) : Ctr.ok Tryd.prog G_globs 85 (ref13_Bytes_ctr N) :=
  ctr_fn (Γ := ref13_Bytes_C N) (rfit := ref13_Bytes_S1) (bs := [false]) (res := [2]) (by kernel_rfl) (tys_ok G_tys_ok) (ref13_Bytes_ctrs N) Tryd.func85 (by kernel_rfl) (by kernel_rfl) Tryd.ntmps85 (by kernel_rfl) (by kernel_rfl) (by kernel_rfl) (by kernel_rfl) (fun E hb => ref13_Bytes_b N hb)
end Go.Proofs.YtofajgidjkjnpaaDoor
namespace Go.Proofs.YtofajgidjkjnpaaDoor
open Go
set_option maxRecDepth 100000
set_option linter.unusedVariables false
/-! ipsecgate/ipsecgateref15.Body -/
abbrev ref15_Body_R : Type := ((Int × Unit) × ((List UInt8) × Unit))
noncomputable def ref15_Body_1 (N : Nat) (c_1 : ((List UInt8) × (UInt64 × (Int × (Int × (Bool × ((List UInt8) × Unit))))))) : Option ref15_Body_R :=
  let x10 := (c_1.1.length : Int)
  bif room (([(iu8 x10)] : List UInt8).length + c_1.1.length) 1 then
  let x12 := ([(iu8 x10)] : List UInt8) ++ c_1.1
  Option.bind (ref13_Bytes N c_1.2.1) fun y13 =>
  bif room (x12.length + y13.2.1.length) 1 then
  Option.bind (ref01_Put N (x12 ++ y13.2.1) (iu64 c_1.2.2.1) (4 : Int)) fun y16 =>
  Option.bind (ref01_Put N y16.2.1 (iu64 c_1.2.2.2.1) (4 : Int)) fun y18 =>
  bif c_1.2.2.2.2.1 then
    bif room (y18.2.1.length + ([(1 : UInt8)] : List UInt8).length) 1 then
    some (((0 : Int), ()), ((y18.2.1 ++ ([(1 : UInt8)] : List UInt8)), ()))
    else none
  else
    bif room (y18.2.1.length + ([(0 : UInt8)] : List UInt8).length) 1 then
    some (((0 : Int), ()), ((y18.2.1 ++ ([(0 : UInt8)] : List UInt8)), ()))
    else none
  else none
  else none
noncomputable def ref15_Body (N : Nat) (c_0 : ((List UInt8) × (UInt64 × (Int × (Int × (Bool × ((List UInt8) × Unit))))))) : Option ref15_Body_R :=
  Option.bind (ref15_Name N c_0.1) fun y1 =>
  bif (!y1.1.1) then
    some (((14 : Int), ()), (([] : List UInt8), ()))
  else
    Option.bind (ref13_Element N c_0.2.1) fun y3 =>
    bif (!y3.1.1) then
      some (((13 : Int), ()), (([] : List UInt8), ()))
    else
      bif (decide (c_0.2.2.1 < (0 : Int))) then
        some (((5 : Int), ()), (([] : List UInt8), ()))
      else
        bif (decide ((2147483647 : Int) < c_0.2.2.1)) then
          some (((5 : Int), ()), (([] : List UInt8), ()))
        else
          bif (decide (c_0.2.2.2.1 < (0 : Int))) then
            some (((5 : Int), ()), (([] : List UInt8), ()))
          else
            bif (decide ((2147483647 : Int) < c_0.2.2.2.1)) then
              some (((5 : Int), ()), (([] : List UInt8), ()))
            else
              bif (decide (c_0.2.2.2.1 < c_0.2.2.1)) then
                some (((5 : Int), ()), (([] : List UInt8), ()))
              else
                ref15_Body_1 N c_0
noncomputable def ref15_Body_C (N : Nat) : Ctx := ⟨71, G_tys, [(112, ref15_Name_ctr N), (98, ref13_Element_ctr N), (85, ref13_Bytes_ctr N), (113, ref01_Put_ctr N)], G_globs⟩
noncomputable def ref15_Body_S0 : Spec := ⟨[.ref 0 (.pair .str (.pair .u64 (.pair .i64 (.pair .i64 (.pair .bool (.pair (.sl .u8) .unit))))))], [(.box 66 (.pair .str (.pair .u64 (.pair .i64 (.pair .i64 (.pair .bool (.pair (.sl .u8) .unit)))))), .pos 0)]⟩
noncomputable def ref15_Body_S1 : Spec := ⟨[.val (.pair .str (.pair .u64 (.pair .i64 (.pair .i64 (.pair .bool (.pair (.sl .u8) .unit))))))], []⟩
noncomputable def ref15_Body_S2 : Spec := ⟨[.row 0, .val .i64], [(.row 5 .u8, .pos 0)]⟩
noncomputable def ref15_Body_K (_N : Nat) : XE → GS → Option ref15_Body_R := retK 0 [2, 3] [false, false] ref15_Body_S2
noncomputable def ref15_Body_L : List Code := (bodyOf (some Tryd.f51))
theorem ref15_Body_1_b {E : Env} (N : Nat) (hb : Base Tryd.prog (ref15_Body_C N) E 0) : Blk Tryd.prog (ref15_Body_C N) E [1] ref15_Body_S0 (ref15_Body_L.drop 2) (fun y => ref15_Body_1 N y.2.1) (ref15_Body_K N) :=
  Blk.chunkAt hb 7 (X := (ref15_Body_K N .normal)) (NxOk.end (by kernel_rfl)) rfl (fun x => by kernel_rfl)
theorem ref15_Body_b {E : Env} (N : Nat) (hb : Base Tryd.prog (ref15_Body_C N) E 0) : Blk Tryd.prog (ref15_Body_C N) E (List.range ref15_Body_S1.ks.length) ref15_Body_S1 (ref15_Body_L.drop 0) (fun y => ref15_Body N y.1.1) (ref15_Body_K N) :=
  Blk.chunkAt hb 2 (X := (goK 0 [1] ref15_Body_S0 (fun y => ref15_Body_1 N y.2.1))) (NxOk.go hb (ref15_Body_1_b N hb)) rfl (fun x => by kernel_rfl)
noncomputable def ref15_Body_ctr (N : Nat) : Ctr := ⟨ref15_Body_S1, ref15_Body_S2.un [false, false], 0, (fun y => ref15_Body N y.1.1)⟩
theorem ref15_Body_ctrs (N : Nat) : CtrsOk Tryd.prog (ref15_Body_C N) := ctrs_of (Γ := ref15_Body_C N) (by
  intro p hp
  simp only [ref15_Body_C, List.mem_cons, List.not_mem_nil, or_false] at hp
  rcases hp with rfl | rfl | rfl | rfl
  · exact ref15_Name_ok N
  · exact ref13_Element_ok N
  · exact ref13_Bytes_ok N
  · exact ref01_Put_ok N)
theorem ref15_Body_ok (N : Nat) : Ctr.ok Tryd.prog G_globs 51 (ref15_Body_ctr N) :=
  ctr_fn (Γ := ref15_Body_C N) (rfit := ref15_Body_S2) (bs := [false, false]) (res := [2, 3]) (by kernel_rfl) (tys_ok G_tys_ok) (ref15_Body_ctrs N) Tryd.func51 (by kernel_rfl) (by kernel_rfl) Tryd.ntmps51 (by kernel_rfl) (by kernel_rfl) (by kernel_rfl) (by kernel_rfl) (fun E hb => ref15_Body_b N hb)
end Go.Proofs.YtofajgidjkjnpaaDoor
namespace Go.Proofs.YtofajgidjkjnpaaDoor
open Go
set_option maxRecDepth 100000
set_option linter.unusedVariables false
/-! ipsecgate/ipsecgateref08.Pad -/
abbrev ref08_Pad_R : Type := ((Unit) × ((List UInt8) × Unit))
noncomputable def ref08_Pad_s2 (N : Nat) (length_0 : Int) (out_3 : (List UInt8)) : Option (Lo ((Int × Unit) × ((List UInt8) × Unit)) ((Int × Unit) × ((List UInt8) × Unit)) ref08_Pad_R) :=
  bif (!(decide (((w64 ((length_0.tmod (64 : Int)) + (out_3.length : Int))).tmod (64 : Int)) = (56 : Int)))) then
    bif room (out_3.length + ([(0 : UInt8)] : List UInt8).length) 1 then
    some (.go ((length_0, ()), ((out_3 ++ ([(0 : UInt8)] : List UInt8)), ())))
    else none
  else
    some (.br ((length_0, ()), (out_3, ())))
noncomputable def ref08_Pad_3 (N : Nat) (length_0 : Int) (out_3 : (List UInt8)) : Option ref08_Pad_R :=
  Option.bind (ref01_Put N out_3 ((iu64 length_0) * (8 : UInt64)) (8 : Int)) fun y10 =>
  some ((()), (y10.2.1, ()))
noncomputable def ref08_Pad_1 (N : Nat) (length_0 : Int) (out_3 : (List UInt8)) : Option ref08_Pad_R :=
  loopK N (fun y => ref08_Pad_s2 N y.1.1 y.2.1) (fun (e : ((Int × Unit) × ((List UInt8) × Unit))) => ref08_Pad_3 N e.1.1 e.2.1) ((length_0, ()), (out_3, ()))
noncomputable def ref08_Pad (N : Nat) (length_0 : Int) : Option ref08_Pad_R :=
  bif (decide (length_0 < (0 : Int))) then
    some ((()), (([] : List UInt8), ()))
  else
    ref08_Pad_1 N length_0 ([(128 : UInt8)] : List UInt8)
noncomputable def ref08_Pad_C (N : Nat) : Ctx := ⟨22, G_tys, [(113, ref01_Put_ctr N)], G_globs⟩
noncomputable def ref08_Pad_S0 : Spec := ⟨[.val .i64, .row 0], [(.row 5 .u8, .pos 1)]⟩
noncomputable def ref08_Pad_S1 : Spec := ⟨[.val .i64], []⟩
noncomputable def ref08_Pad_S2 : Spec := ⟨[.row 0], [(.row 5 .u8, .pos 0)]⟩
noncomputable def ref08_Pad_K (_N : Nat) : XE → GS → Option ref08_Pad_R := retK 0 [2] [false] ref08_Pad_S2
noncomputable def ref08_Pad_L : List Code := (bodyOf (some Tryd.f189))
noncomputable def ref08_Pad_L2 : List Code := (loopOf (ref08_Pad_L[4]?))
noncomputable def ref08_Pad_K2 (N : Nat) : XE → GS → Option (Lo ((Int × Unit) × ((List UInt8) × Unit)) ((Int × Unit) × ((List UInt8) × Unit)) ref08_Pad_R) := roundK (some 0) (fit 0 [0, 3] ref08_Pad_S0) (fit 0 [0, 3] ref08_Pad_S0) (ref08_Pad_K N)
theorem ref08_Pad_s2_b {E : Env} (N : Nat) (hb : Base Tryd.prog (ref08_Pad_C N) E 0) : Blk Tryd.prog (ref08_Pad_C N) E [0, 3] ref08_Pad_S0 (ref08_Pad_L2.drop 0) (fun y => ref08_Pad_s2 N y.1.1 y.2.1) (ref08_Pad_K2 N) :=
  Blk.chunkAt hb 3 (X := (ref08_Pad_K2 N .normal)) (NxOk.end (by kernel_rfl)) rfl (fun x => by kernel_rfl)
theorem ref08_Pad_3_b {E : Env} (N : Nat) (hb : Base Tryd.prog (ref08_Pad_C N) E 0) : Blk Tryd.prog (ref08_Pad_C N) E [0, 3] ref08_Pad_S0 (ref08_Pad_L.drop 5) (fun y => ref08_Pad_3 N y.1.1 y.2.1) (ref08_Pad_K N) :=
  Blk.chunkAt hb 2 (X := (ref08_Pad_K N .normal)) (NxOk.end (by kernel_rfl)) rfl (fun x => by kernel_rfl)
theorem ref08_Pad_1_b {E : Env} (N : Nat) (hb : Base Tryd.prog (ref08_Pad_C N) E 0) : Blk Tryd.prog (ref08_Pad_C N) E [0, 3] ref08_Pad_S0 (ref08_Pad_L.drop 4) (fun y => ref08_Pad_1 N y.1.1 y.2.1) (ref08_Pad_K N) :=
  Blk.loopAt (Nf := N) (hns := [0, 3]) (ans := [0, 3]) (hc := ref08_Pad_S0) (ac := ref08_Pad_S0) (bid := 0) (step := (fun y => ref08_Pad_s2 N y.1.1 y.2.1)) (J := (fun e => (goK 0 [0, 3] ref08_Pad_S0 (fun y => ref08_Pad_3 N y.1.1 y.2.1)) (ref08_Pad_S0.st [0, 3] e))) hb (by kernel_rfl) (Blk.into (X := (goK 0 [0, 3] ref08_Pad_S0 (fun y => ref08_Pad_3 N y.1.1 y.2.1))) (NxOk.go hb (ref08_Pad_3_b N hb)) (fun x => by kernel_rfl)) (ref08_Pad_s2_b N hb) (fun x => by kernel_rfl)
theorem ref08_Pad_b {E : Env} (N : Nat) (hb : Base Tryd.prog (ref08_Pad_C N) E 0) : Blk Tryd.prog (ref08_Pad_C N) E (List.range ref08_Pad_S1.ks.length) ref08_Pad_S1 (ref08_Pad_L.drop 0) (fun y => ref08_Pad N y.1.1) (ref08_Pad_K N) :=
  Blk.chunkAt hb 4 (X := (goK 0 [0, 3] ref08_Pad_S0 (fun y => ref08_Pad_1 N y.1.1 y.2.1))) (NxOk.go hb (ref08_Pad_1_b N hb)) rfl (fun x => by kernel_rfl)
noncomputable def ref08_Pad_ctr (N : Nat) : Ctr := ⟨ref08_Pad_S1, ref08_Pad_S2.un [false], 0, (fun y => ref08_Pad N y.1.1)⟩
theorem ref08_Pad_ctrs (N : Nat) : CtrsOk Tryd.prog (ref08_Pad_C N) := ctrs_of (Γ := ref08_Pad_C N) (by
  intro p hp
  simp only [ref08_Pad_C, List.mem_cons, List.not_mem_nil, or_false] at hp
  rcases hp with rfl
  · exact ref01_Put_ok N)
theorem ref08_Pad_ok (N : Nat) : Ctr.ok Tryd.prog G_globs 189 (ref08_Pad_ctr N) :=
  ctr_fn (Γ := ref08_Pad_C N) (rfit := ref08_Pad_S2) (bs := [false]) (res := [2]) (by kernel_rfl) (tys_ok G_tys_ok) (ref08_Pad_ctrs N) Tryd.func189 (by kernel_rfl) (by kernel_rfl) Tryd.ntmps189 (by kernel_rfl) (by kernel_rfl) (by kernel_rfl) (by kernel_rfl) (fun E hb => ref08_Pad_b N hb)
end Go.Proofs.YtofajgidjkjnpaaDoor
namespace Go.Proofs.YtofajgidjkjnpaaDoor
open Go
set_option maxRecDepth 100000
set_option linter.unusedVariables false
/-! ipsecgate/ipsecgateref01.Number -/
abbrev ref01_Number_R : Type := ((UInt64 × Bool × Unit) × (Unit))
noncomputable def ref01_Number_s3 (N : Nat) (b_0 : (List UInt8)) (at_1 : Int) (width_2 : Int) (v_8 : UInt64) (i_9 : Int) : Option (Lo (((List UInt8) × Int × Int × UInt64 × Int × Unit) × (Unit)) ((UInt64 × Unit) × (Unit)) ref01_Number_R) :=
  bif (decide (i_9 < (w64 (at_1 + width_2)))) then
    bif inR i_9 b_0.length then
    some (.go ((b_0, at_1, width_2, ((shl64 v_8 8) ||| (b_0.getD i_9.toNat (0 : UInt8)).toUInt64), (w64 (i_9 + (1 : Int))), ()), (())))
    else none
  else
    some (.br ((v_8, ()), (())))
noncomputable def ref01_Number_4 (N : Nat) (v_8 : UInt64) : Option ref01_Number_R :=
  some ((v_8, true, ()), (()))
noncomputable def ref01_Number_2 (N : Nat) (b_0 : (List UInt8)) (at_1 : Int) (width_2 : Int) (v_8 : UInt64) (i_9 : Int) : Option ref01_Number_R :=
  loopK N (fun y => ref01_Number_s3 N y.1.1 y.1.2.1 y.1.2.2.1 y.1.2.2.2.1 y.1.2.2.2.2.1) (fun (e : ((UInt64 × Unit) × (Unit))) => ref01_Number_4 N e.1.1) ((b_0, at_1, width_2, v_8, i_9, ()), (()))
noncomputable def ref01_Number_1 (N : Nat) (b_0 : (List UInt8)) (at_1 : Int) (width_2 : Int) (t_33 : Bool) : Option ref01_Number_R :=
  bif t_33 then
    some (((0 : UInt64), false, ()), (()))
  else
    ref01_Number_2 N b_0 at_1 width_2 (0 : UInt64) at_1
noncomputable def ref01_Number (N : Nat) (b_0 : (List UInt8)) (at_1 : Int) (width_2 : Int) : Option ref01_Number_R :=
  bif (decide (width_2 < (1 : Int))) then
    ref01_Number_1 N b_0 at_1 width_2 true
  else
    bif (decide ((8 : Int) < width_2)) then
      ref01_Number_1 N b_0 at_1 width_2 true
    else
      bif (decide (at_1 < (0 : Int))) then
        ref01_Number_1 N b_0 at_1 width_2 true
      else
        bif (decide ((b_0.length : Int) < at_1)) then
          ref01_Number_1 N b_0 at_1 width_2 true
        else
          ref01_Number_1 N b_0 at_1 width_2 (decide ((w64 ((b_0.length : Int) - at_1)) < width_2))
noncomputable def ref01_Number_C (N : Nat) : Ctx := ⟨51, G_tys, [], G_globs⟩
noncomputable def ref01_Number_S0 : Spec := ⟨[.val (.sl .u8), .val .i64, .val .i64, .val .u64, .val .i64], []⟩
noncomputable def ref01_Number_S1 : Spec := ⟨[.val .u64], []⟩
noncomputable def ref01_Number_S2 : Spec := ⟨[.val (.sl .u8), .val .i64, .val .i64, .val .bool], []⟩
noncomputable def ref01_Number_S3 : Spec := ⟨[.val (.sl .u8), .val .i64, .val .i64], []⟩
noncomputable def ref01_Number_S4 : Spec := ⟨[.val .u64, .val .bool], []⟩
noncomputable def ref01_Number_K (_N : Nat) : XE → GS → Option ref01_Number_R := retK 0 [6, 7] [false, false] ref01_Number_S4
noncomputable def ref01_Number_L : List Code := (bodyOf (some Tryd.f58))
noncomputable def ref01_Number_L3 : List Code := (loopOf (ref01_Number_L[5]?))
noncomputable def ref01_Number_K3 (N : Nat) : XE → GS → Option (Lo (((List UInt8) × Int × Int × UInt64 × Int × Unit) × (Unit)) ((UInt64 × Unit) × (Unit)) ref01_Number_R) := roundK (some 0) (fit 0 [0, 1, 2, 8, 9] ref01_Number_S0) (fit 0 [8] ref01_Number_S1) (ref01_Number_K N)
theorem ref01_Number_s3_b {E : Env} (N : Nat) (hb : Base Tryd.prog (ref01_Number_C N) E 0) : Blk Tryd.prog (ref01_Number_C N) E [0, 1, 2, 8, 9] ref01_Number_S0 (ref01_Number_L3.drop 0) (fun y => ref01_Number_s3 N y.1.1 y.1.2.1 y.1.2.2.1 y.1.2.2.2.1 y.1.2.2.2.2.1) (ref01_Number_K3 N) :=
  Blk.chunkAt hb 4 (X := (ref01_Number_K3 N .normal)) (NxOk.end (by kernel_rfl)) rfl (fun x => by kernel_rfl)
theorem ref01_Number_4_b {E : Env} (N : Nat) (hb : Base Tryd.prog (ref01_Number_C N) E 0) : Blk Tryd.prog (ref01_Number_C N) E [8] ref01_Number_S1 (ref01_Number_L.drop 6) (fun y => ref01_Number_4 N y.1.1) (ref01_Number_K N) :=
  Blk.chunkAt hb 2 (X := (ref01_Number_K N .normal)) (NxOk.end (by kernel_rfl)) rfl (fun x => by kernel_rfl)
theorem ref01_Number_2_b {E : Env} (N : Nat) (hb : Base Tryd.prog (ref01_Number_C N) E 0) : Blk Tryd.prog (ref01_Number_C N) E [0, 1, 2, 8, 9] ref01_Number_S0 (ref01_Number_L.drop 5) (fun y => ref01_Number_2 N y.1.1 y.1.2.1 y.1.2.2.1 y.1.2.2.2.1 y.1.2.2.2.2.1) (ref01_Number_K N) :=
  Blk.loopAt (Nf := N) (hns := [0, 1, 2, 8, 9]) (ans := [8]) (hc := ref01_Number_S0) (ac := ref01_Number_S1) (bid := 0) (step := (fun y => ref01_Number_s3 N y.1.1 y.1.2.1 y.1.2.2.1 y.1.2.2.2.1 y.1.2.2.2.2.1)) (J := (fun e => (goK 0 [8] ref01_Number_S1 (fun y => ref01_Number_4 N y.1.1)) (ref01_Number_S1.st [8] e))) hb (by kernel_rfl) (Blk.into (X := (goK 0 [8] ref01_Number_S1 (fun y => ref01_Number_4 N y.1.1))) (NxOk.go hb (ref01_Number_4_b N hb)) (fun x => by kernel_rfl)) (ref01_Number_s3_b N hb) (fun x => by kernel_rfl)
theorem ref01_Number_1_b {E : Env} (N : Nat) (hb : Base Tryd.prog (ref01_Number_C N) E 0) : Blk Tryd.prog (ref01_Number_C N) E [0, 1, 2, 33] ref01_Number_S2 (ref01_Number_L.drop 2) (fun y => ref01_Number_1 N y.1.1 y.1.2.1 y.1.2.2.1 y.1.2.2.2.1) (ref01_Number_K N) :=
  Blk.chunkAt hb 3 (X := (goK 0 [0, 1, 2, 8, 9] ref01_Number_S0 (fun y => ref01_Number_2 N y.1.1 y.1.2.1 y.1.2.2.1 y.1.2.2.2.1 y.1.2.2.2.2.1))) (NxOk.go hb (ref01_Number_2_b N hb)) rfl (fun x => by kernel_rfl)
theorem ref01_Number_b {E : Env} (N : Nat) (hb : Base Tryd.prog (ref01_Number_C N) E 0) : Blk Tryd.prog (ref01_Number_C N) E (List.range ref01_Number_S3.ks.length) ref01_Number_S3 (ref01_Number_L.drop 0) (fun y => ref01_Number N y.1.1 y.1.2.1 y.1.2.2.1) (ref01_Number_K N) :=
  Blk.chunkAt hb 2 (X := (goK 0 [0, 1, 2, 33] ref01_Number_S2 (fun y => ref01_Number_1 N y.1.1 y.1.2.1 y.1.2.2.1 y.1.2.2.2.1))) (NxOk.go hb (ref01_Number_1_b N hb)) rfl (fun x => by kernel_rfl)
noncomputable def ref01_Number_ctr (N : Nat) : Ctr := ⟨ref01_Number_S3, ref01_Number_S4.un [false, false], 0, (fun y => ref01_Number N y.1.1 y.1.2.1 y.1.2.2.1)⟩
theorem ref01_Number_ctrs (N : Nat) : CtrsOk Tryd.prog (ref01_Number_C N) := ctrs_nil rfl
theorem ref01_Number_ok (N : Nat) : Ctr.ok Tryd.prog G_globs 58 (ref01_Number_ctr N) :=
  ctr_fn (Γ := ref01_Number_C N) (rfit := ref01_Number_S4) (bs := [false, false]) (res := [6, 7]) (by kernel_rfl) (tys_ok G_tys_ok) (ref01_Number_ctrs N) Tryd.func58 (by kernel_rfl) (by kernel_rfl) Tryd.ntmps58 (by kernel_rfl) (by kernel_rfl) (by kernel_rfl) (by kernel_rfl) (fun E hb => ref01_Number_b N hb)
end Go.Proofs.YtofajgidjkjnpaaDoor
namespace Go.Proofs.YtofajgidjkjnpaaDoor
open Go
set_option maxRecDepth 100000
set_option linter.unusedVariables false
/-! ipsecgate/ipsecgateref08.turn -/
abbrev ref08_turn_R : Type := ((UInt32 × Unit) × (Unit))
noncomputable def ref08_turn (N : Nat) (x_0 : UInt32) (n_1 : UInt64) : Option ref08_turn_R :=
  some ((((shr32 x_0 n_1.toNat) ||| (shl32 x_0 ((32 : UInt64) - n_1).toNat)), ()), (()))
noncomputable def ref08_turn_C (N : Nat) : Ctx := ⟨13, G_tys, [], G_globs⟩
noncomputable def ref08_turn_S0 : Spec := ⟨[.val .u32, .val .u64], []⟩
noncomputable def ref08_turn_S1 : Spec := ⟨[.val .u32], []⟩
noncomputable def ref08_turn_K (_N : Nat) : XE → GS → Option ref08_turn_R := retK 0 [4] [false] ref08_turn_S1
noncomputable def ref08_turn_L : List Code := (bodyOf (some Tryd.f212))
theorem ref08_turn_b {E : Env} (N : Nat) (hb : Base Tryd.prog (ref08_turn_C N) E 0) : Blk Tryd.prog (ref08_turn_C N) E (List.range ref08_turn_S0.ks.length) ref08_turn_S0 (ref08_turn_L.drop 0) (fun y => ref08_turn N y.1.1 y.1.2.1) (ref08_turn_K N) :=
  Blk.chunkAt hb 3 (X := (ref08_turn_K N .normal)) (NxOk.end (by kernel_rfl)) rfl (fun x => by kernel_rfl)
noncomputable def ref08_turn_ctr (N : Nat) : Ctr := ⟨ref08_turn_S0, ref08_turn_S1.un [false], 0, (fun y => ref08_turn N y.1.1 y.1.2.1)⟩
theorem ref08_turn_ctrs (N : Nat) : CtrsOk Tryd.prog (ref08_turn_C N) := ctrs_nil rfl
theorem ref08_turn_ok (N : Nat) : Ctr.ok Tryd.prog G_globs 212 (ref08_turn_ctr N) :=
  ctr_fn (Γ := ref08_turn_C N) (rfit := ref08_turn_S1) (bs := [false]) (res := [4]) (by kernel_rfl) (tys_ok G_tys_ok) (ref08_turn_ctrs N) Tryd.func212 (by kernel_rfl) (by kernel_rfl) Tryd.ntmps212 (by kernel_rfl) (by kernel_rfl) (by kernel_rfl) (by kernel_rfl) (fun E hb => ref08_turn_b N hb)
end Go.Proofs.YtofajgidjkjnpaaDoor
namespace Go.Proofs.YtofajgidjkjnpaaDoor
open Go
set_option maxRecDepth 100000
set_option linter.unusedVariables false
/-! ipsecgate/ipsecgateref08.constants -/
abbrev ref08_constants_R : Type := (((List UInt32) × Unit) × (Unit))
noncomputable def ref08_constants (N : Nat) : Option ref08_constants_R :=
  some ((([(1116352408 : UInt32), (1899447441 : UInt32), (3049323471 : UInt32), (3921009573 : UInt32), (961987163 : UInt32), (1508970993 : UInt32), (2453635748 : UInt32), (2870763221 : UInt32), (3624381080 : UInt32), (310598401 : UInt32), (607225278 : UInt32), (1426881987 : UInt32), (1925078388 : UInt32), (2162078206 : UInt32), (2614888103 : UInt32), (3248222580 : UInt32), (3835390401 : UInt32), (4022224774 : UInt32), (264347078 : UInt32), (604807628 : UInt32), (770255983 : UInt32), (1249150122 : UInt32), (1555081692 : UInt32), (1996064986 : UInt32), (2554220882 : UInt32), (2821834349 : UInt32), (2952996808 : UInt32), (3210313671 : UInt32), (3336571891 : UInt32), (3584528711 : UInt32), (113926993 : UInt32), (338241895 : UInt32), (666307205 : UInt32), (773529912 : UInt32), (1294757372 : UInt32), (1396182291 : UInt32), (1695183700 : UInt32), (1986661051 : UInt32), (2177026350 : UInt32), (2456956037 : UInt32), (2730485921 : UInt32), (2820302411 : UInt32), (3259730800 : UInt32), (3345764771 : UInt32), (3516065817 : UInt32), (3600352804 : UInt32), (4094571909 : UInt32), (275423344 : UInt32), (430227734 : UInt32), (506948616 : UInt32), (659060556 : UInt32), (883997877 : UInt32), (958139571 : UInt32), (1322822218 : UInt32), (1537002063 : UInt32), (1747873779 : UInt32), (1955562222 : UInt32), (2024104815 : UInt32), (2227730452 : UInt32), (2361852424 : UInt32), (2428436474 : UInt32), (2756734187 : UInt32), (3204031479 : UInt32), (3329325298 : UInt32)] : List UInt32), ()), (()))
noncomputable def ref08_constants_C (N : Nat) : Ctx := ⟨2, G_tys, [], G_globs⟩
noncomputable def ref08_constants_S0 : Spec := ⟨[], []⟩
noncomputable def ref08_constants_S1 : Spec := ⟨[.fp (.arr 64 .u32)], []⟩
noncomputable def ref08_constants_K (_N : Nat) : XE → GS → Option ref08_constants_R := retK 0 [0] [true] ref08_constants_S1
noncomputable def ref08_constants_L : List Code := (bodyOf (some Tryd.f213))
theorem ref08_constants_b {E : Env} (N : Nat) (hb : Base Tryd.prog (ref08_constants_C N) E 0) : Blk Tryd.prog (ref08_constants_C N) E (List.range ref08_constants_S0.ks.length) ref08_constants_S0 (ref08_constants_L.drop 0) (fun y => ref08_constants N) (ref08_constants_K N) :=
  Blk.chunkAt hb 3 (X := (ref08_constants_K N .normal)) (NxOk.end (by kernel_rfl)) rfl (fun x => by kernel_rfl)
noncomputable def ref08_constants_ctr (N : Nat) : Ctr := ⟨ref08_constants_S0, ref08_constants_S1.un [true], 0, (fun y => ref08_constants N)⟩
theorem ref08_constants_ctrs (N : Nat) : CtrsOk Tryd.prog (ref08_constants_C N) := ctrs_nil rfl
theorem ref08_constants_ok (N : Nat) : Ctr.ok Tryd.prog G_globs 213 (ref08_constants_ctr N) :=
  ctr_fn (Γ := ref08_constants_C N) (rfit := ref08_constants_S1) (bs := [true]) (res := [0]) (by kernel_rfl) (tys_ok G_tys_ok) (ref08_constants_ctrs N) Tryd.func213 (by kernel_rfl) (by kernel_rfl) Tryd.ntmps213 (by kernel_rfl) (by kernel_rfl) (by kernel_rfl) (by kernel_rfl) (fun E hb => ref08_constants_b N hb)
end Go.Proofs.YtofajgidjkjnpaaDoor
namespace Go.Proofs.YtofajgidjkjnpaaDoor
open Go
set_option maxRecDepth 100000
set_option linter.unusedVariables false
/-! ipsecgate/ipsecgateref08.Block -/
abbrev ref08_Block_R : Type := (((List UInt32) × Bool × Unit) × (Unit))
noncomputable def ref08_Block_s2 (N : Nat) (block_1 : (List UInt8)) (t_7 : Int) (state_2 : (List UInt32)) (t_4 : (List UInt32)) (w_6 : (List UInt32)) : Option (Lo (((List UInt8) × Int × Unit) × ((List UInt32) × (List UInt32) × (List UInt32) × Unit)) ((Unit) × ((List UInt32) × (List UInt32) × (List UInt32) × Unit)) ref08_Block_R) :=
  bif (decide (t_7 < (64 : Int))) then
    bif (decide (t_7 < (16 : Int))) then
      Option.bind (ref01_Number N block_1 (w64 ((4 : Int) * t_7)) (4 : Int)) fun y7 =>
      bif inR t_7 64 then
      some (.go ((block_1, (w64 (t_7 + (1 : Int))), ()), (state_2, t_4, (w_6.set t_7.toNat y7.1.1.toUInt32), ())))
      else none
    else
      let x10 := w64 (t_7 - (2 : Int))
      bif inR x10 64 then
      let x11 := (w_6.getD x10.toNat (0 : UInt32))
      let x12 := w64 (t_7 - (15 : Int))
      bif inR x12 64 then
      let x13 := (w_6.getD x12.toNat (0 : UInt32))
      Option.bind (ref08_turn N x11 (17 : UInt64)) fun y14 =>
      Option.bind (ref08_turn N x11 (19 : UInt64)) fun y15 =>
      let x19 := w64 (t_7 - (7 : Int))
      bif inR x19 64 then
      Option.bind (ref08_turn N x13 (7 : UInt64)) fun y22 =>
      Option.bind (ref08_turn N x13 (18 : UInt64)) fun y23 =>
      let x28 := w64 (t_7 - (16 : Int))
      bif inR x28 64 then
      bif inR t_7 64 then
      some (.go ((block_1, (w64 (t_7 + (1 : Int))), ()), (state_2, t_4, (w_6.set t_7.toNat (((((y14.1.1 ^^^ y15.1.1) ^^^ (shr32 x11 10)) + (w_6.getD x19.toNat (0 : UInt32))) + ((y22.1.1 ^^^ y23.1.1) ^^^ (shr32 x13 3))) + (w_6.getD x28.toNat (0 : UInt32)))), ())))
      else none
      else none
      else none
      else none
      else none
  else
    some (.br ((()), (state_2, t_4, w_6, ())))
noncomputable def ref08_Block_s5 (N : Nat) (t_14 : Int) (state_2 : (List UInt32)) (t_4 : (List UInt32)) (w_6 : (List UInt32)) (k_12 : (List UInt32)) (v_13 : (List UInt32)) : Option (Lo ((Int × Unit) × ((List UInt32) × (List UInt32) × (List UInt32) × (List UInt32) × (List UInt32) × Unit)) ((Unit) × ((List UInt32) × (List UInt32) × (List UInt32) × Unit)) ref08_Block_R) :=
  bif (decide (t_14 < (64 : Int))) then
    let x35 := (v_13.getD 0 (0 : UInt32))
    let x36 := (v_13.getD 1 (0 : UInt32))
    let x37 := (v_13.getD 2 (0 : UInt32))
    let x38 := (v_13.getD 4 (0 : UInt32))
    let x39 := (v_13.getD 5 (0 : UInt32))
    let x40 := (v_13.getD 6 (0 : UInt32))
    let x41 := (v_13.getD 7 (0 : UInt32))
    Option.bind (ref08_turn N x38 (6 : UInt64)) fun y42 =>
    Option.bind (ref08_turn N x38 (11 : UInt64)) fun y43 =>
    Option.bind (ref08_turn N x38 (25 : UInt64)) fun y45 =>
    let x46 := (y42.1.1 ^^^ y43.1.1) ^^^ y45.1.1
    bif inR t_14 64 then
    let x53 := (k_12.getD t_14.toNat (0 : UInt32))
    bif inR t_14 64 then
    let x55 := (w_6.getD t_14.toNat (0 : UInt32))
    Option.bind (ref08_turn N x35 (2 : UInt64)) fun y57 =>
    Option.bind (ref08_turn N x35 (13 : UInt64)) fun y58 =>
    Option.bind (ref08_turn N x35 (22 : UInt64)) fun y60 =>
    some (.go (((w64 (t_14 + (1 : Int))), ()), (state_2, t_4, w_6, k_12, ([(((((x41 + x46) + ((x38 &&& x39) ^^^ ((~~~ x38) &&& x40))) + x53) + x55) + (((y57.1.1 ^^^ y58.1.1) ^^^ y60.1.1) + (((x35 &&& x36) ^^^ (x35 &&& x37)) ^^^ (x36 &&& x37)))), x35, x36, x37, ((v_13.getD 3 (0 : UInt32)) + ((((x41 + x46) + ((x38 &&& x39) ^^^ ((~~~ x38) &&& x40))) + x53) + x55)), x38, x39, x40] : List UInt32), ())))
    else none
    else none
  else
    some (.br ((()), (state_2, t_4, v_13, ())))
noncomputable def ref08_Block_s8 (N : Nat) (i_23 : Int) (state_2 : (List UInt32)) (t_4 : (List UInt32)) (v_13 : (List UInt32)) : Option (Lo ((Int × Unit) × ((List UInt32) × (List UInt32) × (List UInt32) × Unit)) ((Unit) × ((List UInt32) × (List UInt32) × Unit)) ref08_Block_R) :=
  bif (decide (i_23 < (8 : Int))) then
    bif inR i_23 8 then
    bif inR i_23 8 then
    bif inR i_23 8 then
    some (.go (((w64 (i_23 + (1 : Int))), ()), (state_2, t_4, (v_13.set i_23.toNat ((v_13.getD i_23.toNat (0 : UInt32)) + (state_2.getD i_23.toNat (0 : UInt32)))), ())))
    else none
    else none
    else none
  else
    some (.br ((()), (t_4, v_13, ())))
noncomputable def ref08_Block_9 (N : Nat) (t_4 : (List UInt32)) (v_13 : (List UInt32)) : Option ref08_Block_R :=
  some ((v_13, true, ()), (()))
noncomputable def ref08_Block_7 (N : Nat) (i_23 : Int) (state_2 : (List UInt32)) (t_4 : (List UInt32)) (v_13 : (List UInt32)) : Option ref08_Block_R :=
  loopK N (fun y => ref08_Block_s8 N y.1.1 y.2.1 y.2.2.1 y.2.2.2.1) (fun (e : ((Unit) × ((List UInt32) × (List UInt32) × Unit))) => ref08_Block_9 N e.2.1 e.2.2.1) ((i_23, ()), (state_2, t_4, v_13, ()))
noncomputable def ref08_Block_6 (N : Nat) (state_2 : (List UInt32)) (t_4 : (List UInt32)) (v_13 : (List UInt32)) : Option ref08_Block_R :=
  ref08_Block_7 N (0 : Int) state_2 t_4 v_13
noncomputable def ref08_Block_4 (N : Nat) (t_14 : Int) (state_2 : (List UInt32)) (t_4 : (List UInt32)) (w_6 : (List UInt32)) (k_12 : (List UInt32)) (v_13 : (List UInt32)) : Option ref08_Block_R :=
  loopK N (fun y => ref08_Block_s5 N y.1.1 y.2.1 y.2.2.1 y.2.2.2.1 y.2.2.2.2.1 y.2.2.2.2.2.1) (fun (e : ((Unit) × ((List UInt32) × (List UInt32) × (List UInt32) × Unit))) => ref08_Block_6 N e.2.1 e.2.2.1 e.2.2.2.1) ((t_14, ()), (state_2, t_4, w_6, k_12, v_13, ()))
noncomputable def ref08_Block_3 (N : Nat) (state_2 : (List UInt32)) (t_4 : (List UInt32)) (w_6 : (List UInt32)) : Option ref08_Block_R :=
  Option.bind (ref08_constants N) fun y33 =>
  ref08_Block_4 N (0 : Int) state_2 t_4 w_6 y33.1.1 state_2
noncomputable def ref08_Block_1 (N : Nat) (block_1 : (List UInt8)) (t_7 : Int) (state_2 : (List UInt32)) (t_4 : (List UInt32)) (w_6 : (List UInt32)) : Option ref08_Block_R :=
  loopK N (fun y => ref08_Block_s2 N y.1.1 y.1.2.1 y.2.1 y.2.2.1 y.2.2.2.1) (fun (e : ((Unit) × ((List UInt32) × (List UInt32) × (List UInt32) × Unit))) => ref08_Block_3 N e.2.1 e.2.2.1 e.2.2.2.1) ((block_1, t_7, ()), (state_2, t_4, w_6, ()))
noncomputable def ref08_Block (N : Nat) (state_0 : (List UInt32)) (block_1 : (List UInt8)) : Option ref08_Block_R :=
  bif (!(decide ((block_1.length : Int) = (64 : Int)))) then
    some (((List.replicate 8 (0 : UInt32)), false, ()), (()))
  else
    ref08_Block_1 N block_1 (0 : Int) state_0 (List.replicate 8 (0 : UInt32)) (List.replicate 64 (0 : UInt32))
noncomputable def ref08_Block_C (N : Nat) : Ctx := ⟨175, G_tys, [(58, ref01_Number_ctr N), (212, ref08_turn_ctr N), (213, ref08_constants_ctr N)], G_globs⟩
noncomputable def ref08_Block_S0 : Spec := ⟨[.val (.sl .u8), .ref 0 (.arr 8 .u32), .ref 1 (.arr 8 .u32), .ref 2 (.arr 64 .u32), .val .i64], [(.box 218 (.arr 8 .u32), .pos 1), (.box 218 (.arr 8 .u32), .pos 2), (.box 243 (.arr 64 .u32), .pos 3)]⟩
noncomputable def ref08_Block_S1 : Spec := ⟨[.ref 0 (.arr 8 .u32), .ref 1 (.arr 8 .u32), .ref 2 (.arr 64 .u32), .ref 3 (.arr 64 .u32), .ref 4 (.arr 8 .u32), .val .i64], [(.box 218 (.arr 8 .u32), .pos 0), (.box 218 (.arr 8 .u32), .pos 1), (.box 243 (.arr 64 .u32), .pos 2), (.box 243 (.arr 64 .u32), .pos 3), (.box 218 (.arr 8 .u32), .pos 4)]⟩
noncomputable def ref08_Block_S2 : Spec := ⟨[.ref 0 (.arr 8 .u32), .ref 1 (.arr 8 .u32), .ref 2 (.arr 8 .u32), .val .i64], [(.box 218 (.arr 8 .u32), .pos 0), (.box 218 (.arr 8 .u32), .pos 1), (.box 218 (.arr 8 .u32), .pos 2)]⟩
noncomputable def ref08_Block_S3 : Spec := ⟨[.ref 0 (.arr 8 .u32), .ref 1 (.arr 8 .u32)], [(.box 218 (.arr 8 .u32), .pos 0), (.box 218 (.arr 8 .u32), .pos 1)]⟩
noncomputable def ref08_Block_S4 : Spec := ⟨[.ref 0 (.arr 8 .u32), .ref 1 (.arr 8 .u32), .ref 2 (.arr 8 .u32)], [(.box 218 (.arr 8 .u32), .pos 0), (.box 218 (.arr 8 .u32), .pos 1), (.box 218 (.arr 8 .u32), .pos 2)]⟩
noncomputable def ref08_Block_S5 : Spec := ⟨[.ref 0 (.arr 8 .u32), .ref 1 (.arr 8 .u32), .ref 2 (.arr 64 .u32)], [(.box 218 (.arr 8 .u32), .pos 0), (.box 218 (.arr 8 .u32), .pos 1), (.box 243 (.arr 64 .u32), .pos 2)]⟩
noncomputable def ref08_Block_S6 : Spec := ⟨[.val (.arr 8 .u32), .val (.sl .u8)], []⟩
noncomputable def ref08_Block_S7 : Spec := ⟨[.fp (.arr 8 .u32), .val .bool], []⟩
noncomputable def ref08_Block_K (_N : Nat) : XE → GS → Option ref08_Block_R := retK 0 [4, 5] [true, false] ref08_Block_S7
noncomputable def ref08_Block_L : List Code := (bodyOf (some Tryd.f190))
noncomputable def ref08_Block_L2 : List Code := (loopOf (ref08_Block_L[5]?))
noncomputable def ref08_Block_L5 : List Code := (loopOf (ref08_Block_L[9]?))
noncomputable def ref08_Block_L8 : List Code := (loopOf (ref08_Block_L[11]?))
noncomputable def ref08_Block_K2 (N : Nat) : XE → GS → Option (Lo (((List UInt8) × Int × Unit) × ((List UInt32) × (List UInt32) × (List UInt32) × Unit)) ((Unit) × ((List UInt32) × (List UInt32) × (List UInt32) × Unit)) ref08_Block_R) := roundK (some 0) (fit 0 [1, 2, 4, 6, 7] ref08_Block_S0) (fit 0 [2, 4, 6] ref08_Block_S5) (ref08_Block_K N)
noncomputable def ref08_Block_K5 (N : Nat) : XE → GS → Option (Lo ((Int × Unit) × ((List UInt32) × (List UInt32) × (List UInt32) × (List UInt32) × (List UInt32) × Unit)) ((Unit) × ((List UInt32) × (List UInt32) × (List UInt32) × Unit)) ref08_Block_R) := roundK (some 2) (fit 0 [2, 4, 6, 12, 13, 14] ref08_Block_S1) (fit 0 [2, 4, 13] ref08_Block_S4) (ref08_Block_K N)
noncomputable def ref08_Block_K8 (N : Nat) : XE → GS → Option (Lo ((Int × Unit) × ((List UInt32) × (List UInt32) × (List UInt32) × Unit)) ((Unit) × ((List UInt32) × (List UInt32) × Unit)) ref08_Block_R) := roundK (some 4) (fit 0 [2, 4, 13, 23] ref08_Block_S2) (fit 0 [4, 13] ref08_Block_S3) (ref08_Block_K N)
theorem ref08_Block_s2_b {E : Env} (N : Nat) (hb : Base Tryd.prog (ref08_Block_C N) E 0) : Blk Tryd.prog (ref08_Block_C N) E [1, 2, 4, 6, 7] ref08_Block_S0 (ref08_Block_L2.drop 0) (fun y => ref08_Block_s2 N y.1.1 y.1.2.1 y.2.1 y.2.2.1 y.2.2.2.1) (ref08_Block_K2 N) :=
  Blk.chunkAt hb 4 (X := (ref08_Block_K2 N .normal)) (NxOk.end (by kernel_rfl)) rfl (fun x => by kernel_rfl)
theorem ref08_Block_s5_b {E : Env} (N : Nat) (hb : Base Tryd.prog (ref08_Block_C N) E 0) : Blk Tryd.prog (ref08_Block_C N) E [2, 4, 6, 12, 13, 14] ref08_Block_S1 (ref08_Block_L5.drop 0) (fun y => ref08_Block_s5 N y.1.1 y.2.1 y.2.2.1 y.2.2.2.1 y.2.2.2.2.1 y.2.2.2.2.2.1) (ref08_Block_K5 N) :=
  Blk.chunkAt hb 4 (X := (ref08_Block_K5 N .normal)) (NxOk.end (by kernel_rfl)) rfl (fun x => by kernel_rfl)
theorem ref08_Block_s8_b {E : Env} (N : Nat) (hb : Base Tryd.prog (ref08_Block_C N) E 0) : Blk Tryd.prog (ref08_Block_C N) E [2, 4, 13, 23] ref08_Block_S2 (ref08_Block_L8.drop 0) (fun y => ref08_Block_s8 N y.1.1 y.2.1 y.2.2.1 y.2.2.2.1) (ref08_Block_K8 N) :=
  Blk.chunkAt hb 4 (X := (ref08_Block_K8 N .normal)) (NxOk.end (by kernel_rfl)) rfl (fun x => by kernel_rfl)
theorem ref08_Block_9_b {E : Env} (N : Nat) (hb : Base Tryd.prog (ref08_Block_C N) E 0) : Blk Tryd.prog (ref08_Block_C N) E [4, 13] ref08_Block_S3 (ref08_Block_L.drop 12) (fun y => ref08_Block_9 N y.2.1 y.2.2.1) (ref08_Block_K N) :=
  Blk.chunkAt hb 2 (X := (ref08_Block_K N .normal)) (NxOk.end (by kernel_rfl)) rfl (fun x => by kernel_rfl)
theorem ref08_Block_7_b {E : Env} (N : Nat) (hb : Base Tryd.prog (ref08_Block_C N) E 0) : Blk Tryd.prog (ref08_Block_C N) E [2, 4, 13, 23] ref08_Block_S2 (ref08_Block_L.drop 11) (fun y => ref08_Block_7 N y.1.1 y.2.1 y.2.2.1 y.2.2.2.1) (ref08_Block_K N) :=
  Blk.loopAt (Nf := N) (hns := [2, 4, 13, 23]) (ans := [4, 13]) (hc := ref08_Block_S2) (ac := ref08_Block_S3) (bid := 4) (step := (fun y => ref08_Block_s8 N y.1.1 y.2.1 y.2.2.1 y.2.2.2.1)) (J := (fun e => (goK 0 [4, 13] ref08_Block_S3 (fun y => ref08_Block_9 N y.2.1 y.2.2.1)) (ref08_Block_S3.st [4, 13] e))) hb (by kernel_rfl) (Blk.into (X := (goK 0 [4, 13] ref08_Block_S3 (fun y => ref08_Block_9 N y.2.1 y.2.2.1))) (NxOk.go hb (ref08_Block_9_b N hb)) (fun x => by kernel_rfl)) (ref08_Block_s8_b N hb) (fun x => by kernel_rfl)
theorem ref08_Block_6_b {E : Env} (N : Nat) (hb : Base Tryd.prog (ref08_Block_C N) E 0) : Blk Tryd.prog (ref08_Block_C N) E [2, 4, 13] ref08_Block_S4 (ref08_Block_L.drop 10) (fun y => ref08_Block_6 N y.2.1 y.2.2.1 y.2.2.2.1) (ref08_Block_K N) :=
  Blk.chunkAt hb 1 (X := (goK 0 [2, 4, 13, 23] ref08_Block_S2 (fun y => ref08_Block_7 N y.1.1 y.2.1 y.2.2.1 y.2.2.2.1))) (NxOk.go hb (ref08_Block_7_b N hb)) rfl (fun x => by kernel_rfl)
theorem ref08_Block_4_b {E : Env} (N : Nat) (hb : Base Tryd.prog (ref08_Block_C N) E 0) : Blk Tryd.prog (ref08_Block_C N) E [2, 4, 6, 12, 13, 14] ref08_Block_S1 (ref08_Block_L.drop 9) (fun y => ref08_Block_4 N y.1.1 y.2.1 y.2.2.1 y.2.2.2.1 y.2.2.2.2.1 y.2.2.2.2.2.1) (ref08_Block_K N) :=
  Blk.loopAt (Nf := N) (hns := [2, 4, 6, 12, 13, 14]) (ans := [2, 4, 13]) (hc := ref08_Block_S1) (ac := ref08_Block_S4) (bid := 2) (step := (fun y => ref08_Block_s5 N y.1.1 y.2.1 y.2.2.1 y.2.2.2.1 y.2.2.2.2.1 y.2.2.2.2.2.1)) (J := (fun e => (goK 0 [2, 4, 13] ref08_Block_S4 (fun y => ref08_Block_6 N y.2.1 y.2.2.1 y.2.2.2.1)) (ref08_Block_S4.st [2, 4, 13] e))) hb (by kernel_rfl) (Blk.into (X := (goK 0 [2, 4, 13] ref08_Block_S4 (fun y => ref08_Block_6 N y.2.1 y.2.2.1 y.2.2.2.1))) (NxOk.go hb (ref08_Block_6_b N hb)) (fun x => by kernel_rfl)) (ref08_Block_s5_b N hb) (fun x => by kernel_rfl)
theorem ref08_Block_3_b {E : Env} (N : Nat) (hb : Base Tryd.prog (ref08_Block_C N) E 0) : Blk Tryd.prog (ref08_Block_C N) E [2, 4, 6] ref08_Block_S5 (ref08_Block_L.drop 6) (fun y => ref08_Block_3 N y.2.1 y.2.2.1 y.2.2.2.1) (ref08_Block_K N) :=
  Blk.chunkAt hb 3 (X := (goK 0 [2, 4, 6, 12, 13, 14] ref08_Block_S1 (fun y => ref08_Block_4 N y.1.1 y.2.1 y.2.2.1 y.2.2.2.1 y.2.2.2.2.1 y.2.2.2.2.2.1))) (NxOk.go hb (ref08_Block_4_b N hb)) rfl (fun x => by kernel_rfl)
theorem ref08_Block_1_b {E : Env} (N : Nat) (hb : Base Tryd.prog (ref08_Block_C N) E 0) : Blk Tryd.prog (ref08_Block_C N) E [1, 2, 4, 6, 7] ref08_Block_S0 (ref08_Block_L.drop 5) (fun y => ref08_Block_1 N y.1.1 y.1.2.1 y.2.1 y.2.2.1 y.2.2.2.1) (ref08_Block_K N) :=
  Blk.loopAt (Nf := N) (hns := [1, 2, 4, 6, 7]) (ans := [2, 4, 6]) (hc := ref08_Block_S0) (ac := ref08_Block_S5) (bid := 0) (step := (fun y => ref08_Block_s2 N y.1.1 y.1.2.1 y.2.1 y.2.2.1 y.2.2.2.1)) (J := (fun e => (goK 0 [2, 4, 6] ref08_Block_S5 (fun y => ref08_Block_3 N y.2.1 y.2.2.1 y.2.2.2.1)) (ref08_Block_S5.st [2, 4, 6] e))) hb (by kernel_rfl) (Blk.into (X := (goK 0 [2, 4, 6] ref08_Block_S5 (fun y => ref08_Block_3 N y.2.1 y.2.2.1 y.2.2.2.1))) (NxOk.go hb (ref08_Block_3_b N hb)) (fun x => by kernel_rfl)) (ref08_Block_s2_b N hb) (fun x => by kernel_rfl)
theorem ref08_Block_b {E : Env} (N : Nat) (hb : Base Tryd.prog (ref08_Block_C N) E 0) : Blk Tryd.prog (ref08_Block_C N) E (List.range ref08_Block_S6.ks.length) ref08_Block_S6 (ref08_Block_L.drop 0) (fun y => ref08_Block N y.1.1 y.1.2.1) (ref08_Block_K N) :=
  Blk.chunkAt hb 5 (X := (goK 0 [1, 2, 4, 6, 7] ref08_Block_S0 (fun y => ref08_Block_1 N y.1.1 y.1.2.1 y.2.1 y.2.2.1 y.2.2.2.1))) (NxOk.go hb (ref08_Block_1_b N hb)) rfl (fun x => by kernel_rfl)
noncomputable def ref08_Block_ctr (N : Nat) : Ctr := ⟨ref08_Block_S6, ref08_Block_S7.un [true, false], 0, (fun y => ref08_Block N y.1.1 y.1.2.1)⟩
theorem ref08_Block_ctrs (N : Nat) : CtrsOk Tryd.prog (ref08_Block_C N) := ctrs_of (Γ := ref08_Block_C N) (by
  intro p hp
  simp only [ref08_Block_C, List.mem_cons, List.not_mem_nil, or_false] at hp
  rcases hp with rfl | rfl | rfl
  · exact ref01_Number_ok N
  · exact ref08_turn_ok N
  · exact ref08_constants_ok N)
theorem ref08_Block_ok (N : Nat) : Ctr.ok Tryd.prog G_globs 190 (ref08_Block_ctr N) :=
  ctr_fn (Γ := ref08_Block_C N) (rfit := ref08_Block_S7) (bs := [true, false]) (res := [4, 5]) (by kernel_rfl) (tys_ok G_tys_ok) (ref08_Block_ctrs N) Tryd.func190 (by kernel_rfl) (by kernel_rfl) Tryd.ntmps190 (by kernel_rfl) (by kernel_rfl) (by kernel_rfl) (by kernel_rfl) (fun E hb => ref08_Block_b N hb)
end Go.Proofs.YtofajgidjkjnpaaDoor
namespace Go.Proofs.YtofajgidjkjnpaaDoor
open Go
set_option maxRecDepth 100000
set_option linter.unusedVariables false
/-! ipsecgate/ipsecgateref08.Sum -/
abbrev ref08_Sum_R : Type := ((Unit) × ((List UInt8) × Unit))
noncomputable def ref08_Sum_s2 (N : Nat) (all_3 : (List UInt8)) (i_5 : Int) (v_4 : (List UInt32)) : Option (Lo (((List UInt8) × Int × Unit) × ((List UInt32) × Unit)) ((Unit) × ((List UInt32) × Unit)) ref08_Sum_R) :=
  bif (decide (i_5 < (all_3.length : Int))) then
    let x7 := w64 (i_5 + (64 : Int))
    bif decide (0 ≤ i_5) && decide (i_5 ≤ x7) && decide (x7 ≤ (all_3.length : Int)) && true then
    Option.bind (ref08_Block N v_4 (cut all_3 i_5.toNat x7.toNat)) fun y9 =>
    some (.go ((all_3, (w64 (i_5 + (64 : Int))), ()), (y9.1.1, ())))
    else none
  else
    some (.br ((()), (v_4, ())))
noncomputable def ref08_Sum_s5 (N : Nat) (i_7 : Int) (v_4 : (List UInt32)) (out_6 : (List UInt8)) : Option (Lo ((Int × Unit) × ((List UInt32) × (List UInt8) × Unit)) ((Unit) × ((List UInt8) × Unit)) ref08_Sum_R) :=
  bif (decide (i_7 < (8 : Int))) then
    bif inR i_7 8 then
    Option.bind (ref01_Put N out_6 (v_4.getD i_7.toNat (0 : UInt32)).toUInt64 (4 : Int)) fun y13 =>
    some (.go (((w64 (i_7 + (1 : Int))), ()), (v_4, y13.2.1, ())))
    else none
  else
    some (.br ((()), (out_6, ())))
noncomputable def ref08_Sum_6 (N : Nat) (out_6 : (List UInt8)) : Option ref08_Sum_R :=
  some ((()), (out_6, ()))
noncomputable def ref08_Sum_4 (N : Nat) (i_7 : Int) (v_4 : (List UInt32)) (out_6 : (List UInt8)) : Option ref08_Sum_R :=
  loopK N (fun y => ref08_Sum_s5 N y.1.1 y.2.1 y.2.2.1) (fun (e : ((Unit) × ((List UInt8) × Unit))) => ref08_Sum_6 N e.2.1) ((i_7, ()), (v_4, out_6, ()))
noncomputable def ref08_Sum_3 (N : Nat) (v_4 : (List UInt32)) : Option ref08_Sum_R :=
  ref08_Sum_4 N (0 : Int) v_4 ([] : List UInt8)
noncomputable def ref08_Sum_1 (N : Nat) (i_5 : Int) (all_3 : (List UInt8)) (v_4 : (List UInt32)) : Option ref08_Sum_R :=
  loopK N (fun y => ref08_Sum_s2 N y.1.1 y.1.2.1 y.2.1) (fun (e : ((Unit) × ((List UInt32) × Unit))) => ref08_Sum_3 N e.2.1) ((all_3, i_5, ()), (v_4, ()))
noncomputable def ref08_Sum (N : Nat) (b_0 : (List UInt8)) : Option ref08_Sum_R :=
  bif room (0 + b_0.length) 1 then
  Option.bind (ref08_Pad N (b_0.length : Int)) fun y2 =>
  bif room (b_0.length + y2.2.1.length) 1 then
  ref08_Sum_1 N (0 : Int) (b_0 ++ y2.2.1) ([(1779033703 : UInt32), (3144134277 : UInt32), (1013904242 : UInt32), (2773480762 : UInt32), (1359893119 : UInt32), (2600822924 : UInt32), (528734635 : UInt32), (1541459225 : UInt32)] : List UInt32)
  else none
  else none
noncomputable def ref08_Sum_C (N : Nat) : Ctx := ⟨42, G_tys, [(189, ref08_Pad_ctr N), (190, ref08_Block_ctr N), (113, ref01_Put_ctr N)], G_globs⟩
noncomputable def ref08_Sum_S0 : Spec := ⟨[.val (.sl .u8), .ref 0 (.arr 8 .u32), .val .i64], [(.box 218 (.arr 8 .u32), .pos 1)]⟩
noncomputable def ref08_Sum_S1 : Spec := ⟨[.ref 0 (.arr 8 .u32), .row 1, .val .i64], [(.box 218 (.arr 8 .u32), .pos 0), (.row 5 .u8, .pos 1)]⟩
noncomputable def ref08_Sum_S2 : Spec := ⟨[.row 0], [(.row 5 .u8, .pos 0)]⟩
noncomputable def ref08_Sum_S3 : Spec := ⟨[.ref 0 (.arr 8 .u32)], [(.box 218 (.arr 8 .u32), .pos 0)]⟩
noncomputable def ref08_Sum_S4 : Spec := ⟨[.row 0, .ref 1 (.arr 8 .u32), .val .i64], [(.row 5 .u8, .pos 0), (.box 218 (.arr 8 .u32), .pos 1)]⟩
noncomputable def ref08_Sum_S5 : Spec := ⟨[.val (.sl .u8)], []⟩
noncomputable def ref08_Sum_K (_N : Nat) : XE → GS → Option ref08_Sum_R := retK 0 [2] [false] ref08_Sum_S2
noncomputable def ref08_Sum_L : List Code := (bodyOf (some Tryd.f151))
noncomputable def ref08_Sum_L2 : List Code := (loopOf (ref08_Sum_L[4]?))
noncomputable def ref08_Sum_L5 : List Code := (loopOf (ref08_Sum_L[7]?))
noncomputable def ref08_Sum_K2 (N : Nat) : XE → GS → Option (Lo (((List UInt8) × Int × Unit) × ((List UInt32) × Unit)) ((Unit) × ((List UInt32) × Unit)) ref08_Sum_R) := roundK (some 0) (fit 0 [3, 4, 5] ref08_Sum_S0) (fit 0 [4] ref08_Sum_S3) (ref08_Sum_K N)
noncomputable def ref08_Sum_K5 (N : Nat) : XE → GS → Option (Lo ((Int × Unit) × ((List UInt32) × (List UInt8) × Unit)) ((Unit) × ((List UInt8) × Unit)) ref08_Sum_R) := roundK (some 2) (fit 0 [4, 6, 7] ref08_Sum_S1) (fit 0 [6] ref08_Sum_S2) (ref08_Sum_K N)
theorem ref08_Sum_s2_b {E : Env} (N : Nat) (hb : Base Tryd.prog (ref08_Sum_C N) E 0) : Blk Tryd.prog (ref08_Sum_C N) E [3, 4, 5] ref08_Sum_S0 (ref08_Sum_L2.drop 0) (fun y => ref08_Sum_s2 N y.1.1 y.1.2.1 y.2.1) (ref08_Sum_K2 N) :=
  Blk.chunkAt hb 4 (X := (ref08_Sum_K2 N .normal)) (NxOk.end (by kernel_rfl)) rfl (fun x => by kernel_rfl)
theorem ref08_Sum_s5_b {E : Env} (N : Nat) (hb : Base Tryd.prog (ref08_Sum_C N) E 0) : Blk Tryd.prog (ref08_Sum_C N) E [4, 6, 7] ref08_Sum_S1 (ref08_Sum_L5.drop 0) (fun y => ref08_Sum_s5 N y.1.1 y.2.1 y.2.2.1) (ref08_Sum_K5 N) :=
  Blk.chunkAt hb 4 (X := (ref08_Sum_K5 N .normal)) (NxOk.end (by kernel_rfl)) rfl (fun x => by kernel_rfl)
theorem ref08_Sum_6_b {E : Env} (N : Nat) (hb : Base Tryd.prog (ref08_Sum_C N) E 0) : Blk Tryd.prog (ref08_Sum_C N) E [6] ref08_Sum_S2 (ref08_Sum_L.drop 8) (fun y => ref08_Sum_6 N y.2.1) (ref08_Sum_K N) :=
  Blk.chunkAt hb 2 (X := (ref08_Sum_K N .normal)) (NxOk.end (by kernel_rfl)) rfl (fun x => by kernel_rfl)
theorem ref08_Sum_4_b {E : Env} (N : Nat) (hb : Base Tryd.prog (ref08_Sum_C N) E 0) : Blk Tryd.prog (ref08_Sum_C N) E [4, 6, 7] ref08_Sum_S1 (ref08_Sum_L.drop 7) (fun y => ref08_Sum_4 N y.1.1 y.2.1 y.2.2.1) (ref08_Sum_K N) :=
  Blk.loopAt (Nf := N) (hns := [4, 6, 7]) (ans := [6]) (hc := ref08_Sum_S1) (ac := ref08_Sum_S2) (bid := 2) (step := (fun y => ref08_Sum_s5 N y.1.1 y.2.1 y.2.2.1)) (J := (fun e => (goK 0 [6] ref08_Sum_S2 (fun y => ref08_Sum_6 N y.2.1)) (ref08_Sum_S2.st [6] e))) hb (by kernel_rfl) (Blk.into (X := (goK 0 [6] ref08_Sum_S2 (fun y => ref08_Sum_6 N y.2.1))) (NxOk.go hb (ref08_Sum_6_b N hb)) (fun x => by kernel_rfl)) (ref08_Sum_s5_b N hb) (fun x => by kernel_rfl)
theorem ref08_Sum_3_b {E : Env} (N : Nat) (hb : Base Tryd.prog (ref08_Sum_C N) E 0) : Blk Tryd.prog (ref08_Sum_C N) E [4] ref08_Sum_S3 (ref08_Sum_L.drop 5) (fun y => ref08_Sum_3 N y.2.1) (ref08_Sum_K N) :=
  Blk.chunkAt hb 2 (X := (goK 0 [4, 6, 7] ref08_Sum_S1 (fun y => ref08_Sum_4 N y.1.1 y.2.1 y.2.2.1))) (NxOk.go hb (ref08_Sum_4_b N hb)) rfl (fun x => by kernel_rfl)
theorem ref08_Sum_1_b {E : Env} (N : Nat) (hb : Base Tryd.prog (ref08_Sum_C N) E 0) : Blk Tryd.prog (ref08_Sum_C N) E [3, 4, 5] ref08_Sum_S4 (ref08_Sum_L.drop 4) (fun y => ref08_Sum_1 N y.1.1 y.2.1 y.2.2.1) (ref08_Sum_K N) :=
  Blk.loopAt (Nf := N) (hns := [3, 4, 5]) (ans := [4]) (hc := ref08_Sum_S0) (ac := ref08_Sum_S3) (bid := 0) (step := (fun y => ref08_Sum_s2 N y.1.1 y.1.2.1 y.2.1)) (J := (fun e => (goK 0 [4] ref08_Sum_S3 (fun y => ref08_Sum_3 N y.2.1)) (ref08_Sum_S3.st [4] e))) hb (by kernel_rfl) (Blk.into (X := (goK 0 [4] ref08_Sum_S3 (fun y => ref08_Sum_3 N y.2.1))) (NxOk.go hb (ref08_Sum_3_b N hb)) (fun x => by kernel_rfl)) (ref08_Sum_s2_b N hb) (fun x => by kernel_rfl)
theorem ref08_Sum_b {E : Env} (N : Nat) (hb : Base Tryd.prog (ref08_Sum_C N) E 0) : Blk Tryd.prog (ref08_Sum_C N) E (List.range ref08_Sum_S5.ks.length) ref08_Sum_S5 (ref08_Sum_L.drop 0) (fun y => ref08_Sum N y.1.1) (ref08_Sum_K N) :=
  Blk.chunkAt hb 4 (X := (goK 0 [3, 4, 5] ref08_Sum_S4 (fun y => ref08_Sum_1 N y.1.1 y.2.1 y.2.2.1))) (NxOk.go hb (ref08_Sum_1_b N hb)) rfl (fun x => by kernel_rfl)
noncomputable def ref08_Sum_ctr (N : Nat) : Ctr := ⟨ref08_Sum_S5, ref08_Sum_S2.un [false], 0, (fun y => ref08_Sum N y.1.1)⟩
theorem ref08_Sum_ctrs (N : Nat) : CtrsOk Tryd.prog (ref08_Sum_C N) := ctrs_of (Γ := ref08_Sum_C N) (by
  intro p hp
  simp only [ref08_Sum_C, List.mem_cons, List.not_mem_nil, or_false] at hp
  rcases hp with rfl | rfl | rfl
  · exact ref08_Pad_ok N
  · exact ref08_Block_ok N
  · exact ref01_Put_ok N)
theorem ref08_Sum_ok (N : Nat) : Ctr.ok Tryd.prog G_globs 151 (ref08_Sum_ctr N) :=
  ctr_fn (Γ := ref08_Sum_C N) (rfit := ref08_Sum_S2) (bs := [false]) (res := [2]) (by kernel_rfl) (tys_ok G_tys_ok) (ref08_Sum_ctrs N) Tryd.func151 (by kernel_rfl) (by kernel_rfl) Tryd.ntmps151 (by kernel_rfl) (by kernel_rfl) (by kernel_rfl) (by kernel_rfl) (fun E hb => ref08_Sum_b N hb)
end Go.Proofs.YtofajgidjkjnpaaDoor