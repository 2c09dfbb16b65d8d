/- Functions of the program as plain functions, each with the proof that the text computes it. -/
import Derived.Test.YtlamdneheilahaaGmRule
import Derived.Test.YtlamdneheilahaaProg
set_option linter.unusedVariables false
set_option linter.unusedSimpArgs false
namespace Go.Proofs.Ytlamdneheilahaa
open Go
set_option maxRecDepth 100000
set_option linter.unusedVariables false
noncomputable def G_tys : List (Nat × TI) := [(2, ⟨.i64, 8, 0⟩), (3, ⟨.i64, 8, 0⟩), (4, ⟨.bool, 1, 0⟩), (5, ⟨.u8, 1, 0⟩), (6, ⟨.u8, 1, 0⟩), (7, ⟨(.pair .i64 (.pair .i64 (.pair .bool (.pair .u8 .unit)))), 24, 0⟩), (8, ⟨(.pair .i64 (.pair .i64 (.pair .bool (.pair .u8 .unit)))), 24, 0⟩), (9, ⟨.str, 16, 0⟩), (10, ⟨.str, 16, 0⟩), (11, ⟨.str, 16, 0⟩), (12, ⟨.u64, 8, 0⟩), (13, ⟨(.pair .str (.pair .u64 .unit)), 24, 0⟩), (14, ⟨(.pair .str (.pair .u64 .unit)), 24, 0⟩), (22, ⟨(.sl .u8), 24, 5⟩), (27, ⟨(.arr 2 (.sl .u8)), 48, 22⟩), (28, ⟨(.sl (.arr 2 (.sl .u8))), 24, 27⟩), (33, ⟨(.arr 18 .i64), 144, 3⟩), (34, ⟨.u64, 8, 0⟩), (35, ⟨(.sl .i64), 24, 3⟩), (37, ⟨.u64, 8, 0⟩), (38, ⟨(.arr 2 .u64), 16, 37⟩), (39, ⟨(.sl (.arr 2 .u64)), 24, 38⟩), (44, ⟨.i64, 8, 0⟩), (52, ⟨(.sl (.sl .u8)), 24, 22⟩), (58, ⟨(.pair (.sl .u8) (.pair .i64 .unit)), 32, 0⟩), (59, ⟨(.pair (.sl .u8) (.pair .i64 .unit)), 32, 0⟩), (61, ⟨(.arr 5 .u64), 40, 37⟩), (62, ⟨(.arr 5 .u64), 40, 37⟩), (67, ⟨.u32, 4, 0⟩), (68, ⟨(.arr 17 .u32), 68, 67⟩), (93, ⟨.u8, 1, 0⟩), (94, ⟨.u8, 1, 0⟩), (101, ⟨(.pair .str .unit), 16, 0⟩), (102, ⟨(.pair .str .unit), 16, 0⟩)]
noncomputable def G_globs : List (Nat × Dt) := []
theorem G_tys_ok : tyChk Try.prog G_tys = true := by kernel_rfl
end Go.Proofs.Ytlamdneheilahaa
namespace Go.Proofs.Ytlamdneheilahaa
open Go
set_option maxRecDepth 100000
set_option linter.unusedVariables false
/-! ipsecgate/ipsecgateref01.Digit -/
abbrev ref01_Digit_R : Type := ((Int × Unit) × (Unit))
noncomputable def ref01_Digit (N : Nat) (c_0 : UInt8) : Option ref01_Digit_R :=
  bif (decide ((48 : UInt8) ≤ c_0)) then
    bif (decide (c_0 ≤ (57 : UInt8))) then
      some ((((c_0 - (48 : UInt8)).toNat : Int), ()), (()))
    else
      bif (decide ((97 : UInt8) ≤ c_0)) then
        bif (decide (c_0 ≤ (102 : UInt8))) then
          some (((w64 (((c_0 - (97 : UInt8)).toNat : Int) + (10 : Int))), ()), (()))
        else
          bif (decide ((65 : UInt8) ≤ c_0)) then
            bif (decide (c_0 ≤ (70 : UInt8))) then
              some (((w64 (((c_0 - (65 : UInt8)).toNat : Int) + (10 : Int))), ()), (()))
            else
              some (((-1 : Int), ()), (()))
          else
            some (((-1 : Int), ()), (()))
      else
        bif (decide ((65 : UInt8) ≤ c_0)) then
          bif (decide (c_0 ≤ (70 : UInt8))) then
            some (((w64 (((c_0 - (65 : UInt8)).toNat : Int) + (10 : Int))), ()), (()))
          else
            some (((-1 : Int), ()), (()))
        else
          some (((-1 : Int), ()), (()))
  else
    bif (decide ((97 : UInt8) ≤ c_0)) then
      bif (decide (c_0 ≤ (102 : UInt8))) then
        some (((w64 (((c_0 - (97 : UInt8)).toNat : Int) + (10 : Int))), ()), (()))
      else
        bif (decide ((65 : UInt8) ≤ c_0)) then
          bif (decide (c_0 ≤ (70 : UInt8))) then
            some (((w64 (((c_0 - (65 : UInt8)).toNat : Int) + (10 : Int))), ()), (()))
          else
            some (((-1 : Int), ()), (()))
        else
          some (((-1 : Int), ()), (()))
    else
      bif (decide ((65 : UInt8) ≤ c_0)) then
        bif (decide (c_0 ≤ (70 : UInt8))) then
          some (((w64 (((c_0 - (65 : UInt8)).toNat : Int) + (10 : Int))), ()), (()))
        else
          some (((-1 : Int), ()), (()))
      else
        some (((-1 : Int), ()), (()))
noncomputable def ref01_Digit_C (N : Nat) : Ctx := ⟨35, G_tys, [], G_globs⟩
noncomputable def ref01_Digit_S0 : Spec := ⟨[.val .u8], []⟩
noncomputable def ref01_Digit_S1 : Spec := ⟨[.val .i64], []⟩
noncomputable def ref01_Digit_K (_N : Nat) : XE → GS → Option ref01_Digit_R := retK 0 [2] [false] ref01_Digit_S1
noncomputable def ref01_Digit_L : List Code := (bodyOf (some Try.f60))
theorem ref01_Digit_b {E : Env} (N : Nat) (hb : Base Try.prog (ref01_Digit_C N) E 0) : Blk Try.prog (ref01_Digit_C N) E (List.range ref01_Digit_S0.ks.length) ref01_Digit_S0 (ref01_Digit_L.drop 0) (fun y => ref01_Digit N y.1.1) (ref01_Digit_K N) :=
  Blk.chunkAt hb 4 (X := (ref01_Digit_K N .normal)) (NxOk.end (by kernel_rfl)) rfl (fun x => by kernel_rfl)
noncomputable def ref01_Digit_ctr (N : Nat) : Ctr := ⟨ref01_Digit_S0, ref01_Digit_S1.un [false], 0, (fun y => ref01_Digit N y.1.1)⟩
theorem ref01_Digit_ctrs (N : Nat) : CtrsOk Try.prog (ref01_Digit_C N) := ctrs_nil rfl
theorem ref01_Digit_ok (N : Nat) : Ctr.ok Try.prog G_globs 60 (ref01_Digit_ctr N) :=
  ctr_fn (Γ := ref01_Digit_C N) (rfit := ref01_Digit_S1) (bs := [false]) (res := [2]) (by kernel_rfl) (tys_ok G_tys_ok) (ref01_Digit_ctrs N) Try.func60 (by kernel_rfl) (by kernel_rfl) Try.ntmps60 (by kernel_rfl) (by kernel_rfl) (by kernel_rfl) (by kernel_rfl) (fun E hb => ref01_Digit_b N hb)
end Go.Proofs.Ytlamdneheilahaa
namespace Go.Proofs.Ytlamdneheilahaa
open Go
set_option maxRecDepth 100000
set_option linter.unusedVariables false
/-! ipsecgate/ipsecgateref01.Unhex -/
abbrev ref01_Unhex_R : Type := ((Int × Unit) × ((List UInt8) × Unit))
noncomputable def ref01_Unhex_s2 (N : Nat) (text_0 : (List UInt8)) (i_5 : Int) (out_4 : (List UInt8)) : Option (Lo (((List UInt8) × Int × Unit) × ((List UInt8) × Unit)) ((Unit) × ((List UInt8) × Unit)) ref01_Unhex_R) :=
  bif (decide (i_5 < (text_0.length : Int))) then
    bif inR i_5 text_0.length then
    Option.bind (ref01_Digit N (text_0.getD i_5.toNat 0)) fun y7 =>
    let x8 := w64 (i_5 + (1 : Int))
    bif inR x8 text_0.length then
    Option.bind (ref01_Digit N (text_0.getD x8.toNat 0)) fun y10 =>
    bif (decide (y7.1.1 < (0 : Int))) then
      some (.rt (((4 : Int), ()), (([] : List UInt8), ())))
    else
      bif (decide (y10.1.1 < (0 : Int))) then
        some (.rt (((4 : Int), ()), (([] : List UInt8), ())))
      else
        let x14 := or64 (shlI y7.1.1 4) y10.1.1
        bif room (out_4.length + ([(iu8 x14)] : List UInt8).length) 1 then
        some (.go ((text_0, (w64 (i_5 + (2 : Int))), ()), ((out_4 ++ ([(iu8 x14)] : List UInt8)), ())))
        else none
    else none
    else none
  else
    some (.br ((()), (out_4, ())))
noncomputable def ref01_Unhex_3 (N : Nat) (out_4 : (List UInt8)) : Option ref01_Unhex_R :=
  some (((0 : Int), ()), (out_4, ()))
noncomputable def ref01_Unhex_1 (N : Nat) (text_0 : (List UInt8)) (i_5 : Int) (out_4 : (List UInt8)) : Option ref01_Unhex_R :=
  loopK N (fun y => ref01_Unhex_s2 N y.1.1 y.1.2.1 y.2.1) (fun (e : ((Unit) × ((List UInt8) × Unit))) => ref01_Unhex_3 N e.2.1) ((text_0, i_5, ()), (out_4, ()))
noncomputable def ref01_Unhex (N : Nat) (text_0 : (List UInt8)) : Option ref01_Unhex_R :=
  bif (decide (((text_0.length : Int).tmod (2 : Int)) = (1 : Int))) then
    some (((2 : Int), ()), (([] : List UInt8), ()))
  else
    ref01_Unhex_1 N text_0 (0 : Int) ([] : List UInt8)
noncomputable def ref01_Unhex_C (N : Nat) : Ctx := ⟨42, G_tys, [(60, ref01_Digit_ctr N)], G_globs⟩
noncomputable def ref01_Unhex_S0 : Spec := ⟨[.val .str, .row 0, .val .i64], [(.row 5 .u8, .pos 1)]⟩
noncomputable def ref01_Unhex_S1 : Spec := ⟨[.row 0], [(.row 5 .u8, .pos 0)]⟩
noncomputable def ref01_Unhex_S2 : Spec := ⟨[.val .str], []⟩
noncomputable def ref01_Unhex_S3 : Spec := ⟨[.row 0, .val .i64], [(.row 5 .u8, .pos 0)]⟩
noncomputable def ref01_Unhex_K (_N : Nat) : XE → GS → Option ref01_Unhex_R := retK 0 [2, 3] [false, false] ref01_Unhex_S3
noncomputable def ref01_Unhex_L : List Code := (bodyOf (some Try.f55))
noncomputable def ref01_Unhex_L2 : List Code := (loopOf (ref01_Unhex_L[5]?))
noncomputable def ref01_Unhex_K2 (N : Nat) : XE → GS → Option (Lo (((List UInt8) × Int × Unit) × ((List UInt8) × Unit)) ((Unit) × ((List UInt8) × Unit)) ref01_Unhex_R) := roundK (some 0) (fit 0 [0, 4, 5] ref01_Unhex_S0) (fit 0 [4] ref01_Unhex_S1) (ref01_Unhex_K N)
theorem ref01_Unhex_s2_b {E : Env} (N : Nat) (hb : Base Try.prog (ref01_Unhex_C N) E 0) : Blk Try.prog (ref01_Unhex_C N) E [0, 4, 5] ref01_Unhex_S0 (ref01_Unhex_L2.drop 0) (fun y => ref01_Unhex_s2 N y.1.1 y.1.2.1 y.2.1) (ref01_Unhex_K2 N) :=
  Blk.chunkAt hb 4 (X := (ref01_Unhex_K2 N .normal)) (NxOk.end (by kernel_rfl)) rfl (fun x => by kernel_rfl)
theorem ref01_Unhex_3_b {E : Env} (N : Nat) (hb : Base Try.prog (ref01_Unhex_C N) E 0) : Blk Try.prog (ref01_Unhex_C N) E [4] ref01_Unhex_S1 (ref01_Unhex_L.drop 6) (fun y => ref01_Unhex_3 N y.2.1) (ref01_Unhex_K N) :=
  Blk.chunkAt hb 2 (X := (ref01_Unhex_K N .normal)) (NxOk.end (by kernel_rfl)) rfl (fun x => by kernel_rfl)
theorem ref01_Unhex_1_b {E : Env} (N : Nat) (hb : Base Try.prog (ref01_Unhex_C N) E 0) : Blk Try.prog (ref01_Unhex_C N) E [0, 4, 5] ref01_Unhex_S0 (ref01_Unhex_L.drop 5) (fun y => ref01_Unhex_1 N y.1.1 y.1.2.1 y.2.1) (ref01_Unhex_K N) :=
  Blk.loopAt (Nf := N) (hns := [0, 4, 5]) (ans := [4]) (hc := ref01_Unhex_S0) (ac := ref01_Unhex_S1) (bid := 0) (step := (fun y => ref01_Unhex_s2 N y.1.1 y.1.2.1 y.2.1)) (J := (fun e => (goK 0 [4] ref01_Unhex_S1 (fun y => ref01_Unhex_3 N y.2.1)) (ref01_Unhex_S1.st [4] e))) hb (by kernel_rfl) (Blk.into (X := (goK 0 [4] ref01_Unhex_S1 (fun y => ref01_Unhex_3 N y.2.1))) (NxOk.go hb (ref01_Unhex_3_b N hb)) (fun x => by kernel_rfl)) (ref01_Unhex_s2_b N hb) (fun x => by kernel_rfl)
theorem ref01_Unhex_b {E : Env} (N : Nat) (hb : Base Try.prog (ref01_Unhex_C N) E 0) : Blk Try.prog (ref01_Unhex_C N) E (List.range ref01_Unhex_S2.ks.length) ref01_Unhex_S2 (ref01_Unhex_L.drop 0) (fun y => ref01_Unhex N y.1.1) (ref01_Unhex_K N) :=
  Blk.chunkAt hb 5 (X := (goK 0 [0, 4, 5] ref01_Unhex_S0 (fun y => ref01_Unhex_1 N y.1.1 y.1.2.1 y.2.1))) (NxOk.go hb (ref01_Unhex_1_b N hb)) rfl (fun x => by kernel_rfl)
noncomputable def ref01_Unhex_ctr (N : Nat) : Ctr := ⟨ref01_Unhex_S2, ref01_Unhex_S3.un [false, false], 0, (fun y => ref01_Unhex N y.1.1)⟩
theorem ref01_Unhex_ctrs (N : Nat) : CtrsOk Try.prog (ref01_Unhex_C N) := ctrs_of (Γ := ref01_Unhex_C N) (by
  intro p hp
  simp only [ref01_Unhex_C, List.mem_cons, List.not_mem_nil, or_false] at hp
  rcases hp with rfl
  · exact ref01_Digit_ok N)
theorem ref01_Unhex_ok (N : Nat) : Ctr.ok Try.prog G_globs 55 (ref01_Unhex_ctr N) :=
  ctr_fn (Γ := ref01_Unhex_C N) (rfit := ref01_Unhex_S3) (bs := [false, false]) (res := [2, 3]) (by kernel_rfl) (tys_ok G_tys_ok) (ref01_Unhex_ctrs N) Try.func55 (by kernel_rfl) (by kernel_rfl) Try.ntmps55 (by kernel_rfl) (by kernel_rfl) (by kernel_rfl) (by kernel_rfl) (fun E hb => ref01_Unhex_b N hb)
end Go.Proofs.Ytlamdneheilahaa
namespace Go.Proofs.Ytlamdneheilahaa
open Go
set_option maxRecDepth 100000
set_option linter.unusedVariables false
/-! ipsecgate/ipsecgatemake.Hex -/
abbrev make_Hex_R : Type := ((Unit) × ((List UInt8) × Unit))
noncomputable def make_Hex (N : Nat) (s_0 : (List UInt8)) : Option make_Hex_R :=
  Option.bind (ref01_Unhex N s_0) fun y1 =>
  some ((()), (y1.2.1, ()))
noncomputable def make_Hex_C (N : Nat) : Ctx := ⟨11, G_tys, [(55, ref01_Unhex_ctr N)], G_globs⟩
noncomputable def make_Hex_S0 : Spec := ⟨[.val .str], []⟩
noncomputable def make_Hex_S1 : Spec := ⟨[.row 0], [(.row 5 .u8, .pos 0)]⟩
noncomputable def make_Hex_K (_N : Nat) : XE → GS → Option make_Hex_R := retK 0 [2] [false] make_Hex_S1
noncomputable def make_Hex_L : List Code := (bodyOf (some Try.f35))
theorem make_Hex_b {E : Env} (N : Nat) (hb : Base Try.prog (make_Hex_C N) E 0) : Blk Try.prog (make_Hex_C N) E (List.range make_Hex_S0.ks.length) make_Hex_S0 (make_Hex_L.drop 0) (fun y => make_Hex N y.1.1) (make_Hex_K N) :=
  Blk.chunkAt hb 4 (X := (make_Hex_K N .normal)) (NxOk.end (by kernel_rfl)) rfl (fun x => by kernel_rfl)
noncomputable def make_Hex_ctr (N : Nat) : Ctr := ⟨make_Hex_S0, make_Hex_S1.un [false], 0, (fun y => make_Hex N y.1.1)⟩
theorem make_Hex_ctrs (N : Nat) : CtrsOk Try.prog (make_Hex_C N) := ctrs_of (Γ := make_Hex_C N) (by
  intro p hp
  simp only [make_Hex_C, List.mem_cons, List.not_mem_nil, or_false] at hp
  rcases hp with rfl
  · exact ref01_Unhex_ok N)
theorem make_Hex_ok (N : Nat) : Ctr.ok Try.prog G_globs 35 (make_Hex_ctr N) :=
  ctr_fn (Γ := make_Hex_C N) (rfit := make_Hex_S1) (bs := [false]) (res := [2]) (by kernel_rfl) (tys_ok G_tys_ok) (make_Hex_ctrs N) Try.func35 (by kernel_rfl) (by kernel_rfl) Try.ntmps35 (by kernel_rfl) (by kernel_rfl) (by kernel_rfl) (by kernel_rfl) (fun E hb => make_Hex_b N hb)
end Go.Proofs.Ytlamdneheilahaa
namespace Go.Proofs.Ytlamdneheilahaa
open Go
set_option maxRecDepth 100000
set_option linter.unusedVariables false
/-! ipsecgate/poly1305.clamp -/
abbrev poly1305_clamp_R : Type := ((Unit) × ((List UInt8) × Unit))
noncomputable def poly1305_clamp_s2 (N : Nat) (t_8 : Int) (t_9 : Int) (r_3 : (List UInt8)) : Option (Lo ((Int × Int × Unit) × ((List UInt8) × Unit)) ((Unit) × ((List UInt8) × Unit)) poly1305_clamp_R) :=
  bif (decide (t_9 < t_8)) then
    bif (decide ((t_9.tmod (4 : Int)) = (3 : Int))) then
      bif inR t_9 r_3.length then
      bif inR t_9 r_3.length then
      let x7 := (r_3.set t_9.toNat ((r_3.getD t_9.toNat (0 : UInt8)) &&& (15 : UInt8)))
      bif (decide ((t_9.tmod (4 : Int)) = (0 : Int))) then
        bif (decide ((0 : Int) < t_9)) then
          bif inR t_9 x7.length then
          bif inR t_9 x7.length then
          some (.go ((t_8, (w64 (t_9 + (1 : Int))), ()), ((x7.set t_9.toNat ((x7.getD t_9.toNat (0 : UInt8)) &&& (252 : UInt8))), ())))
          else none
          else none
        else
          some (.go ((t_8, (w64 (t_9 + (1 : Int))), ()), (x7, ())))
      else
        some (.go ((t_8, (w64 (t_9 + (1 : Int))), ()), (x7, ())))
      else none
      else none
    else
      bif (decide ((t_9.tmod (4 : Int)) = (0 : Int))) then
        bif (decide ((0 : Int) < t_9)) then
          bif inR t_9 r_3.length then
          bif inR t_9 r_3.length then
          some (.go ((t_8, (w64 (t_9 + (1 : Int))), ()), ((r_3.set t_9.toNat ((r_3.getD t_9.toNat (0 : UInt8)) &&& (252 : UInt8))), ())))
          else none
          else none
        else
          some (.go ((t_8, (w64 (t_9 + (1 : Int))), ()), (r_3, ())))
      else
        some (.go ((t_8, (w64 (t_9 + (1 : Int))), ()), (r_3, ())))
  else
    some (.br ((()), (r_3, ())))
noncomputable def poly1305_clamp_3 (N : Nat) (r_3 : (List UInt8)) : Option poly1305_clamp_R :=
  some ((()), (r_3, ()))
noncomputable def poly1305_clamp_1 (N : Nat) (t_8 : Int) (t_9 : Int) (r_3 : (List UInt8)) : Option poly1305_clamp_R :=
  loopK N (fun y => poly1305_clamp_s2 N y.1.1 y.1.2.1 y.2.1) (fun (e : ((Unit) × ((List UInt8) × Unit))) => poly1305_clamp_3 N e.2.1) ((t_8, t_9, ()), (r_3, ()))
noncomputable def poly1305_clamp (N : Nat) (key_0 : (List UInt8)) : Option poly1305_clamp_R :=
  bif room (0 + key_0.length) 1 then
  poly1305_clamp_1 N (key_0.length : Int) (0 : Int) key_0
  else none
noncomputable def poly1305_clamp_C (N : Nat) : Ctx := ⟨36, G_tys, [], G_globs⟩
noncomputable def poly1305_clamp_S0 : Spec := ⟨[.row 0, .val .i64, .val .i64], [(.row 5 .u8, .pos 0)]⟩
noncomputable def poly1305_clamp_S1 : Spec := ⟨[.row 0], [(.row 5 .u8, .pos 0)]⟩
noncomputable def poly1305_clamp_S2 : Spec := ⟨[.val (.sl .u8)], []⟩
noncomputable def poly1305_clamp_K (_N : Nat) : XE → GS → Option poly1305_clamp_R := retK 0 [2] [false] poly1305_clamp_S1
noncomputable def poly1305_clamp_L : List Code := (bodyOf (some Try.f39))
noncomputable def poly1305_clamp_L2 : List Code := (loopOf (poly1305_clamp_L[3]?))
noncomputable def poly1305_clamp_K2 (N : Nat) : XE → GS → Option (Lo ((Int × Int × Unit) × ((List UInt8) × Unit)) ((Unit) × ((List UInt8) × Unit)) poly1305_clamp_R) := roundK (some 0) (fit 0 [3, 8, 9] poly1305_clamp_S0) (fit 0 [3] poly1305_clamp_S1) (poly1305_clamp_K N)
theorem poly1305_clamp_s2_b {E : Env} (N : Nat) (hb : Base Try.prog (poly1305_clamp_C N) E 0) : Blk Try.prog (poly1305_clamp_C N) E [3, 8, 9] poly1305_clamp_S0 (poly1305_clamp_L2.drop 0) (fun y => poly1305_clamp_s2 N y.1.1 y.1.2.1 y.2.1) (poly1305_clamp_K2 N) :=
  Blk.chunkAt hb 4 (X := (poly1305_clamp_K2 N .normal)) (NxOk.end (by kernel_rfl)) rfl (fun x => by kernel_rfl)
theorem poly1305_clamp_3_b {E : Env} (N : Nat) (hb : Base Try.prog (poly1305_clamp_C N) E 0) : Blk Try.prog (poly1305_clamp_C N) E [3] poly1305_clamp_S1 (poly1305_clamp_L.drop 4) (fun y => poly1305_clamp_3 N y.2.1) (poly1305_clamp_K N) :=
  Blk.chunkAt hb 2 (X := (poly1305_clamp_K N .normal)) (NxOk.end (by kernel_rfl)) rfl (fun x => by kernel_rfl)
theorem poly1305_clamp_1_b {E : Env} (N : Nat) (hb : Base Try.prog (poly1305_clamp_C N) E 0) : Blk Try.prog (poly1305_clamp_C N) E [3, 8, 9] poly1305_clamp_S0 (poly1305_clamp_L.drop 3) (fun y => poly1305_clamp_1 N y.1.1 y.1.2.1 y.2.1) (poly1305_clamp_K N) :=
  Blk.loopAt (Nf := N) (hns := [3, 8, 9]) (ans := [3]) (hc := poly1305_clamp_S0) (ac := poly1305_clamp_S1) (bid := 0) (step := (fun y => poly1305_clamp_s2 N y.1.1 y.1.2.1 y.2.1)) (J := (fun e => (goK 0 [3] poly1305_clamp_S1 (fun y => poly1305_clamp_3 N y.2.1)) (poly1305_clamp_S1.st [3] e))) hb (by kernel_rfl) (Blk.into (X := (goK 0 [3] poly1305_clamp_S1 (fun y => poly1305_clamp_3 N y.2.1))) (NxOk.go hb (poly1305_clamp_3_b N hb)) (fun x => by kernel_rfl)) (poly1305_clamp_s2_b N hb) (fun x => by kernel_rfl)
theorem poly1305_clamp_b {E : Env} (N : Nat) (hb : Base Try.prog (poly1305_clamp_C N) E 0) : Blk Try.prog (poly1305_clamp_C N) E (List.range poly1305_clamp_S2.ks.length) poly1305_clamp_S2 (poly1305_clamp_L.drop 0) (fun y => poly1305_clamp N y.1.1) (poly1305_clamp_K N) :=
  Blk.chunkAt hb 3 (X := (goK 0 [3, 8, 9] poly1305_clamp_S0 (fun y => poly1305_clamp_1 N y.1.1 y.1.2.1 y.2.1))) (NxOk.go hb (poly1305_clamp_1_b N hb)) rfl (fun x => by kernel_rfl)
noncomputable def poly1305_clamp_ctr (N : Nat) : Ctr := ⟨poly1305_clamp_S2, poly1305_clamp_S1.un [false], 0, (fun y => poly1305_clamp N y.1.1)⟩
theorem poly1305_clamp_ctrs (N : Nat) : CtrsOk Try.prog (poly1305_clamp_C N) := ctrs_nil rfl
theorem poly1305_clamp_ok (N : Nat) : Ctr.ok Try.prog G_globs 39 (poly1305_clamp_ctr N) :=
  ctr_fn (Γ := poly1305_clamp_C N) (rfit := poly1305_clamp_S1) (bs := [false]) (res := [2]) (by kernel_rfl) (tys_ok G_tys_ok) (poly1305_clamp_ctrs N) Try.func39 (by kernel_rfl) (by kernel_rfl) Try.ntmps39 (by kernel_rfl) (by kernel_rfl) (by kernel_rfl) (by kernel_rfl) (fun E hb => poly1305_clamp_b N hb)
end Go.Proofs.Ytlamdneheilahaa
namespace Go.Proofs.Ytlamdneheilahaa
open Go
set_option maxRecDepth 100000
set_option linter.unusedVariables false
/-! ipsecgate/poly1305.number -/
abbrev poly1305_number_R : Type := (((List UInt64) × Unit) × (Unit))
noncomputable def poly1305_number_s2 (N : Nat) (t_7 : (List UInt8)) (t_8 : Int) (t_9 : Int) (t_2 : (List UInt64)) (l_3 : (List UInt64)) : Option (Lo (((List UInt8) × Int × Int × Unit) × ((List UInt64) × (List UInt64) × Unit)) ((Unit) × ((List UInt64) × (List UInt64) × Unit)) poly1305_number_R) :=
  bif (decide (t_9 < t_8)) then
    bif inR t_9 t_7.length then
    let x3 := t_7.getD t_9.toNat (0 : UInt8)
    let x4 := w64 ((8 : Int) * t_9)
    let x5 := w64 (x4.tdiv (26 : Int))
    bif inR x5 5 then
    let x7 := x4.tmod (26 : Int)
    bif decide (0 ≤ x7) then
    bif inR x5 5 then
    let x11 := (l_3.set x5.toNat ((l_3.getD x5.toNat (0 : UInt64)) + ((shl64 x3.toUInt64 x7.toNat) &&& (67108863 : UInt64))))
    bif (decide ((18 : Int) < (x4.tmod (26 : Int)))) then
      bif (decide ((w64 (x4.tdiv (26 : Int))) < (4 : Int))) then
        let x17 := w64 ((w64 (x4.tdiv (26 : Int))) + (1 : Int))
        bif inR x17 5 then
        let x20 := w64 ((26 : Int) - (x4.tmod (26 : Int)))
        bif decide (0 ≤ x20) then
        bif inR x17 5 then
        some (.go ((t_7, t_8, (w64 (t_9 + (1 : Int))), ()), (t_2, (x11.set x17.toNat ((x11.getD x17.toNat (0 : UInt64)) + (shr64 x3.toUInt64 x20.toNat))), ())))
        else none
        else none
        else none
      else
        some (.go ((t_7, t_8, (w64 (t_9 + (1 : Int))), ()), (t_2, x11, ())))
    else
      some (.go ((t_7, t_8, (w64 (t_9 + (1 : Int))), ()), (t_2, x11, ())))
    else none
    else none
    else none
    else none
  else
    some (.br ((()), (t_2, l_3, ())))
noncomputable def poly1305_number_3 (N : Nat) (t_2 : (List UInt64)) (l_3 : (List UInt64)) : Option poly1305_number_R :=
  some ((l_3, ()), (()))
noncomputable def poly1305_number_1 (N : Nat) (t_7 : (List UInt8)) (t_8 : Int) (t_9 : Int) (t_2 : (List UInt64)) (l_3 : (List UInt64)) : Option poly1305_number_R :=
  loopK N (fun y => poly1305_number_s2 N y.1.1 y.1.2.1 y.1.2.2.1 y.2.1 y.2.2.1) (fun (e : ((Unit) × ((List UInt64) × (List UInt64) × Unit))) => poly1305_number_3 N e.2.1 e.2.2.1) ((t_7, t_8, t_9, ()), (t_2, l_3, ()))
noncomputable def poly1305_number (N : Nat) (b_0 : (List UInt8)) : Option poly1305_number_R :=
  poly1305_number_1 N b_0 (b_0.length : Int) (0 : Int) (List.replicate 5 (0 : UInt64)) (List.replicate 5 (0 : UInt64))
noncomputable def poly1305_number_C (N : Nat) : Ctx := ⟨51, G_tys, [], G_globs⟩
noncomputable def poly1305_number_S0 : Spec := ⟨[.ref 0 (.arr 5 .u64), .ref 1 (.arr 5 .u64), .val (.sl .u8), .val .i64, .val .i64], [(.box 62 (.arr 5 .u64), .pos 0), (.box 62 (.arr 5 .u64), .pos 1)]⟩
noncomputable def poly1305_number_S1 : Spec := ⟨[.ref 0 (.arr 5 .u64), .ref 1 (.arr 5 .u64)], [(.box 62 (.arr 5 .u64), .pos 0), (.box 62 (.arr 5 .u64), .pos 1)]⟩
noncomputable def poly1305_number_S2 : Spec := ⟨[.val (.sl .u8)], []⟩
noncomputable def poly1305_number_S3 : Spec := ⟨[.fp (.arr 5 .u64)], []⟩
noncomputable def poly1305_number_K (_N : Nat) : XE → GS → Option poly1305_number_R := retK 0 [2] [true] poly1305_number_S3
noncomputable def poly1305_number_L : List Code := (bodyOf (some Try.f38))
noncomputable def poly1305_number_L2 : List Code := (loopOf (poly1305_number_L[3]?))
noncomputable def poly1305_number_K2 (N : Nat) : XE → GS → Option (Lo (((List UInt8) × Int × Int × Unit) × ((List UInt64) × (List UInt64) × Unit)) ((Unit) × ((List UInt64) × (List UInt64) × Unit)) poly1305_number_R) := roundK (some 0) (fit 0 [2, 3, 7, 8, 9] poly1305_number_S0) (fit 0 [2, 3] poly1305_number_S1) (poly1305_number_K N)
theorem poly1305_number_s2_b {E : Env} (N : Nat) (hb : Base Try.prog (poly1305_number_C N) E 0) : Blk Try.prog (poly1305_number_C N) E [2, 3, 7, 8, 9] poly1305_number_S0 (poly1305_number_L2.drop 0) (fun y => poly1305_number_s2 N y.1.1 y.1.2.1 y.1.2.2.1 y.2.1 y.2.2.1) (poly1305_number_K2 N) :=
  Blk.chunkAt hb 4 (X := (poly1305_number_K2 N .normal)) (NxOk.end (by kernel_rfl)) rfl (fun x => by kernel_rfl)
theorem poly1305_number_3_b {E : Env} (N : Nat) (hb : Base Try.prog (poly1305_number_C N) E 0) : Blk Try.prog (poly1305_number_C N) E [2, 3] poly1305_number_S1 (poly1305_number_L.drop 4) (fun y => poly1305_number_3 N y.2.1 y.2.2.1) (poly1305_number_K N) :=
  Blk.chunkAt hb 2 (X := (poly1305_number_K N .normal)) (NxOk.end (by kernel_rfl)) rfl (fun x => by kernel_rfl)
theorem poly1305_number_1_b {E : Env} (N : Nat) (hb : Base Try.prog (poly1305_number_C N) E 0) : Blk Try.prog (poly1305_number_C N) E [2, 3, 7, 8, 9] poly1305_number_S0 (poly1305_number_L.drop 3) (fun y => poly1305_number_1 N y.1.1 y.1.2.1 y.1.2.2.1 y.2.1 y.2.2.1) (poly1305_number_K N) :=
  Blk.loopAt (Nf := N) (hns := [2, 3, 7, 8, 9]) (ans := [2, 3]) (hc := poly1305_number_S0) (ac := poly1305_number_S1) (bid := 0) (step := (fun y => poly1305_number_s2 N y.1.1 y.1.2.1 y.1.2.2.1 y.2.1 y.2.2.1)) (J := (fun e => (goK 0 [2, 3] poly1305_number_S1 (fun y => poly1305_number_3 N y.2.1 y.2.2.1)) (poly1305_number_S1.st [2, 3] e))) hb (by kernel_rfl) (Blk.into (X := (goK 0 [2, 3] poly1305_number_S1 (fun y => poly1305_number_3 N y.2.1 y.2.2.1))) (NxOk.go hb (poly1305_number_3_b N hb)) (fun x => by kernel_rfl)) (poly1305_number_s2_b N hb) (fun x => by kernel_rfl)
theorem poly1305_number_b {E : Env} (N : Nat) (hb : Base Try.prog (poly1305_number_C N) E 0) : Blk Try.prog (poly1305_number_C N) E (List.range poly1305_number_S2.ks.length) poly1305_number_S2 (poly1305_number_L.drop 0) (fun y => poly1305_number N y.1.1) (poly1305_number_K N) :=
  Blk.chunkAt hb 3 (X := (goK 0 [2, 3, 7, 8, 9] poly1305_number_S0 (fun y => poly1305_number_1 N y.1.1 y.1.2.1 y.1.2.2.1 y.2.1 y.2.2.1))) (NxOk.go hb (poly1305_number_1_b N hb)) rfl (fun x => by kernel_rfl)
noncomputable def poly1305_number_ctr (N : Nat) : Ctr := ⟨poly1305_number_S2, poly1305_number_S3.un [true], 0, (fun y => poly1305_number N y.1.1)⟩
theorem poly1305_number_ctrs (N : Nat) : CtrsOk Try.prog (poly1305_number_C N) := ctrs_nil rfl
theorem poly1305_number_ok (N : Nat) : Ctr.ok Try.prog G_globs 38 (poly1305_number_ctr N) :=
  ctr_fn (Γ := poly1305_number_C N) (rfit := poly1305_number_S3) (bs := [true]) (res := [2]) (by kernel_rfl) (tys_ok G_tys_ok) (poly1305_number_ctrs N) Try.func38 (by kernel_rfl) (by kernel_rfl) Try.ntmps38 (by kernel_rfl) (by kernel_rfl) (by kernel_rfl) (by kernel_rfl) (fun E hb => poly1305_number_b N hb)
end Go.Proofs.Ytlamdneheilahaa
namespace Go.Proofs.Ytlamdneheilahaa
open Go
set_option maxRecDepth 100000
set_option linter.unusedVariables false
/-! (ipsecgate/poly1305.limbs).carry -/
abbrev poly1305_limbs_carry_R : Type := (((List UInt64) × Unit) × (Unit))
noncomputable def poly1305_limbs_carry_s7 (N : Nat) (c_3 : UInt64) (t_5 : Int) (t_7 : Int) (a_1 : (List UInt64)) (t_2 : (List UInt64)) : Option (Lo ((UInt64 × Int × Int × Unit) × ((List UInt64) × (List UInt64) × Unit)) ((UInt64 × Int × Unit) × ((List UInt64) × (List UInt64) × Unit)) (Lo ((Int × Unit) × ((List UInt64) × (List UInt64) × Unit)) ((Unit) × ((List UInt64) × (List UInt64) × Unit)) poly1305_limbs_carry_R)) :=
  bif (decide (t_7 < (5 : Int))) then
    bif inR t_7 5 then
    bif inR t_7 5 then
    let x5 := (a_1.set t_7.toNat ((a_1.getD t_7.toNat (0 : UInt64)) + c_3))
    bif inR t_7 5 then
    bif inR t_7 5 then
    bif inR t_7 5 then
    some (.go (((shr64 (x5.getD t_7.toNat (0 : UInt64)) 26), t_5, (w64 (t_7 + (1 : Int))), ()), ((x5.set t_7.toNat ((x5.getD t_7.toNat (0 : UInt64)) &&& (67108863 : UInt64))), t_2, ())))
    else none
    else none
    else none
    else none
    else none
  else
    some (.br ((c_3, t_5, ()), (a_1, t_2, ())))
noncomputable def poly1305_limbs_carry_9 (N : Nat) (t_5 : Int) (a_1 : (List UInt64)) (t_2 : (List UInt64)) : Option (Lo ((Int × Unit) × ((List UInt64) × (List UInt64) × Unit)) ((Unit) × ((List UInt64) × (List UInt64) × Unit)) poly1305_limbs_carry_R) :=
  some (.go (((w64 (t_5 + (1 : Int))), ()), (a_1, t_2, ())))
noncomputable def poly1305_limbs_carry_8 (N : Nat) (c_3 : UInt64) (t_5 : Int) (a_1 : (List UInt64)) (t_2 : (List UInt64)) : Option (Lo ((Int × Unit) × ((List UInt64) × (List UInt64) × Unit)) ((Unit) × ((List UInt64) × (List UInt64) × Unit)) poly1305_limbs_carry_R) :=
  poly1305_limbs_carry_9 N t_5 (a_1.set 0 ((a_1.getD 0 (0 : UInt64)) + ((5 : UInt64) * c_3))) t_2
noncomputable def poly1305_limbs_carry_6 (N : Nat) (c_3 : UInt64) (t_5 : Int) (t_7 : Int) (a_1 : (List UInt64)) (t_2 : (List UInt64)) : Option (Lo ((Int × Unit) × ((List UInt64) × (List UInt64) × Unit)) ((Unit) × ((List UInt64) × (List UInt64) × Unit)) poly1305_limbs_carry_R) :=
  loopK N (fun y => poly1305_limbs_carry_s7 N y.1.1 y.1.2.1 y.1.2.2.1 y.2.1 y.2.2.1) (fun (e : ((UInt64 × Int × Unit) × ((List UInt64) × (List UInt64) × Unit))) => poly1305_limbs_carry_8 N e.1.1 e.1.2.1 e.2.1 e.2.2.1) ((c_3, t_5, t_7, ()), (a_1, t_2, ()))
noncomputable def poly1305_limbs_carry_5 (N : Nat) (t_5 : Int) (a_1 : (List UInt64)) (t_2 : (List UInt64)) : Option (Lo ((Int × Unit) × ((List UInt64) × (List UInt64) × Unit)) ((Unit) × ((List UInt64) × (List UInt64) × Unit)) poly1305_limbs_carry_R) :=
  poly1305_limbs_carry_6 N (0 : UInt64) t_5 (0 : Int) a_1 t_2
noncomputable def poly1305_limbs_carry_3 (N : Nat) (t_5 : Int) (a_1 : (List UInt64)) (t_2 : (List UInt64)) : Option (Lo ((Int × Unit) × ((List UInt64) × (List UInt64) × Unit)) ((Unit) × ((List UInt64) × (List UInt64) × Unit)) poly1305_limbs_carry_R) :=
  poly1305_limbs_carry_5 N t_5 a_1 t_2
noncomputable def poly1305_limbs_carry_s2 (N : Nat) (t_5 : Int) (a_1 : (List UInt64)) (t_2 : (List UInt64)) : Option (Lo ((Int × Unit) × ((List UInt64) × (List UInt64) × Unit)) ((Unit) × ((List UInt64) × (List UInt64) × Unit)) poly1305_limbs_carry_R) :=
  bif (decide (t_5 < (2 : Int))) then
    poly1305_limbs_carry_3 N t_5 a_1 t_2
  else
    some (.br ((()), (a_1, t_2, ())))
noncomputable def poly1305_limbs_carry_10 (N : Nat) (a_1 : (List UInt64)) (t_2 : (List UInt64)) : Option poly1305_limbs_carry_R :=
  some ((a_1, ()), (()))
noncomputable def poly1305_limbs_carry_1 (N : Nat) (t_5 : Int) (a_1 : (List UInt64)) (t_2 : (List UInt64)) : Option poly1305_limbs_carry_R :=
  loopK N (fun y => poly1305_limbs_carry_s2 N y.1.1 y.2.1 y.2.2.1) (fun (e : ((Unit) × ((List UInt64) × (List UInt64) × Unit))) => poly1305_limbs_carry_10 N e.2.1 e.2.2.1) ((t_5, ()), (a_1, t_2, ()))
noncomputable def poly1305_limbs_carry (N : Nat) (a_0 : (List UInt64)) : Option poly1305_limbs_carry_R :=
  poly1305_limbs_carry_1 N (0 : Int) a_0 (List.replicate 5 (0 : UInt64))
noncomputable def poly1305_limbs_carry_C (N : Nat) : Ctx := ⟨34, G_tys, [], G_globs⟩
noncomputable def poly1305_limbs_carry_S0 : Spec := ⟨[.ref 0 (.arr 5 .u64), .ref 1 (.arr 5 .u64), .val .u64, .val .i64, .val .i64], [(.box 62 (.arr 5 .u64), .pos 0), (.box 62 (.arr 5 .u64), .pos 1)]⟩
noncomputable def poly1305_limbs_carry_S1 : Spec := ⟨[.ref 0 (.arr 5 .u64), .ref 1 (.arr 5 .u64), .val .i64], [(.box 62 (.arr 5 .u64), .pos 0), (.box 62 (.arr 5 .u64), .pos 1)]⟩
noncomputable def poly1305_limbs_carry_S2 : Spec := ⟨[.ref 0 (.arr 5 .u64), .ref 1 (.arr 5 .u64), .val .u64, .val .i64], [(.box 62 (.arr 5 .u64), .pos 0), (.box 62 (.arr 5 .u64), .pos 1)]⟩
noncomputable def poly1305_limbs_carry_S3 : Spec := ⟨[.ref 0 (.arr 5 .u64), .ref 1 (.arr 5 .u64)], [(.box 62 (.arr 5 .u64), .pos 0), (.box 62 (.arr 5 .u64), .pos 1)]⟩
noncomputable def poly1305_limbs_carry_S4 : Spec := ⟨[.val (.arr 5 .u64)], []⟩
noncomputable def poly1305_limbs_carry_S5 : Spec := ⟨[.fp (.arr 5 .u64)], []⟩
noncomputable def poly1305_limbs_carry_K (_N : Nat) : XE → GS → Option poly1305_limbs_carry_R := retK 0 [2] [true] poly1305_limbs_carry_S5
noncomputable def poly1305_limbs_carry_L : List Code := (bodyOf (some Try.f57))
noncomputable def poly1305_limbs_carry_L2 : List Code := (loopOf (poly1305_limbs_carry_L[2]?))
noncomputable def poly1305_limbs_carry_L4b : List Code := (blockOf (poly1305_limbs_carry_L2[2]?))
noncomputable def poly1305_limbs_carry_L7 : List Code := (loopOf (poly1305_limbs_carry_L4b[2]?))
noncomputable def poly1305_limbs_carry_K2 (N : Nat) : XE → GS → Option (Lo ((Int × Unit) × ((List UInt64) × (List UInt64) × Unit)) ((Unit) × ((List UInt64) × (List UInt64) × Unit)) poly1305_limbs_carry_R) := roundK (some 0) (fit 0 [1, 2, 5] poly1305_limbs_carry_S1) (fit 0 [1, 2] poly1305_limbs_carry_S3) (poly1305_limbs_carry_K N)
noncomputable def poly1305_limbs_carry_K4 (N : Nat) : XE → GS → Option (Lo ((Int × Unit) × ((List UInt64) × (List UInt64) × Unit)) ((Unit) × ((List UInt64) × (List UInt64) × Unit)) poly1305_limbs_carry_R) := blockK 1 (goK 0 [1, 2, 5] poly1305_limbs_carry_S1 (fun y => poly1305_limbs_carry_9 N y.1.1 y.2.1 y.2.2.1)) (poly1305_limbs_carry_K2 N)
noncomputable def poly1305_limbs_carry_K7 (N : Nat) : XE → GS → Option (Lo ((UInt64 × Int × Int × Unit) × ((List UInt64) × (List UInt64) × Unit)) ((UInt64 × Int × Unit) × ((List UInt64) × (List UInt64) × Unit)) (Lo ((Int × Unit) × ((List UInt64) × (List UInt64) × Unit)) ((Unit) × ((List UInt64) × (List UInt64) × Unit)) poly1305_limbs_carry_R)) := roundK (some 2) (fit 0 [1, 2, 3, 5, 7] poly1305_limbs_carry_S0) (fit 0 [1, 2, 3, 5] poly1305_limbs_carry_S2) (poly1305_limbs_carry_K4 N)
theorem poly1305_limbs_carry_s7_b {E : Env} (N : Nat) (hb : Base Try.prog (poly1305_limbs_carry_C N) E 0) : Blk Try.prog (poly1305_limbs_carry_C N) E [1, 2, 3, 5, 7] poly1305_limbs_carry_S0 (poly1305_limbs_carry_L7.drop 0) (fun y => poly1305_limbs_carry_s7 N y.1.1 y.1.2.1 y.1.2.2.1 y.2.1 y.2.2.1) (poly1305_limbs_carry_K7 N) :=
  Blk.chunkAt hb 4 (X := (poly1305_limbs_carry_K7 N .normal)) (NxOk.end (by kernel_rfl)) rfl (fun x => by kernel_rfl)
theorem poly1305_limbs_carry_9_b {E : Env} (N : Nat) (hb : Base Try.prog (poly1305_limbs_carry_C N) E 0) : Blk Try.prog (poly1305_limbs_carry_C N) E [1, 2, 5] poly1305_limbs_carry_S1 (poly1305_limbs_carry_L2.drop 3) (fun y => poly1305_limbs_carry_9 N y.1.1 y.2.1 y.2.2.1) (poly1305_limbs_carry_K2 N) :=
  Blk.chunkAt hb 1 (X := (poly1305_limbs_carry_K2 N .normal)) (NxOk.end (by kernel_rfl)) rfl (fun x => by kernel_rfl)
theorem poly1305_limbs_carry_8_b {E : Env} (N : Nat) (hb : Base Try.prog (poly1305_limbs_carry_C N) E 0) : Blk Try.prog (poly1305_limbs_carry_C N) E [1, 2, 3, 5] poly1305_limbs_carry_S2 (poly1305_limbs_carry_L4b.drop 3) (fun y => poly1305_limbs_carry_8 N y.1.1 y.1.2.1 y.2.1 y.2.2.1) (poly1305_limbs_carry_K4 N) :=
  Blk.chunkAt hb 1 (X := (poly1305_limbs_carry_K4 N .normal)) (NxOk.end (by kernel_rfl)) rfl (fun x => by kernel_rfl)
theorem poly1305_limbs_carry_6_b {E : Env} (N : Nat) (hb : Base Try.prog (poly1305_limbs_carry_C N) E 0) : Blk Try.prog (poly1305_limbs_carry_C N) E [1, 2, 3, 5, 7] poly1305_limbs_carry_S0 (poly1305_limbs_carry_L4b.drop 2) (fun y => poly1305_limbs_carry_6 N y.1.1 y.1.2.1 y.1.2.2.1 y.2.1 y.2.2.1) (poly1305_limbs_carry_K4 N) :=
  Blk.loopAt (Nf := N) (hns := [1, 2, 3, 5, 7]) (ans := [1, 2, 3, 5]) (hc := poly1305_limbs_carry_S0) (ac := poly1305_limbs_carry_S2) (bid := 2) (step := (fun y => poly1305_limbs_carry_s7 N y.1.1 y.1.2.1 y.1.2.2.1 y.2.1 y.2.2.1)) (J := (fun e => (goK 0 [1, 2, 3, 5] poly1305_limbs_carry_S2 (fun y => poly1305_limbs_carry_8 N y.1.1 y.1.2.1 y.2.1 y.2.2.1)) (poly1305_limbs_carry_S2.st [1, 2, 3, 5] e))) hb (by kernel_rfl) (Blk.into (X := (goK 0 [1, 2, 3, 5] poly1305_limbs_carry_S2 (fun y => poly1305_limbs_carry_8 N y.1.1 y.1.2.1 y.2.1 y.2.2.1))) (NxOk.go hb (poly1305_limbs_carry_8_b N hb)) (fun x => by kernel_rfl)) (poly1305_limbs_carry_s7_b N hb) (fun x => by kernel_rfl)
theorem poly1305_limbs_carry_5_b {E : Env} (N : Nat) (hb : Base Try.prog (poly1305_limbs_carry_C N) E 0) : Blk Try.prog (poly1305_limbs_carry_C N) E [1, 2, 5] poly1305_limbs_carry_S1 (poly1305_limbs_carry_L4b.drop 0) (fun y => poly1305_limbs_carry_5 N y.1.1 y.2.1 y.2.2.1) (poly1305_limbs_carry_K4 N) :=
  Blk.chunkAt hb 2 (X := (goK 0 [1, 2, 3, 5, 7] poly1305_limbs_carry_S0 (fun y => poly1305_limbs_carry_6 N y.1.1 y.1.2.1 y.1.2.2.1 y.2.1 y.2.2.1))) (NxOk.go hb (poly1305_limbs_carry_6_b N hb)) rfl (fun x => by kernel_rfl)
theorem poly1305_limbs_carry_3_b {E : Env} (N : Nat) (hb : Base Try.prog (poly1305_limbs_carry_C N) E 0) : Blk Try.prog (poly1305_limbs_carry_C N) E [1, 2, 5] poly1305_limbs_carry_S1 (poly1305_limbs_carry_L2.drop 2) (fun y => poly1305_limbs_carry_3 N y.1.1 y.2.1 y.2.2.1) (poly1305_limbs_carry_K2 N) :=
  Blk.blockAt (bid := 1) (X := (goK 0 [1, 2, 5] poly1305_limbs_carry_S1 (fun y => poly1305_limbs_carry_9 N y.1.1 y.2.1 y.2.2.1))) (Y := (goK 0 [1, 2, 5] poly1305_limbs_carry_S1 (fun y => poly1305_limbs_carry_5 N y.1.1 y.2.1 y.2.2.1))) (by kernel_rfl) (NxOk.go hb (poly1305_limbs_carry_9_b N hb)) (NxOk.go hb (poly1305_limbs_carry_5_b N hb)) (fun x => by kernel_rfl)
theorem poly1305_limbs_carry_s2_b {E : Env} (N : Nat) (hb : Base Try.prog (poly1305_limbs_carry_C N) E 0) : Blk Try.prog (poly1305_limbs_carry_C N) E [1, 2, 5] poly1305_limbs_carry_S1 (poly1305_limbs_carry_L2.drop 0) (fun y => poly1305_limbs_carry_s2 N y.1.1 y.2.1 y.2.2.1) (poly1305_limbs_carry_K2 N) :=
  Blk.chunkAt hb 2 (X := (goK 0 [1, 2, 5] poly1305_limbs_carry_S1 (fun y => poly1305_limbs_carry_3 N y.1.1 y.2.1 y.2.2.1))) (NxOk.go hb (poly1305_limbs_carry_3_b N hb)) rfl (fun x => by kernel_rfl)
theorem poly1305_limbs_carry_10_b {E : Env} (N : Nat) (hb : Base Try.prog (poly1305_limbs_carry_C N) E 0) : Blk Try.prog (poly1305_limbs_carry_C N) E [1, 2] poly1305_limbs_carry_S3 (poly1305_limbs_carry_L.drop 3) (fun y => poly1305_limbs_carry_10 N y.2.1 y.2.2.1) (poly1305_limbs_carry_K N) :=
  Blk.chunkAt hb 2 (X := (poly1305_limbs_carry_K N .normal)) (NxOk.end (by kernel_rfl)) rfl (fun x => by kernel_rfl)
theorem poly1305_limbs_carry_1_b {E : Env} (N : Nat) (hb : Base Try.prog (poly1305_limbs_carry_C N) E 0) : Blk Try.prog (poly1305_limbs_carry_C N) E [1, 2, 5] poly1305_limbs_carry_S1 (poly1305_limbs_carry_L.drop 2) (fun y => poly1305_limbs_carry_1 N y.1.1 y.2.1 y.2.2.1) (poly1305_limbs_carry_K N) :=
  Blk.loopAt (Nf := N) (hns := [1, 2, 5]) (ans := [1, 2]) (hc := poly1305_limbs_carry_S1) (ac := poly1305_limbs_carry_S3) (bid := 0) (step := (fun y => poly1305_limbs_carry_s2 N y.1.1 y.2.1 y.2.2.1)) (J := (fun e => (goK 0 [1, 2] poly1305_limbs_carry_S3 (fun y => poly1305_limbs_carry_10 N y.2.1 y.2.2.1)) (poly1305_limbs_carry_S3.st [1, 2] e))) hb (by kernel_rfl) (Blk.into (X := (goK 0 [1, 2] poly1305_limbs_carry_S3 (fun y => poly1305_limbs_carry_10 N y.2.1 y.2.2.1))) (NxOk.go hb (poly1305_limbs_carry_10_b N hb)) (fun x => by kernel_rfl)) (poly1305_limbs_carry_s2_b N hb) (fun x => by kernel_rfl)
theorem poly1305_limbs_carry_b {E : Env} (N : Nat) (hb : Base Try.prog (poly1305_limbs_carry_C N) E 0) : Blk Try.prog (poly1305_limbs_carry_C N) E (List.range poly1305_limbs_carry_S4.ks.length) poly1305_limbs_carry_S4 (poly1305_limbs_carry_L.drop 0) (fun y => poly1305_limbs_carry N y.1.1) (poly1305_limbs_carry_K N) :=
  Blk.chunkAt hb 2 (X := (goK 0 [1, 2, 5] poly1305_limbs_carry_S1 (fun y => poly1305_limbs_carry_1 N y.1.1 y.2.1 y.2.2.1))) (NxOk.go hb (poly1305_limbs_carry_1_b N hb)) rfl (fun x => by kernel_rfl)
noncomputable def poly1305_limbs_carry_ctr (N : Nat) : Ctr := ⟨poly1305_limbs_carry_S4, poly1305_limbs_carry_S5.un [true], 0, (fun y => poly1305_limbs_carry N y.1.1)⟩
theorem poly1305_limbs_carry_ctrs (N : Nat) : CtrsOk Try.prog (poly1305_limbs_carry_C N) := ctrs_nil rfl
theorem poly1305_limbs_carry_ok (N : Nat) : Ctr.ok Try.prog G_globs 57 (poly1305_limbs_carry_ctr N) :=
  ctr_fn (Γ := poly1305_limbs_carry_C N) (rfit := poly1305_limbs_carry_S5) (bs := [true]) (res := [2]) (by kernel_rfl) (tys_ok G_tys_ok) (poly1305_limbs_carry_ctrs N) Try.func57 (by kernel_rfl) (by kernel_rfl) Try.ntmps57 (by kernel_rfl) (by kernel_rfl) (by kernel_rfl) (by kernel_rfl) (fun E hb => poly1305_limbs_carry_b N hb)
end Go.Proofs.Ytlamdneheilahaa
namespace Go.Proofs.Ytlamdneheilahaa
open Go
set_option maxRecDepth 100000
set_option linter.unusedVariables false
/-! (ipsecgate/poly1305.limbs).add -/
abbrev poly1305_limbs_add_R : Type := (((List UInt64) × Unit) × (Unit))
noncomputable def poly1305_limbs_add_s2 (N : Nat) (t_6 : Int) (a_2 : (List UInt64)) (b_3 : (List UInt64)) (t_4 : (List UInt64)) : Option (Lo ((Int × Unit) × ((List UInt64) × (List UInt64) × (List UInt64) × Unit)) ((Unit) × ((List UInt64) × (List UInt64) × Unit)) poly1305_limbs_add_R) :=
  bif (decide (t_6 < (5 : Int))) then
    bif inR t_6 5 then
    bif inR t_6 5 then
    bif inR t_6 5 then
    some (.go (((w64 (t_6 + (1 : Int))), ()), ((a_2.set t_6.toNat ((a_2.getD t_6.toNat (0 : UInt64)) + (b_3.getD t_6.toNat (0 : UInt64)))), b_3, t_4, ())))
    else none
    else none
    else none
  else
    some (.br ((()), (a_2, t_4, ())))
noncomputable def poly1305_limbs_add_3 (N : Nat) (a_2 : (List UInt64)) (t_4 : (List UInt64)) : Option poly1305_limbs_add_R :=
  Option.bind (poly1305_limbs_carry N a_2) fun y7 =>
  some ((y7.1.1, ()), (()))
noncomputable def poly1305_limbs_add_1 (N : Nat) (t_6 : Int) (a_2 : (List UInt64)) (b_3 : (List UInt64)) (t_4 : (List UInt64)) : Option poly1305_limbs_add_R :=
  loopK N (fun y => poly1305_limbs_add_s2 N y.1.1 y.2.1 y.2.2.1 y.2.2.2.1) (fun (e : ((Unit) × ((List UInt64) × (List UInt64) × Unit))) => poly1305_limbs_add_3 N e.2.1 e.2.2.1) ((t_6, ()), (a_2, b_3, t_4, ()))
noncomputable def poly1305_limbs_add (N : Nat) (a_0 : (List UInt64)) (b_1 : (List UInt64)) : Option poly1305_limbs_add_R :=
  poly1305_limbs_add_1 N (0 : Int) a_0 b_1 (List.replicate 5 (0 : UInt64))
noncomputable def poly1305_limbs_add_C (N : Nat) : Ctx := ⟨20, G_tys, [(57, poly1305_limbs_carry_ctr N)], G_globs⟩
noncomputable def poly1305_limbs_add_S0 : Spec := ⟨[.ref 0 (.arr 5 .u64), .ref 1 (.arr 5 .u64), .ref 2 (.arr 5 .u64), .val .i64], [(.box 62 (.arr 5 .u64), .pos 0), (.box 62 (.arr 5 .u64), .pos 1), (.box 62 (.arr 5 .u64), .pos 2)]⟩
noncomputable def poly1305_limbs_add_S1 : Spec := ⟨[.ref 0 (.arr 5 .u64), .ref 1 (.arr 5 .u64)], [(.box 62 (.arr 5 .u64), .pos 0), (.box 62 (.arr 5 .u64), .pos 1)]⟩
noncomputable def poly1305_limbs_add_S2 : Spec := ⟨[.val (.arr 5 .u64), .val (.arr 5 .u64)], []⟩
noncomputable def poly1305_limbs_add_S3 : Spec := ⟨[.fp (.arr 5 .u64)], []⟩
noncomputable def poly1305_limbs_add_K (_N : Nat) : XE → GS → Option poly1305_limbs_add_R := retK 0 [4] [true] poly1305_limbs_add_S3
noncomputable def poly1305_limbs_add_L : List Code := (bodyOf (some Try.f40))
noncomputable def poly1305_limbs_add_L2 : List Code := (loopOf (poly1305_limbs_add_L[2]?))
noncomputable def poly1305_limbs_add_K2 (N : Nat) : XE → GS → Option (Lo ((Int × Unit) × ((List UInt64) × (List UInt64) × (List UInt64) × Unit)) ((Unit) × ((List UInt64) × (List UInt64) × Unit)) poly1305_limbs_add_R) := roundK (some 0) (fit 0 [2, 3, 4, 6] poly1305_limbs_add_S0) (fit 0 [2, 4] poly1305_limbs_add_S1) (poly1305_limbs_add_K N)
theorem poly1305_limbs_add_s2_b {E : Env} (N : Nat) (hb : Base Try.prog (poly1305_limbs_add_C N) E 0) : Blk Try.prog (poly1305_limbs_add_C N) E [2, 3, 4, 6] poly1305_limbs_add_S0 (poly1305_limbs_add_L2.drop 0) (fun y => poly1305_limbs_add_s2 N y.1.1 y.2.1 y.2.2.1 y.2.2.2.1) (poly1305_limbs_add_K2 N) :=
  Blk.chunkAt hb 4 (X := (poly1305_limbs_add_K2 N .normal)) (NxOk.end (by kernel_rfl)) rfl (fun x => by kernel_rfl)
theorem poly1305_limbs_add_3_b {E : Env} (N : Nat) (hb : Base Try.prog (poly1305_limbs_add_C N) E 0) : Blk Try.prog (poly1305_limbs_add_C N) E [2, 4] poly1305_limbs_add_S1 (poly1305_limbs_add_L.drop 3) (fun y => poly1305_limbs_add_3 N y.2.1 y.2.2.1) (poly1305_limbs_add_K N) :=
  Blk.chunkAt hb 2 (X := (poly1305_limbs_add_K N .normal)) (NxOk.end (by kernel_rfl)) rfl (fun x => by kernel_rfl)
theorem poly1305_limbs_add_1_b {E : Env} (N : Nat) (hb : Base Try.prog (poly1305_limbs_add_C N) E 0) : Blk Try.prog (poly1305_limbs_add_C N) E [2, 3, 4, 6] poly1305_limbs_add_S0 (poly1305_limbs_add_L.drop 2) (fun y => poly1305_limbs_add_1 N y.1.1 y.2.1 y.2.2.1 y.2.2.2.1) (poly1305_limbs_add_K N) :=
  Blk.loopAt (Nf := N) (hns := [2, 3, 4, 6]) (ans := [2, 4]) (hc := poly1305_limbs_add_S0) (ac := poly1305_limbs_add_S1) (bid := 0) (step := (fun y => poly1305_limbs_add_s2 N y.1.1 y.2.1 y.2.2.1 y.2.2.2.1)) (J := (fun e => (goK 0 [2, 4] poly1305_limbs_add_S1 (fun y => poly1305_limbs_add_3 N y.2.1 y.2.2.1)) (poly1305_limbs_add_S1.st [2, 4] e))) hb (by kernel_rfl) (Blk.into (X := (goK 0 [2, 4] poly1305_limbs_add_S1 (fun y => poly1305_limbs_add_3 N y.2.1 y.2.2.1))) (NxOk.go hb (poly1305_limbs_add_3_b N hb)) (fun x => by kernel_rfl)) (poly1305_limbs_add_s2_b N hb) (fun x => by kernel_rfl)
theorem poly1305_limbs_add_b {E : Env} (N : Nat) (hb : Base Try.prog (poly1305_limbs_add_C N) E 0) : Blk Try.prog (poly1305_limbs_add_C N) E (List.range poly1305_limbs_add_S2.ks.length) poly1305_limbs_add_S2 (poly1305_limbs_add_L.drop 0) (fun y => poly1305_limbs_add N y.1.1 y.1.2.1) (poly1305_limbs_add_K N) :=
  Blk.chunkAt hb 2 (X := (goK 0 [2, 3, 4, 6] poly1305_limbs_add_S0 (fun y => poly1305_limbs_add_1 N y.1.1 y.2.1 y.2.2.1 y.2.2.2.1))) (NxOk.go hb (poly1305_limbs_add_1_b N hb)) rfl (fun x => by kernel_rfl)
noncomputable def poly1305_limbs_add_ctr (N : Nat) : Ctr := ⟨poly1305_limbs_add_S2, poly1305_limbs_add_S3.un [true], 0, (fun y => poly1305_limbs_add N y.1.1 y.1.2.1)⟩
theorem poly1305_limbs_add_ctrs (N : Nat) : CtrsOk Try.prog (poly1305_limbs_add_C N) := ctrs_of (Γ := poly1305_limbs_add_C N) (by
  intro p hp
  simp only [poly1305_limbs_add_C, List.mem_cons, List.not_mem_nil, or_false] at hp
  rcases hp with rfl
  · exact poly1305_limbs_carry_ok N)
theorem poly1305_limbs_add_ok (N : Nat) : Ctr.ok Try.prog G_globs 40 (poly1305_limbs_add_ctr N) :=
  ctr_fn (Γ := poly1305_limbs_add_C N) (rfit := poly1305_limbs_add_S3) (bs := [true]) (res := [4]) (by kernel_rfl) (tys_ok G_tys_ok) (poly1305_limbs_add_ctrs N) Try.func40 (by kernel_rfl) (by kernel_rfl) Try.ntmps40 (by kernel_rfl) (by kernel_rfl) (by kernel_rfl) (by kernel_rfl) (fun E hb => poly1305_limbs_add_b N hb)
end Go.Proofs.Ytlamdneheilahaa
namespace Go.Proofs.Ytlamdneheilahaa
open Go
set_option maxRecDepth 100000
set_option linter.unusedVariables false
/-! (ipsecgate/poly1305.limbs).mul -/
abbrev poly1305_limbs_mul_R : Type := (((List UInt64) × Unit) × (Unit))
noncomputable def poly1305_limbs_mul_s7 (N : Nat) (i_6 : Int) (t_9 : Int) (t_12 : Int) (a_2 : (List UInt64)) (b_3 : (List UInt64)) (t_4 : (List UInt64)) (out_5 : (List UInt64)) : Option (Lo ((Int × Int × Int × Unit) × ((List UInt64) × (List UInt64) × (List UInt64) × (List UInt64) × Unit)) ((Int × Unit) × ((List UInt64) × (List UInt64) × (List UInt64) × (List UInt64) × Unit)) (Lo ((Int × Unit) × ((List UInt64) × (List UInt64) × (List UInt64) × (List UInt64) × Unit)) ((Unit) × ((List UInt64) × (List UInt64) × Unit)) poly1305_limbs_mul_R)) :=
  bif (decide (t_12 < (5 : Int))) then
    bif inR i_6 5 then
    let x3 := (a_2.getD i_6.toNat (0 : UInt64))
    bif inR t_12 5 then
    let x4 := (b_3.getD t_12.toNat (0 : UInt64))
    bif (decide ((5 : Int) ≤ (w64 (i_6 + t_12)))) then
      let x10 := (w64 (i_6 + t_12)).tmod (5 : Int)
      bif inR x10 5 then
      bif inR x10 5 then
      some (.go ((i_6, t_9, (w64 (t_12 + (1 : Int))), ()), (a_2, b_3, t_4, (out_5.set x10.toNat ((out_5.getD x10.toNat (0 : UInt64)) + ((x3 * x4) * (5 : UInt64)))), ())))
      else none
      else none
    else
      let x16 := (w64 (i_6 + t_12)).tmod (5 : Int)
      bif inR x16 5 then
      bif inR x16 5 then
      some (.go ((i_6, t_9, (w64 (t_12 + (1 : Int))), ()), (a_2, b_3, t_4, (out_5.set x16.toNat ((out_5.getD x16.toNat (0 : UInt64)) + (x3 * x4))), ())))
      else none
      else none
    else none
    else none
  else
    some (.br ((t_9, ()), (a_2, b_3, t_4, out_5, ())))
noncomputable def poly1305_limbs_mul_8 (N : Nat) (t_9 : Int) (a_2 : (List UInt64)) (b_3 : (List UInt64)) (t_4 : (List UInt64)) (out_5 : (List UInt64)) : Option (Lo ((Int × Unit) × ((List UInt64) × (List UInt64) × (List UInt64) × (List UInt64) × Unit)) ((Unit) × ((List UInt64) × (List UInt64) × Unit)) poly1305_limbs_mul_R) :=
  some (.go (((w64 (t_9 + (1 : Int))), ()), (a_2, b_3, t_4, out_5, ())))
noncomputable def poly1305_limbs_mul_6 (N : Nat) (i_6 : Int) (t_9 : Int) (t_12 : Int) (a_2 : (List UInt64)) (b_3 : (List UInt64)) (t_4 : (List UInt64)) (out_5 : (List UInt64)) : Option (Lo ((Int × Unit) × ((List UInt64) × (List UInt64) × (List UInt64) × (List UInt64) × Unit)) ((Unit) × ((List UInt64) × (List UInt64) × Unit)) poly1305_limbs_mul_R) :=
  loopK N (fun y => poly1305_limbs_mul_s7 N y.1.1 y.1.2.1 y.1.2.2.1 y.2.1 y.2.2.1 y.2.2.2.1 y.2.2.2.2.1) (fun (e : ((Int × Unit) × ((List UInt64) × (List UInt64) × (List UInt64) × (List UInt64) × Unit))) => poly1305_limbs_mul_8 N e.1.1 e.2.1 e.2.2.1 e.2.2.2.1 e.2.2.2.2.1) ((i_6, t_9, t_12, ()), (a_2, b_3, t_4, out_5, ()))
noncomputable def poly1305_limbs_mul_5 (N : Nat) (t_9 : Int) (a_2 : (List UInt64)) (b_3 : (List UInt64)) (t_4 : (List UInt64)) (out_5 : (List UInt64)) : Option (Lo ((Int × Unit) × ((List UInt64) × (List UInt64) × (List UInt64) × (List UInt64) × Unit)) ((Unit) × ((List UInt64) × (List UInt64) × Unit)) poly1305_limbs_mul_R) :=
  poly1305_limbs_mul_6 N t_9 t_9 (0 : Int) a_2 b_3 t_4 out_5
noncomputable def poly1305_limbs_mul_3 (N : Nat) (t_9 : Int) (a_2 : (List UInt64)) (b_3 : (List UInt64)) (t_4 : (List UInt64)) (out_5 : (List UInt64)) : Option (Lo ((Int × Unit) × ((List UInt64) × (List UInt64) × (List UInt64) × (List UInt64) × Unit)) ((Unit) × ((List UInt64) × (List UInt64) × Unit)) poly1305_limbs_mul_R) :=
  poly1305_limbs_mul_5 N t_9 a_2 b_3 t_4 out_5
noncomputable def poly1305_limbs_mul_s2 (N : Nat) (t_9 : Int) (a_2 : (List UInt64)) (b_3 : (List UInt64)) (t_4 : (List UInt64)) (out_5 : (List UInt64)) : Option (Lo ((Int × Unit) × ((List UInt64) × (List UInt64) × (List UInt64) × (List UInt64) × Unit)) ((Unit) × ((List UInt64) × (List UInt64) × Unit)) poly1305_limbs_mul_R) :=
  bif (decide (t_9 < (5 : Int))) then
    poly1305_limbs_mul_3 N t_9 a_2 b_3 t_4 out_5
  else
    some (.br ((()), (t_4, out_5, ())))
noncomputable def poly1305_limbs_mul_9 (N : Nat) (t_4 : (List UInt64)) (out_5 : (List UInt64)) : Option poly1305_limbs_mul_R :=
  Option.bind (poly1305_limbs_carry N out_5) fun y22 =>
  some ((y22.1.1, ()), (()))
noncomputable def poly1305_limbs_mul_1 (N : Nat) (t_9 : Int) (a_2 : (List UInt64)) (b_3 : (List UInt64)) (t_4 : (List UInt64)) (out_5 : (List UInt64)) : Option poly1305_limbs_mul_R :=
  loopK N (fun y => poly1305_limbs_mul_s2 N y.1.1 y.2.1 y.2.2.1 y.2.2.2.1 y.2.2.2.2.1) (fun (e : ((Unit) × ((List UInt64) × (List UInt64) × Unit))) => poly1305_limbs_mul_9 N e.2.1 e.2.2.1) ((t_9, ()), (a_2, b_3, t_4, out_5, ()))
noncomputable def poly1305_limbs_mul (N : Nat) (a_0 : (List UInt64)) (b_1 : (List UInt64)) : Option poly1305_limbs_mul_R :=
  poly1305_limbs_mul_1 N (0 : Int) a_0 b_1 (List.replicate 5 (0 : UInt64)) (List.replicate 5 (0 : UInt64))
noncomputable def poly1305_limbs_mul_C (N : Nat) : Ctx := ⟨41, G_tys, [(57, poly1305_limbs_carry_ctr N)], G_globs⟩
noncomputable def poly1305_limbs_mul_S0 : Spec := ⟨[.ref 0 (.arr 5 .u64), .ref 1 (.arr 5 .u64), .ref 2 (.arr 5 .u64), .ref 3 (.arr 5 .u64), .val .i64, .val .i64, .val .i64], [(.box 62 (.arr 5 .u64), .pos 0), (.box 62 (.arr 5 .u64), .pos 1), (.box 62 (.arr 5 .u64), .pos 2), (.box 62 (.arr 5 .u64), .pos 3)]⟩
noncomputable def poly1305_limbs_mul_S1 : Spec := ⟨[.ref 0 (.arr 5 .u64), .ref 1 (.arr 5 .u64), .ref 2 (.arr 5 .u64), .ref 3 (.arr 5 .u64), .val .i64], [(.box 62 (.arr 5 .u64), .pos 0), (.box 62 (.arr 5 .u64), .pos 1), (.box 62 (.arr 5 .u64), .pos 2), (.box 62 (.arr 5 .u64), .pos 3)]⟩
noncomputable def poly1305_limbs_mul_S2 : Spec := ⟨[.ref 0 (.arr 5 .u64), .ref 1 (.arr 5 .u64)], [(.box 62 (.arr 5 .u64), .pos 0), (.box 62 (.arr 5 .u64), .pos 1)]⟩
noncomputable def poly1305_limbs_mul_S3 : Spec := ⟨[.val (.arr 5 .u64), .val (.arr 5 .u64)], []⟩
noncomputable def poly1305_limbs_mul_S4 : Spec := ⟨[.fp (.arr 5 .u64)], []⟩
noncomputable def poly1305_limbs_mul_K (_N : Nat) : XE → GS → Option poly1305_limbs_mul_R := retK 0 [4] [true] poly1305_limbs_mul_S4
noncomputable def poly1305_limbs_mul_L : List Code := (bodyOf (some Try.f41))
noncomputable def poly1305_limbs_mul_L2 : List Code := (loopOf (poly1305_limbs_mul_L[3]?))
noncomputable def poly1305_limbs_mul_L4b : List Code := (blockOf (poly1305_limbs_mul_L2[2]?))
noncomputable def poly1305_limbs_mul_L7 : List Code := (loopOf (poly1305_limbs_mul_L4b[2]?))
noncomputable def poly1305_limbs_mul_K2 (N : Nat) : XE → GS → Option (Lo ((Int × Unit) × ((List UInt64) × (List UInt64) × (List UInt64) × (List UInt64) × Unit)) ((Unit) × ((List UInt64) × (List UInt64) × Unit)) poly1305_limbs_mul_R) := roundK (some 0) (fit 0 [2, 3, 4, 5, 9] poly1305_limbs_mul_S1) (fit 0 [4, 5] poly1305_limbs_mul_S2) (poly1305_limbs_mul_K N)
noncomputable def poly1305_limbs_mul_K4 (N : Nat) : XE → GS → Option (Lo ((Int × Unit) × ((List UInt64) × (List UInt64) × (List UInt64) × (List UInt64) × Unit)) ((Unit) × ((List UInt64) × (List UInt64) × Unit)) poly1305_limbs_mul_R) := blockK 1 (goK 0 [2, 3, 4, 5, 9] poly1305_limbs_mul_S1 (fun y => poly1305_limbs_mul_8 N y.1.1 y.2.1 y.2.2.1 y.2.2.2.1 y.2.2.2.2.1)) (poly1305_limbs_mul_K2 N)
noncomputable def poly1305_limbs_mul_K7 (N : Nat) : XE → GS → Option (Lo ((Int × Int × Int × Unit) × ((List UInt64) × (List UInt64) × (List UInt64) × (List UInt64) × Unit)) ((Int × Unit) × ((List UInt64) × (List UInt64) × (List UInt64) × (List UInt64) × Unit)) (Lo ((Int × Unit) × ((List UInt64) × (List UInt64) × (List UInt64) × (List UInt64) × Unit)) ((Unit) × ((List UInt64) × (List UInt64) × Unit)) poly1305_limbs_mul_R)) := roundK (some 2) (fit 0 [2, 3, 4, 5, 6, 9, 12] poly1305_limbs_mul_S0) (fit 0 [2, 3, 4, 5, 9] poly1305_limbs_mul_S1) (poly1305_limbs_mul_K4 N)
theorem poly1305_limbs_mul_s7_b {E : Env} (N : Nat) (hb : Base Try.prog (poly1305_limbs_mul_C N) E 0) : Blk Try.prog (poly1305_limbs_mul_C N) E [2, 3, 4, 5, 6, 9, 12] poly1305_limbs_mul_S0 (poly1305_limbs_mul_L7.drop 0) (fun y => poly1305_limbs_mul_s7 N y.1.1 y.1.2.1 y.1.2.2.1 y.2.1 y.2.2.1 y.2.2.2.1 y.2.2.2.2.1) (poly1305_limbs_mul_K7 N) :=
  Blk.chunkAt hb 4 (X := (poly1305_limbs_mul_K7 N .normal)) (NxOk.end (by kernel_rfl)) rfl (fun x => by kernel_rfl)
theorem poly1305_limbs_mul_8_b {E : Env} (N : Nat) (hb : Base Try.prog (poly1305_limbs_mul_C N) E 0) : Blk Try.prog (poly1305_limbs_mul_C N) E [2, 3, 4, 5, 9] poly1305_limbs_mul_S1 (poly1305_limbs_mul_L2.drop 3) (fun y => poly1305_limbs_mul_8 N y.1.1 y.2.1 y.2.2.1 y.2.2.2.1 y.2.2.2.2.1) (poly1305_limbs_mul_K2 N) :=
  Blk.chunkAt hb 1 (X := (poly1305_limbs_mul_K2 N .normal)) (NxOk.end (by kernel_rfl)) rfl (fun x => by kernel_rfl)
theorem poly1305_limbs_mul_6_b {E : Env} (N : Nat) (hb : Base Try.prog (poly1305_limbs_mul_C N) E 0) : Blk Try.prog (poly1305_limbs_mul_C N) E [2, 3, 4, 5, 6, 9, 12] poly1305_limbs_mul_S0 (poly1305_limbs_mul_L4b.drop 2) (fun y => poly1305_limbs_mul_6 N y.1.1 y.1.2.1 y.1.2.2.1 y.2.1 y.2.2.1 y.2.2.2.1 y.2.2.2.2.1) (poly1305_limbs_mul_K4 N) :=
  Blk.loopAt (Nf := N) (hns := [2, 3, 4, 5, 6, 9, 12]) (ans := [2, 3, 4, 5, 9]) (hc := poly1305_limbs_mul_S0) (ac := poly1305_limbs_mul_S1) (bid := 2) (step := (fun y => poly1305_limbs_mul_s7 N y.1.1 y.1.2.1 y.1.2.2.1 y.2.1 y.2.2.1 y.2.2.2.1 y.2.2.2.2.1)) (J := (fun e => (poly1305_limbs_mul_K4 N .normal) (poly1305_limbs_mul_S1.st [2, 3, 4, 5, 9] e))) hb (by kernel_rfl) (Blk.into (X := (poly1305_limbs_mul_K4 N .normal)) (NxOk.end (by kernel_rfl)) (fun x => by kernel_rfl)) (poly1305_limbs_mul_s7_b N hb) (fun x => by kernel_rfl)
theorem poly1305_limbs_mul_5_b {E : Env} (N : Nat) (hb : Base Try.prog (poly1305_limbs_mul_C N) E 0) : Blk Try.prog (poly1305_limbs_mul_C N) E [2, 3, 4, 5, 9] poly1305_limbs_mul_S1 (poly1305_limbs_mul_L4b.drop 0) (fun y => poly1305_limbs_mul_5 N y.1.1 y.2.1 y.2.2.1 y.2.2.2.1 y.2.2.2.2.1) (poly1305_limbs_mul_K4 N) :=
  Blk.chunkAt hb 2 (X := (goK 0 [2, 3, 4, 5, 6, 9, 12] poly1305_limbs_mul_S0 (fun y => poly1305_limbs_mul_6 N y.1.1 y.1.2.1 y.1.2.2.1 y.2.1 y.2.2.1 y.2.2.2.1 y.2.2.2.2.1))) (NxOk.go hb (poly1305_limbs_mul_6_b N hb)) rfl (fun x => by kernel_rfl)
theorem poly1305_limbs_mul_3_b {E : Env} (N : Nat) (hb : Base Try.prog (poly1305_limbs_mul_C N) E 0) : Blk Try.prog (poly1305_limbs_mul_C N) E [2, 3, 4, 5, 9] poly1305_limbs_mul_S1 (poly1305_limbs_mul_L2.drop 2) (fun y => poly1305_limbs_mul_3 N y.1.1 y.2.1 y.2.2.1 y.2.2.2.1 y.2.2.2.2.1) (poly1305_limbs_mul_K2 N) :=
  Blk.blockAt (bid := 1) (X := (goK 0 [2, 3, 4, 5, 9] poly1305_limbs_mul_S1 (fun y => poly1305_limbs_mul_8 N y.1.1 y.2.1 y.2.2.1 y.2.2.2.1 y.2.2.2.2.1))) (Y := (goK 0 [2, 3, 4, 5, 9] poly1305_limbs_mul_S1 (fun y => poly1305_limbs_mul_5 N y.1.1 y.2.1 y.2.2.1 y.2.2.2.1 y.2.2.2.2.1))) (by kernel_rfl) (NxOk.go hb (poly1305_limbs_mul_8_b N hb)) (NxOk.go hb (poly1305_limbs_mul_5_b N hb)) (fun x => by kernel_rfl)
theorem poly1305_limbs_mul_s2_b {E : Env} (N : Nat) (hb : Base Try.prog (poly1305_limbs_mul_C N) E 0) : Blk Try.prog (poly1305_limbs_mul_C N) E [2, 3, 4, 5, 9] poly1305_limbs_mul_S1 (poly1305_limbs_mul_L2.drop 0) (fun y => poly1305_limbs_mul_s2 N y.1.1 y.2.1 y.2.2.1 y.2.2.2.1 y.2.2.2.2.1) (poly1305_limbs_mul_K2 N) :=
  Blk.chunkAt hb 2 (X := (goK 0 [2, 3, 4, 5, 9] poly1305_limbs_mul_S1 (fun y => poly1305_limbs_mul_3 N y.1.1 y.2.1 y.2.2.1 y.2.2.2.1 y.2.2.2.2.1))) (NxOk.go hb (poly1305_limbs_mul_3_b N hb)) rfl (fun x => by kernel_rfl)
theorem poly1305_limbs_mul_9_b {E : Env} (N : Nat) (hb : Base Try.prog (poly1305_limbs_mul_C N) E 0) : Blk Try.prog (poly1305_limbs_mul_C N) E [4, 5] poly1305_limbs_mul_S2 (poly1305_limbs_mul_L.drop 4) (fun y => poly1305_limbs_mul_9 N y.2.1 y.2.2.1) (poly1305_limbs_mul_K N) :=
  Blk.chunkAt hb 2 (X := (poly1305_limbs_mul_K N .normal)) (NxOk.end (by kernel_rfl)) rfl (fun x => by kernel_rfl)
theorem poly1305_limbs_mul_1_b {E : Env} (N : Nat) (hb : Base Try.prog (poly1305_limbs_mul_C N) E 0) : Blk Try.prog (poly1305_limbs_mul_C N) E [2, 3, 4, 5, 9] poly1305_limbs_mul_S1 (poly1305_limbs_mul_L.drop 3) (fun y => poly1305_limbs_mul_1 N y.1.1 y.2.1 y.2.2.1 y.2.2.2.1 y.2.2.2.2.1) (poly1305_limbs_mul_K N) :=
  Blk.loopAt (Nf := N) (hns := [2, 3, 4, 5, 9]) (ans := [4, 5]) (hc := poly1305_limbs_mul_S1) (ac := poly1305_limbs_mul_S2) (bid := 0) (step := (fun y => poly1305_limbs_mul_s2 N y.1.1 y.2.1 y.2.2.1 y.2.2.2.1 y.2.2.2.2.1)) (J := (fun e => (goK 0 [4, 5] poly1305_limbs_mul_S2 (fun y => poly1305_limbs_mul_9 N y.2.1 y.2.2.1)) (poly1305_limbs_mul_S2.st [4, 5] e))) hb (by kernel_rfl) (Blk.into (X := (goK 0 [4, 5] poly1305_limbs_mul_S2 (fun y => poly1305_limbs_mul_9 N y.2.1 y.2.2.1))) (NxOk.go hb (poly1305_limbs_mul_9_b N hb)) (fun x => by kernel_rfl)) (poly1305_limbs_mul_s2_b N hb) (fun x => by kernel_rfl)
theorem poly1305_limbs_mul_b {E : Env} (N : Nat) (hb : Base Try.prog (poly1305_limbs_mul_C N) E 0) : Blk Try.prog (poly1305_limbs_mul_C N) E (List.range poly1305_limbs_mul_S3.ks.length) poly1305_limbs_mul_S3 (poly1305_limbs_mul_L.drop 0) (fun y => poly1305_limbs_mul N y.1.1 y.1.2.1) (poly1305_limbs_mul_K N) :=
  Blk.chunkAt hb 3 (X := (goK 0 [2, 3, 4, 5, 9] poly1305_limbs_mul_S1 (fun y => poly1305_limbs_mul_1 N y.1.1 y.2.1 y.2.2.1 y.2.2.2.1 y.2.2.2.2.1))) (NxOk.go hb (poly1305_limbs_mul_1_b N hb)) rfl (fun x => by kernel_rfl)
noncomputable def poly1305_limbs_mul_ctr (N : Nat) : Ctr := ⟨poly1305_limbs_mul_S3, poly1305_limbs_mul_S4.un [true], 0, (fun y => poly1305_limbs_mul N y.1.1 y.1.2.1)⟩
theorem poly1305_limbs_mul_ctrs (N : Nat) : CtrsOk Try.prog (poly1305_limbs_mul_C N) := ctrs_of (Γ := poly1305_limbs_mul_C N) (by
  intro p hp
  simp only [poly1305_limbs_mul_C, List.mem_cons, List.not_mem_nil, or_false] at hp
  rcases hp with rfl
  · exact poly1305_limbs_carry_ok N)
theorem poly1305_limbs_mul_ok (N : Nat) : Ctr.ok Try.prog G_globs 41 (poly1305_limbs_mul_ctr N) :=
  ctr_fn (Γ := poly1305_limbs_mul_C N) (rfit := poly1305_limbs_mul_S4) (bs := [true]) (res := [4]) (by kernel_rfl) (tys_ok G_tys_ok) (poly1305_limbs_mul_ctrs N) Try.func41 (by kernel_rfl) (by kernel_rfl) Try.ntmps41 (by kernel_rfl) (by kernel_rfl) (by kernel_rfl) (by kernel_rfl) (fun E hb => poly1305_limbs_mul_b N hb)
end Go.Proofs.Ytlamdneheilahaa
namespace Go.Proofs.Ytlamdneheilahaa
open Go
set_option maxRecDepth 100000
set_option linter.unusedVariables false
/-! (ipsecgate/poly1305.limbs).reduced -/
abbrev poly1305_limbs_reduced_R : Type := (((List UInt64) × Unit) × (Unit))
noncomputable def poly1305_limbs_reduced_s2 (N : Nat) (t_13 : Int) (a_1 : (List UInt64)) (t_2 : (List UInt64)) (b_3 : (List UInt64)) : Option (Lo ((Int × Unit) × ((List UInt64) × (List UInt64) × (List UInt64) × Unit)) ((Unit) × ((List UInt64) × (List UInt64) × (List UInt64) × Unit)) poly1305_limbs_reduced_R) :=
  bif (decide (t_13 < (4 : Int))) then
    let x7 := w64 (t_13 + (1 : Int))
    bif inR x7 5 then
    bif inR t_13 5 then
    bif inR x7 5 then
    let x12 := (b_3.set x7.toNat ((b_3.getD x7.toNat (0 : UInt64)) + (shr64 (b_3.getD t_13.toNat (0 : UInt64)) 26)))
    bif inR t_13 5 then
    bif inR t_13 5 then
    some (.go (((w64 (t_13 + (1 : Int))), ()), (a_1, t_2, (x12.set t_13.toNat ((x12.getD t_13.toNat (0 : UInt64)) &&& (67108863 : UInt64))), ())))
    else none
    else none
    else none
    else none
    else none
  else
    some (.br ((()), (a_1, t_2, b_3, ())))
noncomputable def poly1305_limbs_reduced_3 (N : Nat) (a_1 : (List UInt64)) (t_2 : (List UInt64)) (b_3 : (List UInt64)) : Option poly1305_limbs_reduced_R :=
  bif (decide ((shr64 (b_3.getD 4 (0 : UInt64)) 26) = (0 : UInt64))) then
    some ((a_1, ()), (()))
  else
    some (((b_3.set 4 ((b_3.getD 4 (0 : UInt64)) &&& (67108863 : UInt64))), ()), (()))
noncomputable def poly1305_limbs_reduced_1 (N : Nat) (t_13 : Int) (a_1 : (List UInt64)) (t_2 : (List UInt64)) (b_3 : (List UInt64)) : Option poly1305_limbs_reduced_R :=
  loopK N (fun y => poly1305_limbs_reduced_s2 N y.1.1 y.2.1 y.2.2.1 y.2.2.2.1) (fun (e : ((Unit) × ((List UInt64) × (List UInt64) × (List UInt64) × Unit))) => poly1305_limbs_reduced_3 N e.2.1 e.2.2.1 e.2.2.2.1) ((t_13, ()), (a_1, t_2, b_3, ()))
noncomputable def poly1305_limbs_reduced (N : Nat) (a_0 : (List UInt64)) : Option poly1305_limbs_reduced_R :=
  Option.bind (poly1305_limbs_carry N a_0) fun y1 =>
  Option.bind (poly1305_limbs_carry N y1.1.1) fun y2 =>
  poly1305_limbs_reduced_1 N (0 : Int) y2.1.1 (List.replicate 5 (0 : UInt64)) (y2.1.1.set 0 ((y2.1.1.getD 0 (0 : UInt64)) + (5 : UInt64)))
noncomputable def poly1305_limbs_reduced_C (N : Nat) : Ctx := ⟨42, G_tys, [(57, poly1305_limbs_carry_ctr N)], G_globs⟩
noncomputable def poly1305_limbs_reduced_S0 : Spec := ⟨[.ref 0 (.arr 5 .u64), .ref 1 (.arr 5 .u64), .ref 2 (.arr 5 .u64), .val .i64], [(.box 62 (.arr 5 .u64), .pos 0), (.box 62 (.arr 5 .u64), .pos 1), (.box 62 (.arr 5 .u64), .pos 2)]⟩
noncomputable def poly1305_limbs_reduced_S1 : Spec := ⟨[.ref 0 (.arr 5 .u64), .ref 1 (.arr 5 .u64), .ref 2 (.arr 5 .u64)], [(.box 62 (.arr 5 .u64), .pos 0), (.box 62 (.arr 5 .u64), .pos 1), (.box 62 (.arr 5 .u64), .pos 2)]⟩
noncomputable def poly1305_limbs_reduced_S2 : Spec := ⟨[.val (.arr 5 .u64)], []⟩
noncomputable def poly1305_limbs_reduced_S3 : Spec := ⟨[.fp (.arr 5 .u64)], []⟩
noncomputable def poly1305_limbs_reduced_K (_N : Nat) : XE → GS → Option poly1305_limbs_reduced_R := retK 0 [2] [true] poly1305_limbs_reduced_S3
noncomputable def poly1305_limbs_reduced_L : List Code := (bodyOf (some Try.f42))
noncomputable def poly1305_limbs_reduced_L2 : List Code := (loopOf (poly1305_limbs_reduced_L[5]?))
noncomputable def poly1305_limbs_reduced_K2 (N : Nat) : XE → GS → Option (Lo ((Int × Unit) × ((List UInt64) × (List UInt64) × (List UInt64) × Unit)) ((Unit) × ((List UInt64) × (List UInt64) × (List UInt64) × Unit)) poly1305_limbs_reduced_R) := roundK (some 0) (fit 0 [1, 2, 3, 13] poly1305_limbs_reduced_S0) (fit 0 [1, 2, 3] poly1305_limbs_reduced_S1) (poly1305_limbs_reduced_K N)
theorem poly1305_limbs_reduced_s2_b {E : Env} (N : Nat) (hb : Base Try.prog (poly1305_limbs_reduced_C N) E 0) : Blk Try.prog (poly1305_limbs_reduced_C N) E [1, 2, 3, 13] poly1305_limbs_reduced_S0 (poly1305_limbs_reduced_L2.drop 0) (fun y => poly1305_limbs_reduced_s2 N y.1.1 y.2.1 y.2.2.1 y.2.2.2.1) (poly1305_limbs_reduced_K2 N) :=
  Blk.chunkAt hb 4 (X := (poly1305_limbs_reduced_K2 N .normal)) (NxOk.end (by kernel_rfl)) rfl (fun x => by kernel_rfl)
theorem poly1305_limbs_reduced_3_b {E : Env} (N : Nat) (hb : Base Try.prog (poly1305_limbs_reduced_C N) E 0) : Blk Try.prog (poly1305_limbs_reduced_C N) E [1, 2, 3] poly1305_limbs_reduced_S1 (poly1305_limbs_reduced_L.drop 6) (fun y => poly1305_limbs_reduced_3 N y.2.1 y.2.2.1 y.2.2.2.1) (poly1305_limbs_reduced_K N) :=
  Blk.chunkAt hb 5 (X := (poly1305_limbs_reduced_K N .normal)) (NxOk.end (by kernel_rfl)) rfl (fun x => by kernel_rfl)
theorem poly1305_limbs_reduced_1_b {E : Env} (N : Nat) (hb : Base Try.prog (poly1305_limbs_reduced_C N) E 0) : Blk Try.prog (poly1305_limbs_reduced_C N) E [1, 2, 3, 13] poly1305_limbs_reduced_S0 (poly1305_limbs_reduced_L.drop 5) (fun y => poly1305_limbs_reduced_1 N y.1.1 y.2.1 y.2.2.1 y.2.2.2.1) (poly1305_limbs_reduced_K N) :=
  Blk.loopAt (Nf := N) (hns := [1, 2, 3, 13]) (ans := [1, 2, 3]) (hc := poly1305_limbs_reduced_S0) (ac := poly1305_limbs_reduced_S1) (bid := 0) (step := (fun y => poly1305_limbs_reduced_s2 N y.1.1 y.2.1 y.2.2.1 y.2.2.2.1)) (J := (fun e => (goK 0 [1, 2, 3] poly1305_limbs_reduced_S1 (fun y => poly1305_limbs_reduced_3 N y.2.1 y.2.2.1 y.2.2.2.1)) (poly1305_limbs_reduced_S1.st [1, 2, 3] e))) hb (by kernel_rfl) (Blk.into (X := (goK 0 [1, 2, 3] poly1305_limbs_reduced_S1 (fun y => poly1305_limbs_reduced_3 N y.2.1 y.2.2.1 y.2.2.2.1))) (NxOk.go hb (poly1305_limbs_reduced_3_b N hb)) (fun x => by kernel_rfl)) (poly1305_limbs_reduced_s2_b N hb) (fun x => by kernel_rfl)
theorem poly1305_limbs_reduced_b {E : Env} (N : Nat) (hb : Base Try.prog (poly1305_limbs_reduced_C N) E 0) : Blk Try.prog (poly1305_limbs_reduced_C N) E (List.range poly1305_limbs_reduced_S2.ks.length) poly1305_limbs_reduced_S2 (poly1305_limbs_reduced_L.drop 0) (fun y => poly1305_limbs_reduced N y.1.1) (poly1305_limbs_reduced_K N) :=
  Blk.chunkAt hb 5 (X := (goK 0 [1, 2, 3, 13] poly1305_limbs_reduced_S0 (fun y => poly1305_limbs_reduced_1 N y.1.1 y.2.1 y.2.2.1 y.2.2.2.1))) (NxOk.go hb (poly1305_limbs_reduced_1_b N hb)) rfl (fun x => by kernel_rfl)
noncomputable def poly1305_limbs_reduced_ctr (N : Nat) : Ctr := ⟨poly1305_limbs_reduced_S2, poly1305_limbs_reduced_S3.un [true], 0, (fun y => poly1305_limbs_reduced N y.1.1)⟩
theorem poly1305_limbs_reduced_ctrs (N : Nat) : CtrsOk Try.prog (poly1305_limbs_reduced_C N) := ctrs_of (Γ := poly1305_limbs_reduced_C N) (by
  intro p hp
  simp only [poly1305_limbs_reduced_C, List.mem_cons, List.not_mem_nil, or_false] at hp
  rcases hp with rfl
  · exact poly1305_limbs_carry_ok N)
theorem poly1305_limbs_reduced_ok (N : Nat) : Ctr.ok Try.prog G_globs 42 (poly1305_limbs_reduced_ctr N) :=
  ctr_fn (Γ := poly1305_limbs_reduced_C N) (rfit := poly1305_limbs_reduced_S3) (bs := [true]) (res := [2]) (by kernel_rfl) (tys_ok G_tys_ok) (poly1305_limbs_reduced_ctrs N) Try.func42 (by kernel_rfl) (by kernel_rfl) Try.ntmps42 (by kernel_rfl) (by kernel_rfl) (by kernel_rfl) (by kernel_rfl) (fun E hb => poly1305_limbs_reduced_b N hb)
end Go.Proofs.Ytlamdneheilahaa
namespace Go.Proofs.Ytlamdneheilahaa
open Go
set_option maxRecDepth 100000
set_option linter.unusedVariables false
/-! ipsecgate/poly1305.Sum -/
abbrev poly1305_Sum_R : Type := ((Bool × Unit) × ((List UInt8) × Unit))
noncomputable def poly1305_Sum_s2 (N : Nat) (key_0 : (List UInt8)) (b_1 : (List UInt8)) (r_6 : (List UInt64)) (v_7 : (List UInt64)) : Option (Lo (((List UInt8) × (List UInt8) × Unit) × ((List UInt64) × (List UInt64) × Unit)) (((List UInt8) × Unit) × ((List UInt64) × Unit)) poly1305_Sum_R) :=
  bif (decide ((0 : Int) < (b_1.length : Int))) then
    let x8 := (b_1.length : Int)
    let x9 := bif decide (x8 < (16 : Int)) then x8 else (16 : Int)
    bif decide (0 ≤ (0 : Int)) && decide ((0 : Int) ≤ x9) && decide (x9 ≤ (b_1.length : Int)) && true then
    let x10 := cut b_1 0 x9.toNat
    bif room (0 + x10.length) 1 then
    bif room (x10.length + ([(1 : UInt8)] : List UInt8).length) 1 then
    Option.bind (poly1305_number N (x10 ++ ([(1 : UInt8)] : List UInt8))) fun y12 =>
    Option.bind (poly1305_limbs_add N v_7 y12.1.1) fun y13 =>
    Option.bind (poly1305_limbs_mul N y13.1.1 r_6) fun y14 =>
    bif decide (0 ≤ x9) && decide (x9 ≤ (b_1.length : Int)) && decide ((b_1.length : Int) ≤ (b_1.length : Int)) && true then
    some (.go ((key_0, (cut b_1 x9.toNat b_1.length), ()), (r_6, y14.1.1, ())))
    else none
    else none
    else none
    else none
  else
    some (.br ((key_0, ()), (v_7, ())))
noncomputable def poly1305_Sum_s5 (N : Nat) (t_50 : Int) (v_7 : (List UInt64)) (s_10 : (List UInt64)) : Option (Lo ((Int × Unit) × ((List UInt64) × (List UInt64) × Unit)) ((Unit) × ((List UInt64) × Unit)) poly1305_Sum_R) :=
  bif (decide (t_50 < (5 : Int))) then
    bif inR t_50 5 then
    bif inR t_50 5 then
    bif inR t_50 5 then
    some (.go (((w64 (t_50 + (1 : Int))), ()), ((v_7.set t_50.toNat ((v_7.getD t_50.toNat (0 : UInt64)) + (s_10.getD t_50.toNat (0 : UInt64)))), s_10, ())))
    else none
    else none
    else none
  else
    some (.br ((()), (v_7, ())))
noncomputable def poly1305_Sum_s8 (N : Nat) (t_62 : Int) (v_7 : (List UInt64)) : Option (Lo ((Int × Unit) × ((List UInt64) × Unit)) ((Unit) × ((List UInt64) × Unit)) poly1305_Sum_R) :=
  bif (decide (t_62 < (4 : Int))) then
    let x26 := w64 (t_62 + (1 : Int))
    bif inR x26 5 then
    bif inR t_62 5 then
    bif inR x26 5 then
    let x31 := (v_7.set x26.toNat ((v_7.getD x26.toNat (0 : UInt64)) + (shr64 (v_7.getD t_62.toNat (0 : UInt64)) 26)))
    bif inR t_62 5 then
    bif inR t_62 5 then
    some (.go (((w64 (t_62 + (1 : Int))), ()), ((x31.set t_62.toNat ((x31.getD t_62.toNat (0 : UInt64)) &&& (67108863 : UInt64))), ())))
    else none
    else none
    else none
    else none
    else none
  else
    some (.br ((()), (v_7, ())))
noncomputable def poly1305_Sum_s11 (N : Nat) (t_81 : Int) (v_7 : (List UInt64)) (out_13 : (List UInt8)) : Option (Lo ((Int × Unit) × ((List UInt64) × (List UInt8) × Unit)) ((Unit) × ((List UInt8) × Unit)) poly1305_Sum_R) :=
  bif (decide (t_81 < (16 : Int))) then
    let x37 := w64 ((8 : Int) * t_81)
    let x38 := w64 (x37.tdiv (26 : Int))
    bif inR x38 5 then
    let x40 := x37.tmod (26 : Int)
    bif decide (0 ≤ x40) then
    let x41 := shr64 (v_7.getD x38.toNat (0 : UInt64)) x40.toNat
    bif (decide ((18 : Int) < (x37.tmod (26 : Int)))) then
      let x45 := w64 ((w64 (x37.tdiv (26 : Int))) + (1 : Int))
      bif inR x45 5 then
      let x48 := w64 ((26 : Int) - (x37.tmod (26 : Int)))
      bif decide (0 ≤ x48) then
      let x49 := shl64 (v_7.getD x45.toNat (0 : UInt64)) x48.toNat
      bif room (out_13.length + ([(x41 ||| x49).toUInt8] : List UInt8).length) 1 then
      some (.go (((w64 (t_81 + (1 : Int))), ()), (v_7, (out_13 ++ ([(x41 ||| x49).toUInt8] : List UInt8)), ())))
      else none
      else none
      else none
    else
      bif room (out_13.length + ([x41.toUInt8] : List UInt8).length) 1 then
      some (.go (((w64 (t_81 + (1 : Int))), ()), (v_7, (out_13 ++ ([x41.toUInt8] : List UInt8)), ())))
      else none
    else none
    else none
  else
    some (.br ((()), (out_13, ())))
noncomputable def poly1305_Sum_12 (N : Nat) (out_13 : (List UInt8)) : Option poly1305_Sum_R :=
  some ((true, ()), (out_13, ()))
noncomputable def poly1305_Sum_10 (N : Nat) (t_81 : Int) (v_7 : (List UInt64)) (out_13 : (List UInt8)) : Option poly1305_Sum_R :=
  loopK N (fun y => poly1305_Sum_s11 N y.1.1 y.2.1 y.2.2.1) (fun (e : ((Unit) × ((List UInt8) × Unit))) => poly1305_Sum_12 N e.2.1) ((t_81, ()), (v_7, out_13, ()))
noncomputable def poly1305_Sum_9 (N : Nat) (v_7 : (List UInt64)) : Option poly1305_Sum_R :=
  poly1305_Sum_10 N (0 : Int) v_7 ([] : List UInt8)
noncomputable def poly1305_Sum_7 (N : Nat) (t_62 : Int) (v_7 : (List UInt64)) : Option poly1305_Sum_R :=
  loopK N (fun y => poly1305_Sum_s8 N y.1.1 y.2.1) (fun (e : ((Unit) × ((List UInt64) × Unit))) => poly1305_Sum_9 N e.2.1) ((t_62, ()), (v_7, ()))
noncomputable def poly1305_Sum_6 (N : Nat) (v_7 : (List UInt64)) : Option poly1305_Sum_R :=
  poly1305_Sum_7 N (0 : Int) v_7
noncomputable def poly1305_Sum_4 (N : Nat) (t_50 : Int) (v_7 : (List UInt64)) (s_10 : (List UInt64)) : Option poly1305_Sum_R :=
  loopK N (fun y => poly1305_Sum_s5 N y.1.1 y.2.1 y.2.2.1) (fun (e : ((Unit) × ((List UInt64) × Unit))) => poly1305_Sum_6 N e.2.1) ((t_50, ()), (v_7, s_10, ()))
noncomputable def poly1305_Sum_3 (N : Nat) (key_0 : (List UInt8)) (v_7 : (List UInt64)) : Option poly1305_Sum_R :=
  Option.bind (poly1305_limbs_reduced N v_7) fun y16 =>
  bif decide (0 ≤ (16 : Int)) && decide ((16 : Int) ≤ (key_0.length : Int)) && decide ((key_0.length : Int) ≤ (key_0.length : Int)) && true then
  Option.bind (poly1305_number N (cut key_0 16 key_0.length)) fun y18 =>
  poly1305_Sum_4 N (0 : Int) y16.1.1 y18.1.1
  else none
noncomputable def poly1305_Sum_1 (N : Nat) (key_0 : (List UInt8)) (b_1 : (List UInt8)) (r_6 : (List UInt64)) (v_7 : (List UInt64)) : Option poly1305_Sum_R :=
  loopK N (fun y => poly1305_Sum_s2 N y.1.1 y.1.2.1 y.2.1 y.2.2.1) (fun (e : (((List UInt8) × Unit) × ((List UInt64) × Unit))) => poly1305_Sum_3 N e.1.1 e.2.1) ((key_0, b_1, ()), (r_6, v_7, ()))
noncomputable def poly1305_Sum (N : Nat) (key_0 : (List UInt8)) (b_1 : (List UInt8)) : Option poly1305_Sum_R :=
  bif (!(decide ((key_0.length : Int) = (32 : Int)))) then
    some ((false, ()), (([] : List UInt8), ()))
  else
    bif decide (0 ≤ (0 : Int)) && decide ((0 : Int) ≤ (16 : Int)) && decide ((16 : Int) ≤ (key_0.length : Int)) && true then
    Option.bind (poly1305_clamp N (cut key_0 0 16)) fun y4 =>
    Option.bind (poly1305_number N y4.2.1) fun y5 =>
    poly1305_Sum_1 N key_0 b_1 y5.1.1 (List.replicate 5 (0 : UInt64))
    else none
noncomputable def poly1305_Sum_C (N : Nat) : Ctx := ⟨114, G_tys, [(39, poly1305_clamp_ctr N), (38, poly1305_number_ctr N), (40, poly1305_limbs_add_ctr N), (41, poly1305_limbs_mul_ctr N), (42, poly1305_limbs_reduced_ctr N)], G_globs⟩
noncomputable def poly1305_Sum_S0 : Spec := ⟨[.val (.sl .u8), .val (.sl .u8), .ref 0 (.arr 5 .u64), .ref 1 (.arr 5 .u64)], [(.box 62 (.arr 5 .u64), .pos 2), (.box 62 (.arr 5 .u64), .pos 3)]⟩
noncomputable def poly1305_Sum_S1 : Spec := ⟨[.ref 0 (.arr 5 .u64), .ref 1 (.arr 5 .u64), .val .i64], [(.box 62 (.arr 5 .u64), .pos 0), (.box 62 (.arr 5 .u64), .pos 1)]⟩
noncomputable def poly1305_Sum_S2 : Spec := ⟨[.ref 0 (.arr 5 .u64), .val .i64], [(.box 62 (.arr 5 .u64), .pos 0)]⟩
noncomputable def poly1305_Sum_S3 : Spec := ⟨[.ref 0 (.arr 5 .u64), .row 1, .val .i64], [(.box 62 (.arr 5 .u64), .pos 0), (.row 5 .u8, .pos 1)]⟩
noncomputable def poly1305_Sum_S4 : Spec := ⟨[.row 0], [(.row 5 .u8, .pos 0)]⟩
noncomputable def poly1305_Sum_S5 : Spec := ⟨[.ref 0 (.arr 5 .u64)], [(.box 62 (.arr 5 .u64), .pos 0)]⟩
noncomputable def poly1305_Sum_S6 : Spec := ⟨[.val (.sl .u8), .ref 0 (.arr 5 .u64)], [(.box 62 (.arr 5 .u64), .pos 1)]⟩
noncomputable def poly1305_Sum_S7 : Spec := ⟨[.val (.sl .u8), .val (.sl .u8)], []⟩
noncomputable def poly1305_Sum_S8 : Spec := ⟨[.row 0, .val .bool], [(.row 5 .u8, .pos 0)]⟩
noncomputable def poly1305_Sum_K (_N : Nat) : XE → GS → Option poly1305_Sum_R := retK 0 [4, 5] [false, false] poly1305_Sum_S8
noncomputable def poly1305_Sum_L : List Code := (bodyOf (some Try.f15))
noncomputable def poly1305_Sum_L2 : List Code := (loopOf (poly1305_Sum_L[5]?))
noncomputable def poly1305_Sum_L5 : List Code := (loopOf (poly1305_Sum_L[9]?))
noncomputable def poly1305_Sum_L8 : List Code := (loopOf (poly1305_Sum_L[11]?))
noncomputable def poly1305_Sum_L11 : List Code := (loopOf (poly1305_Sum_L[14]?))
noncomputable def poly1305_Sum_K2 (N : Nat) : XE → GS → Option (Lo (((List UInt8) × (List UInt8) × Unit) × ((List UInt64) × (List UInt64) × Unit)) (((List UInt8) × Unit) × ((List UInt64) × Unit)) poly1305_Sum_R) := roundK (some 0) (fit 0 [0, 1, 6, 7] poly1305_Sum_S0) (fit 0 [0, 7] poly1305_Sum_S6) (poly1305_Sum_K N)
noncomputable def poly1305_Sum_K5 (N : Nat) : XE → GS → Option (Lo ((Int × Unit) × ((List UInt64) × (List UInt64) × Unit)) ((Unit) × ((List UInt64) × Unit)) poly1305_Sum_R) := roundK (some 2) (fit 0 [7, 10, 50] poly1305_Sum_S1) (fit 0 [7] poly1305_Sum_S5) (poly1305_Sum_K N)
noncomputable def poly1305_Sum_K8 (N : Nat) : XE → GS → Option (Lo ((Int × Unit) × ((List UInt64) × Unit)) ((Unit) × ((List UInt64) × Unit)) poly1305_Sum_R) := roundK (some 4) (fit 0 [7, 62] poly1305_Sum_S2) (fit 0 [7] poly1305_Sum_S5) (poly1305_Sum_K N)
noncomputable def poly1305_Sum_K11 (N : Nat) : XE → GS → Option (Lo ((Int × Unit) × ((List UInt64) × (List UInt8) × Unit)) ((Unit) × ((List UInt8) × Unit)) poly1305_Sum_R) := roundK (some 6) (fit 0 [7, 13, 81] poly1305_Sum_S3) (fit 0 [13] poly1305_Sum_S4) (poly1305_Sum_K N)
theorem poly1305_Sum_s2_b {E : Env} (N : Nat) (hb : Base Try.prog (poly1305_Sum_C N) E 0) : Blk Try.prog (poly1305_Sum_C N) E [0, 1, 6, 7] poly1305_Sum_S0 (poly1305_Sum_L2.drop 0) (fun y => poly1305_Sum_s2 N y.1.1 y.1.2.1 y.2.1 y.2.2.1) (poly1305_Sum_K2 N) :=
  Blk.chunkAt hb 3 (X := (poly1305_Sum_K2 N .normal)) (NxOk.end (by kernel_rfl)) rfl (fun x => by kernel_rfl)
theorem poly1305_Sum_s5_b {E : Env} (N : Nat) (hb : Base Try.prog (poly1305_Sum_C N) E 0) : Blk Try.prog (poly1305_Sum_C N) E [7, 10, 50] poly1305_Sum_S1 (poly1305_Sum_L5.drop 0) (fun y => poly1305_Sum_s5 N y.1.1 y.2.1 y.2.2.1) (poly1305_Sum_K5 N) :=
  Blk.chunkAt hb 4 (X := (poly1305_Sum_K5 N .normal)) (NxOk.end (by kernel_rfl)) rfl (fun x => by kernel_rfl)
theorem poly1305_Sum_s8_b {E : Env} (N : Nat) (hb : Base Try.prog (poly1305_Sum_C N) E 0) : Blk Try.prog (poly1305_Sum_C N) E [7, 62] poly1305_Sum_S2 (poly1305_Sum_L8.drop 0) (fun y => poly1305_Sum_s8 N y.1.1 y.2.1) (poly1305_Sum_K8 N) :=
  Blk.chunkAt hb 4 (X := (poly1305_Sum_K8 N .normal)) (NxOk.end (by kernel_rfl)) rfl (fun x => by kernel_rfl)
theorem poly1305_Sum_s11_b {E : Env} (N : Nat) (hb : Base Try.prog (poly1305_Sum_C N) E 0) : Blk Try.prog (poly1305_Sum_C N) E [7, 13, 81] poly1305_Sum_S3 (poly1305_Sum_L11.drop 0) (fun y => poly1305_Sum_s11 N y.1.1 y.2.1 y.2.2.1) (poly1305_Sum_K11 N) :=
  Blk.chunkAt hb 4 (X := (poly1305_Sum_K11 N .normal)) (NxOk.end (by kernel_rfl)) rfl (fun x => by kernel_rfl)
theorem poly1305_Sum_12_b {E : Env} (N : Nat) (hb : Base Try.prog (poly1305_Sum_C N) E 0) : Blk Try.prog (poly1305_Sum_C N) E [13] poly1305_Sum_S4 (poly1305_Sum_L.drop 15) (fun y => poly1305_Sum_12 N y.2.1) (poly1305_Sum_K N) :=
  Blk.chunkAt hb 2 (X := (poly1305_Sum_K N .normal)) (NxOk.end (by kernel_rfl)) rfl (fun x => by kernel_rfl)
theorem poly1305_Sum_10_b {E : Env} (N : Nat) (hb : Base Try.prog (poly1305_Sum_C N) E 0) : Blk Try.prog (poly1305_Sum_C N) E [7, 13, 81] poly1305_Sum_S3 (poly1305_Sum_L.drop 14) (fun y => poly1305_Sum_10 N y.1.1 y.2.1 y.2.2.1) (poly1305_Sum_K N) :=
  Blk.loopAt (Nf := N) (hns := [7, 13, 81]) (ans := [13]) (hc := poly1305_Sum_S3) (ac := poly1305_Sum_S4) (bid := 6) (step := (fun y => poly1305_Sum_s11 N y.1.1 y.2.1 y.2.2.1)) (J := (fun e => (goK 0 [13] poly1305_Sum_S4 (fun y => poly1305_Sum_12 N y.2.1)) (poly1305_Sum_S4.st [13] e))) hb (by kernel_rfl) (Blk.into (X := (goK 0 [13] poly1305_Sum_S4 (fun y => poly1305_Sum_12 N y.2.1))) (NxOk.go hb (poly1305_Sum_12_b N hb)) (fun x => by kernel_rfl)) (poly1305_Sum_s11_b N hb) (fun x => by kernel_rfl)
theorem poly1305_Sum_9_b {E : Env} (N : Nat) (hb : Base Try.prog (poly1305_Sum_C N) E 0) : Blk Try.prog (poly1305_Sum_C N) E [7] poly1305_Sum_S5 (poly1305_Sum_L.drop 12) (fun y => poly1305_Sum_9 N y.2.1) (poly1305_Sum_K N) :=
  Blk.chunkAt hb 2 (X := (goK 0 [7, 13, 81] poly1305_Sum_S3 (fun y => poly1305_Sum_10 N y.1.1 y.2.1 y.2.2.1))) (NxOk.go hb (poly1305_Sum_10_b N hb)) rfl (fun x => by kernel_rfl)
theorem poly1305_Sum_7_b {E : Env} (N : Nat) (hb : Base Try.prog (poly1305_Sum_C N) E 0) : Blk Try.prog (poly1305_Sum_C N) E [7, 62] poly1305_Sum_S2 (poly1305_Sum_L.drop 11) (fun y => poly1305_Sum_7 N y.1.1 y.2.1) (poly1305_Sum_K N) :=
  Blk.loopAt (Nf := N) (hns := [7, 62]) (ans := [7]) (hc := poly1305_Sum_S2) (ac := poly1305_Sum_S5) (bid := 4) (step := (fun y => poly1305_Sum_s8 N y.1.1 y.2.1)) (J := (fun e => (goK 0 [7] poly1305_Sum_S5 (fun y => poly1305_Sum_9 N y.2.1)) (poly1305_Sum_S5.st [7] e))) hb (by kernel_rfl) (Blk.into (X := (goK 0 [7] poly1305_Sum_S5 (fun y => poly1305_Sum_9 N y.2.1))) (NxOk.go hb (poly1305_Sum_9_b N hb)) (fun x => by kernel_rfl)) (poly1305_Sum_s8_b N hb) (fun x => by kernel_rfl)
theorem poly1305_Sum_6_b {E : Env} (N : Nat) (hb : Base Try.prog (poly1305_Sum_C N) E 0) : Blk Try.prog (poly1305_Sum_C N) E [7] poly1305_Sum_S5 (poly1305_Sum_L.drop 10) (fun y => poly1305_Sum_6 N y.2.1) (poly1305_Sum_K N) :=
  Blk.chunkAt hb 1 (X := (goK 0 [7, 62] poly1305_Sum_S2 (fun y => poly1305_Sum_7 N y.1.1 y.2.1))) (NxOk.go hb (poly1305_Sum_7_b N hb)) rfl (fun x => by kernel_rfl)
theorem poly1305_Sum_4_b {E : Env} (N : Nat) (hb : Base Try.prog (poly1305_Sum_C N) E 0) : Blk Try.prog (poly1305_Sum_C N) E [7, 10, 50] poly1305_Sum_S1 (poly1305_Sum_L.drop 9) (fun y => poly1305_Sum_4 N y.1.1 y.2.1 y.2.2.1) (poly1305_Sum_K N) :=
  Blk.loopAt (Nf := N) (hns := [7, 10, 50]) (ans := [7]) (hc := poly1305_Sum_S1) (ac := poly1305_Sum_S5) (bid := 2) (step := (fun y => poly1305_Sum_s5 N y.1.1 y.2.1 y.2.2.1)) (J := (fun e => (goK 0 [7] poly1305_Sum_S5 (fun y => poly1305_Sum_6 N y.2.1)) (poly1305_Sum_S5.st [7] e))) hb (by kernel_rfl) (Blk.into (X := (goK 0 [7] poly1305_Sum_S5 (fun y => poly1305_Sum_6 N y.2.1))) (NxOk.go hb (poly1305_Sum_6_b N hb)) (fun x => by kernel_rfl)) (poly1305_Sum_s5_b N hb) (fun x => by kernel_rfl)
theorem poly1305_Sum_3_b {E : Env} (N : Nat) (hb : Base Try.prog (poly1305_Sum_C N) E 0) : Blk Try.prog (poly1305_Sum_C N) E [0, 7] poly1305_Sum_S6 (poly1305_Sum_L.drop 6) (fun y => poly1305_Sum_3 N y.1.1 y.2.1) (poly1305_Sum_K N) :=
  Blk.chunkAt hb 3 (X := (goK 0 [7, 10, 50] poly1305_Sum_S1 (fun y => poly1305_Sum_4 N y.1.1 y.2.1 y.2.2.1))) (NxOk.go hb (poly1305_Sum_4_b N hb)) rfl (fun x => by kernel_rfl)
theorem poly1305_Sum_1_b {E : Env} (N : Nat) (hb : Base Try.prog (poly1305_Sum_C N) E 0) : Blk Try.prog (poly1305_Sum_C N) E [0, 1, 6, 7] poly1305_Sum_S0 (poly1305_Sum_L.drop 5) (fun y => poly1305_Sum_1 N y.1.1 y.1.2.1 y.2.1 y.2.2.1) (poly1305_Sum_K N) :=
  Blk.loopAt (Nf := N) (hns := [0, 1, 6, 7]) (ans := [0, 7]) (hc := poly1305_Sum_S0) (ac := poly1305_Sum_S6) (bid := 0) (step := (fun y => poly1305_Sum_s2 N y.1.1 y.1.2.1 y.2.1 y.2.2.1)) (J := (fun e => (goK 0 [0, 7] poly1305_Sum_S6 (fun y => poly1305_Sum_3 N y.1.1 y.2.1)) (poly1305_Sum_S6.st [0, 7] e))) hb (by kernel_rfl) (Blk.into (X := (goK 0 [0, 7] poly1305_Sum_S6 (fun y => poly1305_Sum_3 N y.1.1 y.2.1))) (NxOk.go hb (poly1305_Sum_3_b N hb)) (fun x => by kernel_rfl)) (poly1305_Sum_s2_b N hb) (fun x => by kernel_rfl)
theorem poly1305_Sum_b {E : Env} (N : Nat) (hb : Base Try.prog (poly1305_Sum_C N) E 0) : Blk Try.prog (poly1305_Sum_C N) E (List.range poly1305_Sum_S7.ks.length) poly1305_Sum_S7 (poly1305_Sum_L.drop 0) (fun y => poly1305_Sum N y.1.1 y.1.2.1) (poly1305_Sum_K N) :=
  Blk.chunkAt hb 5 (X := (goK 0 [0, 1, 6, 7] poly1305_Sum_S0 (fun y => poly1305_Sum_1 N y.1.1 y.1.2.1 y.2.1 y.2.2.1))) (NxOk.go hb (poly1305_Sum_1_b N hb)) rfl (fun x => by kernel_rfl)
noncomputable def poly1305_Sum_ctr (N : Nat) : Ctr := ⟨poly1305_Sum_S7, poly1305_Sum_S8.un [false, false], 0, (fun y => poly1305_Sum N y.1.1 y.1.2.1)⟩
theorem poly1305_Sum_ctrs (N : Nat) : CtrsOk Try.prog (poly1305_Sum_C N) := ctrs_of (Γ := poly1305_Sum_C N) (by
  intro p hp
  simp only [poly1305_Sum_C, List.mem_cons, List.not_mem_nil, or_false] at hp
  rcases hp with rfl | rfl | rfl | rfl | rfl
  · exact poly1305_clamp_ok N
  · exact poly1305_number_ok N
  · exact poly1305_limbs_add_ok N
  · exact poly1305_limbs_mul_ok N
  · exact poly1305_limbs_reduced_ok N)
theorem poly1305_Sum_ok (N : Nat) : Ctr.ok Try.prog G_globs 15 (poly1305_Sum_ctr N) :=
  ctr_fn (Γ := poly1305_Sum_C N) (rfit := poly1305_Sum_S8) (bs := [false, false]) (res := [4, 5]) (by kernel_rfl) (tys_ok G_tys_ok) (poly1305_Sum_ctrs N) Try.func15 (by kernel_rfl) (by kernel_rfl) Try.ntmps15 (by kernel_rfl) (by kernel_rfl) (by kernel_rfl) (by kernel_rfl) (fun E hb => poly1305_Sum_b N hb)
end Go.Proofs.Ytlamdneheilahaa
namespace Go.Proofs.Ytlamdneheilahaa
open Go
set_option maxRecDepth 100000
set_option linter.unusedVariables false
/-! ipsecgate/ipsecgateref01.Hex -/
abbrev ref01_Hex_R : Type := (((List UInt8) × Unit) × (Unit))
noncomputable def ref01_Hex_s2 (N : Nat) (b_0 : (List UInt8)) (i_4 : Int) (out_3 : (List UInt8)) : Option (Lo (((List UInt8) × Int × Unit) × ((List UInt8) × Unit)) ((Unit) × ((List UInt8) × Unit)) ref01_Hex_R) :=
  bif (decide (i_4 < (b_0.length : Int))) then
    bif inR i_4 b_0.length then
    let x3 := b_0.getD i_4.toNat (0 : UInt8)
    bif inR ((shr8 x3 4).toNat : Int) (([48, 49, 50, 51, 52, 53, 54, 55, 56, 57, 97, 98, 99, 100, 101, 102] : List UInt8).length) then
    let x5 := ([48, 49, 50, 51, 52, 53, 54, 55, 56, 57, 97, 98, 99, 100, 101, 102] : List UInt8).getD (((shr8 x3 4).toNat : Int).toNat) 0
    bif inR i_4 b_0.length then
    let x7 := (b_0.getD i_4.toNat (0 : UInt8)) &&& (15 : UInt8)
    bif inR (x7.toNat : Int) (([48, 49, 50, 51, 52, 53, 54, 55, 56, 57, 97, 98, 99, 100, 101, 102] : List UInt8).length) then
    let x8 := ([48, 49, 50, 51, 52, 53, 54, 55, 56, 57, 97, 98, 99, 100, 101, 102] : List UInt8).getD ((x7.toNat : Int).toNat) 0
    bif room (out_3.length + ([x5, x8] : List UInt8).length) 1 then
    some (.go ((b_0, (w64 (i_4 + (1 : Int))), ()), ((out_3 ++ ([x5, x8] : List UInt8)), ())))
    else none
    else none
    else none
    else none
    else none
  else
    some (.br ((()), (out_3, ())))
noncomputable def ref01_Hex_3 (N : Nat) (out_3 : (List UInt8)) : Option ref01_Hex_R :=
  some ((out_3, ()), (()))
noncomputable def ref01_Hex_1 (N : Nat) (b_0 : (List UInt8)) (i_4 : Int) (out_3 : (List UInt8)) : Option ref01_Hex_R :=
  loopK N (fun y => ref01_Hex_s2 N y.1.1 y.1.2.1 y.2.1) (fun (e : ((Unit) × ((List UInt8) × Unit))) => ref01_Hex_3 N e.2.1) ((b_0, i_4, ()), (out_3, ()))
noncomputable def ref01_Hex (N : Nat) (b_0 : (List UInt8)) : Option ref01_Hex_R :=
  ref01_Hex_1 N b_0 (0 : Int) ([] : List UInt8)
noncomputable def ref01_Hex_C (N : Nat) : Ctx := ⟨28, G_tys, [], G_globs⟩
noncomputable def ref01_Hex_S0 : Spec := ⟨[.val (.sl .u8), .row 0, .val .i64], [(.row 5 .u8, .pos 1)]⟩
noncomputable def ref01_Hex_S1 : Spec := ⟨[.row 0], [(.row 5 .u8, .pos 0)]⟩
noncomputable def ref01_Hex_S2 : Spec := ⟨[.val (.sl .u8)], []⟩
noncomputable def ref01_Hex_S3 : Spec := ⟨[.val .str], []⟩
noncomputable def ref01_Hex_K (_N : Nat) : XE → GS → Option ref01_Hex_R := retK 0 [2] [false] ref01_Hex_S3
noncomputable def ref01_Hex_L : List Code := (bodyOf (some Try.f36))
noncomputable def ref01_Hex_L2 : List Code := (loopOf (ref01_Hex_L[3]?))
noncomputable def ref01_Hex_K2 (N : Nat) : XE → GS → Option (Lo (((List UInt8) × Int × Unit) × ((List UInt8) × Unit)) ((Unit) × ((List UInt8) × Unit)) ref01_Hex_R) := roundK (some 0) (fit 0 [0, 3, 4] ref01_Hex_S0) (fit 0 [3] ref01_Hex_S1) (ref01_Hex_K N)
theorem ref01_Hex_s2_b {E : Env} (N : Nat) (hb : Base Try.prog (ref01_Hex_C N) E 0) : Blk Try.prog (ref01_Hex_C N) E [0, 3, 4] ref01_Hex_S0 (ref01_Hex_L2.drop 0) (fun y => ref01_Hex_s2 N y.1.1 y.1.2.1 y.2.1) (ref01_Hex_K2 N) :=
  Blk.chunkAt hb 4 (X := (ref01_Hex_K2 N .normal)) (NxOk.end (by kernel_rfl)) rfl (fun x => by kernel_rfl)
theorem ref01_Hex_3_b {E : Env} (N : Nat) (hb : Base Try.prog (ref01_Hex_C N) E 0) : Blk Try.prog (ref01_Hex_C N) E [3] ref01_Hex_S1 (ref01_Hex_L.drop 4) (fun y => ref01_Hex_3 N y.2.1) (ref01_Hex_K N) :=
  Blk.chunkAt hb 2 (X := (ref01_Hex_K N .normal)) (NxOk.end (by kernel_rfl)) rfl (fun x => by kernel_rfl)
theorem ref01_Hex_1_b {E : Env} (N : Nat) (hb : Base Try.prog (ref01_Hex_C N) E 0) : Blk Try.prog (ref01_Hex_C N) E [0, 3, 4] ref01_Hex_S0 (ref01_Hex_L.drop 3) (fun y => ref01_Hex_1 N y.1.1 y.1.2.1 y.2.1) (ref01_Hex_K N) :=
  Blk.loopAt (Nf := N) (hns := [0, 3, 4]) (ans := [3]) (hc := ref01_Hex_S0) (ac := ref01_Hex_S1) (bid := 0) (step := (fun y => ref01_Hex_s2 N y.1.1 y.1.2.1 y.2.1)) (J := (fun e => (goK 0 [3] ref01_Hex_S1 (fun y => ref01_Hex_3 N y.2.1)) (ref01_Hex_S1.st [3] e))) hb (by kernel_rfl) (Blk.into (X := (goK 0 [3] ref01_Hex_S1 (fun y => ref01_Hex_3 N y.2.1))) (NxOk.go hb (ref01_Hex_3_b N hb)) (fun x => by kernel_rfl)) (ref01_Hex_s2_b N hb) (fun x => by kernel_rfl)
theorem ref01_Hex_b {E : Env} (N : Nat) (hb : Base Try.prog (ref01_Hex_C N) E 0) : Blk Try.prog (ref01_Hex_C N) E (List.range ref01_Hex_S2.ks.length) ref01_Hex_S2 (ref01_Hex_L.drop 0) (fun y => ref01_Hex N y.1.1) (ref01_Hex_K N) :=
  Blk.chunkAt hb 3 (X := (goK 0 [0, 3, 4] ref01_Hex_S0 (fun y => ref01_Hex_1 N y.1.1 y.1.2.1 y.2.1))) (NxOk.go hb (ref01_Hex_1_b N hb)) rfl (fun x => by kernel_rfl)
noncomputable def ref01_Hex_ctr (N : Nat) : Ctr := ⟨ref01_Hex_S2, ref01_Hex_S3.un [false], 0, (fun y => ref01_Hex N y.1.1)⟩
theorem ref01_Hex_ctrs (N : Nat) : CtrsOk Try.prog (ref01_Hex_C N) := ctrs_nil rfl
theorem ref01_Hex_ok (N : Nat) : Ctr.ok Try.prog G_globs 36 (ref01_Hex_ctr N) :=
  ctr_fn (Γ := ref01_Hex_C N) (rfit := ref01_Hex_S3) (bs := [false]) (res := [2]) (by kernel_rfl) (tys_ok G_tys_ok) (ref01_Hex_ctrs N) Try.func36 (by kernel_rfl) (by kernel_rfl) Try.ntmps36 (by kernel_rfl) (by kernel_rfl) (by kernel_rfl) (by kernel_rfl) (fun E hb => ref01_Hex_b N hb)
end Go.Proofs.Ytlamdneheilahaa
namespace Go.Proofs.Ytlamdneheilahaa
open Go
set_option maxRecDepth 100000
set_option linter.unusedVariables false
/-! ipsecgate/ipsecgatelaw11.awake -/
abbrev law11_awake_R : Type := ((Bool × Unit) × (Unit))
noncomputable def law11_awake (N : Nat) : Option law11_awake_R :=
  Option.bind (make_Hex N ([56, 53, 100, 54, 98, 101, 55, 56, 53, 55, 53, 53, 54, 100, 51, 51, 55, 102, 52, 52, 53, 50, 102, 101, 52, 50, 100, 53, 48, 54, 97, 56, 48, 49, 48, 51, 56, 48, 56, 97, 102, 98, 48, 100, 98, 50, 102, 100, 52, 97, 98, 102, 102, 54, 97, 102, 52, 49, 52, 57, 102, 53, 49, 98] : List UInt8)) fun y1 =>
  Option.bind (poly1305_Sum N y1.2.1 ([(67 : UInt8), (114 : UInt8), (121 : UInt8), (112 : UInt8), (116 : UInt8), (111 : UInt8), (103 : UInt8), (114 : UInt8), (97 : UInt8), (112 : UInt8), (104 : UInt8), (105 : UInt8), (99 : UInt8), (32 : UInt8), (70 : UInt8), (111 : UInt8), (114 : UInt8), (117 : UInt8), (109 : UInt8), (32 : UInt8), (82 : UInt8), (101 : UInt8), (115 : UInt8), (101 : UInt8), (97 : UInt8), (114 : UInt8), (99 : UInt8), (104 : UInt8), (32 : UInt8), (71 : UInt8), (114 : UInt8), (111 : UInt8), (117 : UInt8), (112 : UInt8)] : List UInt8)) fun y2 =>
  bif y2.1.1 then
    Option.bind (ref01_Hex N y2.2.1) fun y3 =>
    some (((decide (y3.1.1 = ([97, 56, 48, 54, 49, 100, 99, 49, 51, 48, 53, 49, 51, 54, 99, 54, 99, 50, 50, 98, 56, 98, 97, 102, 48, 99, 48, 49, 50, 55, 97, 57] : List UInt8))), ()), (()))
  else
    some ((false, ()), (()))
noncomputable def law11_awake_C (N : Nat) : Ctx := ⟨18, G_tys, [(35, make_Hex_ctr N), (15, poly1305_Sum_ctr N), (36, ref01_Hex_ctr N)], G_globs⟩
noncomputable def law11_awake_S0 : Spec := ⟨[], []⟩
noncomputable def law11_awake_S1 : Spec := ⟨[.val .bool], []⟩
noncomputable def law11_awake_K (_N : Nat) : XE → GS → Option law11_awake_R := retK 0 [0] [false] law11_awake_S1
noncomputable def law11_awake_L : List Code := (bodyOf (some Try.f12))
theorem law11_awake_b {E : Env} (N : Nat) (hb : Base Try.prog (law11_awake_C N) E 0) : Blk Try.prog (law11_awake_C N) E (List.range law11_awake_S0.ks.length) law11_awake_S0 (law11_awake_L.drop 0) (fun y => law11_awake N) (law11_awake_K N) :=
  Blk.chunkAt hb 5 (X := (law11_awake_K N .normal)) (NxOk.end (by kernel_rfl)) rfl (fun x => by kernel_rfl)
noncomputable def law11_awake_ctr (N : Nat) : Ctr := ⟨law11_awake_S0, law11_awake_S1.un [false], 0, (fun y => law11_awake N)⟩
theorem law11_awake_ctrs (N : Nat) : CtrsOk Try.prog (law11_awake_C N) := ctrs_of (Γ := law11_awake_C N) (by
  intro p hp
  simp only [law11_awake_C, List.mem_cons, List.not_mem_nil, or_false] at hp
  rcases hp with rfl | rfl | rfl
  · exact make_Hex_ok N
  · exact poly1305_Sum_ok N
  · exact ref01_Hex_ok N)
theorem law11_awake_ok (N : Nat) : Ctr.ok Try.prog G_globs 12 (law11_awake_ctr N) :=
  ctr_fn (Γ := law11_awake_C N) (rfit := law11_awake_S1) (bs := [false]) (res := [0]) (by kernel_rfl) (tys_ok G_tys_ok) (law11_awake_ctrs N) Try.func12 (by kernel_rfl) (by kernel_rfl) Try.ntmps12 (by kernel_rfl) (by kernel_rfl) (by kernel_rfl) (by kernel_rfl) (fun E hb => law11_awake_b N hb)
end Go.Proofs.Ytlamdneheilahaa
namespace Go.Proofs.Ytlamdneheilahaa
open Go
set_option maxRecDepth 100000
set_option linter.unusedVariables false
/-! ipsecgate/ipsecgatemake.New -/
abbrev make_New_R : Type := ((Unit) × (((List UInt8) × (Int × Unit)) × Unit))
noncomputable def make_New_1 (N : Nat) (list_0 : (List UInt8)) : Option make_New_R :=
  some ((()), ((list_0, (0 : Int), ()), ()))
noncomputable def make_New (N : Nat) (list_0 : (List UInt8)) (most_1 : Int) : Option make_New_R :=
  bif (decide (most_1 < (list_0.length : Int))) then
    bif decide (0 ≤ (0 : Int)) && decide ((0 : Int) ≤ most_1) && decide (most_1 ≤ (list_0.length : Int)) && true then
    make_New_1 N (cut list_0 0 most_1.toNat)
    else none
  else
    make_New_1 N list_0
noncomputable def make_New_C (N : Nat) : Ctx := ⟨15, G_tys, [], G_globs⟩
noncomputable def make_New_S0 : Spec := ⟨[.val (.sl .u8)], []⟩
noncomputable def make_New_S1 : Spec := ⟨[.val (.sl .u8), .val .i64], []⟩
noncomputable def make_New_S2 : Spec := ⟨[.ref 0 (.pair (.sl .u8) (.pair .i64 .unit))], [(.box 59 (.pair (.sl .u8) (.pair .i64 .unit)), .pos 0)]⟩
noncomputable def make_New_K (_N : Nat) : XE → GS → Option make_New_R := retK 0 [4] [false] make_New_S2
noncomputable def make_New_L : List Code := (bodyOf (some Try.f13))
theorem make_New_1_b {E : Env} (N : Nat) (hb : Base Try.prog (make_New_C N) E 0) : Blk Try.prog (make_New_C N) E [0] make_New_S0 (make_New_L.drop 3) (fun y => make_New_1 N y.1.1) (make_New_K N) :=
  Blk.chunkAt hb 2 (X := (make_New_K N .normal)) (NxOk.end (by kernel_rfl)) rfl (fun x => by kernel_rfl)
theorem make_New_b {E : Env} (N : Nat) (hb : Base Try.prog (make_New_C N) E 0) : Blk Try.prog (make_New_C N) E (List.range make_New_S1.ks.length) make_New_S1 (make_New_L.drop 0) (fun y => make_New N y.1.1 y.1.2.1) (make_New_K N) :=
  Blk.chunkAt hb 3 (X := (goK 0 [0] make_New_S0 (fun y => make_New_1 N y.1.1))) (NxOk.go hb (make_New_1_b N hb)) rfl (fun x => by kernel_rfl)
noncomputable def make_New_ctr (N : Nat) : Ctr := ⟨make_New_S1, make_New_S2.un [false], 0, (fun y => make_New N y.1.1 y.1.2.1)⟩
theorem make_New_ctrs (N : Nat) : CtrsOk Try.prog (make_New_C N) := ctrs_nil rfl
theorem make_New_ok (N : Nat) : Ctr.ok Try.prog G_globs 13 (make_New_ctr N) :=
  ctr_fn (Γ := make_New_C N) (rfit := make_New_S2) (bs := [false]) (res := [4]) (by kernel_rfl) (tys_ok G_tys_ok) (make_New_ctrs N) Try.func13 (by kernel_rfl) (by kernel_rfl) Try.ntmps13 (by kernel_rfl) (by kernel_rfl) (by kernel_rfl) (by kernel_rfl) (fun E hb => make_New_b N hb)
end Go.Proofs.Ytlamdneheilahaa
namespace Go.Proofs.Ytlamdneheilahaa
open Go
set_option maxRecDepth 100000
set_option linter.unusedVariables false
/-! (*ipsecgate/ipsecgatemake.Codes).Left -/
abbrev make_Codes_Left_R : Type := ((Bool × Unit) × (Unit))
noncomputable def make_Codes_Left (N : Nat) (c_0 : ((List UInt8) × (Int × Unit))) : Option make_Codes_Left_R :=
  some (((decide (c_0.2.1 < (c_0.1.length : Int))), ()), (()))
noncomputable def make_Codes_Left_C (N : Nat) : Ctx := ⟨13, G_tys, [], G_globs⟩
noncomputable def make_Codes_Left_S0 : Spec := ⟨[.fp (.pair (.sl .u8) (.pair .i64 .unit))], []⟩
noncomputable def make_Codes_Left_S1 : Spec := ⟨[.val .bool], []⟩
noncomputable def make_Codes_Left_K (_N : Nat) : XE → GS → Option make_Codes_Left_R := retK 0 [2] [false] make_Codes_Left_S1
noncomputable def make_Codes_Left_L : List Code := (bodyOf (some Try.f56))
theorem make_Codes_Left_b {E : Env} (N : Nat) (hb : Base Try.prog (make_Codes_Left_C N) E 0) : Blk Try.prog (make_Codes_Left_C N) E (List.range make_Codes_Left_S0.ks.length) make_Codes_Left_S0 (make_Codes_Left_L.drop 0) (fun y => make_Codes_Left N y.1.1) (make_Codes_Left_K N) :=
  Blk.chunkAt hb 3 (X := (make_Codes_Left_K N .normal)) (NxOk.end (by kernel_rfl)) rfl (fun x => by kernel_rfl)
noncomputable def make_Codes_Left_ctr (N : Nat) : Ctr := ⟨make_Codes_Left_S0, make_Codes_Left_S1.un [false], 0, (fun y => make_Codes_Left N y.1.1)⟩
theorem make_Codes_Left_ctrs (N : Nat) : CtrsOk Try.prog (make_Codes_Left_C N) := ctrs_nil rfl
theorem make_Codes_Left_ok (N : Nat) : Ctr.ok Try.prog G_globs 56 (make_Codes_Left_ctr N) :=
  ctr_fn (Γ := make_Codes_Left_C N) (rfit := make_Codes_Left_S1) (bs := [false]) (res := [2]) (by kernel_rfl) (tys_ok G_tys_ok) (make_Codes_Left_ctrs N) Try.func56 (by kernel_rfl) (by kernel_rfl) Try.ntmps56 (by kernel_rfl) (by kernel_rfl) (by kernel_rfl) (by kernel_rfl) (fun E hb => make_Codes_Left_b N hb)
end Go.Proofs.Ytlamdneheilahaa
namespace Go.Proofs.Ytlamdneheilahaa
open Go
set_option maxRecDepth 100000
set_option linter.unusedVariables false
/-! (*ipsecgate/ipsecgatemake.Codes).Next -/
abbrev make_Codes_Next_R : Type := ((Int × Unit) × (((List UInt8) × (Int × Unit)) × Unit))
noncomputable def make_Codes_Next (N : Nat) (n_1 : Int) (c_0 : ((List UInt8) × (Int × Unit))) : Option make_Codes_Next_R :=
  Option.bind (make_Codes_Left N c_0) fun y1 =>
  bif (!y1.1.1) then
    some (((0 : Int), ()), (c_0, ()))
  else
    let x3 := w64 (c_0.2.1 + (1 : Int))
    let x4 := w64 (x3 - (1 : Int))
    bif inR x4 c_0.1.length then
    bif !(decide (n_1 = 0)) then
    some (((((c_0.1.getD x4.toNat (0 : UInt8)).toNat : Int).tmod n_1), ()), ((c_0.1, x3, ()), ()))
    else none
    else none
noncomputable def make_Codes_Next_C (N : Nat) : Ctx := ⟨29, G_tys, [(56, make_Codes_Left_ctr N)], G_globs⟩
noncomputable def make_Codes_Next_S0 : Spec := ⟨[.ref 0 (.pair (.sl .u8) (.pair .i64 .unit)), .val .i64], [(.box 59 (.pair (.sl .u8) (.pair .i64 .unit)), .pos 0)]⟩
noncomputable def make_Codes_Next_S1 : Spec := ⟨[.val .i64], [(.box 59 (.pair (.sl .u8) (.pair .i64 .unit)), .fix 0)]⟩
noncomputable def make_Codes_Next_K (_N : Nat) : XE → GS → Option make_Codes_Next_R := retK 1 [4] [false] make_Codes_Next_S1
noncomputable def make_Codes_Next_L : List Code := (bodyOf (some Try.f37))
theorem make_Codes_Next_b {E : Env} (N : Nat) (hb : Base Try.prog (make_Codes_Next_C N) E 1) : Blk Try.prog (make_Codes_Next_C N) E (List.range make_Codes_Next_S0.ks.length) make_Codes_Next_S0 (make_Codes_Next_L.drop 0) (fun y => make_Codes_Next N y.1.1 y.2.1) (make_Codes_Next_K N) :=
  Blk.chunkAt hb 6 (X := (make_Codes_Next_K N .normal)) (NxOk.end (by kernel_rfl)) rfl (fun x => by kernel_rfl)
noncomputable def make_Codes_Next_ctr (N : Nat) : Ctr := ⟨make_Codes_Next_S0, make_Codes_Next_S1.un [false], 1, (fun y => make_Codes_Next N y.1.1 y.2.1)⟩
theorem make_Codes_Next_ctrs (N : Nat) : CtrsOk Try.prog (make_Codes_Next_C N) := ctrs_of (Γ := make_Codes_Next_C N) (by
  intro p hp
  simp only [make_Codes_Next_C, List.mem_cons, List.not_mem_nil, or_false] at hp
  rcases hp with rfl
  · exact make_Codes_Left_ok N)
theorem make_Codes_Next_ok (N : Nat) : Ctr.ok Try.prog G_globs 37 (make_Codes_Next_ctr N) :=
  ctr_fn (Γ := make_Codes_Next_C N) (rfit := make_Codes_Next_S1) (bs := [false]) (res := [4]) (by kernel_rfl) (tys_ok G_tys_ok) (make_Codes_Next_ctrs N) Try.func37 (by kernel_rfl) (by kernel_rfl) Try.ntmps37 (by kernel_rfl) (by kernel_rfl) (by kernel_rfl) (by kernel_rfl) (fun E hb => make_Codes_Next_b N hb)
end Go.Proofs.Ytlamdneheilahaa
namespace Go.Proofs.Ytlamdneheilahaa
open Go
set_option maxRecDepth 100000
set_option linter.unusedVariables false
/-! (*ipsecgate/ipsecgatemake.Codes).Bytes -/
abbrev make_Codes_Bytes_R : Type := ((Unit) × (((List UInt8) × (Int × Unit)) × (List UInt8) × Unit))
noncomputable def make_Codes_Bytes_s2 (N : Nat) (n_1 : Int) (i_6 : Int) (p0 : ((List UInt8) × (Int × Unit))) (out_5 : (List UInt8)) : Option (Lo ((Int × Int × Unit) × (((List UInt8) × (Int × Unit)) × (List UInt8) × Unit)) ((Unit) × (((List UInt8) × (Int × Unit)) × (List UInt8) × Unit)) make_Codes_Bytes_R) :=
  bif (decide (i_6 < n_1)) then
    Option.bind (make_Codes_Next N (256 : Int) p0) fun y2 =>
    let x4 := w64 (y2.1.1 + (w64 (i_6 * (7 : Int))))
    bif room (out_5.length + ([iu8 x4] : List UInt8).length) 1 then
    some (.go ((n_1, (w64 (i_6 + (1 : Int))), ()), (y2.2.1, (out_5 ++ ([iu8 x4] : List UInt8)), ())))
    else none
  else
    some (.br ((()), (p0, out_5, ())))
noncomputable def make_Codes_Bytes_3 (N : Nat) (p0 : ((List UInt8) × (Int × Unit))) (out_5 : (List UInt8)) : Option make_Codes_Bytes_R :=
  some ((()), (p0, out_5, ()))
noncomputable def make_Codes_Bytes_1 (N : Nat) (n_1 : Int) (i_6 : Int) (p0 : ((List UInt8) × (Int × Unit))) (out_5 : (List UInt8)) : Option make_Codes_Bytes_R :=
  loopK N (fun y => make_Codes_Bytes_s2 N y.1.1 y.1.2.1 y.2.1 y.2.2.1) (fun (e : ((Unit) × (((List UInt8) × (Int × Unit)) × (List UInt8) × Unit))) => make_Codes_Bytes_3 N e.2.1 e.2.2.1) ((n_1, i_6, ()), (p0, out_5, ()))
noncomputable def make_Codes_Bytes (N : Nat) (n_1 : Int) (c_0 : ((List UInt8) × (Int × Unit))) : Option make_Codes_Bytes_R :=
  make_Codes_Bytes_1 N n_1 (0 : Int) c_0 ([] : List UInt8)
noncomputable def make_Codes_Bytes_C (N : Nat) : Ctx := ⟨22, G_tys, [(37, make_Codes_Next_ctr N)], G_globs⟩
noncomputable def make_Codes_Bytes_S0 : Spec := ⟨[.ref 0 (.pair (.sl .u8) (.pair .i64 .unit)), .val .i64, .row 1, .val .i64], [(.box 59 (.pair (.sl .u8) (.pair .i64 .unit)), .fix 0), (.row 5 .u8, .pos 2)]⟩
noncomputable def make_Codes_Bytes_S1 : Spec := ⟨[.row 1], [(.box 59 (.pair (.sl .u8) (.pair .i64 .unit)), .fix 0), (.row 5 .u8, .pos 0)]⟩
noncomputable def make_Codes_Bytes_S2 : Spec := ⟨[.ref 0 (.pair (.sl .u8) (.pair .i64 .unit)), .val .i64], [(.box 59 (.pair (.sl .u8) (.pair .i64 .unit)), .pos 0)]⟩
noncomputable def make_Codes_Bytes_K (_N : Nat) : XE → GS → Option make_Codes_Bytes_R := retK 1 [4] [false] make_Codes_Bytes_S1
noncomputable def make_Codes_Bytes_L : List Code := (bodyOf (some Try.f14))
noncomputable def make_Codes_Bytes_L2 : List Code := (loopOf (make_Codes_Bytes_L[3]?))
noncomputable def make_Codes_Bytes_K2 (N : Nat) : XE → GS → Option (Lo ((Int × Int × Unit) × (((List UInt8) × (Int × Unit)) × (List UInt8) × Unit)) ((Unit) × (((List UInt8) × (Int × Unit)) × (List UInt8) × Unit)) make_Codes_Bytes_R) := roundK (some 0) (fit 1 [0, 1, 5, 6] make_Codes_Bytes_S0) (fit 1 [5] make_Codes_Bytes_S1) (make_Codes_Bytes_K N)
theorem make_Codes_Bytes_s2_b {E : Env} (N : Nat) (hb : Base Try.prog (make_Codes_Bytes_C N) E 1) : Blk Try.prog (make_Codes_Bytes_C N) E [0, 1, 5, 6] make_Codes_Bytes_S0 (make_Codes_Bytes_L2.drop 0) (fun y => make_Codes_Bytes_s2 N y.1.1 y.1.2.1 y.2.1 y.2.2.1) (make_Codes_Bytes_K2 N) :=
  Blk.chunkAt hb 4 (X := (make_Codes_Bytes_K2 N .normal)) (NxOk.end (by kernel_rfl)) rfl (fun x => by kernel_rfl)
theorem make_Codes_Bytes_3_b {E : Env} (N : Nat) (hb : Base Try.prog (make_Codes_Bytes_C N) E 1) : Blk Try.prog (make_Codes_Bytes_C N) E [5] make_Codes_Bytes_S1 (make_Codes_Bytes_L.drop 4) (fun y => make_Codes_Bytes_3 N y.2.1 y.2.2.1) (make_Codes_Bytes_K N) :=
  Blk.chunkAt hb 2 (X := (make_Codes_Bytes_K N .normal)) (NxOk.end (by kernel_rfl)) rfl (fun x => by kernel_rfl)
theorem make_Codes_Bytes_1_b {E : Env} (N : Nat) (hb : Base Try.prog (make_Codes_Bytes_C N) E 1) : Blk Try.prog (make_Codes_Bytes_C N) E [0, 1, 5, 6] make_Codes_Bytes_S0 (make_Codes_Bytes_L.drop 3) (fun y => make_Codes_Bytes_1 N y.1.1 y.1.2.1 y.2.1 y.2.2.1) (make_Codes_Bytes_K N) :=
  Blk.loopAt (Nf := N) (hns := [0, 1, 5, 6]) (ans := [5]) (hc := make_Codes_Bytes_S0) (ac := make_Codes_Bytes_S1) (bid := 0) (step := (fun y => make_Codes_Bytes_s2 N y.1.1 y.1.2.1 y.2.1 y.2.2.1)) (J := (fun e => (goK 1 [5] make_Codes_Bytes_S1 (fun y => make_Codes_Bytes_3 N y.2.1 y.2.2.1)) (make_Codes_Bytes_S1.st [5] e))) hb (by kernel_rfl) (Blk.into (X := (goK 1 [5] make_Codes_Bytes_S1 (fun y => make_Codes_Bytes_3 N y.2.1 y.2.2.1))) (NxOk.go hb (make_Codes_Bytes_3_b N hb)) (fun x => by kernel_rfl)) (make_Codes_Bytes_s2_b N hb) (fun x => by kernel_rfl)
theorem make_Codes_Bytes_b {E : Env} (N : Nat) (hb : Base Try.prog (make_Codes_Bytes_C N) E 1) : Blk Try.prog (make_Codes_Bytes_C N) E (List.range make_Codes_Bytes_S2.ks.length) make_Codes_Bytes_S2 (make_Codes_Bytes_L.drop 0) (fun y => make_Codes_Bytes N y.1.1 y.2.1) (make_Codes_Bytes_K N) :=
  Blk.chunkAt hb 3 (X := (goK 1 [0, 1, 5, 6] make_Codes_Bytes_S0 (fun y => make_Codes_Bytes_1 N y.1.1 y.1.2.1 y.2.1 y.2.2.1))) (NxOk.go hb (make_Codes_Bytes_1_b N hb)) rfl (fun x => by kernel_rfl)
noncomputable def make_Codes_Bytes_ctr (N : Nat) : Ctr := ⟨make_Codes_Bytes_S2, make_Codes_Bytes_S1.un [false], 1, (fun y => make_Codes_Bytes N y.1.1 y.2.1)⟩
theorem make_Codes_Bytes_ctrs (N : Nat) : CtrsOk Try.prog (make_Codes_Bytes_C N) := ctrs_of (Γ := make_Codes_Bytes_C N) (by
  intro p hp
  simp only [make_Codes_Bytes_C, List.mem_cons, List.not_mem_nil, or_false] at hp
  rcases hp with rfl
  · exact make_Codes_Next_ok N)
theorem make_Codes_Bytes_ok (N : Nat) : Ctr.ok Try.prog G_globs 14 (make_Codes_Bytes_ctr N) :=
  ctr_fn (Γ := make_Codes_Bytes_C N) (rfit := make_Codes_Bytes_S1) (bs := [false]) (res := [4]) (by kernel_rfl) (tys_ok G_tys_ok) (make_Codes_Bytes_ctrs N) Try.func14 (by kernel_rfl) (by kernel_rfl) Try.ntmps14 (by kernel_rfl) (by kernel_rfl) (by kernel_rfl) (by kernel_rfl) (fun E hb => make_Codes_Bytes_b N hb)
end Go.Proofs.Ytlamdneheilahaa
namespace Go.Proofs.Ytlamdneheilahaa
open Go
set_option maxRecDepth 100000
set_option linter.unusedVariables false
/-! ipsecgate/ipsecgatelaw11.Poly1305One -/
abbrev law11_Poly1305One_R : Type := ((Bool × Unit) × (Unit))
noncomputable def law11_Poly1305One_s9 (N : Nat) (b_1 : (List UInt8)) (at_10 : Int) (n_11 : Int) (i_12 : Int) (s_5 : (List UInt8)) (t_7 : (List UInt8)) (sum_9 : (List Int)) : Option (Lo (((List UInt8) × Int × Int × Int × Unit) × ((List UInt8) × (List UInt8) × (List Int) × Unit)) (((List UInt8) × Int × Int × Unit) × ((List UInt8) × (List UInt8) × (List Int) × Unit)) (Lo (((List UInt8) × Int × Unit) × ((List UInt8) × (List UInt8) × (List Int) × Unit)) ((Unit) × ((List UInt8) × (List UInt8) × (List Int) × Unit)) law11_Poly1305One_R)) :=
  bif (decide (i_12 < n_11)) then
    bif inR i_12 18 then
    let x19 := w64 (at_10 + i_12)
    bif inR x19 b_1.length then
    bif inR i_12 18 then
    some (.go ((b_1, at_10, n_11, (w64 (i_12 + (1 : Int))), ()), (s_5, t_7, (sum_9.set i_12.toNat (w64 ((sum_9.getD i_12.toNat (0 : Int)) + ((b_1.getD x19.toNat (0 : UInt8)).toNat : Int)))), ())))
    else none
    else none
    else none
  else
    some (.br ((b_1, at_10, n_11, ()), (s_5, t_7, sum_9, ())))
noncomputable def law11_Poly1305One_11 (N : Nat) (b_1 : (List UInt8)) (at_10 : Int) (s_5 : (List UInt8)) (t_7 : (List UInt8)) (sum_9 : (List Int)) : Option (Lo (((List UInt8) × Int × Unit) × ((List UInt8) × (List UInt8) × (List Int) × Unit)) ((Unit) × ((List UInt8) × (List UInt8) × (List Int) × Unit)) law11_Poly1305One_R) :=
  some (.go ((b_1, (w64 (at_10 + (16 : Int))), ()), (s_5, t_7, sum_9, ())))
noncomputable def law11_Poly1305One_10 (N : Nat) (b_1 : (List UInt8)) (at_10 : Int) (n_11 : Int) (s_5 : (List UInt8)) (t_7 : (List UInt8)) (sum_9 : (List Int)) : Option (Lo (((List UInt8) × Int × Unit) × ((List UInt8) × (List UInt8) × (List Int) × Unit)) ((Unit) × ((List UInt8) × (List UInt8) × (List Int) × Unit)) law11_Poly1305One_R) :=
  bif inR n_11 18 then
  bif inR n_11 18 then
  law11_Poly1305One_11 N b_1 at_10 s_5 t_7 (sum_9.set n_11.toNat (w64 ((sum_9.getD n_11.toNat (0 : Int)) + (1 : Int))))
  else none
  else none
noncomputable def law11_Poly1305One_8 (N : Nat) (b_1 : (List UInt8)) (at_10 : Int) (n_11 : Int) (i_12 : Int) (s_5 : (List UInt8)) (t_7 : (List UInt8)) (sum_9 : (List Int)) : Option (Lo (((List UInt8) × Int × Unit) × ((List UInt8) × (List UInt8) × (List Int) × Unit)) ((Unit) × ((List UInt8) × (List UInt8) × (List Int) × Unit)) law11_Poly1305One_R) :=
  loopK N (fun y => law11_Poly1305One_s9 N y.1.1 y.1.2.1 y.1.2.2.1 y.1.2.2.2.1 y.2.1 y.2.2.1 y.2.2.2.1) (fun (e : (((List UInt8) × Int × Int × Unit) × ((List UInt8) × (List UInt8) × (List Int) × Unit))) => law11_Poly1305One_10 N e.1.1 e.1.2.1 e.1.2.2.1 e.2.1 e.2.2.1 e.2.2.2.1) ((b_1, at_10, n_11, i_12, ()), (s_5, t_7, sum_9, ()))
noncomputable def law11_Poly1305One_7 (N : Nat) (b_1 : (List UInt8)) (at_10 : Int) (s_5 : (List UInt8)) (t_7 : (List UInt8)) (sum_9 : (List Int)) : Option (Lo (((List UInt8) × Int × Unit) × ((List UInt8) × (List UInt8) × (List Int) × Unit)) ((Unit) × ((List UInt8) × (List UInt8) × (List Int) × Unit)) law11_Poly1305One_R) :=
  let x15 := w64 ((b_1.length : Int) - at_10)
  law11_Poly1305One_8 N b_1 at_10 (bif decide (x15 < (16 : Int)) then x15 else (16 : Int)) (0 : Int) s_5 t_7 sum_9
noncomputable def law11_Poly1305One_5 (N : Nat) (b_1 : (List UInt8)) (at_10 : Int) (s_5 : (List UInt8)) (t_7 : (List UInt8)) (sum_9 : (List Int)) : Option (Lo (((List UInt8) × Int × Unit) × ((List UInt8) × (List UInt8) × (List Int) × Unit)) ((Unit) × ((List UInt8) × (List UInt8) × (List Int) × Unit)) law11_Poly1305One_R) :=
  law11_Poly1305One_7 N b_1 at_10 s_5 t_7 sum_9
noncomputable def law11_Poly1305One_s4 (N : Nat) (b_1 : (List UInt8)) (at_10 : Int) (s_5 : (List UInt8)) (t_7 : (List UInt8)) (sum_9 : (List Int)) : Option (Lo (((List UInt8) × Int × Unit) × ((List UInt8) × (List UInt8) × (List Int) × Unit)) ((Unit) × ((List UInt8) × (List UInt8) × (List Int) × Unit)) law11_Poly1305One_R) :=
  bif (decide (at_10 < (b_1.length : Int))) then
    law11_Poly1305One_5 N b_1 at_10 s_5 t_7 sum_9
  else
    some (.br ((()), (s_5, t_7, sum_9, ())))
noncomputable def law11_Poly1305One_s14 (N : Nat) (i_13 : Int) (s_5 : (List UInt8)) (t_7 : (List UInt8)) (sum_9 : (List Int)) : Option (Lo ((Int × Unit) × ((List UInt8) × (List UInt8) × (List Int) × Unit)) ((Unit) × ((List UInt8) × (List UInt8) × (List Int) × Unit)) law11_Poly1305One_R) :=
  bif (decide (i_13 < (17 : Int))) then
    let x30 := w64 (i_13 + (1 : Int))
    bif inR x30 18 then
    bif inR i_13 18 then
    bif inR x30 18 then
    let x35 := (sum_9.set x30.toNat (w64 ((sum_9.getD x30.toNat (0 : Int)) + (shrI (sum_9.getD i_13.toNat (0 : Int)) 8))))
    bif inR i_13 18 then
    bif inR i_13 18 then
    some (.go (((w64 (i_13 + (1 : Int))), ()), (s_5, t_7, (x35.set i_13.toNat (and64 (x35.getD i_13.toNat (0 : Int)) (255 : Int))), ())))
    else none
    else none
    else none
    else none
    else none
  else
    some (.br ((()), (s_5, t_7, sum_9, ())))
noncomputable def law11_Poly1305One_s17 (N : Nat) (i_15 : Int) (s_5 : (List UInt8)) (t_7 : (List UInt8)) (sum_9 : (List Int)) (next_14 : (List Int)) : Option (Lo ((Int × Unit) × ((List UInt8) × (List UInt8) × (List Int) × (List Int) × Unit)) ((Unit) × ((List UInt8) × (List UInt8) × (List Int) × (List Int) × Unit)) law11_Poly1305One_R) :=
  bif (decide (i_15 < (17 : Int))) then
    let x44 := w64 (i_15 + (1 : Int))
    bif inR x44 18 then
    bif inR i_15 18 then
    bif inR x44 18 then
    let x49 := (next_14.set x44.toNat (w64 ((next_14.getD x44.toNat (0 : Int)) + (shrI (next_14.getD i_15.toNat (0 : Int)) 8))))
    bif inR i_15 18 then
    bif inR i_15 18 then
    some (.go (((w64 (i_15 + (1 : Int))), ()), (s_5, t_7, sum_9, (x49.set i_15.toNat (and64 (x49.getD i_15.toNat (0 : Int)) (255 : Int))), ())))
    else none
    else none
    else none
    else none
    else none
  else
    some (.br ((()), (s_5, t_7, sum_9, next_14, ())))
noncomputable def law11_Poly1305One_s21 (N : Nat) (carry_16 : Int) (i_17 : Int) (s_5 : (List UInt8)) (t_7 : (List UInt8)) (sum_9 : (List Int)) : Option (Lo ((Int × Int × Unit) × ((List UInt8) × (List UInt8) × (List Int) × Unit)) ((Unit) × (Unit)) law11_Poly1305One_R) :=
  bif (decide (i_17 < (16 : Int))) then
    bif inR i_17 18 then
    bif inR i_17 s_5.length then
    let x64 := w64 (carry_16 + (w64 ((sum_9.getD i_17.toNat (0 : Int)) + ((s_5.getD i_17.toNat (0 : UInt8)).toNat : Int))))
    bif inR i_17 t_7.length then
    bif (!(decide ((iu8 x64) = (t_7.getD i_17.toNat (0 : UInt8))))) then
      some (.rt ((false, ()), (())))
    else
      some (.go (((shrI x64 8), (w64 (i_17 + (1 : Int))), ()), (s_5, t_7, sum_9, ())))
    else none
    else none
    else none
  else
    some (.br ((()), (())))
noncomputable def law11_Poly1305One_22 (N : Nat) : Option law11_Poly1305One_R :=
  some ((true, ()), (()))
noncomputable def law11_Poly1305One_20 (N : Nat) (carry_16 : Int) (i_17 : Int) (s_5 : (List UInt8)) (t_7 : (List UInt8)) (sum_9 : (List Int)) : Option law11_Poly1305One_R :=
  loopK N (fun y => law11_Poly1305One_s21 N y.1.1 y.1.2.1 y.2.1 y.2.2.1 y.2.2.2.1) (fun (e : ((Unit) × (Unit))) => law11_Poly1305One_22 N) ((carry_16, i_17, ()), (s_5, t_7, sum_9, ()))
noncomputable def law11_Poly1305One_19 (N : Nat) (s_5 : (List UInt8)) (t_7 : (List UInt8)) (sum_9 : (List Int)) : Option law11_Poly1305One_R :=
  law11_Poly1305One_20 N (0 : Int) (0 : Int) s_5 t_7 sum_9
noncomputable def law11_Poly1305One_18 (N : Nat) (s_5 : (List UInt8)) (t_7 : (List UInt8)) (sum_9 : (List Int)) (next_14 : (List Int)) : Option law11_Poly1305One_R :=
  bif (decide ((4 : Int) ≤ (w64 ((next_14.getD 16 (0 : Int)) + (w64 ((256 : Int) * (next_14.getD 17 (0 : Int)))))))) then
    law11_Poly1305One_19 N s_5 t_7 next_14
  else
    law11_Poly1305One_19 N s_5 t_7 sum_9
noncomputable def law11_Poly1305One_16 (N : Nat) (i_15 : Int) (s_5 : (List UInt8)) (t_7 : (List UInt8)) (sum_9 : (List Int)) (next_14 : (List Int)) : Option law11_Poly1305One_R :=
  loopK N (fun y => law11_Poly1305One_s17 N y.1.1 y.2.1 y.2.2.1 y.2.2.2.1 y.2.2.2.2.1) (fun (e : ((Unit) × ((List UInt8) × (List UInt8) × (List Int) × (List Int) × Unit))) => law11_Poly1305One_18 N e.2.1 e.2.2.1 e.2.2.2.1 e.2.2.2.2.1) ((i_15, ()), (s_5, t_7, sum_9, next_14, ()))
noncomputable def law11_Poly1305One_15 (N : Nat) (s_5 : (List UInt8)) (t_7 : (List UInt8)) (sum_9 : (List Int)) : Option law11_Poly1305One_R :=
  law11_Poly1305One_16 N (0 : Int) s_5 t_7 sum_9 (sum_9.set 0 (w64 ((sum_9.getD 0 (0 : Int)) + (5 : Int))))
noncomputable def law11_Poly1305One_13 (N : Nat) (i_13 : Int) (s_5 : (List UInt8)) (t_7 : (List UInt8)) (sum_9 : (List Int)) : Option law11_Poly1305One_R :=
  loopK N (fun y => law11_Poly1305One_s14 N y.1.1 y.2.1 y.2.2.1 y.2.2.2.1) (fun (e : ((Unit) × ((List UInt8) × (List UInt8) × (List Int) × Unit))) => law11_Poly1305One_15 N e.2.1 e.2.2.1 e.2.2.2.1) ((i_13, ()), (s_5, t_7, sum_9, ()))
noncomputable def law11_Poly1305One_12 (N : Nat) (s_5 : (List UInt8)) (t_7 : (List UInt8)) (sum_9 : (List Int)) : Option law11_Poly1305One_R :=
  law11_Poly1305One_13 N (0 : Int) s_5 t_7 sum_9
noncomputable def law11_Poly1305One_3 (N : Nat) (b_1 : (List UInt8)) (at_10 : Int) (s_5 : (List UInt8)) (t_7 : (List UInt8)) (sum_9 : (List Int)) : Option law11_Poly1305One_R :=
  loopK N (fun y => law11_Poly1305One_s4 N y.1.1 y.1.2.1 y.2.1 y.2.2.1 y.2.2.2.1) (fun (e : ((Unit) × ((List UInt8) × (List UInt8) × (List Int) × Unit))) => law11_Poly1305One_12 N e.2.1 e.2.2.1 e.2.2.2.1) ((b_1, at_10, ()), (s_5, t_7, sum_9, ()))
noncomputable def law11_Poly1305One_2 (N : Nat) (b_1 : (List UInt8)) (t_45 : Bool) (s_5 : (List UInt8)) (t_7 : (List UInt8)) : Option law11_Poly1305One_R :=
  bif t_45 then
    some ((false, ()), (()))
  else
    law11_Poly1305One_3 N b_1 (0 : Int) s_5 t_7 (List.replicate 18 (0 : Int))
noncomputable def law11_Poly1305One_1 (N : Nat) (codes_0 : (List UInt8)) (b_1 : (List UInt8)) : Option law11_Poly1305One_R :=
  Option.bind (make_New N codes_0 (40 : Int)) fun y6 =>
  Option.bind (make_Codes_Bytes N (16 : Int) y6.2.1) fun y7 =>
  bif room ((List.replicate 16 (0 : UInt8)).length + y7.2.2.1.length) 1 then
  let x8 := (List.replicate 16 (0 : UInt8)) ++ y7.2.2.1
  bif inR (0 : Int) x8.length then
  Option.bind (poly1305_Sum N (x8.set 0 (1 : UInt8)) b_1) fun y10 =>
  bif (!y10.1.1) then
    law11_Poly1305One_2 N b_1 true y7.2.2.1 y10.2.1
  else
    law11_Poly1305One_2 N b_1 (!(decide ((y10.2.1.length : Int) = (16 : Int)))) y7.2.2.1 y10.2.1
  else none
  else none
noncomputable def law11_Poly1305One (N : Nat) (codes_0 : (List UInt8)) (b_1 : (List UInt8)) : Option law11_Poly1305One_R :=
  Option.bind (law11_awake N) fun y1 =>
  bif (!y1.1.1) then
    some ((false, ()), (()))
  else
    bif (decide ((48 : Int) < (b_1.length : Int))) then
      bif decide (0 ≤ (0 : Int)) && decide ((0 : Int) ≤ (48 : Int)) && decide ((48 : Int) ≤ (b_1.length : Int)) && true then
      law11_Poly1305One_1 N codes_0 (cut b_1 0 48)
      else none
    else
      law11_Poly1305One_1 N codes_0 b_1
noncomputable def law11_Poly1305One_C (N : Nat) : Ctx := ⟨154, G_tys, [(12, law11_awake_ctr N), (13, make_New_ctr N), (14, make_Codes_Bytes_ctr N), (15, poly1305_Sum_ctr N)], G_globs⟩
noncomputable def law11_Poly1305One_S0 : Spec := ⟨[.val (.sl .u8), .row 0, .row 1, .ref 2 (.arr 18 .i64), .val .i64, .val .i64, .val .i64], [(.row 5 .u8, .pos 1), (.row 5 .u8, .pos 2), (.box 33 (.arr 18 .i64), .pos 3)]⟩
noncomputable def law11_Poly1305One_S1 : Spec := ⟨[.val (.sl .u8), .row 0, .row 1, .ref 2 (.arr 18 .i64), .val .i64], [(.row 5 .u8, .pos 1), (.row 5 .u8, .pos 2), (.box 33 (.arr 18 .i64), .pos 3)]⟩
noncomputable def law11_Poly1305One_S2 : Spec := ⟨[.val (.sl .u8), .row 0, .row 1, .ref 2 (.arr 18 .i64), .val .i64, .val .i64], [(.row 5 .u8, .pos 1), (.row 5 .u8, .pos 2), (.box 33 (.arr 18 .i64), .pos 3)]⟩
noncomputable def law11_Poly1305One_S3 : Spec := ⟨[.row 0, .row 1, .ref 2 (.arr 18 .i64), .val .i64], [(.row 5 .u8, .pos 0), (.row 5 .u8, .pos 1), (.box 33 (.arr 18 .i64), .pos 2)]⟩
noncomputable def law11_Poly1305One_S4 : Spec := ⟨[.row 0, .row 1, .ref 2 (.arr 18 .i64), .ref 3 (.arr 18 .i64), .val .i64], [(.row 5 .u8, .pos 0), (.row 5 .u8, .pos 1), (.box 33 (.arr 18 .i64), .pos 2), (.box 33 (.arr 18 .i64), .pos 3)]⟩
noncomputable def law11_Poly1305One_S5 : Spec := ⟨[.row 0, .row 1, .ref 2 (.arr 18 .i64), .val .i64, .val .i64], [(.row 5 .u8, .pos 0), (.row 5 .u8, .pos 1), (.box 33 (.arr 18 .i64), .pos 2)]⟩
noncomputable def law11_Poly1305One_S6 : Spec := ⟨[], []⟩
noncomputable def law11_Poly1305One_S7 : Spec := ⟨[.row 0, .row 1, .ref 2 (.arr 18 .i64)], [(.row 5 .u8, .pos 0), (.row 5 .u8, .pos 1), (.box 33 (.arr 18 .i64), .pos 2)]⟩
noncomputable def law11_Poly1305One_S8 : Spec := ⟨[.row 0, .row 1, .ref 2 (.arr 18 .i64), .ref 3 (.arr 18 .i64)], [(.row 5 .u8, .pos 0), (.row 5 .u8, .pos 1), (.box 33 (.arr 18 .i64), .pos 2), (.box 33 (.arr 18 .i64), .pos 3)]⟩
noncomputable def law11_Poly1305One_S9 : Spec := ⟨[.val (.sl .u8), .row 0, .row 1, .val .bool], [(.row 5 .u8, .pos 1), (.row 5 .u8, .pos 2)]⟩
noncomputable def law11_Poly1305One_S10 : Spec := ⟨[.val (.sl .u8), .val (.sl .u8)], []⟩
noncomputable def law11_Poly1305One_S11 : Spec := ⟨[.val .bool], []⟩
noncomputable def law11_Poly1305One_K (_N : Nat) : XE → GS → Option law11_Poly1305One_R := retK 0 [4] [false] law11_Poly1305One_S11
noncomputable def law11_Poly1305One_L : List Code := (bodyOf (some Try.f5))
noncomputable def law11_Poly1305One_L4 : List Code := (loopOf (law11_Poly1305One_L[13]?))
noncomputable def law11_Poly1305One_L6b : List Code := (blockOf (law11_Poly1305One_L4[2]?))
noncomputable def law11_Poly1305One_L9 : List Code := (loopOf (law11_Poly1305One_L6b[2]?))
noncomputable def law11_Poly1305One_L14 : List Code := (loopOf (law11_Poly1305One_L[15]?))
noncomputable def law11_Poly1305One_L17 : List Code := (loopOf (law11_Poly1305One_L[19]?))
noncomputable def law11_Poly1305One_L21 : List Code := (loopOf (law11_Poly1305One_L[24]?))
noncomputable def law11_Poly1305One_K4 (N : Nat) : XE → GS → Option (Lo (((List UInt8) × Int × Unit) × ((List UInt8) × (List UInt8) × (List Int) × Unit)) ((Unit) × ((List UInt8) × (List UInt8) × (List Int) × Unit)) law11_Poly1305One_R) := roundK (some 0) (fit 0 [1, 5, 7, 9, 10] law11_Poly1305One_S1) (fit 0 [5, 7, 9] law11_Poly1305One_S7) (law11_Poly1305One_K N)
noncomputable def law11_Poly1305One_K14 (N : Nat) : XE → GS → Option (Lo ((Int × Unit) × ((List UInt8) × (List UInt8) × (List Int) × Unit)) ((Unit) × ((List UInt8) × (List UInt8) × (List Int) × Unit)) law11_Poly1305One_R) := roundK (some 4) (fit 0 [5, 7, 9, 13] law11_Poly1305One_S3) (fit 0 [5, 7, 9] law11_Poly1305One_S7) (law11_Poly1305One_K N)
noncomputable def law11_Poly1305One_K17 (N : Nat) : XE → GS → Option (Lo ((Int × Unit) × ((List UInt8) × (List UInt8) × (List Int) × (List Int) × Unit)) ((Unit) × ((List UInt8) × (List UInt8) × (List Int) × (List Int) × Unit)) law11_Poly1305One_R) := roundK (some 6) (fit 0 [5, 7, 9, 14, 15] law11_Poly1305One_S4) (fit 0 [5, 7, 9, 14] law11_Poly1305One_S8) (law11_Poly1305One_K N)
noncomputable def law11_Poly1305One_K21 (N : Nat) : XE → GS → Option (Lo ((Int × Int × Unit) × ((List UInt8) × (List UInt8) × (List Int) × Unit)) ((Unit) × (Unit)) law11_Poly1305One_R) := roundK (some 8) (fit 0 [5, 7, 9, 16, 17] law11_Poly1305One_S5) (fit 0 [] law11_Poly1305One_S6) (law11_Poly1305One_K N)
noncomputable def law11_Poly1305One_K6 (N : Nat) : XE → GS → Option (Lo (((List UInt8) × Int × Unit) × ((List UInt8) × (List UInt8) × (List Int) × Unit)) ((Unit) × ((List UInt8) × (List UInt8) × (List Int) × Unit)) law11_Poly1305One_R) := blockK 1 (goK 0 [1, 5, 7, 9, 10] law11_Poly1305One_S1 (fun y => law11_Poly1305One_11 N y.1.1 y.1.2.1 y.2.1 y.2.2.1 y.2.2.2.1)) (law11_Poly1305One_K4 N)
noncomputable def law11_Poly1305One_K9 (N : Nat) : XE → GS → Option (Lo (((List UInt8) × Int × Int × Int × Unit) × ((List UInt8) × (List UInt8) × (List Int) × Unit)) (((List UInt8) × Int × Int × Unit) × ((List UInt8) × (List UInt8) × (List Int) × Unit)) (Lo (((List UInt8) × Int × Unit) × ((List UInt8) × (List UInt8) × (List Int) × Unit)) ((Unit) × ((List UInt8) × (List UInt8) × (List Int) × Unit)) law11_Poly1305One_R)) := roundK (some 2) (fit 0 [1, 5, 7, 9, 10, 11, 12] law11_Poly1305One_S0) (fit 0 [1, 5, 7, 9, 10, 11] law11_Poly1305One_S2) (law11_Poly1305One_K6 N)
theorem law11_Poly1305One_s9_b {E : Env} (N : Nat) (hb : Base Try.prog (law11_Poly1305One_C N) E 0) : Blk Try.prog (law11_Poly1305One_C N) E [1, 5, 7, 9, 10, 11, 12] law11_Poly1305One_S0 (law11_Poly1305One_L9.drop 0) (fun y => law11_Poly1305One_s9 N y.1.1 y.1.2.1 y.1.2.2.1 y.1.2.2.2.1 y.2.1 y.2.2.1 y.2.2.2.1) (law11_Poly1305One_K9 N) :=
  Blk.chunkAt hb 4 (X := (law11_Poly1305One_K9 N .normal)) (NxOk.end (by kernel_rfl)) rfl (fun x => by kernel_rfl)
theorem law11_Poly1305One_11_b {E : Env} (N : Nat) (hb : Base Try.prog (law11_Poly1305One_C N) E 0) : Blk Try.prog (law11_Poly1305One_C N) E [1, 5, 7, 9, 10] law11_Poly1305One_S1 (law11_Poly1305One_L4.drop 3) (fun y => law11_Poly1305One_11 N y.1.1 y.1.2.1 y.2.1 y.2.2.1 y.2.2.2.1) (law11_Poly1305One_K4 N) :=
  Blk.chunkAt hb 1 (X := (law11_Poly1305One_K4 N .normal)) (NxOk.end (by kernel_rfl)) rfl (fun x => by kernel_rfl)
theorem law11_Poly1305One_10_b {E : Env} (N : Nat) (hb : Base Try.prog (law11_Poly1305One_C N) E 0) : Blk Try.prog (law11_Poly1305One_C N) E [1, 5, 7, 9, 10, 11] law11_Poly1305One_S2 (law11_Poly1305One_L6b.drop 3) (fun y => law11_Poly1305One_10 N y.1.1 y.1.2.1 y.1.2.2.1 y.2.1 y.2.2.1 y.2.2.2.1) (law11_Poly1305One_K6 N) :=
  Blk.chunkAt hb 1 (X := (law11_Poly1305One_K6 N .normal)) (NxOk.end (by kernel_rfl)) rfl (fun x => by kernel_rfl)
theorem law11_Poly1305One_8_b {E : Env} (N : Nat) (hb : Base Try.prog (law11_Poly1305One_C N) E 0) : Blk Try.prog (law11_Poly1305One_C N) E [1, 5, 7, 9, 10, 11, 12] law11_Poly1305One_S0 (law11_Poly1305One_L6b.drop 2) (fun y => law11_Poly1305One_8 N y.1.1 y.1.2.1 y.1.2.2.1 y.1.2.2.2.1 y.2.1 y.2.2.1 y.2.2.2.1) (law11_Poly1305One_K6 N) :=
  Blk.loopAt (Nf := N) (hns := [1, 5, 7, 9, 10, 11, 12]) (ans := [1, 5, 7, 9, 10, 11]) (hc := law11_Poly1305One_S0) (ac := law11_Poly1305One_S2) (bid := 2) (step := (fun y => law11_Poly1305One_s9 N y.1.1 y.1.2.1 y.1.2.2.1 y.1.2.2.2.1 y.2.1 y.2.2.1 y.2.2.2.1)) (J := (fun e => (goK 0 [1, 5, 7, 9, 10, 11] law11_Poly1305One_S2 (fun y => law11_Poly1305One_10 N y.1.1 y.1.2.1 y.1.2.2.1 y.2.1 y.2.2.1 y.2.2.2.1)) (law11_Poly1305One_S2.st [1, 5, 7, 9, 10, 11] e))) hb (by kernel_rfl) (Blk.into (X := (goK 0 [1, 5, 7, 9, 10, 11] law11_Poly1305One_S2 (fun y => law11_Poly1305One_10 N y.1.1 y.1.2.1 y.1.2.2.1 y.2.1 y.2.2.1 y.2.2.2.1))) (NxOk.go hb (law11_Poly1305One_10_b N hb)) (fun x => by kernel_rfl)) (law11_Poly1305One_s9_b N hb) (fun x => by kernel_rfl)
theorem law11_Poly1305One_7_b {E : Env} (N : Nat) (hb : Base Try.prog (law11_Poly1305One_C N) E 0) : Blk Try.prog (law11_Poly1305One_C N) E [1, 5, 7, 9, 10] law11_Poly1305One_S1 (law11_Poly1305One_L6b.drop 0) (fun y => law11_Poly1305One_7 N y.1.1 y.1.2.1 y.2.1 y.2.2.1 y.2.2.2.1) (law11_Poly1305One_K6 N) :=
  Blk.chunkAt hb 2 (X := (goK 0 [1, 5, 7, 9, 10, 11, 12] law11_Poly1305One_S0 (fun y => law11_Poly1305One_8 N y.1.1 y.1.2.1 y.1.2.2.1 y.1.2.2.2.1 y.2.1 y.2.2.1 y.2.2.2.1))) (NxOk.go hb (law11_Poly1305One_8_b N hb)) rfl (fun x => by kernel_rfl)
theorem law11_Poly1305One_5_b {E : Env} (N : Nat) (hb : Base Try.prog (law11_Poly1305One_C N) E 0) : Blk Try.prog (law11_Poly1305One_C N) E [1, 5, 7, 9, 10] law11_Poly1305One_S1 (law11_Poly1305One_L4.drop 2) (fun y => law11_Poly1305One_5 N y.1.1 y.1.2.1 y.2.1 y.2.2.1 y.2.2.2.1) (law11_Poly1305One_K4 N) :=
  Blk.blockAt (bid := 1) (X := (goK 0 [1, 5, 7, 9, 10] law11_Poly1305One_S1 (fun y => law11_Poly1305One_11 N y.1.1 y.1.2.1 y.2.1 y.2.2.1 y.2.2.2.1))) (Y := (goK 0 [1, 5, 7, 9, 10] law11_Poly1305One_S1 (fun y => law11_Poly1305One_7 N y.1.1 y.1.2.1 y.2.1 y.2.2.1 y.2.2.2.1))) (by kernel_rfl) (NxOk.go hb (law11_Poly1305One_11_b N hb)) (NxOk.go hb (law11_Poly1305One_7_b N hb)) (fun x => by kernel_rfl)
theorem law11_Poly1305One_s4_b {E : Env} (N : Nat) (hb : Base Try.prog (law11_Poly1305One_C N) E 0) : Blk Try.prog (law11_Poly1305One_C N) E [1, 5, 7, 9, 10] law11_Poly1305One_S1 (law11_Poly1305One_L4.drop 0) (fun y => law11_Poly1305One_s4 N y.1.1 y.1.2.1 y.2.1 y.2.2.1 y.2.2.2.1) (law11_Poly1305One_K4 N) :=
  Blk.chunkAt hb 2 (X := (goK 0 [1, 5, 7, 9, 10] law11_Poly1305One_S1 (fun y => law11_Poly1305One_5 N y.1.1 y.1.2.1 y.2.1 y.2.2.1 y.2.2.2.1))) (NxOk.go hb (law11_Poly1305One_5_b N hb)) rfl (fun x => by kernel_rfl)
theorem law11_Poly1305One_s14_b {E : Env} (N : Nat) (hb : Base Try.prog (law11_Poly1305One_C N) E 0) : Blk Try.prog (law11_Poly1305One_C N) E [5, 7, 9, 13] law11_Poly1305One_S3 (law11_Poly1305One_L14.drop 0) (fun y => law11_Poly1305One_s14 N y.1.1 y.2.1 y.2.2.1 y.2.2.2.1) (law11_Poly1305One_K14 N) :=
  Blk.chunkAt hb 4 (X := (law11_Poly1305One_K14 N .normal)) (NxOk.end (by kernel_rfl)) rfl (fun x => by kernel_rfl)
theorem law11_Poly1305One_s17_b {E : Env} (N : Nat) (hb : Base Try.prog (law11_Poly1305One_C N) E 0) : Blk Try.prog (law11_Poly1305One_C N) E [5, 7, 9, 14, 15] law11_Poly1305One_S4 (law11_Poly1305One_L17.drop 0) (fun y => law11_Poly1305One_s17 N y.1.1 y.2.1 y.2.2.1 y.2.2.2.1 y.2.2.2.2.1) (law11_Poly1305One_K17 N) :=
  Blk.chunkAt hb 4 (X := (law11_Poly1305One_K17 N .normal)) (NxOk.end (by kernel_rfl)) rfl (fun x => by kernel_rfl)
theorem law11_Poly1305One_s21_b {E : Env} (N : Nat) (hb : Base Try.prog (law11_Poly1305One_C N) E 0) : Blk Try.prog (law11_Poly1305One_C N) E [5, 7, 9, 16, 17] law11_Poly1305One_S5 (law11_Poly1305One_L21.drop 0) (fun y => law11_Poly1305One_s21 N y.1.1 y.1.2.1 y.2.1 y.2.2.1 y.2.2.2.1) (law11_Poly1305One_K21 N) :=
  Blk.chunkAt hb 4 (X := (law11_Poly1305One_K21 N .normal)) (NxOk.end (by kernel_rfl)) rfl (fun x => by kernel_rfl)
theorem law11_Poly1305One_22_b {E : Env} (N : Nat) (hb : Base Try.prog (law11_Poly1305One_C N) E 0) : Blk Try.prog (law11_Poly1305One_C N) E [] law11_Poly1305One_S6 (law11_Poly1305One_L.drop 25) (fun y => law11_Poly1305One_22 N) (law11_Poly1305One_K N) :=
  Blk.chunkAt hb 2 (X := (law11_Poly1305One_K N .normal)) (NxOk.end (by kernel_rfl)) rfl (fun x => by kernel_rfl)
theorem law11_Poly1305One_20_b {E : Env} (N : Nat) (hb : Base Try.prog (law11_Poly1305One_C N) E 0) : Blk Try.prog (law11_Poly1305One_C N) E [5, 7, 9, 16, 17] law11_Poly1305One_S5 (law11_Poly1305One_L.drop 24) (fun y => law11_Poly1305One_20 N y.1.1 y.1.2.1 y.2.1 y.2.2.1 y.2.2.2.1) (law11_Poly1305One_K N) :=
  Blk.loopAt (Nf := N) (hns := [5, 7, 9, 16, 17]) (ans := []) (hc := law11_Poly1305One_S5) (ac := law11_Poly1305One_S6) (bid := 8) (step := (fun y => law11_Poly1305One_s21 N y.1.1 y.1.2.1 y.2.1 y.2.2.1 y.2.2.2.1)) (J := (fun e => (goK 0 [] law11_Poly1305One_S6 (fun y => law11_Poly1305One_22 N)) (law11_Poly1305One_S6.st [] e))) hb (by kernel_rfl) (Blk.into (X := (goK 0 [] law11_Poly1305One_S6 (fun y => law11_Poly1305One_22 N))) (NxOk.go hb (law11_Poly1305One_22_b N hb)) (fun x => by kernel_rfl)) (law11_Poly1305One_s21_b N hb) (fun x => by kernel_rfl)
theorem law11_Poly1305One_19_b {E : Env} (N : Nat) (hb : Base Try.prog (law11_Poly1305One_C N) E 0) : Blk Try.prog (law11_Poly1305One_C N) E [5, 7, 9] law11_Poly1305One_S7 (law11_Poly1305One_L.drop 22) (fun y => law11_Poly1305One_19 N y.2.1 y.2.2.1 y.2.2.2.1) (law11_Poly1305One_K N) :=
  Blk.chunkAt hb 2 (X := (goK 0 [5, 7, 9, 16, 17] law11_Poly1305One_S5 (fun y => law11_Poly1305One_20 N y.1.1 y.1.2.1 y.2.1 y.2.2.1 y.2.2.2.1))) (NxOk.go hb (law11_Poly1305One_20_b N hb)) rfl (fun x => by kernel_rfl)
theorem law11_Poly1305One_18_b {E : Env} (N : Nat) (hb : Base Try.prog (law11_Poly1305One_C N) E 0) : Blk Try.prog (law11_Poly1305One_C N) E [5, 7, 9, 14] law11_Poly1305One_S8 (law11_Poly1305One_L.drop 20) (fun y => law11_Poly1305One_18 N y.2.1 y.2.2.1 y.2.2.2.1 y.2.2.2.2.1) (law11_Poly1305One_K N) :=
  Blk.chunkAt hb 2 (X := (goK 0 [5, 7, 9] law11_Poly1305One_S7 (fun y => law11_Poly1305One_19 N y.2.1 y.2.2.1 y.2.2.2.1))) (NxOk.go hb (law11_Poly1305One_19_b N hb)) rfl (fun x => by kernel_rfl)
theorem law11_Poly1305One_16_b {E : Env} (N : Nat) (hb : Base Try.prog (law11_Poly1305One_C N) E 0) : Blk Try.prog (law11_Poly1305One_C N) E [5, 7, 9, 14, 15] law11_Poly1305One_S4 (law11_Poly1305One_L.drop 19) (fun y => law11_Poly1305One_16 N y.1.1 y.2.1 y.2.2.1 y.2.2.2.1 y.2.2.2.2.1) (law11_Poly1305One_K N) :=
  Blk.loopAt (Nf := N) (hns := [5, 7, 9, 14, 15]) (ans := [5, 7, 9, 14]) (hc := law11_Poly1305One_S4) (ac := law11_Poly1305One_S8) (bid := 6) (step := (fun y => law11_Poly1305One_s17 N y.1.1 y.2.1 y.2.2.1 y.2.2.2.1 y.2.2.2.2.1)) (J := (fun e => (goK 0 [5, 7, 9, 14] law11_Poly1305One_S8 (fun y => law11_Poly1305One_18 N y.2.1 y.2.2.1 y.2.2.2.1 y.2.2.2.2.1)) (law11_Poly1305One_S8.st [5, 7, 9, 14] e))) hb (by kernel_rfl) (Blk.into (X := (goK 0 [5, 7, 9, 14] law11_Poly1305One_S8 (fun y => law11_Poly1305One_18 N y.2.1 y.2.2.1 y.2.2.2.1 y.2.2.2.2.1))) (NxOk.go hb (law11_Poly1305One_18_b N hb)) (fun x => by kernel_rfl)) (law11_Poly1305One_s17_b N hb) (fun x => by kernel_rfl)
theorem law11_Poly1305One_15_b {E : Env} (N : Nat) (hb : Base Try.prog (law11_Poly1305One_C N) E 0) : Blk Try.prog (law11_Poly1305One_C N) E [5, 7, 9] law11_Poly1305One_S7 (law11_Poly1305One_L.drop 16) (fun y => law11_Poly1305One_15 N y.2.1 y.2.2.1 y.2.2.2.1) (law11_Poly1305One_K N) :=
  Blk.chunkAt hb 3 (X := (goK 0 [5, 7, 9, 14, 15] law11_Poly1305One_S4 (fun y => law11_Poly1305One_16 N y.1.1 y.2.1 y.2.2.1 y.2.2.2.1 y.2.2.2.2.1))) (NxOk.go hb (law11_Poly1305One_16_b N hb)) rfl (fun x => by kernel_rfl)
theorem law11_Poly1305One_13_b {E : Env} (N : Nat) (hb : Base Try.prog (law11_Poly1305One_C N) E 0) : Blk Try.prog (law11_Poly1305One_C N) E [5, 7, 9, 13] law11_Poly1305One_S3 (law11_Poly1305One_L.drop 15) (fun y => law11_Poly1305One_13 N y.1.1 y.2.1 y.2.2.1 y.2.2.2.1) (law11_Poly1305One_K N) :=
  Blk.loopAt (Nf := N) (hns := [5, 7, 9, 13]) (ans := [5, 7, 9]) (hc := law11_Poly1305One_S3) (ac := law11_Poly1305One_S7) (bid := 4) (step := (fun y => law11_Poly1305One_s14 N y.1.1 y.2.1 y.2.2.1 y.2.2.2.1)) (J := (fun e => (goK 0 [5, 7, 9] law11_Poly1305One_S7 (fun y => law11_Poly1305One_15 N y.2.1 y.2.2.1 y.2.2.2.1)) (law11_Poly1305One_S7.st [5, 7, 9] e))) hb (by kernel_rfl) (Blk.into (X := (goK 0 [5, 7, 9] law11_Poly1305One_S7 (fun y => law11_Poly1305One_15 N y.2.1 y.2.2.1 y.2.2.2.1))) (NxOk.go hb (law11_Poly1305One_15_b N hb)) (fun x => by kernel_rfl)) (law11_Poly1305One_s14_b N hb) (fun x => by kernel_rfl)
theorem law11_Poly1305One_12_b {E : Env} (N : Nat) (hb : Base Try.prog (law11_Poly1305One_C N) E 0) : Blk Try.prog (law11_Poly1305One_C N) E [5, 7, 9] law11_Poly1305One_S7 (law11_Poly1305One_L.drop 14) (fun y => law11_Poly1305One_12 N y.2.1 y.2.2.1 y.2.2.2.1) (law11_Poly1305One_K N) :=
  Blk.chunkAt hb 1 (X := (goK 0 [5, 7, 9, 13] law11_Poly1305One_S3 (fun y => law11_Poly1305One_13 N y.1.1 y.2.1 y.2.2.1 y.2.2.2.1))) (NxOk.go hb (law11_Poly1305One_13_b N hb)) rfl (fun x => by kernel_rfl)
theorem law11_Poly1305One_3_b {E : Env} (N : Nat) (hb : Base Try.prog (law11_Poly1305One_C N) E 0) : Blk Try.prog (law11_Poly1305One_C N) E [1, 5, 7, 9, 10] law11_Poly1305One_S1 (law11_Poly1305One_L.drop 13) (fun y => law11_Poly1305One_3 N y.1.1 y.1.2.1 y.2.1 y.2.2.1 y.2.2.2.1) (law11_Poly1305One_K N) :=
  Blk.loopAt (Nf := N) (hns := [1, 5, 7, 9, 10]) (ans := [5, 7, 9]) (hc := law11_Poly1305One_S1) (ac := law11_Poly1305One_S7) (bid := 0) (step := (fun y => law11_Poly1305One_s4 N y.1.1 y.1.2.1 y.2.1 y.2.2.1 y.2.2.2.1)) (J := (fun e => (goK 0 [5, 7, 9] law11_Poly1305One_S7 (fun y => law11_Poly1305One_12 N y.2.1 y.2.2.1 y.2.2.2.1)) (law11_Poly1305One_S7.st [5, 7, 9] e))) hb (by kernel_rfl) (Blk.into (X := (goK 0 [5, 7, 9] law11_Poly1305One_S7 (fun y => law11_Poly1305One_12 N y.2.1 y.2.2.1 y.2.2.2.1))) (NxOk.go hb (law11_Poly1305One_12_b N hb)) (fun x => by kernel_rfl)) (law11_Poly1305One_s4_b N hb) (fun x => by kernel_rfl)
theorem law11_Poly1305One_2_b {E : Env} (N : Nat) (hb : Base Try.prog (law11_Poly1305One_C N) E 0) : Blk Try.prog (law11_Poly1305One_C N) E [1, 5, 7, 45] law11_Poly1305One_S9 (law11_Poly1305One_L.drop 10) (fun y => law11_Poly1305One_2 N y.1.1 y.1.2.1 y.2.1 y.2.2.1) (law11_Poly1305One_K N) :=
  Blk.chunkAt hb 3 (X := (goK 0 [1, 5, 7, 9, 10] law11_Poly1305One_S1 (fun y => law11_Poly1305One_3 N y.1.1 y.1.2.1 y.2.1 y.2.2.1 y.2.2.2.1))) (NxOk.go hb (law11_Poly1305One_3_b N hb)) rfl (fun x => by kernel_rfl)
theorem law11_Poly1305One_1_b {E : Env} (N : Nat) (hb : Base Try.prog (law11_Poly1305One_C N) E 0) : Blk Try.prog (law11_Poly1305One_C N) E [0, 1] law11_Poly1305One_S10 (law11_Poly1305One_L.drop 5) (fun y => law11_Poly1305One_1 N y.1.1 y.1.2.1) (law11_Poly1305One_K N) :=
  Blk.chunkAt hb 5 (X := (goK 0 [1, 5, 7, 45] law11_Poly1305One_S9 (fun y => law11_Poly1305One_2 N y.1.1 y.1.2.1 y.2.1 y.2.2.1))) (NxOk.go hb (law11_Poly1305One_2_b N hb)) rfl (fun x => by kernel_rfl)
theorem law11_Poly1305One_b {E : Env} (N : Nat) (hb : Base Try.prog (law11_Poly1305One_C N) E 0) : Blk Try.prog (law11_Poly1305One_C N) E (List.range law11_Poly1305One_S10.ks.length) law11_Poly1305One_S10 (law11_Poly1305One_L.drop 0) (fun y => law11_Poly1305One N y.1.1 y.1.2.1) (law11_Poly1305One_K N) :=
  Blk.chunkAt hb 5 (X := (goK 0 [0, 1] law11_Poly1305One_S10 (fun y => law11_Poly1305One_1 N y.1.1 y.1.2.1))) (NxOk.go hb (law11_Poly1305One_1_b N hb)) rfl (fun x => by kernel_rfl)
noncomputable def law11_Poly1305One_ctr (N : Nat) : Ctr := ⟨law11_Poly1305One_S10, law11_Poly1305One_S11.un [false], 0, (fun y => law11_Poly1305One N y.1.1 y.1.2.1)⟩
theorem law11_Poly1305One_ctrs (N : Nat) : CtrsOk Try.prog (law11_Poly1305One_C N) := ctrs_of (Γ := law11_Poly1305One_C N) (by
  intro p hp
  simp only [law11_Poly1305One_C, List.mem_cons, List.not_mem_nil, or_false] at hp
  rcases hp with rfl | rfl | rfl | rfl
  · exact law11_awake_ok N
  · exact make_New_ok N
  · exact make_Codes_Bytes_ok N
  · exact poly1305_Sum_ok N)
theorem law11_Poly1305One_ok (N : Nat) : Ctr.ok Try.prog G_globs 5 (law11_Poly1305One_ctr N) :=
  ctr_fn (Γ := law11_Poly1305One_C N) (rfit := law11_Poly1305One_S11) (bs := [false]) (res := [4]) (by kernel_rfl) (tys_ok G_tys_ok) (law11_Poly1305One_ctrs N) Try.func5 (by kernel_rfl) (by kernel_rfl) Try.ntmps5 (by kernel_rfl) (by kernel_rfl) (by kernel_rfl) (by kernel_rfl) (fun E hb => law11_Poly1305One_b N hb)
end Go.Proofs.Ytlamdneheilahaa
namespace Go.Proofs.Ytlamdneheilahaa
open Go
set_option maxRecDepth 100000
set_option linter.unusedVariables false
/-! ipsecgate/ipsecgateref01.Compare -/
abbrev ref01_Compare_R : Type := ((Int × Unit) × (Unit))
noncomputable def ref01_Compare_3 (N : Nat) (a_0 : (List UInt8)) (b_1 : (List UInt8)) (i_5 : Int) (t_15 : Bool) : Option (Lo (((List UInt8) × (List UInt8) × Int × Unit) × (Unit)) (((List UInt8) × (List UInt8) × Unit) × (Unit)) ref01_Compare_R) :=
  bif t_15 then
    bif inR i_5 a_0.length then
    bif inR i_5 b_1.length then
    bif (decide ((a_0.getD i_5.toNat (0 : UInt8)) < (b_1.getD i_5.toNat (0 : UInt8)))) then
      some (.rt (((-1 : Int), ()), (())))
    else
      bif inR i_5 a_0.length then
      bif inR i_5 b_1.length then
      bif (decide ((b_1.getD i_5.toNat (0 : UInt8)) < (a_0.getD i_5.toNat (0 : UInt8)))) then
        some (.rt (((1 : Int), ()), (())))
      else
        some (.go ((a_0, b_1, (w64 (i_5 + (1 : Int))), ()), (())))
      else none
      else none
    else none
    else none
  else
    some (.br ((a_0, b_1, ()), (())))
noncomputable def ref01_Compare_s2 (N : Nat) (a_0 : (List UInt8)) (b_1 : (List UInt8)) (i_5 : Int) : Option (Lo (((List UInt8) × (List UInt8) × Int × Unit) × (Unit)) (((List UInt8) × (List UInt8) × Unit) × (Unit)) ref01_Compare_R) :=
  bif (decide (i_5 < (a_0.length : Int))) then
    ref01_Compare_3 N a_0 b_1 i_5 (decide (i_5 < (b_1.length : Int)))
  else
    ref01_Compare_3 N a_0 b_1 i_5 false
noncomputable def ref01_Compare_4 (N : Nat) (a_0 : (List UInt8)) (b_1 : (List UInt8)) : Option ref01_Compare_R :=
  bif (decide ((a_0.length : Int) < (b_1.length : Int))) then
    some (((-1 : Int), ()), (()))
  else
    bif (decide ((b_1.length : Int) < (a_0.length : Int))) then
      some (((1 : Int), ()), (()))
    else
      some (((0 : Int), ()), (()))
noncomputable def ref01_Compare_1 (N : Nat) (a_0 : (List UInt8)) (b_1 : (List UInt8)) (i_5 : Int) : Option ref01_Compare_R :=
  loopK N (fun y => ref01_Compare_s2 N y.1.1 y.1.2.1 y.1.2.2.1) (fun (e : (((List UInt8) × (List UInt8) × Unit) × (Unit))) => ref01_Compare_4 N e.1.1 e.1.2.1) ((a_0, b_1, i_5, ()), (()))
noncomputable def ref01_Compare (N : Nat) (a_0 : (List UInt8)) (b_1 : (List UInt8)) : Option ref01_Compare_R :=
  ref01_Compare_1 N a_0 b_1 (0 : Int)
noncomputable def ref01_Compare_C (N : Nat) : Ctx := ⟨48, G_tys, [], G_globs⟩
noncomputable def ref01_Compare_S0 : Spec := ⟨[.val (.sl .u8), .val (.sl .u8), .val .i64, .val .bool], []⟩
noncomputable def ref01_Compare_S1 : Spec := ⟨[.val (.sl .u8), .val (.sl .u8), .val .i64], []⟩
noncomputable def ref01_Compare_S2 : Spec := ⟨[.val (.sl .u8), .val (.sl .u8)], []⟩
noncomputable def ref01_Compare_S3 : Spec := ⟨[.val .i64], []⟩
noncomputable def ref01_Compare_K (_N : Nat) : XE → GS → Option ref01_Compare_R := retK 0 [4] [false] ref01_Compare_S3
noncomputable def ref01_Compare_L : List Code := (bodyOf (some Try.f46))
noncomputable def ref01_Compare_L2 : List Code := (loopOf (ref01_Compare_L[2]?))
noncomputable def ref01_Compare_K2 (N : Nat) : XE → GS → Option (Lo (((List UInt8) × (List UInt8) × Int × Unit) × (Unit)) (((List UInt8) × (List UInt8) × Unit) × (Unit)) ref01_Compare_R) := roundK (some 0) (fit 0 [0, 1, 5] ref01_Compare_S1) (fit 0 [0, 1] ref01_Compare_S2) (ref01_Compare_K N)
theorem ref01_Compare_3_b {E : Env} (N : Nat) (hb : Base Try.prog (ref01_Compare_C N) E 0) : Blk Try.prog (ref01_Compare_C N) E [0, 1, 5, 15] ref01_Compare_S0 (ref01_Compare_L2.drop 1) (fun y => ref01_Compare_3 N y.1.1 y.1.2.1 y.1.2.2.1 y.1.2.2.2.1) (ref01_Compare_K2 N) :=
  Blk.chunkAt hb 3 (X := (ref01_Compare_K2 N .normal)) (NxOk.end (by kernel_rfl)) rfl (fun x => by kernel_rfl)
theorem ref01_Compare_s2_b {E : Env} (N : Nat) (hb : Base Try.prog (ref01_Compare_C N) E 0) : Blk Try.prog (ref01_Compare_C N) E [0, 1, 5] ref01_Compare_S1 (ref01_Compare_L2.drop 0) (fun y => ref01_Compare_s2 N y.1.1 y.1.2.1 y.1.2.2.1) (ref01_Compare_K2 N) :=
  Blk.chunkAt hb 1 (X := (goK 0 [0, 1, 5, 15] ref01_Compare_S0 (fun y => ref01_Compare_3 N y.1.1 y.1.2.1 y.1.2.2.1 y.1.2.2.2.1))) (NxOk.go hb (ref01_Compare_3_b N hb)) rfl (fun x => by kernel_rfl)
theorem ref01_Compare_4_b {E : Env} (N : Nat) (hb : Base Try.prog (ref01_Compare_C N) E 0) : Blk Try.prog (ref01_Compare_C N) E [0, 1] ref01_Compare_S2 (ref01_Compare_L.drop 3) (fun y => ref01_Compare_4 N y.1.1 y.1.2.1) (ref01_Compare_K N) :=
  Blk.chunkAt hb 3 (X := (ref01_Compare_K N .normal)) (NxOk.end (by kernel_rfl)) rfl (fun x => by kernel_rfl)
theorem ref01_Compare_1_b {E : Env} (N : Nat) (hb : Base Try.prog (ref01_Compare_C N) E 0) : Blk Try.prog (ref01_Compare_C N) E [0, 1, 5] ref01_Compare_S1 (ref01_Compare_L.drop 2) (fun y => ref01_Compare_1 N y.1.1 y.1.2.1 y.1.2.2.1) (ref01_Compare_K N) :=
  Blk.loopAt (Nf := N) (hns := [0, 1, 5]) (ans := [0, 1]) (hc := ref01_Compare_S1) (ac := ref01_Compare_S2) (bid := 0) (step := (fun y => ref01_Compare_s2 N y.1.1 y.1.2.1 y.1.2.2.1)) (J := (fun e => (goK 0 [0, 1] ref01_Compare_S2 (fun y => ref01_Compare_4 N y.1.1 y.1.2.1)) (ref01_Compare_S2.st [0, 1] e))) hb (by kernel_rfl) (Blk.into (X := (goK 0 [0, 1] ref01_Compare_S2 (fun y => ref01_Compare_4 N y.1.1 y.1.2.1))) (NxOk.go hb (ref01_Compare_4_b N hb)) (fun x => by kernel_rfl)) (ref01_Compare_s2_b N hb) (fun x => by kernel_rfl)
theorem ref01_Compare_b {E : Env} (N : Nat) (hb : Base Try.prog (ref01_Compare_C N) E 0) : Blk Try.prog (ref01_Compare_C N) E (List.range ref01_Compare_S2.ks.length) ref01_Compare_S2 (ref01_Compare_L.drop 0) (fun y => ref01_Compare N y.1.1 y.1.2.1) (ref01_Compare_K N) :=
  Blk.chunkAt hb 2 (X := (goK 0 [0, 1, 5] ref01_Compare_S1 (fun y => ref01_Compare_1 N y.1.1 y.1.2.1 y.1.2.2.1))) (NxOk.go hb (ref01_Compare_1_b N hb)) rfl (fun x => by kernel_rfl)
noncomputable def ref01_Compare_ctr (N : Nat) : Ctr := ⟨ref01_Compare_S2, ref01_Compare_S3.un [false], 0, (fun y => ref01_Compare N y.1.1 y.1.2.1)⟩
theorem ref01_Compare_ctrs (N : Nat) : CtrsOk Try.prog (ref01_Compare_C N) := ctrs_nil rfl
theorem ref01_Compare_ok (N : Nat) : Ctr.ok Try.prog G_globs 46 (ref01_Compare_ctr N) :=
  ctr_fn (Γ := ref01_Compare_C N) (rfit := ref01_Compare_S3) (bs := [false]) (res := [4]) (by kernel_rfl) (tys_ok G_tys_ok) (ref01_Compare_ctrs N) Try.func46 (by kernel_rfl) (by kernel_rfl) Try.ntmps46 (by kernel_rfl) (by kernel_rfl) (by kernel_rfl) (by kernel_rfl) (fun E hb => ref01_Compare_b N hb)
end Go.Proofs.Ytlamdneheilahaa
namespace Go.Proofs.Ytlamdneheilahaa
open Go
set_option maxRecDepth 100000
set_option linter.unusedVariables false
/-! ipsecgate/ipsecgateref01.Equal -/
abbrev ref01_Equal_R : Type := ((Bool × Unit) × (Unit))
noncomputable def ref01_Equal (N : Nat) (a_0 : (List UInt8)) (b_1 : (List UInt8)) : Option ref01_Equal_R :=
  Option.bind (ref01_Compare N a_0 b_1) fun y1 =>
  some (((decide (y1.1.1 = (0 : Int))), ()), (()))
noncomputable def ref01_Equal_C (N : Nat) : Ctx := ⟨9, G_tys, [(46, ref01_Compare_ctr N)], G_globs⟩
noncomputable def ref01_Equal_S0 : Spec := ⟨[.val (.sl .u8), .val (.sl .u8)], []⟩
noncomputable def ref01_Equal_S1 : Spec := ⟨[.val .bool], []⟩
noncomputable def ref01_Equal_K (_N : Nat) : XE → GS → Option ref01_Equal_R := retK 0 [4] [false] ref01_Equal_S1
noncomputable def ref01_Equal_L : List Code := (bodyOf (some Try.f17))
theorem ref01_Equal_b {E : Env} (N : Nat) (hb : Base Try.prog (ref01_Equal_C N) E 0) : Blk Try.prog (ref01_Equal_C N) E (List.range ref01_Equal_S0.ks.length) ref01_Equal_S0 (ref01_Equal_L.drop 0) (fun y => ref01_Equal N y.1.1 y.1.2.1) (ref01_Equal_K N) :=
  Blk.chunkAt hb 3 (X := (ref01_Equal_K N .normal)) (NxOk.end (by kernel_rfl)) rfl (fun x => by kernel_rfl)
noncomputable def ref01_Equal_ctr (N : Nat) : Ctr := ⟨ref01_Equal_S0, ref01_Equal_S1.un [false], 0, (fun y => ref01_Equal N y.1.1 y.1.2.1)⟩
theorem ref01_Equal_ctrs (N : Nat) : CtrsOk Try.prog (ref01_Equal_C N) := ctrs_of (Γ := ref01_Equal_C N) (by
  intro p hp
  simp only [ref01_Equal_C, List.mem_cons, List.not_mem_nil, or_false] at hp
  rcases hp with rfl
  · exact ref01_Compare_ok N)
theorem ref01_Equal_ok (N : Nat) : Ctr.ok Try.prog G_globs 17 (ref01_Equal_ctr N) :=
  ctr_fn (Γ := ref01_Equal_C N) (rfit := ref01_Equal_S1) (bs := [false]) (res := [4]) (by kernel_rfl) (tys_ok G_tys_ok) (ref01_Equal_ctrs N) Try.func17 (by kernel_rfl) (by kernel_rfl) Try.ntmps17 (by kernel_rfl) (by kernel_rfl) (by kernel_rfl) (by kernel_rfl) (fun E hb => ref01_Equal_b N hb)
end Go.Proofs.Ytlamdneheilahaa
namespace Go.Proofs.Ytlamdneheilahaa
open Go
set_option maxRecDepth 100000
set_option linter.unusedVariables false
/-! ipsecgate/ipsecgatelaw11.Poly1305Zero -/
abbrev law11_Poly1305Zero_R : Type := ((Bool × Unit) × (Unit))
noncomputable def law11_Poly1305Zero (N : Nat) (codes_0 : (List UInt8)) (b_1 : (List UInt8)) : Option law11_Poly1305Zero_R :=
  Option.bind (law11_awake N) fun y1 =>
  bif (!y1.1.1) then
    some ((false, ()), (()))
  else
    Option.bind (make_New N codes_0 (40 : Int)) fun y3 =>
    Option.bind (make_Codes_Bytes N (16 : Int) y3.2.1) fun y4 =>
    bif room ((List.replicate 16 (0 : UInt8)).length + y4.2.2.1.length) 1 then
    Option.bind (poly1305_Sum N ((List.replicate 16 (0 : UInt8)) ++ y4.2.2.1) b_1) fun y6 =>
    bif y6.1.1 then
      Option.bind (ref01_Equal N y6.2.1 y4.2.2.1) fun y7 =>
      some ((y7.1.1, ()), (()))
    else
      some ((false, ()), (()))
    else none
noncomputable def law11_Poly1305Zero_C (N : Nat) : Ctx := ⟨27, G_tys, [(12, law11_awake_ctr N), (13, make_New_ctr N), (14, make_Codes_Bytes_ctr N), (15, poly1305_Sum_ctr N), (17, ref01_Equal_ctr N)], G_globs⟩
noncomputable def law11_Poly1305Zero_S0 : Spec := ⟨[.val (.sl .u8), .val (.sl .u8)], []⟩
noncomputable def law11_Poly1305Zero_S1 : Spec := ⟨[.val .bool], []⟩
noncomputable def law11_Poly1305Zero_K (_N : Nat) : XE → GS → Option law11_Poly1305Zero_R := retK 0 [4] [false] law11_Poly1305Zero_S1
noncomputable def law11_Poly1305Zero_L : List Code := (bodyOf (some Try.f4))
theorem law11_Poly1305Zero_b {E : Env} (N : Nat) (hb : Base Try.prog (law11_Poly1305Zero_C N) E 0) : Blk Try.prog (law11_Poly1305Zero_C N) E (List.range law11_Poly1305Zero_S0.ks.length) law11_Poly1305Zero_S0 (law11_Poly1305Zero_L.drop 0) (fun y => law11_Poly1305Zero N y.1.1 y.1.2.1) (law11_Poly1305Zero_K N) :=
  Blk.chunkAt hb 7 (X := (law11_Poly1305Zero_K N .normal)) (NxOk.end (by kernel_rfl)) rfl (fun x => by kernel_rfl)
noncomputable def law11_Poly1305Zero_ctr (N : Nat) : Ctr := ⟨law11_Poly1305Zero_S0, law11_Poly1305Zero_S1.un [false], 0, (fun y => law11_Poly1305Zero N y.1.1 y.1.2.1)⟩
theorem law11_Poly1305Zero_ctrs (N : Nat) : CtrsOk Try.prog (law11_Poly1305Zero_C N) := ctrs_of (Γ := law11_Poly1305Zero_C N) (by
  intro p hp
  simp only [law11_Poly1305Zero_C, List.mem_cons, List.not_mem_nil, or_false] at hp
  rcases hp with rfl | rfl | rfl | rfl | rfl
  · exact law11_awake_ok N
  · exact make_New_ok N
  · exact make_Codes_Bytes_ok N
  · exact poly1305_Sum_ok N
  · exact ref01_Equal_ok N)
theorem law11_Poly1305Zero_ok (N : Nat) : Ctr.ok Try.prog G_globs 4 (law11_Poly1305Zero_ctr N) :=
  ctr_fn (Γ := law11_Poly1305Zero_C N) (rfit := law11_Poly1305Zero_S1) (bs := [false]) (res := [4]) (by kernel_rfl) (tys_ok G_tys_ok) (law11_Poly1305Zero_ctrs N) Try.func4 (by kernel_rfl) (by kernel_rfl) Try.ntmps4 (by kernel_rfl) (by kernel_rfl) (by kernel_rfl) (by kernel_rfl) (fun E hb => law11_Poly1305Zero_b N hb)
end Go.Proofs.Ytlamdneheilahaa
namespace Go.Proofs.Ytlamdneheilahaa
open Go
set_option maxRecDepth 100000
set_option linter.unusedVariables false
/-! ipsecgate/ipsecgatelaw11.Poly1305Adds -/
abbrev law11_Poly1305Adds_R : Type := ((Bool × Unit) × (Unit))
noncomputable def law11_Poly1305Adds_s3 (N : Nat) (b_1 : (List UInt8)) (bits_2 : UInt8) (k_7 : (List UInt8)) (t_34 : Int) (t_35 : Int) (zero_8 : (List UInt8)) (t_33 : (List Int)) : Option (Lo (((List UInt8) × UInt8 × (List UInt8) × Int × Int × Unit) × ((List UInt8) × (List Int) × Unit)) (((List UInt8) × UInt8 × (List UInt8) × Unit) × ((List UInt8) × Unit)) law11_Poly1305Adds_R) :=
  bif (decide (t_35 < t_34)) then
    bif inR t_35 t_33.length then
    let x12 := (t_33.getD t_35.toNat (0 : Int))
    bif inR x12 zero_8.length then
    bif inR x12 zero_8.length then
    some (.go ((b_1, bits_2, k_7, t_34, (w64 (t_35 + (1 : Int))), ()), ((zero_8.set x12.toNat ((zero_8.getD x12.toNat (0 : UInt8)) ^^^ (bits_2 &&& (240 : UInt8)))), t_33, ())))
    else none
    else none
    else none
  else
    some (.br ((b_1, bits_2, k_7, ()), (zero_8, ())))
noncomputable def law11_Poly1305Adds_s6 (N : Nat) (b_1 : (List UInt8)) (bits_2 : UInt8) (k_7 : (List UInt8)) (t_49 : Int) (t_50 : Int) (zero_8 : (List UInt8)) (t_48 : (List Int)) : Option (Lo (((List UInt8) × UInt8 × (List UInt8) × Int × Int × Unit) × ((List UInt8) × (List Int) × Unit)) (((List UInt8) × (List UInt8) × Unit) × ((List UInt8) × Unit)) law11_Poly1305Adds_R) :=
  bif (decide (t_50 < t_49)) then
    bif inR t_50 t_48.length then
    let x20 := (t_48.getD t_50.toNat (0 : Int))
    bif inR x20 zero_8.length then
    bif inR x20 zero_8.length then
    some (.go ((b_1, bits_2, k_7, t_49, (w64 (t_50 + (1 : Int))), ()), ((zero_8.set x20.toNat ((zero_8.getD x20.toNat (0 : UInt8)) ^^^ (bits_2 &&& (3 : UInt8)))), t_48, ())))
    else none
    else none
    else none
  else
    some (.br ((b_1, k_7, ()), (zero_8, ())))
noncomputable def law11_Poly1305Adds_s10 (N : Nat) (k_7 : (List UInt8)) (carry_17 : Int) (i_18 : Int) (t_13 : (List UInt8)) (u_15 : (List UInt8)) : Option (Lo (((List UInt8) × Int × Int × Unit) × ((List UInt8) × (List UInt8) × Unit)) ((Unit) × (Unit)) law11_Poly1305Adds_R) :=
  bif (decide (i_18 < (16 : Int))) then
    bif inR i_18 u_15.length then
    let x32 := w64 ((16 : Int) + i_18)
    bif inR x32 k_7.length then
    let x36 := w64 (carry_17 + (w64 (((u_15.getD i_18.toNat (0 : UInt8)).toNat : Int) + ((k_7.getD x32.toNat (0 : UInt8)).toNat : Int))))
    bif inR i_18 t_13.length then
    bif (!(decide ((iu8 x36) = (t_13.getD i_18.toNat (0 : UInt8))))) then
      some (.rt ((false, ()), (())))
    else
      some (.go ((k_7, (shrI x36 8), (w64 (i_18 + (1 : Int))), ()), (t_13, u_15, ())))
    else none
    else none
    else none
  else
    some (.br ((()), (())))
noncomputable def law11_Poly1305Adds_11 (N : Nat) : Option law11_Poly1305Adds_R :=
  some ((true, ()), (()))
noncomputable def law11_Poly1305Adds_9 (N : Nat) (k_7 : (List UInt8)) (carry_17 : Int) (i_18 : Int) (t_13 : (List UInt8)) (u_15 : (List UInt8)) : Option law11_Poly1305Adds_R :=
  loopK N (fun y => law11_Poly1305Adds_s10 N y.1.1 y.1.2.1 y.1.2.2.1 y.2.1 y.2.2.1) (fun (e : ((Unit) × (Unit))) => law11_Poly1305Adds_11 N) ((k_7, carry_17, i_18, ()), (t_13, u_15, ()))
noncomputable def law11_Poly1305Adds_8 (N : Nat) (k_7 : (List UInt8)) (t_90 : Bool) (t_13 : (List UInt8)) (u_15 : (List UInt8)) : Option law11_Poly1305Adds_R :=
  bif t_90 then
    some ((false, ()), (()))
  else
    law11_Poly1305Adds_9 N k_7 (0 : Int) (0 : Int) t_13 u_15
noncomputable def law11_Poly1305Adds_7 (N : Nat) (b_1 : (List UInt8)) (k_7 : (List UInt8)) (zero_8 : (List UInt8)) : Option law11_Poly1305Adds_R :=
  Option.bind (poly1305_Sum N k_7 b_1) fun y26 =>
  Option.bind (poly1305_Sum N zero_8 b_1) fun y27 =>
  bif (!y26.1.1) then
    law11_Poly1305Adds_8 N k_7 true y26.2.1 y27.2.1
  else
    bif (!y27.1.1) then
      law11_Poly1305Adds_8 N k_7 true y26.2.1 y27.2.1
    else
      bif (!(decide ((y26.2.1.length : Int) = (16 : Int)))) then
        law11_Poly1305Adds_8 N k_7 true y26.2.1 y27.2.1
      else
        law11_Poly1305Adds_8 N k_7 (!(decide ((y27.2.1.length : Int) = (16 : Int)))) y26.2.1 y27.2.1
noncomputable def law11_Poly1305Adds_5 (N : Nat) (b_1 : (List UInt8)) (bits_2 : UInt8) (k_7 : (List UInt8)) (t_49 : Int) (t_50 : Int) (zero_8 : (List UInt8)) (t_48 : (List Int)) : Option law11_Poly1305Adds_R :=
  loopK N (fun y => law11_Poly1305Adds_s6 N y.1.1 y.1.2.1 y.1.2.2.1 y.1.2.2.2.1 y.1.2.2.2.2.1 y.2.1 y.2.2.1) (fun (e : (((List UInt8) × (List UInt8) × Unit) × ((List UInt8) × Unit))) => law11_Poly1305Adds_7 N e.1.1 e.1.2.1 e.2.1) ((b_1, bits_2, k_7, t_49, t_50, ()), (zero_8, t_48, ()))
noncomputable def law11_Poly1305Adds_4 (N : Nat) (b_1 : (List UInt8)) (bits_2 : UInt8) (k_7 : (List UInt8)) (zero_8 : (List UInt8)) : Option law11_Poly1305Adds_R :=
  law11_Poly1305Adds_5 N b_1 bits_2 k_7 (([(4 : Int), (8 : Int), (12 : Int)] : List Int).length : Int) (0 : Int) zero_8 ([(4 : Int), (8 : Int), (12 : Int)] : List Int)
noncomputable def law11_Poly1305Adds_2 (N : Nat) (b_1 : (List UInt8)) (bits_2 : UInt8) (k_7 : (List UInt8)) (t_34 : Int) (t_35 : Int) (zero_8 : (List UInt8)) (t_33 : (List Int)) : Option law11_Poly1305Adds_R :=
  loopK N (fun y => law11_Poly1305Adds_s3 N y.1.1 y.1.2.1 y.1.2.2.1 y.1.2.2.2.1 y.1.2.2.2.2.1 y.2.1 y.2.2.1) (fun (e : (((List UInt8) × UInt8 × (List UInt8) × Unit) × ((List UInt8) × Unit))) => law11_Poly1305Adds_4 N e.1.1 e.1.2.1 e.1.2.2.1 e.2.1) ((b_1, bits_2, k_7, t_34, t_35, ()), (zero_8, t_33, ()))
noncomputable def law11_Poly1305Adds_1 (N : Nat) (codes_0 : (List UInt8)) (b_1 : (List UInt8)) (bits_2 : UInt8) : Option law11_Poly1305Adds_R :=
  Option.bind (make_New N codes_0 (60 : Int)) fun y6 =>
  Option.bind (make_Codes_Bytes N (32 : Int) y6.2.1) fun y7 =>
  bif decide (0 ≤ (0 : Int)) && decide ((0 : Int) ≤ (16 : Int)) && decide ((16 : Int) ≤ (y7.2.2.1.length : Int)) && true then
  let x8 := cut y7.2.2.1 0 16
  bif room (0 + x8.length) 1 then
  bif room (x8.length + (List.replicate 16 (0 : UInt8)).length) 1 then
  law11_Poly1305Adds_2 N b_1 bits_2 y7.2.2.1 (([(3 : Int), (7 : Int), (11 : Int), (15 : Int)] : List Int).length : Int) (0 : Int) (x8 ++ (List.replicate 16 (0 : UInt8))) ([(3 : Int), (7 : Int), (11 : Int), (15 : Int)] : List Int)
  else none
  else none
  else none
noncomputable def law11_Poly1305Adds (N : Nat) (codes_0 : (List UInt8)) (b_1 : (List UInt8)) (bits_2 : UInt8) : Option law11_Poly1305Adds_R :=
  Option.bind (law11_awake N) fun y1 =>
  bif (!y1.1.1) then
    some ((false, ()), (()))
  else
    bif (decide ((200 : Int) < (b_1.length : Int))) then
      bif decide (0 ≤ (0 : Int)) && decide ((0 : Int) ≤ (200 : Int)) && decide ((200 : Int) ≤ (b_1.length : Int)) && true then
      law11_Poly1305Adds_1 N codes_0 (cut b_1 0 200) bits_2
      else none
    else
      law11_Poly1305Adds_1 N codes_0 b_1 bits_2
noncomputable def law11_Poly1305Adds_C (N : Nat) : Ctx := ⟨118, G_tys, [(12, law11_awake_ctr N), (13, make_New_ctr N), (14, make_Codes_Bytes_ctr N), (15, poly1305_Sum_ctr N)], G_globs⟩
noncomputable def law11_Poly1305Adds_S0 : Spec := ⟨[.val (.sl .u8), .val .u8, .val (.sl .u8), .row 0, .row 1, .val .i64, .val .i64], [(.row 5 .u8, .pos 3), (.row 3 .i64, .pos 4)]⟩
noncomputable def law11_Poly1305Adds_S1 : Spec := ⟨[.val (.sl .u8), .row 0, .row 1, .val .i64, .val .i64], [(.row 5 .u8, .pos 1), (.row 5 .u8, .pos 2)]⟩
noncomputable def law11_Poly1305Adds_S2 : Spec := ⟨[], []⟩
noncomputable def law11_Poly1305Adds_S3 : Spec := ⟨[.val (.sl .u8), .row 0, .row 1, .val .bool], [(.row 5 .u8, .pos 1), (.row 5 .u8, .pos 2)]⟩
noncomputable def law11_Poly1305Adds_S4 : Spec := ⟨[.val (.sl .u8), .val (.sl .u8), .row 0], [(.row 5 .u8, .pos 2)]⟩
noncomputable def law11_Poly1305Adds_S5 : Spec := ⟨[.val (.sl .u8), .val .u8, .val (.sl .u8), .row 0], [(.row 5 .u8, .pos 3)]⟩
noncomputable def law11_Poly1305Adds_S6 : Spec := ⟨[.val (.sl .u8), .val (.sl .u8), .val .u8], []⟩
noncomputable def law11_Poly1305Adds_S7 : Spec := ⟨[.val .bool], []⟩
noncomputable def law11_Poly1305Adds_K (_N : Nat) : XE → GS → Option law11_Poly1305Adds_R := retK 0 [6] [false] law11_Poly1305Adds_S7
noncomputable def law11_Poly1305Adds_L : List Code := (bodyOf (some Try.f6))
noncomputable def law11_Poly1305Adds_L3 : List Code := (loopOf (law11_Poly1305Adds_L[8]?))
noncomputable def law11_Poly1305Adds_L6 : List Code := (loopOf (law11_Poly1305Adds_L[10]?))
noncomputable def law11_Poly1305Adds_L10 : List Code := (loopOf (law11_Poly1305Adds_L[17]?))
noncomputable def law11_Poly1305Adds_K3 (N : Nat) : XE → GS → Option (Lo (((List UInt8) × UInt8 × (List UInt8) × Int × Int × Unit) × ((List UInt8) × (List Int) × Unit)) (((List UInt8) × UInt8 × (List UInt8) × Unit) × ((List UInt8) × Unit)) law11_Poly1305Adds_R) := roundK (some 0) (fit 0 [1, 2, 7, 8, 33, 34, 35] law11_Poly1305Adds_S0) (fit 0 [1, 2, 7, 8] law11_Poly1305Adds_S5) (law11_Poly1305Adds_K N)
noncomputable def law11_Poly1305Adds_K6 (N : Nat) : XE → GS → Option (Lo (((List UInt8) × UInt8 × (List UInt8) × Int × Int × Unit) × ((List UInt8) × (List Int) × Unit)) (((List UInt8) × (List UInt8) × Unit) × ((List UInt8) × Unit)) law11_Poly1305Adds_R) := roundK (some 2) (fit 0 [1, 2, 7, 8, 48, 49, 50] law11_Poly1305Adds_S0) (fit 0 [1, 7, 8] law11_Poly1305Adds_S4) (law11_Poly1305Adds_K N)
noncomputable def law11_Poly1305Adds_K10 (N : Nat) : XE → GS → Option (Lo (((List UInt8) × Int × Int × Unit) × ((List UInt8) × (List UInt8) × Unit)) ((Unit) × (Unit)) law11_Poly1305Adds_R) := roundK (some 4) (fit 0 [7, 13, 15, 17, 18] law11_Poly1305Adds_S1) (fit 0 [] law11_Poly1305Adds_S2) (law11_Poly1305Adds_K N)
theorem law11_Poly1305Adds_s3_b {E : Env} (N : Nat) (hb : Base Try.prog (law11_Poly1305Adds_C N) E 0) : Blk Try.prog (law11_Poly1305Adds_C N) E [1, 2, 7, 8, 33, 34, 35] law11_Poly1305Adds_S0 (law11_Poly1305Adds_L3.drop 0) (fun y => law11_Poly1305Adds_s3 N y.1.1 y.1.2.1 y.1.2.2.1 y.1.2.2.2.1 y.1.2.2.2.2.1 y.2.1 y.2.2.1) (law11_Poly1305Adds_K3 N) :=
  Blk.chunkAt hb 4 (X := (law11_Poly1305Adds_K3 N .normal)) (NxOk.end (by kernel_rfl)) rfl (fun x => by kernel_rfl)
theorem law11_Poly1305Adds_s6_b {E : Env} (N : Nat) (hb : Base Try.prog (law11_Poly1305Adds_C N) E 0) : Blk Try.prog (law11_Poly1305Adds_C N) E [1, 2, 7, 8, 48, 49, 50] law11_Poly1305Adds_S0 (law11_Poly1305Adds_L6.drop 0) (fun y => law11_Poly1305Adds_s6 N y.1.1 y.1.2.1 y.1.2.2.1 y.1.2.2.2.1 y.1.2.2.2.2.1 y.2.1 y.2.2.1) (law11_Poly1305Adds_K6 N) :=
  Blk.chunkAt hb 4 (X := (law11_Poly1305Adds_K6 N .normal)) (NxOk.end (by kernel_rfl)) rfl (fun x => by kernel_rfl)
theorem law11_Poly1305Adds_s10_b {E : Env} (N : Nat) (hb : Base Try.prog (law11_Poly1305Adds_C N) E 0) : Blk Try.prog (law11_Poly1305Adds_C N) E [7, 13, 15, 17, 18] law11_Poly1305Adds_S1 (law11_Poly1305Adds_L10.drop 0) (fun y => law11_Poly1305Adds_s10 N y.1.1 y.1.2.1 y.1.2.2.1 y.2.1 y.2.2.1) (law11_Poly1305Adds_K10 N) :=
  Blk.chunkAt hb 4 (X := (law11_Poly1305Adds_K10 N .normal)) (NxOk.end (by kernel_rfl)) rfl (fun x => by kernel_rfl)
theorem law11_Poly1305Adds_11_b {E : Env} (N : Nat) (hb : Base Try.prog (law11_Poly1305Adds_C N) E 0) : Blk Try.prog (law11_Poly1305Adds_C N) E [] law11_Poly1305Adds_S2 (law11_Poly1305Adds_L.drop 18) (fun y => law11_Poly1305Adds_11 N) (law11_Poly1305Adds_K N) :=
  Blk.chunkAt hb 2 (X := (law11_Poly1305Adds_K N .normal)) (NxOk.end (by kernel_rfl)) rfl (fun x => by kernel_rfl)
theorem law11_Poly1305Adds_9_b {E : Env} (N : Nat) (hb : Base Try.prog (law11_Poly1305Adds_C N) E 0) : Blk Try.prog (law11_Poly1305Adds_C N) E [7, 13, 15, 17, 18] law11_Poly1305Adds_S1 (law11_Poly1305Adds_L.drop 17) (fun y => law11_Poly1305Adds_9 N y.1.1 y.1.2.1 y.1.2.2.1 y.2.1 y.2.2.1) (law11_Poly1305Adds_K N) :=
  Blk.loopAt (Nf := N) (hns := [7, 13, 15, 17, 18]) (ans := []) (hc := law11_Poly1305Adds_S1) (ac := law11_Poly1305Adds_S2) (bid := 4) (step := (fun y => law11_Poly1305Adds_s10 N y.1.1 y.1.2.1 y.1.2.2.1 y.2.1 y.2.2.1)) (J := (fun e => (goK 0 [] law11_Poly1305Adds_S2 (fun y => law11_Poly1305Adds_11 N)) (law11_Poly1305Adds_S2.st [] e))) hb (by kernel_rfl) (Blk.into (X := (goK 0 [] law11_Poly1305Adds_S2 (fun y => law11_Poly1305Adds_11 N))) (NxOk.go hb (law11_Poly1305Adds_11_b N hb)) (fun x => by kernel_rfl)) (law11_Poly1305Adds_s10_b N hb) (fun x => by kernel_rfl)
theorem law11_Poly1305Adds_8_b {E : Env} (N : Nat) (hb : Base Try.prog (law11_Poly1305Adds_C N) E 0) : Blk Try.prog (law11_Poly1305Adds_C N) E [7, 13, 15, 90] law11_Poly1305Adds_S3 (law11_Poly1305Adds_L.drop 14) (fun y => law11_Poly1305Adds_8 N y.1.1 y.1.2.1 y.2.1 y.2.2.1) (law11_Poly1305Adds_K N) :=
  Blk.chunkAt hb 3 (X := (goK 0 [7, 13, 15, 17, 18] law11_Poly1305Adds_S1 (fun y => law11_Poly1305Adds_9 N y.1.1 y.1.2.1 y.1.2.2.1 y.2.1 y.2.2.1))) (NxOk.go hb (law11_Poly1305Adds_9_b N hb)) rfl (fun x => by kernel_rfl)
theorem law11_Poly1305Adds_7_b {E : Env} (N : Nat) (hb : Base Try.prog (law11_Poly1305Adds_C N) E 0) : Blk Try.prog (law11_Poly1305Adds_C N) E [1, 7, 8] law11_Poly1305Adds_S4 (law11_Poly1305Adds_L.drop 11) (fun y => law11_Poly1305Adds_7 N y.1.1 y.1.2.1 y.2.1) (law11_Poly1305Adds_K N) :=
  Blk.chunkAt hb 3 (X := (goK 0 [7, 13, 15, 90] law11_Poly1305Adds_S3 (fun y => law11_Poly1305Adds_8 N y.1.1 y.1.2.1 y.2.1 y.2.2.1))) (NxOk.go hb (law11_Poly1305Adds_8_b N hb)) rfl (fun x => by kernel_rfl)
theorem law11_Poly1305Adds_5_b {E : Env} (N : Nat) (hb : Base Try.prog (law11_Poly1305Adds_C N) E 0) : Blk Try.prog (law11_Poly1305Adds_C N) E [1, 2, 7, 8, 48, 49, 50] law11_Poly1305Adds_S0 (law11_Poly1305Adds_L.drop 10) (fun y => law11_Poly1305Adds_5 N y.1.1 y.1.2.1 y.1.2.2.1 y.1.2.2.2.1 y.1.2.2.2.2.1 y.2.1 y.2.2.1) (law11_Poly1305Adds_K N) :=
  Blk.loopAt (Nf := N) (hns := [1, 2, 7, 8, 48, 49, 50]) (ans := [1, 7, 8]) (hc := law11_Poly1305Adds_S0) (ac := law11_Poly1305Adds_S4) (bid := 2) (step := (fun y => law11_Poly1305Adds_s6 N y.1.1 y.1.2.1 y.1.2.2.1 y.1.2.2.2.1 y.1.2.2.2.2.1 y.2.1 y.2.2.1)) (J := (fun e => (goK 0 [1, 7, 8] law11_Poly1305Adds_S4 (fun y => law11_Poly1305Adds_7 N y.1.1 y.1.2.1 y.2.1)) (law11_Poly1305Adds_S4.st [1, 7, 8] e))) hb (by kernel_rfl) (Blk.into (X := (goK 0 [1, 7, 8] law11_Poly1305Adds_S4 (fun y => law11_Poly1305Adds_7 N y.1.1 y.1.2.1 y.2.1))) (NxOk.go hb (law11_Poly1305Adds_7_b N hb)) (fun x => by kernel_rfl)) (law11_Poly1305Adds_s6_b N hb) (fun x => by kernel_rfl)
theorem law11_Poly1305Adds_4_b {E : Env} (N : Nat) (hb : Base Try.prog (law11_Poly1305Adds_C N) E 0) : Blk Try.prog (law11_Poly1305Adds_C N) E [1, 2, 7, 8] law11_Poly1305Adds_S5 (law11_Poly1305Adds_L.drop 9) (fun y => law11_Poly1305Adds_4 N y.1.1 y.1.2.1 y.1.2.2.1 y.2.1) (law11_Poly1305Adds_K N) :=
  Blk.chunkAt hb 1 (X := (goK 0 [1, 2, 7, 8, 48, 49, 50] law11_Poly1305Adds_S0 (fun y => law11_Poly1305Adds_5 N y.1.1 y.1.2.1 y.1.2.2.1 y.1.2.2.2.1 y.1.2.2.2.2.1 y.2.1 y.2.2.1))) (NxOk.go hb (law11_Poly1305Adds_5_b N hb)) rfl (fun x => by kernel_rfl)
theorem law11_Poly1305Adds_2_b {E : Env} (N : Nat) (hb : Base Try.prog (law11_Poly1305Adds_C N) E 0) : Blk Try.prog (law11_Poly1305Adds_C N) E [1, 2, 7, 8, 33, 34, 35] law11_Poly1305Adds_S0 (law11_Poly1305Adds_L.drop 8) (fun y => law11_Poly1305Adds_2 N y.1.1 y.1.2.1 y.1.2.2.1 y.1.2.2.2.1 y.1.2.2.2.2.1 y.2.1 y.2.2.1) (law11_Poly1305Adds_K N) :=
  Blk.loopAt (Nf := N) (hns := [1, 2, 7, 8, 33, 34, 35]) (ans := [1, 2, 7, 8]) (hc := law11_Poly1305Adds_S0) (ac := law11_Poly1305Adds_S5) (bid := 0) (step := (fun y => law11_Poly1305Adds_s3 N y.1.1 y.1.2.1 y.1.2.2.1 y.1.2.2.2.1 y.1.2.2.2.2.1 y.2.1 y.2.2.1)) (J := (fun e => (goK 0 [1, 2, 7, 8] law11_Poly1305Adds_S5 (fun y => law11_Poly1305Adds_4 N y.1.1 y.1.2.1 y.1.2.2.1 y.2.1)) (law11_Poly1305Adds_S5.st [1, 2, 7, 8] e))) hb (by kernel_rfl) (Blk.into (X := (goK 0 [1, 2, 7, 8] law11_Poly1305Adds_S5 (fun y => law11_Poly1305Adds_4 N y.1.1 y.1.2.1 y.1.2.2.1 y.2.1))) (NxOk.go hb (law11_Poly1305Adds_4_b N hb)) (fun x => by kernel_rfl)) (law11_Poly1305Adds_s3_b N hb) (fun x => by kernel_rfl)
theorem law11_Poly1305Adds_1_b {E : Env} (N : Nat) (hb : Base Try.prog (law11_Poly1305Adds_C N) E 0) : Blk Try.prog (law11_Poly1305Adds_C N) E [0, 1, 2] law11_Poly1305Adds_S6 (law11_Poly1305Adds_L.drop 5) (fun y => law11_Poly1305Adds_1 N y.1.1 y.1.2.1 y.1.2.2.1) (law11_Poly1305Adds_K N) :=
  Blk.chunkAt hb 3 (X := (goK 0 [1, 2, 7, 8, 33, 34, 35] law11_Poly1305Adds_S0 (fun y => law11_Poly1305Adds_2 N y.1.1 y.1.2.1 y.1.2.2.1 y.1.2.2.2.1 y.1.2.2.2.2.1 y.2.1 y.2.2.1))) (NxOk.go hb (law11_Poly1305Adds_2_b N hb)) rfl (fun x => by kernel_rfl)
theorem law11_Poly1305Adds_b {E : Env} (N : Nat) (hb : Base Try.prog (law11_Poly1305Adds_C N) E 0) : Blk Try.prog (law11_Poly1305Adds_C N) E (List.range law11_Poly1305Adds_S6.ks.length) law11_Poly1305Adds_S6 (law11_Poly1305Adds_L.drop 0) (fun y => law11_Poly1305Adds N y.1.1 y.1.2.1 y.1.2.2.1) (law11_Poly1305Adds_K N) :=
  Blk.chunkAt hb 5 (X := (goK 0 [0, 1, 2] law11_Poly1305Adds_S6 (fun y => law11_Poly1305Adds_1 N y.1.1 y.1.2.1 y.1.2.2.1))) (NxOk.go hb (law11_Poly1305Adds_1_b N hb)) rfl (fun x => by kernel_rfl)
noncomputable def law11_Poly1305Adds_ctr (N : Nat) : Ctr := ⟨law11_Poly1305Adds_S6, law11_Poly1305Adds_S7.un [false], 0, (fun y => law11_Poly1305Adds N y.1.1 y.1.2.1 y.1.2.2.1)⟩
theorem law11_Poly1305Adds_ctrs (N : Nat) : CtrsOk Try.prog (law11_Poly1305Adds_C N) := ctrs_of (Γ := law11_Poly1305Adds_C N) (by
  intro p hp
  simp only [law11_Poly1305Adds_C, List.mem_cons, List.not_mem_nil, or_false] at hp
  rcases hp with rfl | rfl | rfl | rfl
  · exact law11_awake_ok N
  · exact make_New_ok N
  · exact make_Codes_Bytes_ok N
  · exact poly1305_Sum_ok N)
theorem law11_Poly1305Adds_ok (N : Nat) : Ctr.ok Try.prog G_globs 6 (law11_Poly1305Adds_ctr N) :=
  ctr_fn (Γ := law11_Poly1305Adds_C N) (rfit := law11_Poly1305Adds_S7) (bs := [false]) (res := [6]) (by kernel_rfl) (tys_ok G_tys_ok) (law11_Poly1305Adds_ctrs N) Try.func6 (by kernel_rfl) (by kernel_rfl) Try.ntmps6 (by kernel_rfl) (by kernel_rfl) (by kernel_rfl) (by kernel_rfl) (fun E hb => law11_Poly1305Adds_b N hb)
end Go.Proofs.Ytlamdneheilahaa