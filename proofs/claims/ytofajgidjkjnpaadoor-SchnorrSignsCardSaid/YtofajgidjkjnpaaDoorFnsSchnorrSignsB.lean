/- Functions of the program as plain functions, each with the proof that the text computes it. -/
import Derived.Test.YtofajgidjkjnpaaDoorFnsSchnorrSignsA
set_option linter.unusedVariables false
set_option linter.unusedSimpArgs false
namespace Go.Proofs.YtofajgidjkjnpaaDoor
open Go
set_option maxRecDepth 100000
set_option linter.unusedVariables false
/-! ipsecgate/ipsecgateref15.mulq -/
abbrev ref15_mulq_R : Type := ((UInt64 × Unit) × (Unit))
noncomputable def ref15_mulq_s2 (N : Nat) (a_0 : UInt64) (b_1 : UInt64) (out_5 : UInt64) : Option (Lo ((UInt64 × UInt64 × UInt64 × Unit) × (Unit)) ((UInt64 × Unit) × (Unit)) ref15_mulq_R) :=
  bif (decide ((0 : UInt64) < b_1)) then
    bif (decide ((b_1 &&& (1 : UInt64)) = (1 : UInt64))) then
      some (.go (((((2 : UInt64) * a_0) % (2305843009213688669 : UInt64)), (shr64 b_1 1), ((out_5 + a_0) % (2305843009213688669 : UInt64)), ()), (())))
    else
      some (.go (((((2 : UInt64) * a_0) % (2305843009213688669 : UInt64)), (shr64 b_1 1), out_5, ()), (())))
  else
    some (.br ((out_5, ()), (())))
noncomputable def ref15_mulq_3 (N : Nat) (out_5 : UInt64) : Option ref15_mulq_R :=
  some ((out_5, ()), (()))
noncomputable def ref15_mulq_1 (N : Nat) (a_0 : UInt64) (b_1 : UInt64) (out_5 : UInt64) : Option ref15_mulq_R :=
  loopK N (fun y => ref15_mulq_s2 N y.1.1 y.1.2.1 y.1.2.2.1) (fun (e : ((UInt64 × Unit) × (Unit))) => ref15_mulq_3 N e.1.1) ((a_0, b_1, out_5, ()), (()))
noncomputable def ref15_mulq (N : Nat) (a_0 : UInt64) (b_1 : UInt64) : Option ref15_mulq_R :=
  ref15_mulq_1 N (a_0 % (2305843009213688669 : UInt64)) (b_1 % (2305843009213688669 : UInt64)) (0 : UInt64)
noncomputable def ref15_mulq_C (N : Nat) : Ctx := ⟨25, G_tys, [], G_globs⟩
noncomputable def ref15_mulq_S0 : Spec := ⟨[.val .u64, .val .u64, .val .u64], []⟩
noncomputable def ref15_mulq_S1 : Spec := ⟨[.val .u64], []⟩
noncomputable def ref15_mulq_S2 : Spec := ⟨[.val .u64, .val .u64], []⟩
noncomputable def ref15_mulq_K (_N : Nat) : XE → GS → Option ref15_mulq_R := retK 0 [4] [false] ref15_mulq_S1
noncomputable def ref15_mulq_L : List Code := (bodyOf (some Tryd.f87))
noncomputable def ref15_mulq_L2 : List Code := (loopOf (ref15_mulq_L[4]?))
noncomputable def ref15_mulq_K2 (N : Nat) : XE → GS → Option (Lo ((UInt64 × UInt64 × UInt64 × Unit) × (Unit)) ((UInt64 × Unit) × (Unit)) ref15_mulq_R) := roundK (some 0) (fit 0 [0, 1, 5] ref15_mulq_S0) (fit 0 [5] ref15_mulq_S1) (ref15_mulq_K N)
theorem ref15_mulq_s2_b {E : Env} (N : Nat) (hb : Base Tryd.prog (ref15_mulq_C N) E 0) : Blk Tryd.prog (ref15_mulq_C N) E [0, 1, 5] ref15_mulq_S0 (ref15_mulq_L2.drop 0) (fun y => ref15_mulq_s2 N y.1.1 y.1.2.1 y.1.2.2.1) (ref15_mulq_K2 N) :=
  Blk.chunkAt hb 4 (X := (ref15_mulq_K2 N .normal)) (NxOk.end (by kernel_rfl)) rfl (fun x => by kernel_rfl)
theorem ref15_mulq_3_b {E : Env} (N : Nat) (hb : Base Tryd.prog (ref15_mulq_C N) E 0) : Blk Tryd.prog (ref15_mulq_C N) E [5] ref15_mulq_S1 (ref15_mulq_L.drop 5) (fun y => ref15_mulq_3 N y.1.1) (ref15_mulq_K N) :=
  Blk.chunkAt hb 2 (X := (ref15_mulq_K N .normal)) (NxOk.end (by kernel_rfl)) rfl (fun x => by kernel_rfl)
theorem ref15_mulq_1_b {E : Env} (N : Nat) (hb : Base Tryd.prog (ref15_mulq_C N) E 0) : Blk Tryd.prog (ref15_mulq_C N) E [0, 1, 5] ref15_mulq_S0 (ref15_mulq_L.drop 4) (fun y => ref15_mulq_1 N y.1.1 y.1.2.1 y.1.2.2.1) (ref15_mulq_K N) :=
  Blk.loopAt (Nf := N) (hns := [0, 1, 5]) (ans := [5]) (hc := ref15_mulq_S0) (ac := ref15_mulq_S1) (bid := 0) (step := (fun y => ref15_mulq_s2 N y.1.1 y.1.2.1 y.1.2.2.1)) (J := (fun e => (goK 0 [5] ref15_mulq_S1 (fun y => ref15_mulq_3 N y.1.1)) (ref15_mulq_S1.st [5] e))) hb (by kernel_rfl) (Blk.into (X := (goK 0 [5] ref15_mulq_S1 (fun y => ref15_mulq_3 N y.1.1))) (NxOk.go hb (ref15_mulq_3_b N hb)) (fun x => by kernel_rfl)) (ref15_mulq_s2_b N hb) (fun x => by kernel_rfl)
theorem ref15_mulq_b {E : Env} (N : Nat) (hb : Base Tryd.prog (ref15_mulq_C N) E 0) : Blk Tryd.prog (ref15_mulq_C N) E (List.range ref15_mulq_S2.ks.length) ref15_mulq_S2 (ref15_mulq_L.drop 0) (fun y => ref15_mulq N y.1.1 y.1.2.1) (ref15_mulq_K N) :=
  Blk.chunkAt hb 4 (X := (goK 0 [0, 1, 5] ref15_mulq_S0 (fun y => ref15_mulq_1 N y.1.1 y.1.2.1 y.1.2.2.1))) (NxOk.go hb (ref15_mulq_1_b N hb)) rfl (fun x => by kernel_rfl)
noncomputable def ref15_mulq_ctr (N : Nat) : Ctr := ⟨ref15_mulq_S2, ref15_mulq_S1.un [false], 0, (fun y => ref15_mulq N y.1.1 y.1.2.1)⟩
theorem ref15_mulq_ctrs (N : Nat) : CtrsOk Tryd.prog (ref15_mulq_C N) := ctrs_nil rfl
theorem ref15_mulq_ok (N : Nat) : Ctr.ok Tryd.prog G_globs 87 (ref15_mulq_ctr N) :=
  ctr_fn (Γ := ref15_mulq_C N) (rfit := ref15_mulq_S1) (bs := [false]) (res := [4]) (by kernel_rfl) (tys_ok G_tys_ok) (ref15_mulq_ctrs N) Tryd.func87 (by kernel_rfl) (by kernel_rfl) Tryd.ntmps87 (by kernel_rfl) (by kernel_rfl) (by kernel_rfl) (by kernel_rfl) (fun E hb => ref15_mulq_b N hb)
end Go.Proofs.YtofajgidjkjnpaaDoor
namespace Go.Proofs.YtofajgidjkjnpaaDoor
open Go
set_option maxRecDepth 100000
set_option linter.unusedVariables false
/-! ipsecgate/ipsecgateref15.Sign -/
abbrev ref15_Sign_R : Type := ((Int × Unit) × ((List UInt8) × Unit))
noncomputable def ref15_Sign (N : Nat) (secret_0 : UInt64) (message_1 : (List UInt8)) : Option ref15_Sign_R :=
  Option.bind (ref13_Public N secret_0) fun y1 =>
  bif (!(decide (y1.1.2.1 = (0 : Int)))) then
    some ((y1.1.2.1, ()), (([] : List UInt8), ()))
  else
    Option.bind (ref13_Bytes N secret_0) fun y3 =>
    Option.bind (ref09_Hmac N y3.2.1 message_1) fun y4 =>
    Option.bind (ref15_first N y4.2.1) fun y5 =>
    let x7 := (1 : UInt64) + (y5.1.1 % (2305843009213688668 : UInt64))
    Option.bind (ref13_Power N (4 : UInt64) x7) fun y8 =>
    Option.bind (ref15_challenge N y8.1.1 y1.1.1 message_1) fun y9 =>
    Option.bind (ref15_mulq N y9.1.1 secret_0) fun y10 =>
    Option.bind (ref13_Bytes N y9.1.1) fun y13 =>
    Option.bind (ref13_Bytes N ((x7 + y10.1.1) % (2305843009213688669 : UInt64))) fun y14 =>
    bif room (y13.2.1.length + y14.2.1.length) 1 then
    some (((0 : Int), ()), ((y13.2.1 ++ y14.2.1), ()))
    else none
noncomputable def ref15_Sign_C (N : Nat) : Ctx := ⟨42, G_tys, [(18, ref13_Public_ctr N), (85, ref13_Bytes_ctr N), (84, ref09_Hmac_ctr N), (83, ref15_first_ctr N), (82, ref13_Power_ctr N), (86, ref15_challenge_ctr N), (87, ref15_mulq_ctr N)], G_globs⟩
noncomputable def ref15_Sign_S0 : Spec := ⟨[.val .u64, .val (.sl .u8)], []⟩
noncomputable def ref15_Sign_S1 : Spec := ⟨[.row 0, .val .i64], [(.row 5 .u8, .pos 0)]⟩
noncomputable def ref15_Sign_K (_N : Nat) : XE → GS → Option ref15_Sign_R := retK 0 [4, 5] [false, false] ref15_Sign_S1
noncomputable def ref15_Sign_L : List Code := (bodyOf (some Tryd.f19))
theorem ref15_Sign_b {E : Env} (N : Nat) (hb : Base Tryd.prog (ref15_Sign_C N) E 0) : Blk Tryd.prog (ref15_Sign_C N) E (List.range ref15_Sign_S0.ks.length) ref15_Sign_S0 (ref15_Sign_L.drop 0) (fun y => ref15_Sign N y.1.1 y.1.2.1) (ref15_Sign_K N) :=
  Blk.chunkAt hb 9 (X := (ref15_Sign_K N .normal)) (NxOk.end (by kernel_rfl)) rfl (fun x => by kernel_rfl)
noncomputable def ref15_Sign_ctr (N : Nat) : Ctr := ⟨ref15_Sign_S0, ref15_Sign_S1.un [false, false], 0, (fun y => ref15_Sign N y.1.1 y.1.2.1)⟩
theorem ref15_Sign_ctrs (N : Nat) : CtrsOk Tryd.prog (ref15_Sign_C N) := ctrs_of (Γ := ref15_Sign_C N) (by
  intro p hp
  simp only [ref15_Sign_C, List.mem_cons, List.not_mem_nil, or_false] at hp
  rcases hp with rfl | rfl | rfl | rfl | rfl | rfl | rfl
  · exact ref13_Public_ok N
  · exact ref13_Bytes_ok N
  · exact ref09_Hmac_ok N
  · exact ref15_first_ok N
  · exact ref13_Power_ok N
  · exact ref15_challenge_ok N
  · exact ref15_mulq_ok N)
theorem ref15_Sign_ok (N : Nat) : Ctr.ok Tryd.prog G_globs 19 (ref15_Sign_ctr N) :=
  ctr_fn (Γ := ref15_Sign_C N) (rfit := ref15_Sign_S1) (bs := [false, false]) (res := [4, 5]) (by kernel_rfl) (tys_ok G_tys_ok) (ref15_Sign_ctrs N) Tryd.func19 (by kernel_rfl) (by kernel_rfl) Tryd.ntmps19 (by kernel_rfl) (by kernel_rfl) (by kernel_rfl) (by kernel_rfl) (fun E hb => ref15_Sign_b N hb)
end Go.Proofs.YtofajgidjkjnpaaDoor
namespace Go.Proofs.YtofajgidjkjnpaaDoor
open Go
set_option maxRecDepth 100000
set_option linter.unusedVariables false
/-! ipsecgate/ipsecgateref01.Compare -/
abbrev ref01_Compare_R : Type := ((Int × Unit) × (Unit))
noncomputable def ref01_Compare_3 (N : Nat) (a_0 : (List UInt8)) (b_1 : (List UInt8)) (i_5 : Int) (t_15 : Bool) : Option (Lo (((List UInt8) × (List UInt8) × Int × Unit) × (Unit)) (((List UInt8) × (List UInt8) × Unit) × (Unit)) ref01_Compare_R) :=
  bif t_15 then
    bif inR i_5 a_0.length then
    bif inR i_5 b_1.length then
    bif (decide ((a_0.getD i_5.toNat (0 : UInt8)) < (b_1.getD i_5.toNat (0 : UInt8)))) then
      some (.rt (((-1 : Int), ()), (())))
    else
      bif inR i_5 a_0.length then
      bif inR i_5 b_1.length then
      bif (decide ((b_1.getD i_5.toNat (0 : UInt8)) < (a_0.getD i_5.toNat (0 : UInt8)))) then
        some (.rt (((1 : Int), ()), (())))
      else
        some (.go ((a_0, b_1, (w64 (i_5 + (1 : Int))), ()), (())))
      else none
      else none
    else none
    else none
  else
    some (.br ((a_0, b_1, ()), (())))
noncomputable def ref01_Compare_s2 (N : Nat) (a_0 : (List UInt8)) (b_1 : (List UInt8)) (i_5 : Int) : Option (Lo (((List UInt8) × (List UInt8) × Int × Unit) × (Unit)) (((List UInt8) × (List UInt8) × Unit) × (Unit)) ref01_Compare_R) :=
  bif (decide (i_5 < (a_0.length : Int))) then
    ref01_Compare_3 N a_0 b_1 i_5 (decide (i_5 < (b_1.length : Int)))
  else
    ref01_Compare_3 N a_0 b_1 i_5 false
noncomputable def ref01_Compare_4 (N : Nat) (a_0 : (List UInt8)) (b_1 : (List UInt8)) : Option ref01_Compare_R :=
  bif (decide ((a_0.length : Int) < (b_1.length : Int))) then
    some (((-1 : Int), ()), (()))
  else
    bif (decide ((b_1.length : Int) < (a_0.length : Int))) then
      some (((1 : Int), ()), (()))
    else
      some (((0 : Int), ()), (()))
noncomputable def ref01_Compare_1 (N : Nat) (a_0 : (List UInt8)) (b_1 : (List UInt8)) (i_5 : Int) : Option ref01_Compare_R :=
  loopK N (fun y => ref01_Compare_s2 N y.1.1 y.1.2.1 y.1.2.2.1) (fun (e : (((List UInt8) × (List UInt8) × Unit) × (Unit))) => ref01_Compare_4 N e.1.1 e.1.2.1) ((a_0, b_1, i_5, ()), (()))
noncomputable def ref01_Compare (N : Nat) (a_0 : (List UInt8)) (b_1 : (List UInt8)) : Option ref01_Compare_R :=
  ref01_Compare_1 N a_0 b_1 (0 : Int)
noncomputable def ref01_Compare_C (N : Nat) : Ctx := ⟨48, G_tys, [], G_globs⟩
noncomputable def ref01_Compare_S0 : Spec := ⟨[.val (.sl .u8), .val (.sl .u8), .val .i64, .val .bool], []⟩
noncomputable def ref01_Compare_S1 : Spec := ⟨[.val (.sl .u8), .val (.sl .u8), .val .i64], []⟩
noncomputable def ref01_Compare_S2 : Spec := ⟨[.val (.sl .u8), .val (.sl .u8)], []⟩
noncomputable def ref01_Compare_S3 : Spec := ⟨[.val .i64], []⟩
noncomputable def ref01_Compare_K (_N : Nat) : XE → GS → Option ref01_Compare_R := retK 0 [4] [false] ref01_Compare_S3
noncomputable def ref01_Compare_L : List Code := (bodyOf (some Tryd.f95))
noncomputable def ref01_Compare_L2 : List Code := (loopOf (ref01_Compare_L[2]?))
noncomputable def ref01_Compare_K2 (N : Nat) : XE → GS → Option (Lo (((List UInt8) × (List UInt8) × Int × Unit) × (Unit)) (((List UInt8) × (List UInt8) × Unit) × (Unit)) ref01_Compare_R) := roundK (some 0) (fit 0 [0, 1, 5] ref01_Compare_S1) (fit 0 [0, 1] ref01_Compare_S2) (ref01_Compare_K N)
theorem ref01_Compare_3_b {E : Env} (N : Nat) (hb : Base Tryd.prog (ref01_Compare_C N) E 0) : Blk Tryd.prog (ref01_Compare_C N) E [0, 1, 5, 15] ref01_Compare_S0 (ref01_Compare_L2.drop 1) (fun y => ref01_Compare_3 N y.1.1 y.1.2.1 y.1.2.2.1 y.1.2.2.2.1) (ref01_Compare_K2 N) :=
  Blk.chunkAt hb 3 (X := (ref01_Compare_K2 N .normal)) (NxOk.end (by kernel_rfl)) rfl (fun x => by kernel_rfl)
theorem ref01_Compare_s2_b {E : Env} (N : Nat) (hb : Base Tryd.prog (ref01_Compare_C N) E 0) : Blk Tryd.prog (ref01_Compare_C N) E [0, 1, 5] ref01_Compare_S1 (ref01_Compare_L2.drop 0) (fun y => ref01_Compare_s2 N y.1.1 y.1.2.1 y.1.2.2.1) (ref01_Compare_K2 N) :=
  Blk.chunkAt hb 1 (X := (goK 0 [0, 1, 5, 15] ref01_Compare_S0 (fun y => ref01_Compare_3 N y.1.1 y.1.2.1 y.1.2.2.1 y.1.2.2.2.1))) (NxOk.go hb (ref01_Compare_3_b N hb)) rfl (fun x => by kernel_rfl)
theorem ref01_Compare_4_b {E : Env} (N : Nat) (hb : Base Tryd.prog (ref01_Compare_C N) E 0) : Blk Tryd.prog (ref01_Compare_C N) E [0, 1] ref01_Compare_S2 (ref01_Compare_L.drop 3) (fun y => ref01_Compare_4 N y.1.1 y.1.2.1) (ref01_Compare_K N) :=
  Blk.chunkAt hb 3 (X := (ref01_Compare_K N .normal)) (NxOk.end (by kernel_rfl)) rfl (fun x => by kernel_rfl)
theorem ref01_Compare_1_b {E : Env} (N : Nat) (hb : Base Tryd.prog (ref01_Compare_C N) E 0) : Blk Tryd.prog (ref01_Compare_C N) E [0, 1, 5] ref01_Compare_S1 (ref01_Compare_L.drop 2) (fun y => ref01_Compare_1 N y.1.1 y.1.2.1 y.1.2.2.1) (ref01_Compare_K N) :=
  Blk.loopAt (Nf := N) (hns := [0, 1, 5]) (ans := [0, 1]) (hc := ref01_Compare_S1) (ac := ref01_Compare_S2) (bid := 0) (step := (fun y => ref01_Compare_s2 N y.1.1 y.1.2.1 y.1.2.2.1)) (J := (fun e => (goK 0 [0, 1] ref01_Compare_S2 (fun y => ref01_Compare_4 N y.1.1 y.1.2.1)) (ref01_Compare_S2.st [0, 1] e))) hb (by kernel_rfl) (Blk.into (X := (goK 0 [0, 1] ref01_Compare_S2 (fun y => ref01_Compare_4 N y.1.1 y.1.2.1))) (NxOk.go hb (ref01_Compare_4_b N hb)) (fun x => by kernel_rfl)) (ref01_Compare_s2_b N hb) (fun x => by kernel_rfl)
theorem ref01_Compare_b {E : Env} (N : Nat) (hb : Base Tryd.prog (ref01_Compare_C N) E 0) : Blk Tryd.prog (ref01_Compare_C N) E (List.range ref01_Compare_S2.ks.length) ref01_Compare_S2 (ref01_Compare_L.drop 0) (fun y => ref01_Compare N y.1.1 y.1.2.1) (ref01_Compare_K N) :=
  Blk.chunkAt hb 2 (X := (goK 0 [0, 1, 5] ref01_Compare_S1 (fun y => ref01_Compare_1 N y.1.1 y.1.2.1 y.1.2.2.1))) (NxOk.go hb (ref01_Compare_1_b N hb)) rfl (fun x => by kernel_rfl)
noncomputable def ref01_Compare_ctr (N : Nat) : Ctr := ⟨ref01_Compare_S2, ref01_Compare_S3.un [false], 0, (fun y => ref01_Compare N y.1.1 y.1.2.1)⟩
theorem ref01_Compare_ctrs (N : Nat) : CtrsOk Tryd.prog (ref01_Compare_C N) := ctrs_nil rfl
theorem ref01_Compare_ok (N : Nat) : Ctr.ok Tryd.prog G_globs 95 (ref01_Compare_ctr N) :=
  ctr_fn (Γ := ref01_Compare_C N) (rfit := ref01_Compare_S3) (bs := [false]) (res := [4]) (by kernel_rfl) (tys_ok G_tys_ok) (ref01_Compare_ctrs N) Tryd.func95 (by kernel_rfl) (by kernel_rfl) Tryd.ntmps95 (by kernel_rfl) (by kernel_rfl) (by kernel_rfl) (by kernel_rfl) (fun E hb => ref01_Compare_b N hb)
end Go.Proofs.YtofajgidjkjnpaaDoor
namespace Go.Proofs.YtofajgidjkjnpaaDoor
open Go
set_option maxRecDepth 100000
set_option linter.unusedVariables false
/-! ipsecgate/ipsecgateref01.Equal -/
abbrev ref01_Equal_R : Type := ((Bool × Unit) × (Unit))
noncomputable def ref01_Equal (N : Nat) (a_0 : (List UInt8)) (b_1 : (List UInt8)) : Option ref01_Equal_R :=
  Option.bind (ref01_Compare N a_0 b_1) fun y1 =>
  some (((decide (y1.1.1 = (0 : Int))), ()), (()))
noncomputable def ref01_Equal_C (N : Nat) : Ctx := ⟨9, G_tys, [(95, ref01_Compare_ctr N)], G_globs⟩
noncomputable def ref01_Equal_S0 : Spec := ⟨[.val (.sl .u8), .val (.sl .u8)], []⟩
noncomputable def ref01_Equal_S1 : Spec := ⟨[.val .bool], []⟩
noncomputable def ref01_Equal_K (_N : Nat) : XE → GS → Option ref01_Equal_R := retK 0 [4] [false] ref01_Equal_S1
noncomputable def ref01_Equal_L : List Code := (bodyOf (some Tryd.f21))
theorem ref01_Equal_b {E : Env} (N : Nat) (hb : Base Tryd.prog (ref01_Equal_C N) E 0) : Blk Tryd.prog (ref01_Equal_C N) E (List.range ref01_Equal_S0.ks.length) ref01_Equal_S0 (ref01_Equal_L.drop 0) (fun y => ref01_Equal N y.1.1 y.1.2.1) (ref01_Equal_K N) :=
  Blk.chunkAt hb 3 (X := (ref01_Equal_K N .normal)) (NxOk.end (by kernel_rfl)) rfl (fun x => by kernel_rfl)
noncomputable def ref01_Equal_ctr (N : Nat) : Ctr := ⟨ref01_Equal_S0, ref01_Equal_S1.un [false], 0, (fun y => ref01_Equal N y.1.1 y.1.2.1)⟩
theorem ref01_Equal_ctrs (N : Nat) : CtrsOk Tryd.prog (ref01_Equal_C N) := ctrs_of (Γ := ref01_Equal_C N) (by
  intro p hp
  simp only [ref01_Equal_C, List.mem_cons, List.not_mem_nil, or_false] at hp
  rcases hp with rfl
  · exact ref01_Compare_ok N)
theorem ref01_Equal_ok (N : Nat) : Ctr.ok Tryd.prog G_globs 21 (ref01_Equal_ctr N) :=
  ctr_fn (Γ := ref01_Equal_C N) (rfit := ref01_Equal_S1) (bs := [false]) (res := [4]) (by kernel_rfl) (tys_ok G_tys_ok) (ref01_Equal_ctrs N) Tryd.func21 (by kernel_rfl) (by kernel_rfl) Tryd.ntmps21 (by kernel_rfl) (by kernel_rfl) (by kernel_rfl) (by kernel_rfl) (fun E hb => ref01_Equal_b N hb)
end Go.Proofs.YtofajgidjkjnpaaDoor
namespace Go.Proofs.YtofajgidjkjnpaaDoor
open Go
set_option maxRecDepth 100000
set_option linter.unusedVariables false
/-! (*ipsecgate/ipsecgatemake.Codes).Change -/
abbrev make_Codes_Change_R : Type := (((List UInt8) × Unit) × (((List UInt8) × (Int × Unit)) × Unit))
noncomputable def make_Codes_Change (N : Nat) (b_1 : (List UInt8)) (c_0 : ((List UInt8) × (Int × Unit))) : Option make_Codes_Change_R :=
  bif room (0 + b_1.length) 1 then
  Option.bind (make_Codes_Next N (5 : Int) c_0) fun y1 =>
  bif (decide (y1.1.1 = (0 : Int))) then
    Option.bind (make_Codes_Next N (256 : Int) y1.2.1) fun y3 =>
    bif room (b_1.length + ([(iu8 y3.1.1)] : List UInt8).length) 1 then
    some (((b_1 ++ ([(iu8 y3.1.1)] : List UInt8)), ()), (y3.2.1, ()))
    else none
  else
    bif (decide (y1.1.1 = (1 : Int))) then
      Option.bind (make_Codes_Next N (9 : Int) y1.2.1) fun y8 =>
      let x10 := w64 ((w64 ((b_1.length : Int) * y8.1.1)).tdiv (9 : Int))
      bif decide (0 ≤ (0 : Int)) && decide ((0 : Int) ≤ x10) && decide (x10 ≤ (b_1.length : Int)) && true then
      some (((cut b_1 0 x10.toNat), ()), (y8.2.1, ()))
      else none
    else
      bif (decide ((0 : Int) < (b_1.length : Int))) then
        Option.bind (make_Codes_Next N (256 : Int) y1.2.1) fun y14 =>
        Option.bind (make_Codes_Next N (256 : Int) y14.2.1) fun y16 =>
        let x17 := or64 (shlI y14.1.1 8) y16.1.1
        let x18 := (b_1.length : Int)
        bif !(decide (x18 = 0)) then
        bif inR (x17.tmod x18) b_1.length then
        Option.bind (make_Codes_Next N (255 : Int) y16.2.1) fun y21 =>
        bif inR (x17.tmod x18) b_1.length then
        some (((b_1.set (x17.tmod x18).toNat ((b_1.getD (x17.tmod x18).toNat (0 : UInt8)) ^^^ (iu8 (w64 ((1 : Int) + y21.1.1))))), ()), (y21.2.1, ()))
        else none
        else none
        else none
      else
        some ((b_1, ()), (y1.2.1, ()))
  else none
noncomputable def make_Codes_Change_C (N : Nat) : Ctx := ⟨51, G_tys, [(61, make_Codes_Next_ctr N)], G_globs⟩
noncomputable def make_Codes_Change_S0 : Spec := ⟨[.ref 0 (.pair (.sl .u8) (.pair .i64 .unit)), .val (.sl .u8)], [(.box 122 (.pair (.sl .u8) (.pair .i64 .unit)), .pos 0)]⟩
noncomputable def make_Codes_Change_S1 : Spec := ⟨[.val (.sl .u8)], [(.box 122 (.pair (.sl .u8) (.pair .i64 .unit)), .fix 0)]⟩
noncomputable def make_Codes_Change_K (_N : Nat) : XE → GS → Option make_Codes_Change_R := retK 1 [4] [false] make_Codes_Change_S1
noncomputable def make_Codes_Change_L : List Code := (bodyOf (some Tryd.f22))
theorem make_Codes_Change_b {E : Env} (N : Nat) (hb : Base Tryd.prog (make_Codes_Change_C N) E 1) : Blk Tryd.prog (make_Codes_Change_C N) E (List.range make_Codes_Change_S0.ks.length) make_Codes_Change_S0 (make_Codes_Change_L.drop 0) (fun y => make_Codes_Change N y.1.1 y.2.1) (make_Codes_Change_K N) :=
  Blk.chunkAt hb 8 (X := (make_Codes_Change_K N .normal)) (NxOk.end (by kernel_rfl)) rfl (fun x => by kernel_rfl)
noncomputable def make_Codes_Change_ctr (N : Nat) : Ctr := ⟨make_Codes_Change_S0, make_Codes_Change_S1.un [false], 1, (fun y => make_Codes_Change N y.1.1 y.2.1)⟩
theorem make_Codes_Change_ctrs (N : Nat) : CtrsOk Tryd.prog (make_Codes_Change_C N) := ctrs_of (Γ := make_Codes_Change_C N) (by
  intro p hp
  simp only [make_Codes_Change_C, List.mem_cons, List.not_mem_nil, or_false] at hp
  rcases hp with rfl
  · exact make_Codes_Next_ok N)
theorem make_Codes_Change_ok (N : Nat) : Ctr.ok Tryd.prog G_globs 22 (make_Codes_Change_ctr N) :=
  ctr_fn (Γ := make_Codes_Change_C N) (rfit := make_Codes_Change_S1) (bs := [false]) (res := [4]) (by kernel_rfl) (tys_ok G_tys_ok) (make_Codes_Change_ctrs N) Tryd.func22 (by kernel_rfl) (by kernel_rfl) Tryd.ntmps22 (by kernel_rfl) (by kernel_rfl) (by kernel_rfl) (by kernel_rfl) (fun E hb => make_Codes_Change_b N hb)
end Go.Proofs.YtofajgidjkjnpaaDoor
namespace Go.Proofs.YtofajgidjkjnpaaDoor
open Go
set_option maxRecDepth 100000
set_option linter.unusedVariables false
/-! ipsecgate/ipsecgateref13.Element -/
abbrev ref13_Element_R : Type := ((Bool × Unit) × (Unit))
noncomputable def ref13_Element (N : Nat) (a_0 : UInt64) : Option ref13_Element_R :=
  bif (decide ((2 : UInt64) ≤ a_0)) then
    bif (decide (a_0 < (4611686018427377339 : UInt64))) then
      Option.bind (ref13_Power N a_0 (2305843009213688669 : UInt64)) fun y3 =>
      some (((decide (y3.1.1 = (1 : UInt64))), ()), (()))
    else
      some ((false, ()), (()))
  else
    some ((false, ()), (()))
noncomputable def ref13_Element_C (N : Nat) : Ctx := ⟨14, G_tys, [(82, ref13_Power_ctr N)], G_globs⟩
noncomputable def ref13_Element_S0 : Spec := ⟨[.val .u64], []⟩
noncomputable def ref13_Element_S1 : Spec := ⟨[.val .bool], []⟩
noncomputable def ref13_Element_K (_N : Nat) : XE → GS → Option ref13_Element_R := retK 0 [2] [false] ref13_Element_S1
noncomputable def ref13_Element_L : List Code := (bodyOf (some Tryd.f98))
theorem ref13_Element_b {E : Env} (N : Nat) (hb : Base Tryd.prog (ref13_Element_C N) E 0) : Blk Tryd.prog (ref13_Element_C N) E (List.range ref13_Element_S0.ks.length) ref13_Element_S0 (ref13_Element_L.drop 0) (fun y => ref13_Element N y.1.1) (ref13_Element_K N) :=
  Blk.chunkAt hb 3 (X := (ref13_Element_K N .normal)) (NxOk.end (by kernel_rfl)) rfl (fun x => by kernel_rfl)
noncomputable def ref13_Element_ctr (N : Nat) : Ctr := ⟨ref13_Element_S0, ref13_Element_S1.un [false], 0, (fun y => ref13_Element N y.1.1)⟩
theorem ref13_Element_ctrs (N : Nat) : CtrsOk Tryd.prog (ref13_Element_C N) := ctrs_of (Γ := ref13_Element_C N) (by
  intro p hp
  simp only [ref13_Element_C, List.mem_cons, List.not_mem_nil, or_false] at hp
  rcases hp with rfl
  · exact ref13_Power_ok N)
theorem ref13_Element_ok (N : Nat) : Ctr.ok Tryd.prog G_globs 98 (ref13_Element_ctr N) :=
  ctr_fn (Γ := ref13_Element_C N) (rfit := ref13_Element_S1) (bs := [false]) (res := [2]) (by kernel_rfl) (tys_ok G_tys_ok) (ref13_Element_ctrs N) Tryd.func98 (by kernel_rfl) (by kernel_rfl) Tryd.ntmps98 (by kernel_rfl) (by kernel_rfl) (by kernel_rfl) (by kernel_rfl) (fun E hb => ref13_Element_b N hb)
end Go.Proofs.YtofajgidjkjnpaaDoor
namespace Go.Proofs.YtofajgidjkjnpaaDoor
open Go
set_option maxRecDepth 100000
set_option linter.unusedVariables false
/-! ipsecgate/ipsecgateref15.Verify -/
abbrev ref15_Verify_R : Type := ((Int × Unit) × (Unit))
noncomputable def ref15_Verify_1 (N : Nat) (public_0 : UInt64) (message_1 : (List UInt8)) (e_7 : UInt64) (s_8 : UInt64) (t_26 : Bool) : Option ref15_Verify_R :=
  bif t_26 then
    some (((5 : Int), ()), (()))
  else
    Option.bind (ref13_Power N (4 : UInt64) s_8) fun y9 =>
    Option.bind (ref13_Power N public_0 ((2305843009213688669 : UInt64) - e_7)) fun y11 =>
    Option.bind (ref13_Mul N y9.1.1 y11.1.1) fun y12 =>
    Option.bind (ref15_challenge N y12.1.1 public_0 message_1) fun y13 =>
    bif (!(decide (y13.1.1 = e_7))) then
      some (((18 : Int), ()), (()))
    else
      some (((0 : Int), ()), (()))
noncomputable def ref15_Verify (N : Nat) (public_0 : UInt64) (message_1 : (List UInt8)) (signature_2 : (List UInt8)) : Option ref15_Verify_R :=
  Option.bind (ref13_Element N public_0) fun y1 =>
  bif (!y1.1.1) then
    some (((13 : Int), ()), (()))
  else
    bif (!(decide ((signature_2.length : Int) = (16 : Int)))) then
      some (((2 : Int), ()), (()))
    else
      Option.bind (ref15_first N signature_2) fun y5 =>
      bif decide (0 ≤ (8 : Int)) && decide ((8 : Int) ≤ (signature_2.length : Int)) && decide ((signature_2.length : Int) ≤ (signature_2.length : Int)) && true then
      Option.bind (ref15_first N (cut signature_2 8 signature_2.length)) fun y7 =>
      bif (decide ((2305843009213688669 : UInt64) ≤ y5.1.1)) then
        ref15_Verify_1 N public_0 message_1 y5.1.1 y7.1.1 true
      else
        ref15_Verify_1 N public_0 message_1 y5.1.1 y7.1.1 (decide ((2305843009213688669 : UInt64) ≤ y7.1.1))
      else none
noncomputable def ref15_Verify_C (N : Nat) : Ctx := ⟨40, G_tys, [(98, ref13_Element_ctr N), (83, ref15_first_ctr N), (82, ref13_Power_ctr N), (99, ref13_Mul_ctr N), (86, ref15_challenge_ctr N)], G_globs⟩
noncomputable def ref15_Verify_S0 : Spec := ⟨[.val .u64, .val (.sl .u8), .val .u64, .val .u64, .val .bool], []⟩
noncomputable def ref15_Verify_S1 : Spec := ⟨[.val .u64, .val (.sl .u8), .val (.sl .u8)], []⟩
noncomputable def ref15_Verify_S2 : Spec := ⟨[.val .i64], []⟩
noncomputable def ref15_Verify_K (_N : Nat) : XE → GS → Option ref15_Verify_R := retK 0 [6] [false] ref15_Verify_S2
noncomputable def ref15_Verify_L : List Code := (bodyOf (some Tryd.f24))
theorem ref15_Verify_1_b {E : Env} (N : Nat) (hb : Base Tryd.prog (ref15_Verify_C N) E 0) : Blk Tryd.prog (ref15_Verify_C N) E [0, 1, 7, 8, 26] ref15_Verify_S0 (ref15_Verify_L.drop 8) (fun y => ref15_Verify_1 N y.1.1 y.1.2.1 y.1.2.2.1 y.1.2.2.2.1 y.1.2.2.2.2.1) (ref15_Verify_K N) :=
  Blk.chunkAt hb 6 (X := (ref15_Verify_K N .normal)) (NxOk.end (by kernel_rfl)) rfl (fun x => by kernel_rfl)
theorem ref15_Verify_b {E : Env} (N : Nat) (hb : Base Tryd.prog (ref15_Verify_C N) E 0) : Blk Tryd.prog (ref15_Verify_C N) E (List.range ref15_Verify_S1.ks.length) ref15_Verify_S1 (ref15_Verify_L.drop 0) (fun y => ref15_Verify N y.1.1 y.1.2.1 y.1.2.2.1) (ref15_Verify_K N) :=
  Blk.chunkAt hb 8 (X := (goK 0 [0, 1, 7, 8, 26] ref15_Verify_S0 (fun y => ref15_Verify_1 N y.1.1 y.1.2.1 y.1.2.2.1 y.1.2.2.2.1 y.1.2.2.2.2.1))) (NxOk.go hb (ref15_Verify_1_b N hb)) rfl (fun x => by kernel_rfl)
noncomputable def ref15_Verify_ctr (N : Nat) : Ctr := ⟨ref15_Verify_S1, ref15_Verify_S2.un [false], 0, (fun y => ref15_Verify N y.1.1 y.1.2.1 y.1.2.2.1)⟩
theorem ref15_Verify_ctrs (N : Nat) : CtrsOk Tryd.prog (ref15_Verify_C N) := ctrs_of (Γ := ref15_Verify_C N) (by
  intro p hp
  simp only [ref15_Verify_C, List.mem_cons, List.not_mem_nil, or_false] at hp
  rcases hp with rfl | rfl | rfl | rfl | rfl
  · exact ref13_Element_ok N
  · exact ref15_first_ok N
  · exact ref13_Power_ok N
  · exact ref13_Mul_ok N
  · exact ref15_challenge_ok N)
theorem ref15_Verify_ok (N : Nat) : Ctr.ok Tryd.prog G_globs 24 (ref15_Verify_ctr N) :=
  ctr_fn (Γ := ref15_Verify_C N) (rfit := ref15_Verify_S2) (bs := [false]) (res := [6]) (by kernel_rfl) (tys_ok G_tys_ok) (ref15_Verify_ctrs N) Tryd.func24 (by kernel_rfl) (by kernel_rfl) Tryd.ntmps24 (by kernel_rfl) (by kernel_rfl) (by kernel_rfl) (by kernel_rfl) (fun E hb => ref15_Verify_b N hb)
end Go.Proofs.YtofajgidjkjnpaaDoor
namespace Go.Proofs.YtofajgidjkjnpaaDoor
open Go
set_option maxRecDepth 100000
set_option linter.unusedVariables false
/-! ipsecgate/ipsecgatelaw15.SchnorrSigns -/
abbrev law15_SchnorrSigns_R : Type := ((Bool × Unit) × (Unit))
noncomputable def law15_SchnorrSigns_s2 (N : Nat) (public_2 : UInt64) (m_3 : (List UInt8)) (sig_4 : (List UInt8)) (y_13 : UInt64) (t_49 : Int) (t_50 : Int) (c_11 : ((List UInt8) × (Int × Unit))) (s_15 : (List UInt8)) (t_48 : (List UInt64)) : Option (Lo ((UInt64 × (List UInt8) × (List UInt8) × UInt64 × Int × Int × Unit) × (((List UInt8) × (Int × Unit)) × (List UInt8) × (List UInt64) × Unit)) ((UInt64 × (List UInt8) × (List UInt8) × UInt64 × Unit) × (((List UInt8) × (Int × Unit)) × (List UInt8) × Unit)) law15_SchnorrSigns_R) :=
  bif (decide (t_50 < t_49)) then
    bif inR t_50 t_48.length then
    let x11 := (t_48.getD t_50.toNat (0 : UInt64))
    Option.bind (schnorr_Sign N x11 m_3) fun y12 =>
    Option.bind (ref15_Sign N x11 m_3) fun y13 =>
    bif (!(decide (y12.1.1 = y13.1.1))) then
      some (.rt ((false, ()), (())))
    else
      Option.bind (ref01_Equal N y12.2.1 y13.2.1) fun y15 =>
      bif (!y15.1.1) then
        some (.rt ((false, ()), (())))
      else
        some (.go ((public_2, m_3, sig_4, y_13, t_49, (w64 (t_50 + (1 : Int))), ()), (c_11, s_15, t_48, ())))
    else none
  else
    some (.br ((public_2, m_3, sig_4, y_13, ()), (c_11, s_15, ())))
noncomputable def law15_SchnorrSigns_s5 (N : Nat) (m_3 : (List UInt8)) (t_92 : Int) (t_93 : Int) (t_91 : (List (UInt64 × ((List UInt8) × Unit)))) : Option (Lo (((List UInt8) × Int × Int × Unit) × ((List (UInt64 × ((List UInt8) × Unit))) × Unit)) ((Unit) × (Unit)) law15_SchnorrSigns_R) :=
  bif (decide (t_93 < t_92)) then
    bif inR t_93 t_91.length then
    let x21 := (t_91.getD t_93.toNat ((0 : UInt64), ([] : List UInt8), ()))
    Option.bind (schnorr_Verify N x21.1 m_3 x21.2.1) fun y22 =>
    Option.bind (ref15_Verify N x21.1 m_3 x21.2.1) fun y23 =>
    bif (!(decide (y22.1.1 = y23.1.1))) then
      some (.rt ((false, ()), (())))
    else
      some (.go ((m_3, t_92, (w64 (t_93 + (1 : Int))), ()), (t_91, ())))
    else none
  else
    some (.br ((()), (())))
noncomputable def law15_SchnorrSigns_6 (N : Nat) : Option law15_SchnorrSigns_R :=
  some ((true, ()), (()))
noncomputable def law15_SchnorrSigns_4 (N : Nat) (m_3 : (List UInt8)) (t_92 : Int) (t_93 : Int) (t_91 : (List (UInt64 × ((List UInt8) × Unit)))) : Option law15_SchnorrSigns_R :=
  loopK N (fun y => law15_SchnorrSigns_s5 N y.1.1 y.1.2.1 y.1.2.2.1 y.2.1) (fun (e : ((Unit) × (Unit))) => law15_SchnorrSigns_6 N) ((m_3, t_92, t_93, ()), (t_91, ()))
noncomputable def law15_SchnorrSigns_3 (N : Nat) (public_2 : UInt64) (m_3 : (List UInt8)) (sig_4 : (List UInt8)) (y_13 : UInt64) (c_11 : ((List UInt8) × (Int × Unit))) (s_15 : (List UInt8)) : Option law15_SchnorrSigns_R :=
  Option.bind (make_Codes_Change N s_15 c_11) fun y18 =>
  law15_SchnorrSigns_4 N m_3 (([(y_13, s_15, ()), (public_2, s_15, ()), (y_13, sig_4, ()), (y_13, y18.1.1, ())] : List (UInt64 × ((List UInt8) × Unit))).length : Int) (0 : Int) ([(y_13, s_15, ()), (public_2, s_15, ()), (y_13, sig_4, ()), (y_13, y18.1.1, ())] : List (UInt64 × ((List UInt8) × Unit)))
noncomputable def law15_SchnorrSigns_1 (N : Nat) (public_2 : UInt64) (m_3 : (List UInt8)) (sig_4 : (List UInt8)) (y_13 : UInt64) (t_49 : Int) (t_50 : Int) (c_11 : ((List UInt8) × (Int × Unit))) (s_15 : (List UInt8)) (t_48 : (List UInt64)) : Option law15_SchnorrSigns_R :=
  loopK N (fun y => law15_SchnorrSigns_s2 N y.1.1 y.1.2.1 y.1.2.2.1 y.1.2.2.2.1 y.1.2.2.2.2.1 y.1.2.2.2.2.2.1 y.2.1 y.2.2.1 y.2.2.2.1) (fun (e : ((UInt64 × (List UInt8) × (List UInt8) × UInt64 × Unit) × (((List UInt8) × (Int × Unit)) × (List UInt8) × Unit))) => law15_SchnorrSigns_3 N e.1.1 e.1.2.1 e.1.2.2.1 e.1.2.2.2.1 e.2.1 e.2.2.1) ((public_2, m_3, sig_4, y_13, t_49, t_50, ()), (c_11, s_15, t_48, ()))
noncomputable def law15_SchnorrSigns (N : Nat) (codes_0 : (List UInt8)) (secret_1 : UInt64) (public_2 : UInt64) (m_3 : (List UInt8)) (sig_4 : (List UInt8)) : Option law15_SchnorrSigns_R :=
  Option.bind (law15_awake N) fun y1 =>
  bif (!y1.1.1) then
    some ((false, ()), (()))
  else
    bif (decide ((300 : Int) < (m_3.length : Int))) then
      some ((true, ()), (()))
    else
      Option.bind (make_New N codes_0 (80 : Int)) fun y5 =>
      Option.bind (make_Codes_Secret N y5.2.1) fun y6 =>
      Option.bind (ref13_Public N y6.1.1) fun y7 =>
      Option.bind (ref15_Sign N y6.1.1 m_3) fun y8 =>
      law15_SchnorrSigns_1 N public_2 m_3 sig_4 y7.1.1 (([secret_1, y6.1.1] : List UInt64).length : Int) (0 : Int) y6.2.1 y8.2.1 ([secret_1, y6.1.1] : List UInt64)
noncomputable def law15_SchnorrSigns_C (N : Nat) : Ctx := ⟨111, G_tys, [(15, law15_awake_ctr N), (16, make_New_ctr N), (17, make_Codes_Secret_ctr N), (18, ref13_Public_ctr N), (19, ref15_Sign_ctr N), (20, schnorr_Sign_ctr N), (21, ref01_Equal_ctr N), (22, make_Codes_Change_ctr N), (23, schnorr_Verify_ctr N), (24, ref15_Verify_ctr N)], G_globs⟩
noncomputable def law15_SchnorrSigns_S0 : Spec := ⟨[.val .u64, .val (.sl .u8), .val (.sl .u8), .ref 0 (.pair (.sl .u8) (.pair .i64 .unit)), .val .u64, .row 1, .row 2, .val .i64, .val .i64], [(.box 122 (.pair (.sl .u8) (.pair .i64 .unit)), .pos 3), (.row 5 .u8, .pos 5), (.row 23 .u64, .pos 6)]⟩
noncomputable def law15_SchnorrSigns_S1 : Spec := ⟨[.val (.sl .u8), .row 0, .val .i64, .val .i64], [(.row 36 (.pair .u64 (.pair (.sl .u8) .unit)), .pos 1)]⟩
noncomputable def law15_SchnorrSigns_S2 : Spec := ⟨[], []⟩
noncomputable def law15_SchnorrSigns_S3 : Spec := ⟨[.val .u64, .val (.sl .u8), .val (.sl .u8), .ref 0 (.pair (.sl .u8) (.pair .i64 .unit)), .val .u64, .row 1], [(.box 122 (.pair (.sl .u8) (.pair .i64 .unit)), .pos 3), (.row 5 .u8, .pos 5)]⟩
noncomputable def law15_SchnorrSigns_S4 : Spec := ⟨[.val (.sl .u8), .val .u64, .val .u64, .val (.sl .u8), .val (.sl .u8)], []⟩
noncomputable def law15_SchnorrSigns_S5 : Spec := ⟨[.val .bool], []⟩
noncomputable def law15_SchnorrSigns_K (_N : Nat) : XE → GS → Option law15_SchnorrSigns_R := retK 0 [10] [false] law15_SchnorrSigns_S5
noncomputable def law15_SchnorrSigns_L : List Code := (bodyOf (some Tryd.f3))
noncomputable def law15_SchnorrSigns_L2 : List Code := (loopOf (law15_SchnorrSigns_L[10]?))
noncomputable def law15_SchnorrSigns_L5 : List Code := (loopOf (law15_SchnorrSigns_L[13]?))
noncomputable def law15_SchnorrSigns_K2 (N : Nat) : XE → GS → Option (Lo ((UInt64 × (List UInt8) × (List UInt8) × UInt64 × Int × Int × Unit) × (((List UInt8) × (Int × Unit)) × (List UInt8) × (List UInt64) × Unit)) ((UInt64 × (List UInt8) × (List UInt8) × UInt64 × Unit) × (((List UInt8) × (Int × Unit)) × (List UInt8) × Unit)) law15_SchnorrSigns_R) := roundK (some 0) (fit 0 [2, 3, 4, 11, 13, 15, 48, 49, 50] law15_SchnorrSigns_S0) (fit 0 [2, 3, 4, 11, 13, 15] law15_SchnorrSigns_S3) (law15_SchnorrSigns_K N)
noncomputable def law15_SchnorrSigns_K5 (N : Nat) : XE → GS → Option (Lo (((List UInt8) × Int × Int × Unit) × ((List (UInt64 × ((List UInt8) × Unit))) × Unit)) ((Unit) × (Unit)) law15_SchnorrSigns_R) := roundK (some 2) (fit 0 [3, 91, 92, 93] law15_SchnorrSigns_S1) (fit 0 [] law15_SchnorrSigns_S2) (law15_SchnorrSigns_K N)
theorem law15_SchnorrSigns_s2_b {E : Env} (N : Nat) (hb : Base Tryd.prog (law15_SchnorrSigns_C N) E 0) : Blk Tryd.prog (law15_SchnorrSigns_C N) E [2, 3, 4, 11, 13, 15, 48, 49, 50] law15_SchnorrSigns_S0 (law15_SchnorrSigns_L2.drop 0) (fun y => law15_SchnorrSigns_s2 N y.1.1 y.1.2.1 y.1.2.2.1 y.1.2.2.2.1 y.1.2.2.2.2.1 y.1.2.2.2.2.2.1 y.2.1 y.2.2.1 y.2.2.2.1) (law15_SchnorrSigns_K2 N) :=
  Blk.chunkAt hb 4 (X := (law15_SchnorrSigns_K2 N .normal)) (NxOk.end (by kernel_rfl)) rfl (fun x => by kernel_rfl)
theorem law15_SchnorrSigns_s5_b {E : Env} (N : Nat) (hb : Base Tryd.prog (law15_SchnorrSigns_C N) E 0) : Blk Tryd.prog (law15_SchnorrSigns_C N) E [3, 91, 92, 93] law15_SchnorrSigns_S1 (law15_SchnorrSigns_L5.drop 0) (fun y => law15_SchnorrSigns_s5 N y.1.1 y.1.2.1 y.1.2.2.1 y.2.1) (law15_SchnorrSigns_K5 N) :=
  Blk.chunkAt hb 4 (X := (law15_SchnorrSigns_K5 N .normal)) (NxOk.end (by kernel_rfl)) rfl (fun x => by kernel_rfl)
theorem law15_SchnorrSigns_6_b {E : Env} (N : Nat) (hb : Base Tryd.prog (law15_SchnorrSigns_C N) E 0) : Blk Tryd.prog (law15_SchnorrSigns_C N) E [] law15_SchnorrSigns_S2 (law15_SchnorrSigns_L.drop 14) (fun y => law15_SchnorrSigns_6 N) (law15_SchnorrSigns_K N) :=
  Blk.chunkAt hb 2 (X := (law15_SchnorrSigns_K N .normal)) (NxOk.end (by kernel_rfl)) rfl (fun x => by kernel_rfl)
theorem law15_SchnorrSigns_4_b {E : Env} (N : Nat) (hb : Base Tryd.prog (law15_SchnorrSigns_C N) E 0) : Blk Tryd.prog (law15_SchnorrSigns_C N) E [3, 91, 92, 93] law15_SchnorrSigns_S1 (law15_SchnorrSigns_L.drop 13) (fun y => law15_SchnorrSigns_4 N y.1.1 y.1.2.1 y.1.2.2.1 y.2.1) (law15_SchnorrSigns_K N) :=
  Blk.loopAt (Nf := N) (hns := [3, 91, 92, 93]) (ans := []) (hc := law15_SchnorrSigns_S1) (ac := law15_SchnorrSigns_S2) (bid := 2) (step := (fun y => law15_SchnorrSigns_s5 N y.1.1 y.1.2.1 y.1.2.2.1 y.2.1)) (J := (fun e => (goK 0 [] law15_SchnorrSigns_S2 (fun y => law15_SchnorrSigns_6 N)) (law15_SchnorrSigns_S2.st [] e))) hb (by kernel_rfl) (Blk.into (X := (goK 0 [] law15_SchnorrSigns_S2 (fun y => law15_SchnorrSigns_6 N))) (NxOk.go hb (law15_SchnorrSigns_6_b N hb)) (fun x => by kernel_rfl)) (law15_SchnorrSigns_s5_b N hb) (fun x => by kernel_rfl)
theorem law15_SchnorrSigns_3_b {E : Env} (N : Nat) (hb : Base Tryd.prog (law15_SchnorrSigns_C N) E 0) : Blk Tryd.prog (law15_SchnorrSigns_C N) E [2, 3, 4, 11, 13, 15] law15_SchnorrSigns_S3 (law15_SchnorrSigns_L.drop 11) (fun y => law15_SchnorrSigns_3 N y.1.1 y.1.2.1 y.1.2.2.1 y.1.2.2.2.1 y.2.1 y.2.2.1) (law15_SchnorrSigns_K N) :=
  Blk.chunkAt hb 2 (X := (goK 0 [3, 91, 92, 93] law15_SchnorrSigns_S1 (fun y => law15_SchnorrSigns_4 N y.1.1 y.1.2.1 y.1.2.2.1 y.2.1))) (NxOk.go hb (law15_SchnorrSigns_4_b N hb)) rfl (fun x => by kernel_rfl)
theorem law15_SchnorrSigns_1_b {E : Env} (N : Nat) (hb : Base Tryd.prog (law15_SchnorrSigns_C N) E 0) : Blk Tryd.prog (law15_SchnorrSigns_C N) E [2, 3, 4, 11, 13, 15, 48, 49, 50] law15_SchnorrSigns_S0 (law15_SchnorrSigns_L.drop 10) (fun y => law15_SchnorrSigns_1 N y.1.1 y.1.2.1 y.1.2.2.1 y.1.2.2.2.1 y.1.2.2.2.2.1 y.1.2.2.2.2.2.1 y.2.1 y.2.2.1 y.2.2.2.1) (law15_SchnorrSigns_K N) :=
  Blk.loopAt (Nf := N) (hns := [2, 3, 4, 11, 13, 15, 48, 49, 50]) (ans := [2, 3, 4, 11, 13, 15]) (hc := law15_SchnorrSigns_S0) (ac := law15_SchnorrSigns_S3) (bid := 0) (step := (fun y => law15_SchnorrSigns_s2 N y.1.1 y.1.2.1 y.1.2.2.1 y.1.2.2.2.1 y.1.2.2.2.2.1 y.1.2.2.2.2.2.1 y.2.1 y.2.2.1 y.2.2.2.1)) (J := (fun e => (goK 0 [2, 3, 4, 11, 13, 15] law15_SchnorrSigns_S3 (fun y => law15_SchnorrSigns_3 N y.1.1 y.1.2.1 y.1.2.2.1 y.1.2.2.2.1 y.2.1 y.2.2.1)) (law15_SchnorrSigns_S3.st [2, 3, 4, 11, 13, 15] e))) hb (by kernel_rfl) (Blk.into (X := (goK 0 [2, 3, 4, 11, 13, 15] law15_SchnorrSigns_S3 (fun y => law15_SchnorrSigns_3 N y.1.1 y.1.2.1 y.1.2.2.1 y.1.2.2.2.1 y.2.1 y.2.2.1))) (NxOk.go hb (law15_SchnorrSigns_3_b N hb)) (fun x => by kernel_rfl)) (law15_SchnorrSigns_s2_b N hb) (fun x => by kernel_rfl)
theorem law15_SchnorrSigns_b {E : Env} (N : Nat) (hb : Base Tryd.prog (law15_SchnorrSigns_C N) E 0) : Blk Tryd.prog (law15_SchnorrSigns_C N) E (List.range law15_SchnorrSigns_S4.ks.length) law15_SchnorrSigns_S4 (law15_SchnorrSigns_L.drop 0) (fun y => law15_SchnorrSigns N y.1.1 y.1.2.1 y.1.2.2.1 y.1.2.2.2.1 y.1.2.2.2.2.1) (law15_SchnorrSigns_K N) :=
  Blk.chunkAt hb 10 (X := (goK 0 [2, 3, 4, 11, 13, 15, 48, 49, 50] law15_SchnorrSigns_S0 (fun y => law15_SchnorrSigns_1 N y.1.1 y.1.2.1 y.1.2.2.1 y.1.2.2.2.1 y.1.2.2.2.2.1 y.1.2.2.2.2.2.1 y.2.1 y.2.2.1 y.2.2.2.1))) (NxOk.go hb (law15_SchnorrSigns_1_b N hb)) rfl (fun x => by kernel_rfl)
noncomputable def law15_SchnorrSigns_ctr (N : Nat) : Ctr := ⟨law15_SchnorrSigns_S4, law15_SchnorrSigns_S5.un [false], 0, (fun y => law15_SchnorrSigns N y.1.1 y.1.2.1 y.1.2.2.1 y.1.2.2.2.1 y.1.2.2.2.2.1)⟩
theorem law15_SchnorrSigns_ctrs (N : Nat) : CtrsOk Tryd.prog (law15_SchnorrSigns_C N) := ctrs_of (Γ := law15_SchnorrSigns_C N) (by
  intro p hp
  simp only [law15_SchnorrSigns_C, List.mem_cons, List.not_mem_nil, or_false] at hp
  rcases hp with rfl | rfl | rfl | rfl | rfl | rfl | rfl | rfl | rfl | rfl
  · exact law15_awake_ok N
  · exact make_New_ok N
  · exact make_Codes_Secret_ok N
  · exact ref13_Public_ok N
  · exact ref15_Sign_ok N
  · exact schnorr_Sign_ok N
  · exact ref01_Equal_ok N
  · exact make_Codes_Change_ok N
  · exact schnorr_Verify_ok N
  · exact ref15_Verify_ok N)
theorem law15_SchnorrSigns_ok (N : Nat) : Ctr.ok Tryd.prog G_globs 3 (law15_SchnorrSigns_ctr N) :=
  ctr_fn (Γ := law15_SchnorrSigns_C N) (rfit := law15_SchnorrSigns_S5) (bs := [false]) (res := [10]) (by kernel_rfl) (tys_ok G_tys_ok) (law15_SchnorrSigns_ctrs N) Tryd.func3 (by kernel_rfl) (by kernel_rfl) Tryd.ntmps3 (by kernel_rfl) (by kernel_rfl) (by kernel_rfl) (by kernel_rfl) (fun E hb => law15_SchnorrSigns_b N hb)
end Go.Proofs.YtofajgidjkjnpaaDoor
namespace Go.Proofs.YtofajgidjkjnpaaDoor
open Go
set_option maxRecDepth 100000
set_option linter.unusedVariables false
/-! (*ipsecgate/ipsecgatemake.Codes).Bytes -/
abbrev make_Codes_Bytes_R : Type := ((Unit) × (((List UInt8) × (Int × Unit)) × (List UInt8) × Unit))
noncomputable def make_Codes_Bytes_s2 (N : Nat) (n_1 : Int) (i_6 : Int) (p0 : ((List UInt8) × (Int × Unit))) (out_5 : (List UInt8)) : Option (Lo ((Int × Int × Unit) × (((List UInt8) × (Int × Unit)) × (List UInt8) × Unit)) ((Unit) × (((List UInt8) × (Int × Unit)) × (List UInt8) × Unit)) make_Codes_Bytes_R) :=
  bif (decide (i_6 < n_1)) then
    Option.bind (make_Codes_Next N (256 : Int) p0) fun y2 =>
    let x4 := w64 (y2.1.1 + (w64 (i_6 * (7 : Int))))
    bif room (out_5.length + ([iu8 x4] : List UInt8).length) 1 then
    some (.go ((n_1, (w64 (i_6 + (1 : Int))), ()), (y2.2.1, (out_5 ++ ([iu8 x4] : List UInt8)), ())))
    else none
  else
    some (.br ((()), (p0, out_5, ())))
noncomputable def make_Codes_Bytes_3 (N : Nat) (p0 : ((List UInt8) × (Int × Unit))) (out_5 : (List UInt8)) : Option make_Codes_Bytes_R :=
  some ((()), (p0, out_5, ()))
noncomputable def make_Codes_Bytes_1 (N : Nat) (n_1 : Int) (i_6 : Int) (p0 : ((List UInt8) × (Int × Unit))) (out_5 : (List UInt8)) : Option make_Codes_Bytes_R :=
  loopK N (fun y => make_Codes_Bytes_s2 N y.1.1 y.1.2.1 y.2.1 y.2.2.1) (fun (e : ((Unit) × (((List UInt8) × (Int × Unit)) × (List UInt8) × Unit))) => make_Codes_Bytes_3 N e.2.1 e.2.2.1) ((n_1, i_6, ()), (p0, out_5, ()))
noncomputable def make_Codes_Bytes (N : Nat) (n_1 : Int) (c_0 : ((List UInt8) × (Int × Unit))) : Option make_Codes_Bytes_R :=
  make_Codes_Bytes_1 N n_1 (0 : Int) c_0 ([] : List UInt8)
noncomputable def make_Codes_Bytes_C (N : Nat) : Ctx := ⟨22, G_tys, [(61, make_Codes_Next_ctr N)], G_globs⟩
noncomputable def make_Codes_Bytes_S0 : Spec := ⟨[.ref 0 (.pair (.sl .u8) (.pair .i64 .unit)), .val .i64, .row 1, .val .i64], [(.box 122 (.pair (.sl .u8) (.pair .i64 .unit)), .fix 0), (.row 5 .u8, .pos 2)]⟩
noncomputable def make_Codes_Bytes_S1 : Spec := ⟨[.row 1], [(.box 122 (.pair (.sl .u8) (.pair .i64 .unit)), .fix 0), (.row 5 .u8, .pos 0)]⟩
noncomputable def make_Codes_Bytes_S2 : Spec := ⟨[.ref 0 (.pair (.sl .u8) (.pair .i64 .unit)), .val .i64], [(.box 122 (.pair (.sl .u8) (.pair .i64 .unit)), .pos 0)]⟩
noncomputable def make_Codes_Bytes_K (_N : Nat) : XE → GS → Option make_Codes_Bytes_R := retK 1 [4] [false] make_Codes_Bytes_S1
noncomputable def make_Codes_Bytes_L : List Code := (bodyOf (some Tryd.f115))
noncomputable def make_Codes_Bytes_L2 : List Code := (loopOf (make_Codes_Bytes_L[3]?))
noncomputable def make_Codes_Bytes_K2 (N : Nat) : XE → GS → Option (Lo ((Int × Int × Unit) × (((List UInt8) × (Int × Unit)) × (List UInt8) × Unit)) ((Unit) × (((List UInt8) × (Int × Unit)) × (List UInt8) × Unit)) make_Codes_Bytes_R) := roundK (some 0) (fit 1 [0, 1, 5, 6] make_Codes_Bytes_S0) (fit 1 [5] make_Codes_Bytes_S1) (make_Codes_Bytes_K N)
theorem make_Codes_Bytes_s2_b {E : Env} (N : Nat) (hb : Base Tryd.prog (make_Codes_Bytes_C N) E 1) : Blk Tryd.prog (make_Codes_Bytes_C N) E [0, 1, 5, 6] make_Codes_Bytes_S0 (make_Codes_Bytes_L2.drop 0) (fun y => make_Codes_Bytes_s2 N y.1.1 y.1.2.1 y.2.1 y.2.2.1) (make_Codes_Bytes_K2 N) :=
  Blk.chunkAt hb 4 (X := (make_Codes_Bytes_K2 N .normal)) (NxOk.end (by kernel_rfl)) rfl (fun x => by kernel_rfl)
theorem make_Codes_Bytes_3_b {E : Env} (N : Nat) (hb : Base Tryd.prog (make_Codes_Bytes_C N) E 1) : Blk Tryd.prog (make_Codes_Bytes_C N) E [5] make_Codes_Bytes_S1 (make_Codes_Bytes_L.drop 4) (fun y => make_Codes_Bytes_3 N y.2.1 y.2.2.1) (make_Codes_Bytes_K N) :=
  Blk.chunkAt hb 2 (X := (make_Codes_Bytes_K N .normal)) (NxOk.end (by kernel_rfl)) rfl (fun x => by kernel_rfl)
theorem make_Codes_Bytes_1_b {E : Env} (N : Nat) (hb : Base Tryd.prog (make_Codes_Bytes_C N) E 1) : Blk Tryd.prog (make_Codes_Bytes_C N) E [0, 1, 5, 6] make_Codes_Bytes_S0 (make_Codes_Bytes_L.drop 3) (fun y => make_Codes_Bytes_1 N y.1.1 y.1.2.1 y.2.1 y.2.2.1) (make_Codes_Bytes_K N) :=
  Blk.loopAt (Nf := N) (hns := [0, 1, 5, 6]) (ans := [5]) (hc := make_Codes_Bytes_S0) (ac := make_Codes_Bytes_S1) (bid := 0) (step := (fun y => make_Codes_Bytes_s2 N y.1.1 y.1.2.1 y.2.1 y.2.2.1)) (J := (fun e => (goK 1 [5] make_Codes_Bytes_S1 (fun y => make_Codes_Bytes_3 N y.2.1 y.2.2.1)) (make_Codes_Bytes_S1.st [5] e))) hb (by kernel_rfl) (Blk.into (X := (goK 1 [5] make_Codes_Bytes_S1 (fun y => make_Codes_Bytes_3 N y.2.1 y.2.2.1))) (NxOk.go hb (make_Codes_Bytes_3_b N hb)) (fun x => by kernel_rfl)) (make_Codes_Bytes_s2_b N hb) (fun x => by kernel_rfl)
theorem make_Codes_Bytes_b {E : Env} (N : Nat) (hb : Base Tryd.prog (make_Codes_Bytes_C N) E 1) : Blk Tryd.prog (make_Codes_Bytes_C N) E (List.range make_Codes_Bytes_S2.ks.length) make_Codes_Bytes_S2 (make_Codes_Bytes_L.drop 0) (fun y => make_Codes_Bytes N y.1.1 y.2.1) (make_Codes_Bytes_K N) :=
  Blk.chunkAt hb 3 (X := (goK 1 [0, 1, 5, 6] make_Codes_Bytes_S0 (fun y => make_Codes_Bytes_1 N y.1.1 y.1.2.1 y.2.1 y.2.2.1))) (NxOk.go hb (make_Codes_Bytes_1_b N hb)) rfl (fun x => by kernel_rfl)
noncomputable def make_Codes_Bytes_ctr (N : Nat) : Ctr := ⟨make_Codes_Bytes_S2, make_Codes_Bytes_S1.un [false], 1, (fun y => make_Codes_Bytes N y.1.1 y.2.1)⟩
theorem make_Codes_Bytes_ctrs (N : Nat) : CtrsOk Tryd.prog (make_Codes_Bytes_C N) := ctrs_of (Γ := make_Codes_Bytes_C N) (by
  intro p hp
  simp only [make_Codes_Bytes_C, List.mem_cons, List.not_mem_nil, or_false] at hp
  rcases hp with rfl
  · exact make_Codes_Next_ok N)
theorem make_Codes_Bytes_ok (N : Nat) : Ctr.ok Tryd.prog G_globs 115 (make_Codes_Bytes_ctr N) :=
  ctr_fn (Γ := make_Codes_Bytes_C N) (rfit := make_Codes_Bytes_S1) (bs := [false]) (res := [4]) (by kernel_rfl) (tys_ok G_tys_ok) (make_Codes_Bytes_ctrs N) Tryd.func115 (by kernel_rfl) (by kernel_rfl) Tryd.ntmps115 (by kernel_rfl) (by kernel_rfl) (by kernel_rfl) (by kernel_rfl) (fun E hb => make_Codes_Bytes_b N hb)
end Go.Proofs.YtofajgidjkjnpaaDoor