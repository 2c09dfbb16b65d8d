/- Functions of the program as plain functions, each with the proof that the text computes it. -/
import Derived.Test.YtofajgidjkjnpaaDoorFnsSchnorrChainsA
set_option linter.unusedVariables false
set_option linter.unusedSimpArgs false
namespace Go.Proofs.YtofajgidjkjnpaaDoor
open Go
set_option maxRecDepth 100000
set_option linter.unusedVariables false
/-! ipsecgate/ipsecgateref09.mask -/
abbrev ref09_mask_R : Type := ((Unit) × ((List UInt8) × Unit))
noncomputable def ref09_mask_s3 (N : Nat) (key_0 : (List UInt8)) (m_1 : UInt8) (i_6 : Int) (out_5 : (List UInt8)) : Option (Lo (((List UInt8) × UInt8 × Int × Unit) × ((List UInt8) × Unit)) ((Unit) × ((List UInt8) × Unit)) ref09_mask_R) :=
  bif (decide (i_6 < (64 : Int))) then
    bif inR i_6 out_5.length then
    let x5 := (out_5.set i_6.toNat m_1)
    bif (decide (i_6 < (key_0.length : Int))) then
      bif inR i_6 x5.length then
      bif inR i_6 key_0.length then
      bif inR i_6 x5.length then
      some (.go ((key_0, m_1, (w64 (i_6 + (1 : Int))), ()), ((x5.set i_6.toNat ((x5.getD i_6.toNat (0 : UInt8)) ^^^ (key_0.getD i_6.toNat (0 : UInt8)))), ())))
      else none
      else none
      else none
    else
      some (.go ((key_0, m_1, (w64 (i_6 + (1 : Int))), ()), (x5, ())))
    else none
  else
    some (.br ((()), (out_5, ())))
noncomputable def ref09_mask_4 (N : Nat) (out_5 : (List UInt8)) : Option ref09_mask_R :=
  some ((()), (out_5, ()))
noncomputable def ref09_mask_2 (N : Nat) (key_0 : (List UInt8)) (m_1 : UInt8) (i_6 : Int) (out_5 : (List UInt8)) : Option ref09_mask_R :=
  loopK N (fun y => ref09_mask_s3 N y.1.1 y.1.2.1 y.1.2.2.1 y.2.1) (fun (e : ((Unit) × ((List UInt8) × Unit))) => ref09_mask_4 N e.2.1) ((key_0, m_1, i_6, ()), (out_5, ()))
noncomputable def ref09_mask_1 (N : Nat) (key_0 : (List UInt8)) (m_1 : UInt8) : Option ref09_mask_R :=
  ref09_mask_2 N key_0 m_1 (0 : Int) (List.replicate 64 (0 : UInt8))
noncomputable def ref09_mask (N : Nat) (key_0 : (List UInt8)) (m_1 : UInt8) : Option ref09_mask_R :=
  bif (decide ((64 : Int) < (key_0.length : Int))) then
    Option.bind (ref08_Sum N key_0) fun y3 =>
    ref09_mask_1 N y3.2.1 m_1
  else
    ref09_mask_1 N key_0 m_1
noncomputable def ref09_mask_C (N : Nat) : Ctx := ⟨36, G_tys, [(151, ref08_Sum_ctr N)], G_globs⟩
noncomputable def ref09_mask_S0 : Spec := ⟨[.val (.sl .u8), .val .u8, .row 0, .val .i64], [(.row 5 .u8, .pos 2)]⟩
noncomputable def ref09_mask_S1 : Spec := ⟨[.row 0], [(.row 5 .u8, .pos 0)]⟩
noncomputable def ref09_mask_S2 : Spec := ⟨[.val (.sl .u8), .val .u8], []⟩
noncomputable def ref09_mask_K (_N : Nat) : XE → GS → Option ref09_mask_R := retK 0 [4] [false] ref09_mask_S1
noncomputable def ref09_mask_L : List Code := (bodyOf (some Tryd.f153))
noncomputable def ref09_mask_L3 : List Code := (loopOf (ref09_mask_L[5]?))
noncomputable def ref09_mask_K3 (N : Nat) : XE → GS → Option (Lo (((List UInt8) × UInt8 × Int × Unit) × ((List UInt8) × Unit)) ((Unit) × ((List UInt8) × Unit)) ref09_mask_R) := roundK (some 0) (fit 0 [0, 1, 5, 6] ref09_mask_S0) (fit 0 [5] ref09_mask_S1) (ref09_mask_K N)
theorem ref09_mask_s3_b {E : Env} (N : Nat) (hb : Base Tryd.prog (ref09_mask_C N) E 0) : Blk Tryd.prog (ref09_mask_C N) E [0, 1, 5, 6] ref09_mask_S0 (ref09_mask_L3.drop 0) (fun y => ref09_mask_s3 N y.1.1 y.1.2.1 y.1.2.2.1 y.2.1) (ref09_mask_K3 N) :=
  Blk.chunkAt hb 4 (X := (ref09_mask_K3 N .normal)) (NxOk.end (by kernel_rfl)) rfl (fun x => by kernel_rfl)
theorem ref09_mask_4_b {E : Env} (N : Nat) (hb : Base Tryd.prog (ref09_mask_C N) E 0) : Blk Tryd.prog (ref09_mask_C N) E [5] ref09_mask_S1 (ref09_mask_L.drop 6) (fun y => ref09_mask_4 N y.2.1) (ref09_mask_K N) :=
  Blk.chunkAt hb 2 (X := (ref09_mask_K N .normal)) (NxOk.end (by kernel_rfl)) rfl (fun x => by kernel_rfl)
theorem ref09_mask_2_b {E : Env} (N : Nat) (hb : Base Tryd.prog (ref09_mask_C N) E 0) : Blk Tryd.prog (ref09_mask_C N) E [0, 1, 5, 6] ref09_mask_S0 (ref09_mask_L.drop 5) (fun y => ref09_mask_2 N y.1.1 y.1.2.1 y.1.2.2.1 y.2.1) (ref09_mask_K N) :=
  Blk.loopAt (Nf := N) (hns := [0, 1, 5, 6]) (ans := [5]) (hc := ref09_mask_S0) (ac := ref09_mask_S1) (bid := 0) (step := (fun y => ref09_mask_s3 N y.1.1 y.1.2.1 y.1.2.2.1 y.2.1)) (J := (fun e => (goK 0 [5] ref09_mask_S1 (fun y => ref09_mask_4 N y.2.1)) (ref09_mask_S1.st [5] e))) hb (by kernel_rfl) (Blk.into (X := (goK 0 [5] ref09_mask_S1 (fun y => ref09_mask_4 N y.2.1))) (NxOk.go hb (ref09_mask_4_b N hb)) (fun x => by kernel_rfl)) (ref09_mask_s3_b N hb) (fun x => by kernel_rfl)
theorem ref09_mask_1_b {E : Env} (N : Nat) (hb : Base Tryd.prog (ref09_mask_C N) E 0) : Blk Tryd.prog (ref09_mask_C N) E [0, 1] ref09_mask_S2 (ref09_mask_L.drop 3) (fun y => ref09_mask_1 N y.1.1 y.1.2.1) (ref09_mask_K N) :=
  Blk.chunkAt hb 2 (X := (goK 0 [0, 1, 5, 6] ref09_mask_S0 (fun y => ref09_mask_2 N y.1.1 y.1.2.1 y.1.2.2.1 y.2.1))) (NxOk.go hb (ref09_mask_2_b N hb)) rfl (fun x => by kernel_rfl)
theorem ref09_mask_b {E : Env} (N : Nat) (hb : Base Tryd.prog (ref09_mask_C N) E 0) : Blk Tryd.prog (ref09_mask_C N) E (List.range ref09_mask_S2.ks.length) ref09_mask_S2 (ref09_mask_L.drop 0) (fun y => ref09_mask N y.1.1 y.1.2.1) (ref09_mask_K N) :=
  Blk.chunkAt hb 3 (X := (goK 0 [0, 1] ref09_mask_S2 (fun y => ref09_mask_1 N y.1.1 y.1.2.1))) (NxOk.go hb (ref09_mask_1_b N hb)) rfl (fun x => by kernel_rfl)
noncomputable def ref09_mask_ctr (N : Nat) : Ctr := ⟨ref09_mask_S2, ref09_mask_S1.un [false], 0, (fun y => ref09_mask N y.1.1 y.1.2.1)⟩
theorem ref09_mask_ctrs (N : Nat) : CtrsOk Tryd.prog (ref09_mask_C N) := ctrs_of (Γ := ref09_mask_C N) (by
  intro p hp
  simp only [ref09_mask_C, List.mem_cons, List.not_mem_nil, or_false] at hp
  rcases hp with rfl
  · exact ref08_Sum_ok N)
theorem ref09_mask_ok (N : Nat) : Ctr.ok Tryd.prog G_globs 153 (ref09_mask_ctr N) :=
  ctr_fn (Γ := ref09_mask_C N) (rfit := ref09_mask_S1) (bs := [false]) (res := [4]) (by kernel_rfl) (tys_ok G_tys_ok) (ref09_mask_ctrs N) Tryd.func153 (by kernel_rfl) (by kernel_rfl) Tryd.ntmps153 (by kernel_rfl) (by kernel_rfl) (by kernel_rfl) (by kernel_rfl) (fun E hb => ref09_mask_b N hb)
end Go.Proofs.YtofajgidjkjnpaaDoor
namespace Go.Proofs.YtofajgidjkjnpaaDoor
open Go
set_option maxRecDepth 100000
set_option linter.unusedVariables false
/-! ipsecgate/ipsecgateref09.Join -/
abbrev ref09_Join_R : Type := ((Unit) × ((List UInt8) × Unit))
noncomputable def ref09_Join_s2 (N : Nat) (l_0 : (List (List UInt8))) (i_4 : Int) (out_3 : (List UInt8)) : Option (Lo (((List (List UInt8)) × Int × Unit) × ((List UInt8) × Unit)) ((Unit) × ((List UInt8) × Unit)) ref09_Join_R) :=
  bif (decide (i_4 < (l_0.length : Int))) then
    bif inR i_4 l_0.length then
    let x3 := l_0.getD i_4.toNat ([] : List UInt8)
    bif room (out_3.length + x3.length) 1 then
    some (.go ((l_0, (w64 (i_4 + (1 : Int))), ()), ((out_3 ++ x3), ())))
    else none
    else none
  else
    some (.br ((()), (out_3, ())))
noncomputable def ref09_Join_3 (N : Nat) (out_3 : (List UInt8)) : Option ref09_Join_R :=
  some ((()), (out_3, ()))
noncomputable def ref09_Join_1 (N : Nat) (l_0 : (List (List UInt8))) (i_4 : Int) (out_3 : (List UInt8)) : Option ref09_Join_R :=
  loopK N (fun y => ref09_Join_s2 N y.1.1 y.1.2.1 y.2.1) (fun (e : ((Unit) × ((List UInt8) × Unit))) => ref09_Join_3 N e.2.1) ((l_0, i_4, ()), (out_3, ()))
noncomputable def ref09_Join (N : Nat) (l_0 : (List (List UInt8))) : Option ref09_Join_R :=
  ref09_Join_1 N l_0 (0 : Int) ([] : List UInt8)
noncomputable def ref09_Join_C (N : Nat) : Ctx := ⟨18, G_tys, [], G_globs⟩
noncomputable def ref09_Join_S0 : Spec := ⟨[.val (.sl (.sl .u8)), .row 0, .val .i64], [(.row 5 .u8, .pos 1)]⟩
noncomputable def ref09_Join_S1 : Spec := ⟨[.row 0], [(.row 5 .u8, .pos 0)]⟩
noncomputable def ref09_Join_S2 : Spec := ⟨[.val (.sl (.sl .u8))], []⟩
noncomputable def ref09_Join_K (_N : Nat) : XE → GS → Option ref09_Join_R := retK 0 [2] [false] ref09_Join_S1
noncomputable def ref09_Join_L : List Code := (bodyOf (some Tryd.f152))
noncomputable def ref09_Join_L2 : List Code := (loopOf (ref09_Join_L[3]?))
noncomputable def ref09_Join_K2 (N : Nat) : XE → GS → Option (Lo (((List (List UInt8)) × Int × Unit) × ((List UInt8) × Unit)) ((Unit) × ((List UInt8) × Unit)) ref09_Join_R) := roundK (some 0) (fit 0 [0, 3, 4] ref09_Join_S0) (fit 0 [3] ref09_Join_S1) (ref09_Join_K N)
theorem ref09_Join_s2_b {E : Env} (N : Nat) (hb : Base Tryd.prog (ref09_Join_C N) E 0) : Blk Tryd.prog (ref09_Join_C N) E [0, 3, 4] ref09_Join_S0 (ref09_Join_L2.drop 0) (fun y => ref09_Join_s2 N y.1.1 y.1.2.1 y.2.1) (ref09_Join_K2 N) :=
  Blk.chunkAt hb 4 (X := (ref09_Join_K2 N .normal)) (NxOk.end (by kernel_rfl)) rfl (fun x => by kernel_rfl)
theorem ref09_Join_3_b {E : Env} (N : Nat) (hb : Base Tryd.prog (ref09_Join_C N) E 0) : Blk Tryd.prog (ref09_Join_C N) E [3] ref09_Join_S1 (ref09_Join_L.drop 4) (fun y => ref09_Join_3 N y.2.1) (ref09_Join_K N) :=
  Blk.chunkAt hb 2 (X := (ref09_Join_K N .normal)) (NxOk.end (by kernel_rfl)) rfl (fun x => by kernel_rfl)
theorem ref09_Join_1_b {E : Env} (N : Nat) (hb : Base Tryd.prog (ref09_Join_C N) E 0) : Blk Tryd.prog (ref09_Join_C N) E [0, 3, 4] ref09_Join_S0 (ref09_Join_L.drop 3) (fun y => ref09_Join_1 N y.1.1 y.1.2.1 y.2.1) (ref09_Join_K N) :=
  Blk.loopAt (Nf := N) (hns := [0, 3, 4]) (ans := [3]) (hc := ref09_Join_S0) (ac := ref09_Join_S1) (bid := 0) (step := (fun y => ref09_Join_s2 N y.1.1 y.1.2.1 y.2.1)) (J := (fun e => (goK 0 [3] ref09_Join_S1 (fun y => ref09_Join_3 N y.2.1)) (ref09_Join_S1.st [3] e))) hb (by kernel_rfl) (Blk.into (X := (goK 0 [3] ref09_Join_S1 (fun y => ref09_Join_3 N y.2.1))) (NxOk.go hb (ref09_Join_3_b N hb)) (fun x => by kernel_rfl)) (ref09_Join_s2_b N hb) (fun x => by kernel_rfl)
theorem ref09_Join_b {E : Env} (N : Nat) (hb : Base Tryd.prog (ref09_Join_C N) E 0) : Blk Tryd.prog (ref09_Join_C N) E (List.range ref09_Join_S2.ks.length) ref09_Join_S2 (ref09_Join_L.drop 0) (fun y => ref09_Join N y.1.1) (ref09_Join_K N) :=
  Blk.chunkAt hb 3 (X := (goK 0 [0, 3, 4] ref09_Join_S0 (fun y => ref09_Join_1 N y.1.1 y.1.2.1 y.2.1))) (NxOk.go hb (ref09_Join_1_b N hb)) rfl (fun x => by kernel_rfl)
noncomputable def ref09_Join_ctr (N : Nat) : Ctr := ⟨ref09_Join_S2, ref09_Join_S1.un [false], 0, (fun y => ref09_Join N y.1.1)⟩
theorem ref09_Join_ctrs (N : Nat) : CtrsOk Tryd.prog (ref09_Join_C N) := ctrs_nil rfl
theorem ref09_Join_ok (N : Nat) : Ctr.ok Tryd.prog G_globs 152 (ref09_Join_ctr N) :=
  ctr_fn (Γ := ref09_Join_C N) (rfit := ref09_Join_S1) (bs := [false]) (res := [2]) (by kernel_rfl) (tys_ok G_tys_ok) (ref09_Join_ctrs N) Tryd.func152 (by kernel_rfl) (by kernel_rfl) Tryd.ntmps152 (by kernel_rfl) (by kernel_rfl) (by kernel_rfl) (by kernel_rfl) (fun E hb => ref09_Join_b N hb)
end Go.Proofs.YtofajgidjkjnpaaDoor
namespace Go.Proofs.YtofajgidjkjnpaaDoor
open Go
set_option maxRecDepth 100000
set_option linter.unusedVariables false
/-! ipsecgate/ipsecgateref09.Hmac -/
abbrev ref09_Hmac_R : Type := ((Unit) × ((List UInt8) × Unit))
noncomputable def ref09_Hmac (N : Nat) (key_0 : (List UInt8)) (b_1 : (List UInt8)) : Option ref09_Hmac_R :=
  Option.bind (ref09_mask N key_0 (92 : UInt8)) fun y1 =>
  Option.bind (ref09_mask N key_0 (54 : UInt8)) fun y2 =>
  Option.bind (ref09_Join N ([y2.2.1, b_1] : List (List UInt8))) fun y3 =>
  Option.bind (ref08_Sum N y3.2.1) fun y4 =>
  Option.bind (ref09_Join N ([y1.2.1, y4.2.1] : List (List UInt8))) fun y5 =>
  Option.bind (ref08_Sum N y5.2.1) fun y6 =>
  some ((()), (y6.2.1, ()))
noncomputable def ref09_Hmac_C (N : Nat) : Ctx := ⟨16, G_tys, [(153, ref09_mask_ctr N), (152, ref09_Join_ctr N), (151, ref08_Sum_ctr N)], G_globs⟩
noncomputable def ref09_Hmac_S0 : Spec := ⟨[.val (.sl .u8), .val (.sl .u8)], []⟩
noncomputable def ref09_Hmac_S1 : Spec := ⟨[.row 0], [(.row 5 .u8, .pos 0)]⟩
noncomputable def ref09_Hmac_K (_N : Nat) : XE → GS → Option ref09_Hmac_R := retK 0 [4] [false] ref09_Hmac_S1
noncomputable def ref09_Hmac_L : List Code := (bodyOf (some Tryd.f84))
theorem ref09_Hmac_b {E : Env} (N : Nat) (hb : Base Tryd.prog (ref09_Hmac_C N) E 0) : Blk Tryd.prog (ref09_Hmac_C N) E (List.range ref09_Hmac_S0.ks.length) ref09_Hmac_S0 (ref09_Hmac_L.drop 0) (fun y => ref09_Hmac N y.1.1 y.1.2.1) (ref09_Hmac_K N) :=
  Blk.chunkAt hb 3 (X := (ref09_Hmac_K N .normal)) (NxOk.end (by kernel_rfl)) rfl (fun x => by kernel_rfl)
noncomputable def ref09_Hmac_ctr (N : Nat) : Ctr := ⟨ref09_Hmac_S0, ref09_Hmac_S1.un [false], 0, (fun y => ref09_Hmac N y.1.1 y.1.2.1)⟩
theorem ref09_Hmac_ctrs (N : Nat) : CtrsOk Tryd.prog (ref09_Hmac_C N) := ctrs_of (Γ := ref09_Hmac_C N) (by
  intro p hp
  simp only [ref09_Hmac_C, List.mem_cons, List.not_mem_nil, or_false] at hp
  rcases hp with rfl | rfl | rfl
  · exact ref09_mask_ok N
  · exact ref09_Join_ok N
  · exact ref08_Sum_ok N)
theorem ref09_Hmac_ok (N : Nat) : Ctr.ok Tryd.prog G_globs 84 (ref09_Hmac_ctr N) :=
  ctr_fn (Γ := ref09_Hmac_C N) (rfit := ref09_Hmac_S1) (bs := [false]) (res := [4]) (by kernel_rfl) (tys_ok G_tys_ok) (ref09_Hmac_ctrs N) Tryd.func84 (by kernel_rfl) (by kernel_rfl) Tryd.ntmps84 (by kernel_rfl) (by kernel_rfl) (by kernel_rfl) (by kernel_rfl) (fun E hb => ref09_Hmac_b N hb)
end Go.Proofs.YtofajgidjkjnpaaDoor
namespace Go.Proofs.YtofajgidjkjnpaaDoor
open Go
set_option maxRecDepth 100000
set_option linter.unusedVariables false
/-! ipsecgate/ipsecgateref15.first -/
abbrev ref15_first_R : Type := ((UInt64 × Unit) × (Unit))
noncomputable def ref15_first (N : Nat) (b_0 : (List UInt8)) : Option ref15_first_R :=
  Option.bind (ref01_Number N b_0 (0 : Int) (8 : Int)) fun y1 =>
  some ((y1.1.1, ()), (()))
noncomputable def ref15_first_C (N : Nat) : Ctx := ⟨11, G_tys, [(58, ref01_Number_ctr N)], G_globs⟩
noncomputable def ref15_first_S0 : Spec := ⟨[.val (.sl .u8)], []⟩
noncomputable def ref15_first_S1 : Spec := ⟨[.val .u64], []⟩
noncomputable def ref15_first_K (_N : Nat) : XE → GS → Option ref15_first_R := retK 0 [2] [false] ref15_first_S1
noncomputable def ref15_first_L : List Code := (bodyOf (some Tryd.f83))
theorem ref15_first_b {E : Env} (N : Nat) (hb : Base Tryd.prog (ref15_first_C N) E 0) : Blk Tryd.prog (ref15_first_C N) E (List.range ref15_first_S0.ks.length) ref15_first_S0 (ref15_first_L.drop 0) (fun y => ref15_first N y.1.1) (ref15_first_K N) :=
  Blk.chunkAt hb 4 (X := (ref15_first_K N .normal)) (NxOk.end (by kernel_rfl)) rfl (fun x => by kernel_rfl)
noncomputable def ref15_first_ctr (N : Nat) : Ctr := ⟨ref15_first_S0, ref15_first_S1.un [false], 0, (fun y => ref15_first N y.1.1)⟩
theorem ref15_first_ctrs (N : Nat) : CtrsOk Tryd.prog (ref15_first_C N) := ctrs_of (Γ := ref15_first_C N) (by
  intro p hp
  simp only [ref15_first_C, List.mem_cons, List.not_mem_nil, or_false] at hp
  rcases hp with rfl
  · exact ref01_Number_ok N)
theorem ref15_first_ok (N : Nat) : Ctr.ok Tryd.prog G_globs 83 (ref15_first_ctr N) :=
  ctr_fn (Γ := ref15_first_C N) (rfit := ref15_first_S1) (bs := [false]) (res := [2]) (by kernel_rfl) (tys_ok G_tys_ok) (ref15_first_ctrs N) Tryd.func83 (by kernel_rfl) (by kernel_rfl) Tryd.ntmps83 (by kernel_rfl) (by kernel_rfl) (by kernel_rfl) (by kernel_rfl) (fun E hb => ref15_first_b N hb)
end Go.Proofs.YtofajgidjkjnpaaDoor
namespace Go.Proofs.YtofajgidjkjnpaaDoor
open Go
set_option maxRecDepth 100000
set_option linter.unusedVariables false
/-! ipsecgate/ipsecgateref15.challenge -/
abbrev ref15_challenge_R : Type := ((UInt64 × Unit) × (Unit))
noncomputable def ref15_challenge (N : Nat) (r_0 : UInt64) (y_1 : UInt64) (message_2 : (List UInt8)) : Option ref15_challenge_R :=
  Option.bind (ref13_Bytes N r_0) fun y1 =>
  Option.bind (ref13_Bytes N y_1) fun y2 =>
  Option.bind (ref09_Join N ([y1.2.1, y2.2.1, message_2] : List (List UInt8))) fun y3 =>
  Option.bind (ref08_Sum N y3.2.1) fun y4 =>
  Option.bind (ref15_first N y4.2.1) fun y5 =>
  some (((y5.1.1 % (2305843009213688669 : UInt64)), ()), (()))
noncomputable def ref15_challenge_C (N : Nat) : Ctx := ⟨17, G_tys, [(85, ref13_Bytes_ctr N), (152, ref09_Join_ctr N), (151, ref08_Sum_ctr N), (83, ref15_first_ctr N)], G_globs⟩
noncomputable def ref15_challenge_S0 : Spec := ⟨[.val .u64, .val .u64, .val (.sl .u8)], []⟩
noncomputable def ref15_challenge_S1 : Spec := ⟨[.val .u64], []⟩
noncomputable def ref15_challenge_K (_N : Nat) : XE → GS → Option ref15_challenge_R := retK 0 [6] [false] ref15_challenge_S1
noncomputable def ref15_challenge_L : List Code := (bodyOf (some Tryd.f86))
theorem ref15_challenge_b {E : Env} (N : Nat) (hb : Base Tryd.prog (ref15_challenge_C N) E 0) : Blk Tryd.prog (ref15_challenge_C N) E (List.range ref15_challenge_S0.ks.length) ref15_challenge_S0 (ref15_challenge_L.drop 0) (fun y => ref15_challenge N y.1.1 y.1.2.1 y.1.2.2.1) (ref15_challenge_K N) :=
  Blk.chunkAt hb 3 (X := (ref15_challenge_K N .normal)) (NxOk.end (by kernel_rfl)) rfl (fun x => by kernel_rfl)
noncomputable def ref15_challenge_ctr (N : Nat) : Ctr := ⟨ref15_challenge_S0, ref15_challenge_S1.un [false], 0, (fun y => ref15_challenge N y.1.1 y.1.2.1 y.1.2.2.1)⟩
theorem ref15_challenge_ctrs (N : Nat) : CtrsOk Tryd.prog (ref15_challenge_C N) := ctrs_of (Γ := ref15_challenge_C N) (by
  intro p hp
  simp only [ref15_challenge_C, List.mem_cons, List.not_mem_nil, or_false] at hp
  rcases hp with rfl | rfl | rfl | rfl
  · exact ref13_Bytes_ok N
  · exact ref09_Join_ok N
  · exact ref08_Sum_ok N
  · exact ref15_first_ok N)
theorem ref15_challenge_ok (N : Nat) : Ctr.ok Tryd.prog G_globs 86 (ref15_challenge_ctr N) :=
  ctr_fn (Γ := ref15_challenge_C N) (rfit := ref15_challenge_S1) (bs := [false]) (res := [6]) (by kernel_rfl) (tys_ok G_tys_ok) (ref15_challenge_ctrs N) Tryd.func86 (by kernel_rfl) (by kernel_rfl) Tryd.ntmps86 (by kernel_rfl) (by kernel_rfl) (by kernel_rfl) (by kernel_rfl) (fun E hb => ref15_challenge_b N hb)
end Go.Proofs.YtofajgidjkjnpaaDoor
namespace Go.Proofs.YtofajgidjkjnpaaDoor
open Go
set_option maxRecDepth 100000
set_option linter.unusedVariables false
/-! ipsecgate/ipsecgateref15.mulq -/
abbrev ref15_mulq_R : Type := ((UInt64 × Unit) × (Unit))
noncomputable def ref15_mulq_s2 (N : Nat) (a_0 : UInt64) (b_1 : UInt64) (out_5 : UInt64) : Option (Lo ((UInt64 × UInt64 × UInt64 × Unit) × (Unit)) ((UInt64 × Unit) × (Unit)) ref15_mulq_R) :=
  bif (decide ((0 : UInt64) < b_1)) then
    bif (decide ((b_1 &&& (1 : UInt64)) = (1 : UInt64))) then
      some (.go (((((2 : UInt64) * a_0) % (2305843009213688669 : UInt64)), (shr64 b_1 1), ((out_5 + a_0) % (2305843009213688669 : UInt64)), ()), (())))
    else
      some (.go (((((2 : UInt64) * a_0) % (2305843009213688669 : UInt64)), (shr64 b_1 1), out_5, ()), (())))
  else
    some (.br ((out_5, ()), (())))
noncomputable def ref15_mulq_3 (N : Nat) (out_5 : UInt64) : Option ref15_mulq_R :=
  some ((out_5, ()), (()))
noncomputable def ref15_mulq_1 (N : Nat) (a_0 : UInt64) (b_1 : UInt64) (out_5 : UInt64) : Option ref15_mulq_R :=
  loopK N (fun y => ref15_mulq_s2 N y.1.1 y.1.2.1 y.1.2.2.1) (fun (e : ((UInt64 × Unit) × (Unit))) => ref15_mulq_3 N e.1.1) ((a_0, b_1, out_5, ()), (()))
noncomputable def ref15_mulq (N : Nat) (a_0 : UInt64) (b_1 : UInt64) : Option ref15_mulq_R :=
  ref15_mulq_1 N (a_0 % (2305843009213688669 : UInt64)) (b_1 % (2305843009213688669 : UInt64)) (0 : UInt64)
noncomputable def ref15_mulq_C (N : Nat) : Ctx := ⟨25, G_tys, [], G_globs⟩
noncomputable def ref15_mulq_S0 : Spec := ⟨[.val .u64, .val .u64, .val .u64], []⟩
noncomputable def ref15_mulq_S1 : Spec := ⟨[.val .u64], []⟩
noncomputable def ref15_mulq_S2 : Spec := ⟨[.val .u64, .val .u64], []⟩
noncomputable def ref15_mulq_K (_N : Nat) : XE → GS → Option ref15_mulq_R := retK 0 [4] [false] ref15_mulq_S1
noncomputable def ref15_mulq_L : List Code := (bodyOf (some Tryd.f87))
noncomputable def ref15_mulq_L2 : List Code := (loopOf (ref15_mulq_L[4]?))
noncomputable def ref15_mulq_K2 (N : Nat) : XE → GS → Option (Lo ((UInt64 × UInt64 × UInt64 × Unit) × (Unit)) ((UInt64 × Unit) × (Unit)) ref15_mulq_R) := roundK (some 0) (fit 0 [0, 1, 5] ref15_mulq_S0) (fit 0 [5] ref15_mulq_S1) (ref15_mulq_K N)
theorem ref15_mulq_s2_b {E : Env} (N : Nat) (hb : Base Tryd.prog (ref15_mulq_C N) E 0) : Blk Tryd.prog (ref15_mulq_C N) E [0, 1, 5] ref15_mulq_S0 (ref15_mulq_L2.drop 0) (fun y => ref15_mulq_s2 N y.1.1 y.1.2.1 y.1.2.2.1) (ref15_mulq_K2 N) :=
  Blk.chunkAt hb 4 (X := (ref15_mulq_K2 N .normal)) (NxOk.end (by kernel_rfl)) rfl (fun x => by kernel_rfl)
theorem ref15_mulq_3_b {E : Env} (N : Nat) (hb : Base Tryd.prog (ref15_mulq_C N) E 0) : Blk Tryd.prog (ref15_mulq_C N) E [5] ref15_mulq_S1 (ref15_mulq_L.drop 5) (fun y => ref15_mulq_3 N y.1.1) (ref15_mulq_K N) :=
  Blk.chunkAt hb 2 (X := (ref15_mulq_K N .normal)) (NxOk.end (by kernel_rfl)) rfl (fun x => by kernel_rfl)
theorem ref15_mulq_1_b {E : Env} (N : Nat) (hb : Base Tryd.prog (ref15_mulq_C N) E 0) : Blk Tryd.prog (ref15_mulq_C N) E [0, 1, 5] ref15_mulq_S0 (ref15_mulq_L.drop 4) (fun y => ref15_mulq_1 N y.1.1 y.1.2.1 y.1.2.2.1) (ref15_mulq_K N) :=
  Blk.loopAt (Nf := N) (hns := [0, 1, 5]) (ans := [5]) (hc := ref15_mulq_S0) (ac := ref15_mulq_S1) (bid := 0) (step := (fun y => ref15_mulq_s2 N y.1.1 y.1.2.1 y.1.2.2.1)) (J := (fun e => (goK 0 [5] ref15_mulq_S1 (fun y => ref15_mulq_3 N y.1.1)) (ref15_mulq_S1.st [5] e))) hb (by kernel_rfl) (Blk.into (X := (goK 0 [5] ref15_mulq_S1 (fun y => ref15_mulq_3 N y.1.1))) (NxOk.go hb (ref15_mulq_3_b N hb)) (fun x => by kernel_rfl)) (ref15_mulq_s2_b N hb) (fun x => by kernel_rfl)
theorem ref15_mulq_b {E : Env} (N : Nat) (hb : Base Tryd.prog (ref15_mulq_C N) E 0) : Blk Tryd.prog (ref15_mulq_C N) E (List.range ref15_mulq_S2.ks.length) ref15_mulq_S2 (ref15_mulq_L.drop 0) (fun y => ref15_mulq N y.1.1 y.1.2.1) (ref15_mulq_K N) :=
  Blk.chunkAt hb 4 (X := (goK 0 [0, 1, 5] ref15_mulq_S0 (fun y => ref15_mulq_1 N y.1.1 y.1.2.1 y.1.2.2.1))) (NxOk.go hb (ref15_mulq_1_b N hb)) rfl (fun x => by kernel_rfl)
noncomputable def ref15_mulq_ctr (N : Nat) : Ctr := ⟨ref15_mulq_S2, ref15_mulq_S1.un [false], 0, (fun y => ref15_mulq N y.1.1 y.1.2.1)⟩
theorem ref15_mulq_ctrs (N : Nat) : CtrsOk Tryd.prog (ref15_mulq_C N) := ctrs_nil rfl
theorem ref15_mulq_ok (N : Nat) : Ctr.ok Tryd.prog G_globs 87 (ref15_mulq_ctr N) :=
  ctr_fn (Γ := ref15_mulq_C N) (rfit := ref15_mulq_S1) (bs := [false]) (res := [4]) (by kernel_rfl) (tys_ok G_tys_ok) (ref15_mulq_ctrs N) Tryd.func87 (by kernel_rfl) (by kernel_rfl) Tryd.ntmps87 (by kernel_rfl) (by kernel_rfl) (by kernel_rfl) (by kernel_rfl) (fun E hb => ref15_mulq_b N hb)
end Go.Proofs.YtofajgidjkjnpaaDoor
namespace Go.Proofs.YtofajgidjkjnpaaDoor
open Go
set_option maxRecDepth 100000
set_option linter.unusedVariables false
/-! ipsecgate/ipsecgateref15.Sign -/
abbrev ref15_Sign_R : Type := ((Int × Unit) × ((List UInt8) × Unit))
noncomputable def ref15_Sign (N : Nat) (secret_0 : UInt64) (message_1 : (List UInt8)) : Option ref15_Sign_R :=
  Option.bind (ref13_Public N secret_0) fun y1 =>
  bif (!(decide (y1.1.2.1 = (0 : Int)))) then
    some ((y1.1.2.1, ()), (([] : List UInt8), ()))
  else
    Option.bind (ref13_Bytes N secret_0) fun y3 =>
    Option.bind (ref09_Hmac N y3.2.1 message_1) fun y4 =>
    Option.bind (ref15_first N y4.2.1) fun y5 =>
    let x7 := (1 : UInt64) + (y5.1.1 % (2305843009213688668 : UInt64))
    Option.bind (ref13_Power N (4 : UInt64) x7) fun y8 =>
    Option.bind (ref15_challenge N y8.1.1 y1.1.1 message_1) fun y9 =>
    Option.bind (ref15_mulq N y9.1.1 secret_0) fun y10 =>
    Option.bind (ref13_Bytes N y9.1.1) fun y13 =>
    Option.bind (ref13_Bytes N ((x7 + y10.1.1) % (2305843009213688669 : UInt64))) fun y14 =>
    bif room (y13.2.1.length + y14.2.1.length) 1 then
    some (((0 : Int), ()), ((y13.2.1 ++ y14.2.1), ()))
    else none
noncomputable def ref15_Sign_C (N : Nat) : Ctx := ⟨42, G_tys, [(18, ref13_Public_ctr N), (85, ref13_Bytes_ctr N), (84, ref09_Hmac_ctr N), (83, ref15_first_ctr N), (82, ref13_Power_ctr N), (86, ref15_challenge_ctr N), (87, ref15_mulq_ctr N)], G_globs⟩
noncomputable def ref15_Sign_S0 : Spec := ⟨[.val .u64, .val (.sl .u8)], []⟩
noncomputable def ref15_Sign_S1 : Spec := ⟨[.row 0, .val .i64], [(.row 5 .u8, .pos 0)]⟩
noncomputable def ref15_Sign_K (_N : Nat) : XE → GS → Option ref15_Sign_R := retK 0 [4, 5] [false, false] ref15_Sign_S1
noncomputable def ref15_Sign_L : List Code := (bodyOf (some Tryd.f19))
theorem ref15_Sign_b {E : Env} (N : Nat) (hb : Base Tryd.prog (ref15_Sign_C N) E 0) : Blk Tryd.prog (ref15_Sign_C N) E (List.range ref15_Sign_S0.ks.length) ref15_Sign_S0 (ref15_Sign_L.drop 0) (fun y => ref15_Sign N y.1.1 y.1.2.1) (ref15_Sign_K N) :=
  Blk.chunkAt hb 9 (X := (ref15_Sign_K N .normal)) (NxOk.end (by kernel_rfl)) rfl (fun x => by kernel_rfl)
noncomputable def ref15_Sign_ctr (N : Nat) : Ctr := ⟨ref15_Sign_S0, ref15_Sign_S1.un [false, false], 0, (fun y => ref15_Sign N y.1.1 y.1.2.1)⟩
theorem ref15_Sign_ctrs (N : Nat) : CtrsOk Tryd.prog (ref15_Sign_C N) := ctrs_of (Γ := ref15_Sign_C N) (by
  intro p hp
  simp only [ref15_Sign_C, List.mem_cons, List.not_mem_nil, or_false] at hp
  rcases hp with rfl | rfl | rfl | rfl | rfl | rfl | rfl
  · exact ref13_Public_ok N
  · exact ref13_Bytes_ok N
  · exact ref09_Hmac_ok N
  · exact ref15_first_ok N
  · exact ref13_Power_ok N
  · exact ref15_challenge_ok N
  · exact ref15_mulq_ok N)
theorem ref15_Sign_ok (N : Nat) : Ctr.ok Tryd.prog G_globs 19 (ref15_Sign_ctr N) :=
  ctr_fn (Γ := ref15_Sign_C N) (rfit := ref15_Sign_S1) (bs := [false, false]) (res := [4, 5]) (by kernel_rfl) (tys_ok G_tys_ok) (ref15_Sign_ctrs N) Tryd.func19 (by kernel_rfl) (by kernel_rfl) Tryd.ntmps19 (by kernel_rfl) (by kernel_rfl) (by kernel_rfl) (by kernel_rfl) (fun E hb => ref15_Sign_b N hb)
end Go.Proofs.YtofajgidjkjnpaaDoor
namespace Go.Proofs.YtofajgidjkjnpaaDoor
open Go
set_option maxRecDepth 100000
set_option linter.unusedVariables false
/-! ipsecgate/ipsecgateref15.Issue -/
abbrev ref15_Issue_R : Type := ((((List UInt8) × (UInt64 × (Int × (Int × (Bool × ((List UInt8) × Unit)))))) × Int × Unit) × (Unit))
noncomputable def ref15_Issue (N : Nat) (c_0 : ((List UInt8) × (UInt64 × (Int × (Int × (Bool × ((List UInt8) × Unit))))))) (secret_1 : UInt64) : Option ref15_Issue_R :=
  Option.bind (ref15_Body N c_0) fun y1 =>
  bif (!(decide (y1.1.1 = (0 : Int)))) then
    some (((([] : List UInt8), (0 : UInt64), (0 : Int), (0 : Int), false, ([] : List UInt8), ()), y1.1.1, ()), (()))
  else
    Option.bind (ref15_Sign N secret_1 y1.2.1) fun y3 =>
    bif (!(decide (y3.1.1 = (0 : Int)))) then
      some (((([] : List UInt8), (0 : UInt64), (0 : Int), (0 : Int), false, ([] : List UInt8), ()), y3.1.1, ()), (()))
    else
      some (((c_0.1, c_0.2.1, c_0.2.2.1, c_0.2.2.2.1, c_0.2.2.2.2.1, y3.2.1, ()), (0 : Int), ()), (()))
noncomputable def ref15_Issue_C (N : Nat) : Ctx := ⟨31, G_tys, [(51, ref15_Body_ctr N), (19, ref15_Sign_ctr N)], G_globs⟩
noncomputable def ref15_Issue_S0 : Spec := ⟨[.val (.pair .str (.pair .u64 (.pair .i64 (.pair .i64 (.pair .bool (.pair (.sl .u8) .unit)))))), .val .u64], []⟩
noncomputable def ref15_Issue_S1 : Spec := ⟨[.fp (.pair .str (.pair .u64 (.pair .i64 (.pair .i64 (.pair .bool (.pair (.sl .u8) .unit)))))), .val .i64], []⟩
noncomputable def ref15_Issue_K (_N : Nat) : XE → GS → Option ref15_Issue_R := retK 0 [4, 5] [true, false] ref15_Issue_S1
noncomputable def ref15_Issue_L : List Code := (bodyOf (some Tryd.f49))
theorem ref15_Issue_b {E : Env} (N : Nat) (hb : Base Tryd.prog (ref15_Issue_C N) E 0) : Blk Tryd.prog (ref15_Issue_C N) E (List.range ref15_Issue_S0.ks.length) ref15_Issue_S0 (ref15_Issue_L.drop 0) (fun y => ref15_Issue N y.1.1 y.1.2.1) (ref15_Issue_K N) :=
  Blk.chunkAt hb 10 (X := (ref15_Issue_K N .normal)) (NxOk.end (by kernel_rfl)) rfl (fun x => by kernel_rfl)
noncomputable def ref15_Issue_ctr (N : Nat) : Ctr := ⟨ref15_Issue_S0, ref15_Issue_S1.un [true, false], 0, (fun y => ref15_Issue N y.1.1 y.1.2.1)⟩
theorem ref15_Issue_ctrs (N : Nat) : CtrsOk Tryd.prog (ref15_Issue_C N) := ctrs_of (Γ := ref15_Issue_C N) (by
  intro p hp
  simp only [ref15_Issue_C, List.mem_cons, List.not_mem_nil, or_false] at hp
  rcases hp with rfl | rfl
  · exact ref15_Body_ok N
  · exact ref15_Sign_ok N)
theorem ref15_Issue_ok (N : Nat) : Ctr.ok Tryd.prog G_globs 49 (ref15_Issue_ctr N) :=
  ctr_fn (Γ := ref15_Issue_C N) (rfit := ref15_Issue_S1) (bs := [true, false]) (res := [4, 5]) (by kernel_rfl) (tys_ok G_tys_ok) (ref15_Issue_ctrs N) Tryd.func49 (by kernel_rfl) (by kernel_rfl) Tryd.ntmps49 (by kernel_rfl) (by kernel_rfl) (by kernel_rfl) (by kernel_rfl) (fun E hb => ref15_Issue_b N hb)
end Go.Proofs.YtofajgidjkjnpaaDoor
namespace Go.Proofs.YtofajgidjkjnpaaDoor
open Go
set_option maxRecDepth 100000
set_option linter.unusedVariables false
/-! ipsecgate/ipsecgatelaw15.draw -/
abbrev law15_draw_R : Type := ((UInt64 × Unit) × (((List UInt8) × (Int × Unit)) × (List ((List UInt8) × (UInt64 × (Int × (Int × (Bool × ((List UInt8) × Unit))))))) × Unit))
noncomputable def law15_draw_s2 (N : Nat) (anchor_4 : UInt64) (secret_7 : UInt64) (i_8 : Int) (p0 : ((List UInt8) × (Int × Unit))) (l_6 : (List ((List UInt8) × (UInt64 × (Int × (Int × (Bool × ((List UInt8) × Unit)))))))) : Option (Lo ((UInt64 × UInt64 × Int × Unit) × (((List UInt8) × (Int × Unit)) × (List ((List UInt8) × (UInt64 × (Int × (Int × (Bool × ((List UInt8) × Unit))))))) × Unit)) ((UInt64 × Unit) × (((List UInt8) × (Int × Unit)) × (List ((List UInt8) × (UInt64 × (Int × (Int × (Bool × ((List UInt8) × Unit))))))) × Unit)) law15_draw_R) :=
  bif (decide ((0 : Int) ≤ i_8)) then
    Option.bind (make_Codes_Secret N p0) fun y6 =>
    Option.bind (ref13_Public N y6.1.1) fun y7 =>
    bif (decide ((0 : Int) < i_8)) then
      Option.bind (make_Codes_Certificate N y7.1.1 true y6.2.1) fun y9 =>
      Option.bind (ref15_Issue N y9.1.1 secret_7) fun y10 =>
      bif inR i_8 l_6.length then
      some (.go ((anchor_4, y6.1.1, (w64 (i_8 - (1 : Int))), ()), (y9.2.1, (l_6.set i_8.toNat y10.1.1), ())))
      else none
    else
      Option.bind (make_Codes_Next N (4 : Int) y6.2.1) fun y13 =>
      Option.bind (make_Codes_Certificate N y7.1.1 (decide (y13.1.1 = (3 : Int))) y13.2.1) fun y15 =>
      Option.bind (ref15_Issue N y15.1.1 secret_7) fun y16 =>
      bif inR i_8 l_6.length then
      some (.go ((anchor_4, y6.1.1, (w64 (i_8 - (1 : Int))), ()), (y15.2.1, (l_6.set i_8.toNat y16.1.1), ())))
      else none
  else
    some (.br ((anchor_4, ()), (p0, l_6, ())))
noncomputable def law15_draw_3 (N : Nat) (anchor_4 : UInt64) (p0 : ((List UInt8) × (Int × Unit))) (l_6 : (List ((List UInt8) × (UInt64 × (Int × (Int × (Bool × ((List UInt8) × Unit)))))))) : Option law15_draw_R :=
  some ((anchor_4, ()), (p0, l_6, ()))
noncomputable def law15_draw_1 (N : Nat) (anchor_4 : UInt64) (secret_7 : UInt64) (i_8 : Int) (p0 : ((List UInt8) × (Int × Unit))) (l_6 : (List ((List UInt8) × (UInt64 × (Int × (Int × (Bool × ((List UInt8) × Unit)))))))) : Option law15_draw_R :=
  loopK N (fun y => law15_draw_s2 N y.1.1 y.1.2.1 y.1.2.2.1 y.2.1 y.2.2.1) (fun (e : ((UInt64 × Unit) × (((List UInt8) × (Int × Unit)) × (List ((List UInt8) × (UInt64 × (Int × (Int × (Bool × ((List UInt8) × Unit))))))) × Unit))) => law15_draw_3 N e.1.1 e.2.1 e.2.2.1) ((anchor_4, secret_7, i_8, ()), (p0, l_6, ()))
noncomputable def law15_draw (N : Nat) (c_0 : ((List UInt8) × (Int × Unit))) : Option law15_draw_R :=
  Option.bind (make_Codes_Secret N c_0) fun y1 =>
  Option.bind (make_Codes_Next N (3 : Int) y1.2.1) fun y2 =>
  let x3 := w64 ((1 : Int) + y2.1.1)
  bif decide (0 ≤ x3) && decide (x3 ≤ x3) && room x3.toNat 72 then
  law15_draw_1 N y1.1.1 y1.1.1 (w64 (x3 - (1 : Int))) y2.2.1 (List.replicate x3.toNat (([] : List UInt8), (0 : UInt64), (0 : Int), (0 : Int), false, ([] : List UInt8), ()))
  else none
noncomputable def law15_draw_C (N : Nat) : Ctx := ⟨54, G_tys, [(17, make_Codes_Secret_ctr N), (61, make_Codes_Next_ctr N), (18, ref13_Public_ctr N), (108, make_Codes_Certificate_ctr N), (49, ref15_Issue_ctr N)], G_globs⟩
noncomputable def law15_draw_S0 : Spec := ⟨[.ref 0 (.pair (.sl .u8) (.pair .i64 .unit)), .val .u64, .row 1, .val .u64, .val .i64], [(.box 122 (.pair (.sl .u8) (.pair .i64 .unit)), .fix 0), (.row 66 (.pair .str (.pair .u64 (.pair .i64 (.pair .i64 (.pair .bool (.pair (.sl .u8) .unit)))))), .pos 2)]⟩
noncomputable def law15_draw_S1 : Spec := ⟨[.val .u64, .row 1], [(.box 122 (.pair (.sl .u8) (.pair .i64 .unit)), .fix 0), (.row 66 (.pair .str (.pair .u64 (.pair .i64 (.pair .i64 (.pair .bool (.pair (.sl .u8) .unit)))))), .pos 1)]⟩
noncomputable def law15_draw_S2 : Spec := ⟨[.ref 0 (.pair (.sl .u8) (.pair .i64 .unit))], [(.box 122 (.pair (.sl .u8) (.pair .i64 .unit)), .pos 0)]⟩
noncomputable def law15_draw_K (_N : Nat) : XE → GS → Option law15_draw_R := retK 1 [2, 3] [false, false] law15_draw_S1
noncomputable def law15_draw_L : List Code := (bodyOf (some Tryd.f37))
noncomputable def law15_draw_L2 : List Code := (loopOf (law15_draw_L[6]?))
noncomputable def law15_draw_K2 (N : Nat) : XE → GS → Option (Lo ((UInt64 × UInt64 × Int × Unit) × (((List UInt8) × (Int × Unit)) × (List ((List UInt8) × (UInt64 × (Int × (Int × (Bool × ((List UInt8) × Unit))))))) × Unit)) ((UInt64 × Unit) × (((List UInt8) × (Int × Unit)) × (List ((List UInt8) × (UInt64 × (Int × (Int × (Bool × ((List UInt8) × Unit))))))) × Unit)) law15_draw_R) := roundK (some 0) (fit 1 [0, 4, 6, 7, 8] law15_draw_S0) (fit 1 [4, 6] law15_draw_S1) (law15_draw_K N)
theorem law15_draw_s2_b {E : Env} (N : Nat) (hb : Base Tryd.prog (law15_draw_C N) E 1) : Blk Tryd.prog (law15_draw_C N) E [0, 4, 6, 7, 8] law15_draw_S0 (law15_draw_L2.drop 0) (fun y => law15_draw_s2 N y.1.1 y.1.2.1 y.1.2.2.1 y.2.1 y.2.2.1) (law15_draw_K2 N) :=
  Blk.chunkAt hb 4 (X := (law15_draw_K2 N .normal)) (NxOk.end (by kernel_rfl)) rfl (fun x => by kernel_rfl)
theorem law15_draw_3_b {E : Env} (N : Nat) (hb : Base Tryd.prog (law15_draw_C N) E 1) : Blk Tryd.prog (law15_draw_C N) E [4, 6] law15_draw_S1 (law15_draw_L.drop 7) (fun y => law15_draw_3 N y.1.1 y.2.1 y.2.2.1) (law15_draw_K N) :=
  Blk.chunkAt hb 2 (X := (law15_draw_K N .normal)) (NxOk.end (by kernel_rfl)) rfl (fun x => by kernel_rfl)
theorem law15_draw_1_b {E : Env} (N : Nat) (hb : Base Tryd.prog (law15_draw_C N) E 1) : Blk Tryd.prog (law15_draw_C N) E [0, 4, 6, 7, 8] law15_draw_S0 (law15_draw_L.drop 6) (fun y => law15_draw_1 N y.1.1 y.1.2.1 y.1.2.2.1 y.2.1 y.2.2.1) (law15_draw_K N) :=
  Blk.loopAt (Nf := N) (hns := [0, 4, 6, 7, 8]) (ans := [4, 6]) (hc := law15_draw_S0) (ac := law15_draw_S1) (bid := 0) (step := (fun y => law15_draw_s2 N y.1.1 y.1.2.1 y.1.2.2.1 y.2.1 y.2.2.1)) (J := (fun e => (goK 1 [4, 6] law15_draw_S1 (fun y => law15_draw_3 N y.1.1 y.2.1 y.2.2.1)) (law15_draw_S1.st [4, 6] e))) hb (by kernel_rfl) (Blk.into (X := (goK 1 [4, 6] law15_draw_S1 (fun y => law15_draw_3 N y.1.1 y.2.1 y.2.2.1))) (NxOk.go hb (law15_draw_3_b N hb)) (fun x => by kernel_rfl)) (law15_draw_s2_b N hb) (fun x => by kernel_rfl)
theorem law15_draw_b {E : Env} (N : Nat) (hb : Base Tryd.prog (law15_draw_C N) E 1) : Blk Tryd.prog (law15_draw_C N) E (List.range law15_draw_S2.ks.length) law15_draw_S2 (law15_draw_L.drop 0) (fun y => law15_draw N y.2.1) (law15_draw_K N) :=
  Blk.chunkAt hb 6 (X := (goK 1 [0, 4, 6, 7, 8] law15_draw_S0 (fun y => law15_draw_1 N y.1.1 y.1.2.1 y.1.2.2.1 y.2.1 y.2.2.1))) (NxOk.go hb (law15_draw_1_b N hb)) rfl (fun x => by kernel_rfl)
noncomputable def law15_draw_ctr (N : Nat) : Ctr := ⟨law15_draw_S2, law15_draw_S1.un [false, false], 1, (fun y => law15_draw N y.2.1)⟩
theorem law15_draw_ctrs (N : Nat) : CtrsOk Tryd.prog (law15_draw_C N) := ctrs_of (Γ := law15_draw_C N) (by
  intro p hp
  simp only [law15_draw_C, List.mem_cons, List.not_mem_nil, or_false] at hp
  rcases hp with rfl | rfl | rfl | rfl | rfl
  · exact make_Codes_Secret_ok N
  · exact make_Codes_Next_ok N
  · exact ref13_Public_ok N
  · exact make_Codes_Certificate_ok N
  · exact ref15_Issue_ok N)
theorem law15_draw_ok (N : Nat) : Ctr.ok Tryd.prog G_globs 37 (law15_draw_ctr N) :=
  ctr_fn (Γ := law15_draw_C N) (rfit := law15_draw_S1) (bs := [false, false]) (res := [2, 3]) (by kernel_rfl) (tys_ok G_tys_ok) (law15_draw_ctrs N) Tryd.func37 (by kernel_rfl) (by kernel_rfl) Tryd.ntmps37 (by kernel_rfl) (by kernel_rfl) (by kernel_rfl) (by kernel_rfl) (fun E hb => law15_draw_b N hb)
end Go.Proofs.YtofajgidjkjnpaaDoor
namespace Go.Proofs.YtofajgidjkjnpaaDoor
open Go
set_option maxRecDepth 100000
set_option linter.unusedVariables false
/-! ipsecgate/ipsecgatemake.Mod -/
abbrev make_Mod_R : Type := ((Int × Unit) × (Unit))
noncomputable def make_Mod (N : Nat) (x_0 : Int) (n_1 : Int) : Option make_Mod_R :=
  bif !(decide (n_1 = 0)) then
  bif (decide ((x_0.tmod n_1) < (0 : Int))) then
    some (((w64 ((x_0.tmod n_1) + n_1)), ()), (()))
  else
    some (((x_0.tmod n_1), ()), (()))
  else none
noncomputable def make_Mod_C (N : Nat) : Ctx := ⟨14, G_tys, [], G_globs⟩
noncomputable def make_Mod_S0 : Spec := ⟨[.val .i64, .val .i64], []⟩
noncomputable def make_Mod_S1 : Spec := ⟨[.val .i64], []⟩
noncomputable def make_Mod_K (_N : Nat) : XE → GS → Option make_Mod_R := retK 0 [4] [false] make_Mod_S1
noncomputable def make_Mod_L : List Code := (bodyOf (some Tryd.f42))
theorem make_Mod_b {E : Env} (N : Nat) (hb : Base Tryd.prog (make_Mod_C N) E 0) : Blk Tryd.prog (make_Mod_C N) E (List.range make_Mod_S0.ks.length) make_Mod_S0 (make_Mod_L.drop 0) (fun y => make_Mod N y.1.1 y.1.2.1) (make_Mod_K N) :=
  Blk.chunkAt hb 6 (X := (make_Mod_K N .normal)) (NxOk.end (by kernel_rfl)) rfl (fun x => by kernel_rfl)
noncomputable def make_Mod_ctr (N : Nat) : Ctr := ⟨make_Mod_S0, make_Mod_S1.un [false], 0, (fun y => make_Mod N y.1.1 y.1.2.1)⟩
theorem make_Mod_ctrs (N : Nat) : CtrsOk Tryd.prog (make_Mod_C N) := ctrs_nil rfl
theorem make_Mod_ok (N : Nat) : Ctr.ok Tryd.prog G_globs 42 (make_Mod_ctr N) :=
  ctr_fn (Γ := make_Mod_C N) (rfit := make_Mod_S1) (bs := [false]) (res := [4]) (by kernel_rfl) (tys_ok G_tys_ok) (make_Mod_ctrs N) Tryd.func42 (by kernel_rfl) (by kernel_rfl) Tryd.ntmps42 (by kernel_rfl) (by kernel_rfl) (by kernel_rfl) (by kernel_rfl) (fun E hb => make_Mod_b N hb)
end Go.Proofs.YtofajgidjkjnpaaDoor
namespace Go.Proofs.YtofajgidjkjnpaaDoor
open Go
set_option maxRecDepth 100000
set_option linter.unusedVariables false
/-! (*ipsecgate/ipsecgatemake.Codes).Int -/
abbrev make_Codes_Int_R : Type := ((Int × Unit) × (((List UInt8) × (Int × Unit)) × Unit))
noncomputable def make_Codes_Int (N : Nat) (c_0 : ((List UInt8) × (Int × Unit))) : Option make_Codes_Int_R :=
  Option.bind (make_Codes_Next N (4 : Int) c_0) fun y1 =>
  bif (decide (y1.1.1 = (3 : Int))) then
    Option.bind (make_Codes_Next N (([(9223372036854775807 : Int), (-9223372036854775808 : Int), (65535 : Int), (65536 : Int), (255 : Int), (256 : Int), (-1 : Int), (-2 : Int), (0 : Int), (4294967296 : Int), (16384 : Int), (37 : Int)] : List Int).length : Int) y1.2.1) fun y4 =>
    bif inR y4.1.1 (([(9223372036854775807 : Int), (-9223372036854775808 : Int), (65535 : Int), (65536 : Int), (255 : Int), (256 : Int), (-1 : Int), (-2 : Int), (0 : Int), (4294967296 : Int), (16384 : Int), (37 : Int)] : List Int).length) then
    some (((([(9223372036854775807 : Int), (-9223372036854775808 : Int), (65535 : Int), (65536 : Int), (255 : Int), (256 : Int), (-1 : Int), (-2 : Int), (0 : Int), (4294967296 : Int), (16384 : Int), (37 : Int)] : List Int).getD y4.1.1.toNat (0 : Int)), ()), (y4.2.1, ()))
    else none
  else
    Option.bind (make_Codes_Next N (60 : Int) y1.2.1) fun y6 =>
    some (((w64 (y6.1.1 - (3 : Int))), ()), (y6.2.1, ()))
noncomputable def make_Codes_Int_C (N : Nat) : Ctx := ⟨18, G_tys, [(61, make_Codes_Next_ctr N)], G_globs⟩
noncomputable def make_Codes_Int_S0 : Spec := ⟨[.ref 0 (.pair (.sl .u8) (.pair .i64 .unit))], [(.box 122 (.pair (.sl .u8) (.pair .i64 .unit)), .pos 0)]⟩
noncomputable def make_Codes_Int_S1 : Spec := ⟨[.val .i64], [(.box 122 (.pair (.sl .u8) (.pair .i64 .unit)), .fix 0)]⟩
noncomputable def make_Codes_Int_K (_N : Nat) : XE → GS → Option make_Codes_Int_R := retK 1 [2] [false] make_Codes_Int_S1
noncomputable def make_Codes_Int_L : List Code := (bodyOf (some Tryd.f69))
theorem make_Codes_Int_b {E : Env} (N : Nat) (hb : Base Tryd.prog (make_Codes_Int_C N) E 1) : Blk Tryd.prog (make_Codes_Int_C N) E (List.range make_Codes_Int_S0.ks.length) make_Codes_Int_S0 (make_Codes_Int_L.drop 0) (fun y => make_Codes_Int N y.2.1) (make_Codes_Int_K N) :=
  Blk.chunkAt hb 6 (X := (make_Codes_Int_K N .normal)) (NxOk.end (by kernel_rfl)) rfl (fun x => by kernel_rfl)
noncomputable def make_Codes_Int_ctr (N : Nat) : Ctr := ⟨make_Codes_Int_S0, make_Codes_Int_S1.un [false], 1, (fun y => make_Codes_Int N y.2.1)⟩
theorem make_Codes_Int_ctrs (N : Nat) : CtrsOk Tryd.prog (make_Codes_Int_C N) := ctrs_of (Γ := make_Codes_Int_C N) (by
  intro p hp
  simp only [make_Codes_Int_C, List.mem_cons, List.not_mem_nil, or_false] at hp
  rcases hp with rfl
  · exact make_Codes_Next_ok N)
theorem make_Codes_Int_ok (N : Nat) : Ctr.ok Tryd.prog G_globs 69 (make_Codes_Int_ctr N) :=
  ctr_fn (Γ := make_Codes_Int_C N) (rfit := make_Codes_Int_S1) (bs := [false]) (res := [2]) (by kernel_rfl) (tys_ok G_tys_ok) (make_Codes_Int_ctrs N) Tryd.func69 (by kernel_rfl) (by kernel_rfl) Tryd.ntmps69 (by kernel_rfl) (by kernel_rfl) (by kernel_rfl) (by kernel_rfl) (fun E hb => make_Codes_Int_b N hb)
end Go.Proofs.YtofajgidjkjnpaaDoor
namespace Go.Proofs.YtofajgidjkjnpaaDoor
open Go
set_option maxRecDepth 100000
set_option linter.unusedVariables false
/-! (*ipsecgate/ipsecgatemake.Codes).Change -/
abbrev make_Codes_Change_R : Type := (((List UInt8) × Unit) × (((List UInt8) × (Int × Unit)) × Unit))
noncomputable def make_Codes_Change (N : Nat) (b_1 : (List UInt8)) (c_0 : ((List UInt8) × (Int × Unit))) : Option make_Codes_Change_R :=
  bif room (0 + b_1.length) 1 then
  Option.bind (make_Codes_Next N (5 : Int) c_0) fun y1 =>
  bif (decide (y1.1.1 = (0 : Int))) then
    Option.bind (make_Codes_Next N (256 : Int) y1.2.1) fun y3 =>
    bif room (b_1.length + ([(iu8 y3.1.1)] : List UInt8).length) 1 then
    some (((b_1 ++ ([(iu8 y3.1.1)] : List UInt8)), ()), (y3.2.1, ()))
    else none
  else
    bif (decide (y1.1.1 = (1 : Int))) then
      Option.bind (make_Codes_Next N (9 : Int) y1.2.1) fun y8 =>
      let x10 := w64 ((w64 ((b_1.length : Int) * y8.1.1)).tdiv (9 : Int))
      bif decide (0 ≤ (0 : Int)) && decide ((0 : Int) ≤ x10) && decide (x10 ≤ (b_1.length : Int)) && true then
      some (((cut b_1 0 x10.toNat), ()), (y8.2.1, ()))
      else none
    else
      bif (decide ((0 : Int) < (b_1.length : Int))) then
        Option.bind (make_Codes_Next N (256 : Int) y1.2.1) fun y14 =>
        Option.bind (make_Codes_Next N (256 : Int) y14.2.1) fun y16 =>
        let x17 := or64 (shlI y14.1.1 8) y16.1.1
        let x18 := (b_1.length : Int)
        bif !(decide (x18 = 0)) then
        bif inR (x17.tmod x18) b_1.length then
        Option.bind (make_Codes_Next N (255 : Int) y16.2.1) fun y21 =>
        bif inR (x17.tmod x18) b_1.length then
        some (((b_1.set (x17.tmod x18).toNat ((b_1.getD (x17.tmod x18).toNat (0 : UInt8)) ^^^ (iu8 (w64 ((1 : Int) + y21.1.1))))), ()), (y21.2.1, ()))
        else none
        else none
        else none
      else
        some ((b_1, ()), (y1.2.1, ()))
  else none
noncomputable def make_Codes_Change_C (N : Nat) : Ctx := ⟨51, G_tys, [(61, make_Codes_Next_ctr N)], G_globs⟩
noncomputable def make_Codes_Change_S0 : Spec := ⟨[.ref 0 (.pair (.sl .u8) (.pair .i64 .unit)), .val (.sl .u8)], [(.box 122 (.pair (.sl .u8) (.pair .i64 .unit)), .pos 0)]⟩
noncomputable def make_Codes_Change_S1 : Spec := ⟨[.val (.sl .u8)], [(.box 122 (.pair (.sl .u8) (.pair .i64 .unit)), .fix 0)]⟩
noncomputable def make_Codes_Change_K (_N : Nat) : XE → GS → Option make_Codes_Change_R := retK 1 [4] [false] make_Codes_Change_S1
noncomputable def make_Codes_Change_L : List Code := (bodyOf (some Tryd.f22))
theorem make_Codes_Change_b {E : Env} (N : Nat) (hb : Base Tryd.prog (make_Codes_Change_C N) E 1) : Blk Tryd.prog (make_Codes_Change_C N) E (List.range make_Codes_Change_S0.ks.length) make_Codes_Change_S0 (make_Codes_Change_L.drop 0) (fun y => make_Codes_Change N y.1.1 y.2.1) (make_Codes_Change_K N) :=
  Blk.chunkAt hb 8 (X := (make_Codes_Change_K N .normal)) (NxOk.end (by kernel_rfl)) rfl (fun x => by kernel_rfl)
noncomputable def make_Codes_Change_ctr (N : Nat) : Ctr := ⟨make_Codes_Change_S0, make_Codes_Change_S1.un [false], 1, (fun y => make_Codes_Change N y.1.1 y.2.1)⟩
theorem make_Codes_Change_ctrs (N : Nat) : CtrsOk Tryd.prog (make_Codes_Change_C N) := ctrs_of (Γ := make_Codes_Change_C N) (by
  intro p hp
  simp only [make_Codes_Change_C, List.mem_cons, List.not_mem_nil, or_false] at hp
  rcases hp with rfl
  · exact make_Codes_Next_ok N)
theorem make_Codes_Change_ok (N : Nat) : Ctr.ok Tryd.prog G_globs 22 (make_Codes_Change_ctr N) :=
  ctr_fn (Γ := make_Codes_Change_C N) (rfit := make_Codes_Change_S1) (bs := [false]) (res := [4]) (by kernel_rfl) (tys_ok G_tys_ok) (make_Codes_Change_ctrs N) Tryd.func22 (by kernel_rfl) (by kernel_rfl) Tryd.ntmps22 (by kernel_rfl) (by kernel_rfl) (by kernel_rfl) (by kernel_rfl) (fun E hb => make_Codes_Change_b N hb)
end Go.Proofs.YtofajgidjkjnpaaDoor
namespace Go.Proofs.YtofajgidjkjnpaaDoor
open Go
set_option maxRecDepth 100000
set_option linter.unusedVariables false
/-! ipsecgate/ipsecgatelaw15.spoil -/
abbrev law15_spoil_R : Type := ((Unit) × (((List UInt8) × (Int × Unit)) × (List ((List UInt8) × (UInt64 × (Int × (Int × (Bool × ((List UInt8) × Unit))))))) × Unit))
noncomputable def law15_spoil_7 (N : Nat) (p0 : ((List UInt8) × (Int × Unit))) (l_1 : (List ((List UInt8) × (UInt64 × (Int × (Int × (Bool × ((List UInt8) × Unit)))))))) : Option law15_spoil_R :=
  some ((()), (p0, l_1, ()))
noncomputable def law15_spoil_6 (N : Nat) (i_5 : Int) (p0 : ((List UInt8) × (Int × Unit))) (l_1 : (List ((List UInt8) × (UInt64 × (Int × (Int × (Bool × ((List UInt8) × Unit)))))))) : Option law15_spoil_R :=
  Option.bind (make_Codes_Next N (4 : Int) p0) fun y7 =>
  bif inR y7.1.1 (([([] : List UInt8), ([109, 97, 108, 108, 111, 114, 121] : List UInt8), ([97, 32, 98] : List UInt8), ([97, 98, 99, 100, 101, 102, 103, 104, 105, 106, 107, 108, 109, 110, 111, 112, 113] : List UInt8)] : List (List UInt8)).length) then
  bif inR i_5 l_1.length then
  law15_spoil_7 N y7.2.1 (l_1.set i_5.toNat ((([([] : List UInt8), ([109, 97, 108, 108, 111, 114, 121] : List UInt8), ([97, 32, 98] : List UInt8), ([97, 98, 99, 100, 101, 102, 103, 104, 105, 106, 107, 108, 109, 110, 111, 112, 113] : List UInt8)] : List (List UInt8)).getD y7.1.1.toNat ([] : List UInt8)), (l_1.getD i_5.toNat (([] : List UInt8), (0 : UInt64), (0 : Int), (0 : Int), false, ([] : List UInt8), ())).2.1, (l_1.getD i_5.toNat (([] : List UInt8), (0 : UInt64), (0 : Int), (0 : Int), false, ([] : List UInt8), ())).2.2.1, (l_1.getD i_5.toNat (([] : List UInt8), (0 : UInt64), (0 : Int), (0 : Int), false, ([] : List UInt8), ())).2.2.2.1, (l_1.getD i_5.toNat (([] : List UInt8), (0 : UInt64), (0 : Int), (0 : Int), false, ([] : List UInt8), ())).2.2.2.2.1, (l_1.getD i_5.toNat (([] : List UInt8), (0 : UInt64), (0 : Int), (0 : Int), false, ([] : List UInt8), ())).2.2.2.2.2.1, ()))
  else none
  else none
noncomputable def law15_spoil_11 (N : Nat) (i_5 : Int) (p0 : ((List UInt8) × (Int × Unit))) (l_1 : (List ((List UInt8) × (UInt64 × (Int × (Int × (Bool × ((List UInt8) × Unit)))))))) : Option law15_spoil_R :=
  Option.bind (make_Codes_Word N p0) fun y11 =>
  bif inR i_5 l_1.length then
  law15_spoil_7 N y11.2.1 (l_1.set i_5.toNat ((l_1.getD i_5.toNat (([] : List UInt8), (0 : UInt64), (0 : Int), (0 : Int), false, ([] : List UInt8), ())).1, y11.1.1, (l_1.getD i_5.toNat (([] : List UInt8), (0 : UInt64), (0 : Int), (0 : Int), false, ([] : List UInt8), ())).2.2.1, (l_1.getD i_5.toNat (([] : List UInt8), (0 : UInt64), (0 : Int), (0 : Int), false, ([] : List UInt8), ())).2.2.2.1, (l_1.getD i_5.toNat (([] : List UInt8), (0 : UInt64), (0 : Int), (0 : Int), false, ([] : List UInt8), ())).2.2.2.2.1, (l_1.getD i_5.toNat (([] : List UInt8), (0 : UInt64), (0 : Int), (0 : Int), false, ([] : List UInt8), ())).2.2.2.2.2.1, ()))
  else none
noncomputable def law15_spoil_15 (N : Nat) (i_5 : Int) (p0 : ((List UInt8) × (Int × Unit))) (l_1 : (List ((List UInt8) × (UInt64 × (Int × (Int × (Bool × ((List UInt8) × Unit)))))))) : Option law15_spoil_R :=
  Option.bind (make_Codes_Int N p0) fun y14 =>
  bif inR i_5 l_1.length then
  law15_spoil_7 N y14.2.1 (l_1.set i_5.toNat ((l_1.getD i_5.toNat (([] : List UInt8), (0 : UInt64), (0 : Int), (0 : Int), false, ([] : List UInt8), ())).1, (l_1.getD i_5.toNat (([] : List UInt8), (0 : UInt64), (0 : Int), (0 : Int), false, ([] : List UInt8), ())).2.1, y14.1.1, (l_1.getD i_5.toNat (([] : List UInt8), (0 : UInt64), (0 : Int), (0 : Int), false, ([] : List UInt8), ())).2.2.2.1, (l_1.getD i_5.toNat (([] : List UInt8), (0 : UInt64), (0 : Int), (0 : Int), false, ([] : List UInt8), ())).2.2.2.2.1, (l_1.getD i_5.toNat (([] : List UInt8), (0 : UInt64), (0 : Int), (0 : Int), false, ([] : List UInt8), ())).2.2.2.2.2.1, ()))
  else none
noncomputable def law15_spoil_19 (N : Nat) (i_5 : Int) (p0 : ((List UInt8) × (Int × Unit))) (l_1 : (List ((List UInt8) × (UInt64 × (Int × (Int × (Bool × ((List UInt8) × Unit)))))))) : Option law15_spoil_R :=
  Option.bind (make_Codes_Int N p0) fun y17 =>
  bif inR i_5 l_1.length then
  law15_spoil_7 N y17.2.1 (l_1.set i_5.toNat ((l_1.getD i_5.toNat (([] : List UInt8), (0 : UInt64), (0 : Int), (0 : Int), false, ([] : List UInt8), ())).1, (l_1.getD i_5.toNat (([] : List UInt8), (0 : UInt64), (0 : Int), (0 : Int), false, ([] : List UInt8), ())).2.1, (l_1.getD i_5.toNat (([] : List UInt8), (0 : UInt64), (0 : Int), (0 : Int), false, ([] : List UInt8), ())).2.2.1, y17.1.1, (l_1.getD i_5.toNat (([] : List UInt8), (0 : UInt64), (0 : Int), (0 : Int), false, ([] : List UInt8), ())).2.2.2.2.1, (l_1.getD i_5.toNat (([] : List UInt8), (0 : UInt64), (0 : Int), (0 : Int), false, ([] : List UInt8), ())).2.2.2.2.2.1, ()))
  else none
noncomputable def law15_spoil_23 (N : Nat) (i_5 : Int) (p0 : ((List UInt8) × (Int × Unit))) (l_1 : (List ((List UInt8) × (UInt64 × (Int × (Int × (Bool × ((List UInt8) × Unit)))))))) : Option law15_spoil_R :=
  bif inR i_5 l_1.length then
  bif inR i_5 l_1.length then
  law15_spoil_7 N p0 (l_1.set i_5.toNat ((l_1.getD i_5.toNat (([] : List UInt8), (0 : UInt64), (0 : Int), (0 : Int), false, ([] : List UInt8), ())).1, (l_1.getD i_5.toNat (([] : List UInt8), (0 : UInt64), (0 : Int), (0 : Int), false, ([] : List UInt8), ())).2.1, (l_1.getD i_5.toNat (([] : List UInt8), (0 : UInt64), (0 : Int), (0 : Int), false, ([] : List UInt8), ())).2.2.1, (l_1.getD i_5.toNat (([] : List UInt8), (0 : UInt64), (0 : Int), (0 : Int), false, ([] : List UInt8), ())).2.2.2.1, !((l_1.getD i_5.toNat (([] : List UInt8), (0 : UInt64), (0 : Int), (0 : Int), false, ([] : List UInt8), ())).2.2.2.2.1), (l_1.getD i_5.toNat (([] : List UInt8), (0 : UInt64), (0 : Int), (0 : Int), false, ([] : List UInt8), ())).2.2.2.2.2.1, ()))
  else none
  else none
noncomputable def law15_spoil_27 (N : Nat) (i_5 : Int) (p0 : ((List UInt8) × (Int × Unit))) (l_1 : (List ((List UInt8) × (UInt64 × (Int × (Int × (Bool × ((List UInt8) × Unit)))))))) : Option law15_spoil_R :=
  bif inR i_5 l_1.length then
  Option.bind (make_Codes_Change N ((l_1.getD i_5.toNat (([] : List UInt8), (0 : UInt64), (0 : Int), (0 : Int), false, ([] : List UInt8), ())).2.2.2.2.2.1) p0) fun y24 =>
  bif inR i_5 l_1.length then
  law15_spoil_7 N y24.2.1 (l_1.set i_5.toNat ((l_1.getD i_5.toNat (([] : List UInt8), (0 : UInt64), (0 : Int), (0 : Int), false, ([] : List UInt8), ())).1, (l_1.getD i_5.toNat (([] : List UInt8), (0 : UInt64), (0 : Int), (0 : Int), false, ([] : List UInt8), ())).2.1, (l_1.getD i_5.toNat (([] : List UInt8), (0 : UInt64), (0 : Int), (0 : Int), false, ([] : List UInt8), ())).2.2.1, (l_1.getD i_5.toNat (([] : List UInt8), (0 : UInt64), (0 : Int), (0 : Int), false, ([] : List UInt8), ())).2.2.2.1, (l_1.getD i_5.toNat (([] : List UInt8), (0 : UInt64), (0 : Int), (0 : Int), false, ([] : List UInt8), ())).2.2.2.2.1, y24.1.1, ()))
  else none
  else none
noncomputable def law15_spoil_31 (N : Nat) (i_5 : Int) (p0 : ((List UInt8) × (Int × Unit))) (l_1 : (List ((List UInt8) × (UInt64 × (Int × (Int × (Bool × ((List UInt8) × Unit)))))))) : Option law15_spoil_R :=
  bif inR i_5 l_1.length then
  bif inR (0 : Int) l_1.length then
  bif inR (0 : Int) l_1.length then
  let x29 := (l_1.set 0 (l_1.getD i_5.toNat (([] : List UInt8), (0 : UInt64), (0 : Int), (0 : Int), false, ([] : List UInt8), ())))
  bif inR i_5 x29.length then
  law15_spoil_7 N p0 (x29.set i_5.toNat (l_1.getD 0 (([] : List UInt8), (0 : UInt64), (0 : Int), (0 : Int), false, ([] : List UInt8), ())))
  else none
  else none
  else none
  else none
noncomputable def law15_spoil_s33 (N : Nat) (i_5 : Int) (p0 : ((List UInt8) × (Int × Unit))) (l_1 : (List ((List UInt8) × (UInt64 × (Int × (Int × (Bool × ((List UInt8) × Unit)))))))) : Option (Lo ((Int × Unit) × (((List UInt8) × (Int × Unit)) × (List ((List UInt8) × (UInt64 × (Int × (Int × (Bool × ((List UInt8) × Unit))))))) × Unit)) ((Unit) × (((List UInt8) × (Int × Unit)) × (List ((List UInt8) × (UInt64 × (Int × (Int × (Bool × ((List UInt8) × Unit))))))) × Unit)) law15_spoil_R) :=
  bif (decide ((l_1.length : Int) ≤ (6 : Int))) then
    bif inR i_5 l_1.length then
    let x33 := (l_1.getD i_5.toNat (([] : List UInt8), (0 : UInt64), (0 : Int), (0 : Int), false, ([] : List UInt8), ()))
    bif room (l_1.length + ([x33] : List ((List UInt8) × (UInt64 × (Int × (Int × (Bool × ((List UInt8) × Unit))))))).length) 72 then
    some (.go ((i_5, ()), (p0, (l_1 ++ ([x33] : List ((List UInt8) × (UInt64 × (Int × (Int × (Bool × ((List UInt8) × Unit)))))))), ())))
    else none
    else none
  else
    some (.br ((()), (p0, l_1, ())))
noncomputable def law15_spoil_32 (N : Nat) (i_5 : Int) (p0 : ((List UInt8) × (Int × Unit))) (l_1 : (List ((List UInt8) × (UInt64 × (Int × (Int × (Bool × ((List UInt8) × Unit)))))))) : Option law15_spoil_R :=
  loopK N (fun y => law15_spoil_s33 N y.1.1 y.2.1 y.2.2.1) (fun (e : ((Unit) × (((List UInt8) × (Int × Unit)) × (List ((List UInt8) × (UInt64 × (Int × (Int × (Bool × ((List UInt8) × Unit))))))) × Unit))) => law15_spoil_7 N e.2.1 e.2.2.1) ((i_5, ()), (p0, l_1, ()))
noncomputable def law15_spoil_29 (N : Nat) (i_5 : Int) (t_88 : Bool) (p0 : ((List UInt8) × (Int × Unit))) (l_1 : (List ((List UInt8) × (UInt64 × (Int × (Int × (Bool × ((List UInt8) × Unit)))))))) : Option law15_spoil_R :=
  bif t_88 then
    law15_spoil_31 N i_5 p0 l_1
  else
    law15_spoil_32 N i_5 p0 l_1
noncomputable def law15_spoil_28 (N : Nat) (i_5 : Int) (t_17 : Int) (p0 : ((List UInt8) × (Int × Unit))) (l_1 : (List ((List UInt8) × (UInt64 × (Int × (Int × (Bool × ((List UInt8) × Unit)))))))) : Option law15_spoil_R :=
  law15_spoil_29 N i_5 (decide (t_17 = (6 : Int))) p0 l_1
noncomputable def law15_spoil_25 (N : Nat) (i_5 : Int) (t_17 : Int) (t_75 : Bool) (p0 : ((List UInt8) × (Int × Unit))) (l_1 : (List ((List UInt8) × (UInt64 × (Int × (Int × (Bool × ((List UInt8) × Unit)))))))) : Option law15_spoil_R :=
  bif t_75 then
    law15_spoil_27 N i_5 p0 l_1
  else
    law15_spoil_28 N i_5 t_17 p0 l_1
noncomputable def law15_spoil_24 (N : Nat) (i_5 : Int) (t_17 : Int) (p0 : ((List UInt8) × (Int × Unit))) (l_1 : (List ((List UInt8) × (UInt64 × (Int × (Int × (Bool × ((List UInt8) × Unit)))))))) : Option law15_spoil_R :=
  law15_spoil_25 N i_5 t_17 (decide (t_17 = (5 : Int))) p0 l_1
noncomputable def law15_spoil_21 (N : Nat) (i_5 : Int) (t_17 : Int) (t_63 : Bool) (p0 : ((List UInt8) × (Int × Unit))) (l_1 : (List ((List UInt8) × (UInt64 × (Int × (Int × (Bool × ((List UInt8) × Unit)))))))) : Option law15_spoil_R :=
  bif t_63 then
    law15_spoil_23 N i_5 p0 l_1
  else
    law15_spoil_24 N i_5 t_17 p0 l_1
noncomputable def law15_spoil_20 (N : Nat) (i_5 : Int) (t_17 : Int) (p0 : ((List UInt8) × (Int × Unit))) (l_1 : (List ((List UInt8) × (UInt64 × (Int × (Int × (Bool × ((List UInt8) × Unit)))))))) : Option law15_spoil_R :=
  law15_spoil_21 N i_5 t_17 (decide (t_17 = (4 : Int))) p0 l_1
noncomputable def law15_spoil_17 (N : Nat) (i_5 : Int) (t_17 : Int) (t_55 : Bool) (p0 : ((List UInt8) × (Int × Unit))) (l_1 : (List ((List UInt8) × (UInt64 × (Int × (Int × (Bool × ((List UInt8) × Unit)))))))) : Option law15_spoil_R :=
  bif t_55 then
    law15_spoil_19 N i_5 p0 l_1
  else
    law15_spoil_20 N i_5 t_17 p0 l_1
noncomputable def law15_spoil_16 (N : Nat) (i_5 : Int) (t_17 : Int) (p0 : ((List UInt8) × (Int × Unit))) (l_1 : (List ((List UInt8) × (UInt64 × (Int × (Int × (Bool × ((List UInt8) × Unit)))))))) : Option law15_spoil_R :=
  law15_spoil_17 N i_5 t_17 (decide (t_17 = (3 : Int))) p0 l_1
noncomputable def law15_spoil_13 (N : Nat) (i_5 : Int) (t_17 : Int) (t_47 : Bool) (p0 : ((List UInt8) × (Int × Unit))) (l_1 : (List ((List UInt8) × (UInt64 × (Int × (Int × (Bool × ((List UInt8) × Unit)))))))) : Option law15_spoil_R :=
  bif t_47 then
    law15_spoil_15 N i_5 p0 l_1
  else
    law15_spoil_16 N i_5 t_17 p0 l_1
noncomputable def law15_spoil_12 (N : Nat) (i_5 : Int) (t_17 : Int) (p0 : ((List UInt8) × (Int × Unit))) (l_1 : (List ((List UInt8) × (UInt64 × (Int × (Int × (Bool × ((List UInt8) × Unit)))))))) : Option law15_spoil_R :=
  law15_spoil_13 N i_5 t_17 (decide (t_17 = (2 : Int))) p0 l_1
noncomputable def law15_spoil_9 (N : Nat) (i_5 : Int) (t_17 : Int) (t_39 : Bool) (p0 : ((List UInt8) × (Int × Unit))) (l_1 : (List ((List UInt8) × (UInt64 × (Int × (Int × (Bool × ((List UInt8) × Unit)))))))) : Option law15_spoil_R :=
  bif t_39 then
    law15_spoil_11 N i_5 p0 l_1
  else
    law15_spoil_12 N i_5 t_17 p0 l_1
noncomputable def law15_spoil_8 (N : Nat) (i_5 : Int) (t_17 : Int) (p0 : ((List UInt8) × (Int × Unit))) (l_1 : (List ((List UInt8) × (UInt64 × (Int × (Int × (Bool × ((List UInt8) × Unit)))))))) : Option law15_spoil_R :=
  law15_spoil_9 N i_5 t_17 (decide (t_17 = (1 : Int))) p0 l_1
noncomputable def law15_spoil_4 (N : Nat) (i_5 : Int) (t_17 : Int) (t_28 : Bool) (p0 : ((List UInt8) × (Int × Unit))) (l_1 : (List ((List UInt8) × (UInt64 × (Int × (Int × (Bool × ((List UInt8) × Unit)))))))) : Option law15_spoil_R :=
  bif t_28 then
    law15_spoil_6 N i_5 p0 l_1
  else
    law15_spoil_8 N i_5 t_17 p0 l_1
noncomputable def law15_spoil_3 (N : Nat) (i_5 : Int) (t_17 : Int) (p0 : ((List UInt8) × (Int × Unit))) (l_1 : (List ((List UInt8) × (UInt64 × (Int × (Int × (Bool × ((List UInt8) × Unit)))))))) : Option law15_spoil_R :=
  law15_spoil_4 N i_5 t_17 (decide (t_17 = (0 : Int))) p0 l_1
noncomputable def law15_spoil_1 (N : Nat) (i_5 : Int) (t_17 : Int) (p0 : ((List UInt8) × (Int × Unit))) (l_1 : (List ((List UInt8) × (UInt64 × (Int × (Int × (Bool × ((List UInt8) × Unit)))))))) : Option law15_spoil_R :=
  law15_spoil_3 N i_5 t_17 p0 l_1
noncomputable def law15_spoil (N : Nat) (l_1 : (List ((List UInt8) × (UInt64 × (Int × (Int × (Bool × ((List UInt8) × Unit)))))))) (c_0 : ((List UInt8) × (Int × Unit))) : Option law15_spoil_R :=
  bif room (0 + l_1.length) 72 then
  bif (decide ((l_1.length : Int) = (0 : Int))) then
    some ((()), (c_0, l_1, ()))
  else
    Option.bind (make_Codes_Next N (l_1.length : Int) c_0) fun y4 =>
    Option.bind (make_Codes_Next N (8 : Int) y4.2.1) fun y5 =>
    law15_spoil_1 N y4.1.1 y5.1.1 y5.2.1 l_1
  else none
noncomputable def law15_spoil_C (N : Nat) : Ctx := ⟨103, G_tys, [(61, make_Codes_Next_ctr N), (44, make_Codes_Word_ctr N), (69, make_Codes_Int_ctr N), (22, make_Codes_Change_ctr N)], G_globs⟩
noncomputable def law15_spoil_S0 : Spec := ⟨[.row 1], [(.box 122 (.pair (.sl .u8) (.pair .i64 .unit)), .fix 0), (.row 66 (.pair .str (.pair .u64 (.pair .i64 (.pair .i64 (.pair .bool (.pair (.sl .u8) .unit)))))), .pos 0)]⟩
noncomputable def law15_spoil_S1 : Spec := ⟨[.ref 0 (.pair (.sl .u8) (.pair .i64 .unit)), .row 1, .val .i64], [(.box 122 (.pair (.sl .u8) (.pair .i64 .unit)), .fix 0), (.row 66 (.pair .str (.pair .u64 (.pair .i64 (.pair .i64 (.pair .bool (.pair (.sl .u8) .unit)))))), .pos 1)]⟩
noncomputable def law15_spoil_S2 : Spec := ⟨[.row 1, .val .i64], [(.box 122 (.pair (.sl .u8) (.pair .i64 .unit)), .fix 0), (.row 66 (.pair .str (.pair .u64 (.pair .i64 (.pair .i64 (.pair .bool (.pair (.sl .u8) .unit)))))), .pos 0)]⟩
noncomputable def law15_spoil_S3 : Spec := ⟨[.row 1, .val .i64, .val .bool], [(.box 122 (.pair (.sl .u8) (.pair .i64 .unit)), .fix 0), (.row 66 (.pair .str (.pair .u64 (.pair .i64 (.pair .i64 (.pair .bool (.pair (.sl .u8) .unit)))))), .pos 0)]⟩
noncomputable def law15_spoil_S4 : Spec := ⟨[.row 1, .val .i64, .val .i64], [(.box 122 (.pair (.sl .u8) (.pair .i64 .unit)), .fix 0), (.row 66 (.pair .str (.pair .u64 (.pair .i64 (.pair .i64 (.pair .bool (.pair (.sl .u8) .unit)))))), .pos 0)]⟩
noncomputable def law15_spoil_S5 : Spec := ⟨[.ref 0 (.pair (.sl .u8) (.pair .i64 .unit)), .row 1, .val .i64, .val .i64, .val .bool], [(.box 122 (.pair (.sl .u8) (.pair .i64 .unit)), .fix 0), (.row 66 (.pair .str (.pair .u64 (.pair .i64 (.pair .i64 (.pair .bool (.pair (.sl .u8) .unit)))))), .pos 1)]⟩
noncomputable def law15_spoil_S6 : Spec := ⟨[.ref 0 (.pair (.sl .u8) (.pair .i64 .unit)), .row 1, .val .i64, .val .i64], [(.box 122 (.pair (.sl .u8) (.pair .i64 .unit)), .fix 0), (.row 66 (.pair .str (.pair .u64 (.pair .i64 (.pair .i64 (.pair .bool (.pair (.sl .u8) .unit)))))), .pos 1)]⟩
noncomputable def law15_spoil_S7 : Spec := ⟨[.ref 0 (.pair (.sl .u8) (.pair .i64 .unit)), .val (.sl (.pair .str (.pair .u64 (.pair .i64 (.pair .i64 (.pair .bool (.pair (.sl .u8) .unit)))))))], [(.box 122 (.pair (.sl .u8) (.pair .i64 .unit)), .pos 0)]⟩
noncomputable def law15_spoil_K (_N : Nat) : XE → GS → Option law15_spoil_R := retK 1 [4] [false] law15_spoil_S0
noncomputable def law15_spoil_L : List Code := (bodyOf (some Tryd.f43))
noncomputable def law15_spoil_L2b : List Code := (blockOf (law15_spoil_L[6]?))
noncomputable def law15_spoil_L5t : List Code := (thenOf (law15_spoil_L2b[1]?))
noncomputable def law15_spoil_L5e : List Code := (elseOf (law15_spoil_L2b[1]?))
noncomputable def law15_spoil_L10t : List Code := (thenOf (law15_spoil_L5e[1]?))
noncomputable def law15_spoil_L10e : List Code := (elseOf (law15_spoil_L5e[1]?))
noncomputable def law15_spoil_L14t : List Code := (thenOf (law15_spoil_L10e[1]?))
noncomputable def law15_spoil_L14e : List Code := (elseOf (law15_spoil_L10e[1]?))
noncomputable def law15_spoil_L18t : List Code := (thenOf (law15_spoil_L14e[1]?))
noncomputable def law15_spoil_L18e : List Code := (elseOf (law15_spoil_L14e[1]?))
noncomputable def law15_spoil_L22t : List Code := (thenOf (law15_spoil_L18e[1]?))
noncomputable def law15_spoil_L22e : List Code := (elseOf (law15_spoil_L18e[1]?))
noncomputable def law15_spoil_L26t : List Code := (thenOf (law15_spoil_L22e[1]?))
noncomputable def law15_spoil_L26e : List Code := (elseOf (law15_spoil_L22e[1]?))
noncomputable def law15_spoil_L30t : List Code := (thenOf (law15_spoil_L26e[1]?))
noncomputable def law15_spoil_L30e : List Code := (elseOf (law15_spoil_L26e[1]?))
noncomputable def law15_spoil_L33 : List Code := (loopOf (law15_spoil_L30e[0]?))
noncomputable def law15_spoil_K2 (N : Nat) : XE → GS → Option law15_spoil_R := blockK 0 (goK 1 [1] law15_spoil_S0 (fun y => law15_spoil_7 N y.2.1 y.2.2.1)) (law15_spoil_K N)
noncomputable def law15_spoil_K5 (N : Nat) : XE → GS → Option law15_spoil_R := nextK (law15_spoil_K2 N .normal) (law15_spoil_K2 N)
noncomputable def law15_spoil_K10 (N : Nat) : XE → GS → Option law15_spoil_R := nextK (law15_spoil_K5 N .normal) (law15_spoil_K5 N)
noncomputable def law15_spoil_K14 (N : Nat) : XE → GS → Option law15_spoil_R := nextK (law15_spoil_K10 N .normal) (law15_spoil_K10 N)
noncomputable def law15_spoil_K18 (N : Nat) : XE → GS → Option law15_spoil_R := nextK (law15_spoil_K14 N .normal) (law15_spoil_K14 N)
noncomputable def law15_spoil_K22 (N : Nat) : XE → GS → Option law15_spoil_R := nextK (law15_spoil_K18 N .normal) (law15_spoil_K18 N)
noncomputable def law15_spoil_K26 (N : Nat) : XE → GS → Option law15_spoil_R := nextK (law15_spoil_K22 N .normal) (law15_spoil_K22 N)
noncomputable def law15_spoil_K30 (N : Nat) : XE → GS → Option law15_spoil_R := nextK (law15_spoil_K26 N .normal) (law15_spoil_K26 N)
noncomputable def law15_spoil_K33 (N : Nat) : XE → GS → Option (Lo ((Int × Unit) × (((List UInt8) × (Int × Unit)) × (List ((List UInt8) × (UInt64 × (Int × (Int × (Bool × ((List UInt8) × Unit))))))) × Unit)) ((Unit) × (((List UInt8) × (Int × Unit)) × (List ((List UInt8) × (UInt64 × (Int × (Int × (Bool × ((List UInt8) × Unit))))))) × Unit)) law15_spoil_R) := roundK (some 1) (fit 1 [1, 5] law15_spoil_S2) (fit 1 [1] law15_spoil_S0) (law15_spoil_K30 N)
theorem law15_spoil_7_b {E : Env} (N : Nat) (hb : Base Tryd.prog (law15_spoil_C N) E 1) : Blk Tryd.prog (law15_spoil_C N) E [1] law15_spoil_S0 (law15_spoil_L.drop 7) (fun y => law15_spoil_7 N y.2.1 y.2.2.1) (law15_spoil_K N) :=
  Blk.chunkAt hb 2 (X := (law15_spoil_K N .normal)) (NxOk.end (by kernel_rfl)) rfl (fun x => by kernel_rfl)
theorem law15_spoil_6_b {E : Env} (N : Nat) (hb : Base Tryd.prog (law15_spoil_C N) E 1) : Blk Tryd.prog (law15_spoil_C N) E [0, 1, 5] law15_spoil_S1 (law15_spoil_L5t.drop 0) (fun y => law15_spoil_6 N y.1.1 y.2.1 y.2.2.1) (law15_spoil_K5 N) :=
  Blk.chunkAt hb 1 (X := (law15_spoil_K5 N .normal)) (NxOk.end (by kernel_rfl)) rfl (fun x => by kernel_rfl)
theorem law15_spoil_11_b {E : Env} (N : Nat) (hb : Base Tryd.prog (law15_spoil_C N) E 1) : Blk Tryd.prog (law15_spoil_C N) E [0, 1, 5] law15_spoil_S1 (law15_spoil_L10t.drop 0) (fun y => law15_spoil_11 N y.1.1 y.2.1 y.2.2.1) (law15_spoil_K10 N) :=
  Blk.chunkAt hb 1 (X := (law15_spoil_K10 N .normal)) (NxOk.end (by kernel_rfl)) rfl (fun x => by kernel_rfl)
theorem law15_spoil_15_b {E : Env} (N : Nat) (hb : Base Tryd.prog (law15_spoil_C N) E 1) : Blk Tryd.prog (law15_spoil_C N) E [0, 1, 5] law15_spoil_S1 (law15_spoil_L14t.drop 0) (fun y => law15_spoil_15 N y.1.1 y.2.1 y.2.2.1) (law15_spoil_K14 N) :=
  Blk.chunkAt hb 1 (X := (law15_spoil_K14 N .normal)) (NxOk.end (by kernel_rfl)) rfl (fun x => by kernel_rfl)
theorem law15_spoil_19_b {E : Env} (N : Nat) (hb : Base Tryd.prog (law15_spoil_C N) E 1) : Blk Tryd.prog (law15_spoil_C N) E [0, 1, 5] law15_spoil_S1 (law15_spoil_L18t.drop 0) (fun y => law15_spoil_19 N y.1.1 y.2.1 y.2.2.1) (law15_spoil_K18 N) :=
  Blk.chunkAt hb 1 (X := (law15_spoil_K18 N .normal)) (NxOk.end (by kernel_rfl)) rfl (fun x => by kernel_rfl)
theorem law15_spoil_23_b {E : Env} (N : Nat) (hb : Base Tryd.prog (law15_spoil_C N) E 1) : Blk Tryd.prog (law15_spoil_C N) E [1, 5] law15_spoil_S2 (law15_spoil_L22t.drop 0) (fun y => law15_spoil_23 N y.1.1 y.2.1 y.2.2.1) (law15_spoil_K22 N) :=
  Blk.chunkAt hb 1 (X := (law15_spoil_K22 N .normal)) (NxOk.end (by kernel_rfl)) rfl (fun x => by kernel_rfl)
theorem law15_spoil_27_b {E : Env} (N : Nat) (hb : Base Tryd.prog (law15_spoil_C N) E 1) : Blk Tryd.prog (law15_spoil_C N) E [0, 1, 5] law15_spoil_S1 (law15_spoil_L26t.drop 0) (fun y => law15_spoil_27 N y.1.1 y.2.1 y.2.2.1) (law15_spoil_K26 N) :=
  Blk.chunkAt hb 1 (X := (law15_spoil_K26 N .normal)) (NxOk.end (by kernel_rfl)) rfl (fun x => by kernel_rfl)
theorem law15_spoil_31_b {E : Env} (N : Nat) (hb : Base Tryd.prog (law15_spoil_C N) E 1) : Blk Tryd.prog (law15_spoil_C N) E [1, 5] law15_spoil_S2 (law15_spoil_L30t.drop 0) (fun y => law15_spoil_31 N y.1.1 y.2.1 y.2.2.1) (law15_spoil_K30 N) :=
  Blk.chunkAt hb 1 (X := (law15_spoil_K30 N .normal)) (NxOk.end (by kernel_rfl)) rfl (fun x => by kernel_rfl)
theorem law15_spoil_s33_b {E : Env} (N : Nat) (hb : Base Tryd.prog (law15_spoil_C N) E 1) : Blk Tryd.prog (law15_spoil_C N) E [1, 5] law15_spoil_S2 (law15_spoil_L33.drop 0) (fun y => law15_spoil_s33 N y.1.1 y.2.1 y.2.2.1) (law15_spoil_K33 N) :=
  Blk.chunkAt hb 3 (X := (law15_spoil_K33 N .normal)) (NxOk.end (by kernel_rfl)) rfl (fun x => by kernel_rfl)
theorem law15_spoil_32_b {E : Env} (N : Nat) (hb : Base Tryd.prog (law15_spoil_C N) E 1) : Blk Tryd.prog (law15_spoil_C N) E [1, 5] law15_spoil_S2 (law15_spoil_L30e.drop 0) (fun y => law15_spoil_32 N y.1.1 y.2.1 y.2.2.1) (law15_spoil_K30 N) :=
  Blk.loopAt (Nf := N) (hns := [1, 5]) (ans := [1]) (hc := law15_spoil_S2) (ac := law15_spoil_S0) (bid := 1) (step := (fun y => law15_spoil_s33 N y.1.1 y.2.1 y.2.2.1)) (J := (fun e => (law15_spoil_K30 N .normal) (law15_spoil_S0.st [1] e))) hb (by kernel_rfl) (Blk.into (X := (law15_spoil_K30 N .normal)) (NxOk.end (by kernel_rfl)) (fun x => by kernel_rfl)) (law15_spoil_s33_b N hb) (fun x => by kernel_rfl)
theorem law15_spoil_29_b {E : Env} (N : Nat) (hb : Base Tryd.prog (law15_spoil_C N) E 1) : Blk Tryd.prog (law15_spoil_C N) E [1, 5, 88] law15_spoil_S3 (law15_spoil_L26e.drop 1) (fun y => law15_spoil_29 N y.1.1 y.1.2.1 y.2.1 y.2.2.1) (law15_spoil_K26 N) :=
  Blk.condAt (n := 88) (X := (law15_spoil_K26 N .normal)) (A := (goK 1 [1, 5] law15_spoil_S2 (fun y => law15_spoil_31 N y.1.1 y.2.1 y.2.2.1))) (B := (goK 1 [1, 5] law15_spoil_S2 (fun y => law15_spoil_32 N y.1.1 y.2.1 y.2.2.1))) (by kernel_rfl) (NxOk.end (by kernel_rfl)) (NxOk.go hb (law15_spoil_31_b N hb)) (NxOk.go hb (law15_spoil_32_b N hb)) (fun x => by kernel_rfl)
theorem law15_spoil_28_b {E : Env} (N : Nat) (hb : Base Tryd.prog (law15_spoil_C N) E 1) : Blk Tryd.prog (law15_spoil_C N) E [1, 5, 17] law15_spoil_S4 (law15_spoil_L26e.drop 0) (fun y => law15_spoil_28 N y.1.1 y.1.2.1 y.2.1 y.2.2.1) (law15_spoil_K26 N) :=
  Blk.chunkAt hb 1 (X := (goK 1 [1, 5, 88] law15_spoil_S3 (fun y => law15_spoil_29 N y.1.1 y.1.2.1 y.2.1 y.2.2.1))) (NxOk.go hb (law15_spoil_29_b N hb)) rfl (fun x => by kernel_rfl)
theorem law15_spoil_25_b {E : Env} (N : Nat) (hb : Base Tryd.prog (law15_spoil_C N) E 1) : Blk Tryd.prog (law15_spoil_C N) E [0, 1, 5, 17, 75] law15_spoil_S5 (law15_spoil_L22e.drop 1) (fun y => law15_spoil_25 N y.1.1 y.1.2.1 y.1.2.2.1 y.2.1 y.2.2.1) (law15_spoil_K22 N) :=
  Blk.condAt (n := 75) (X := (law15_spoil_K22 N .normal)) (A := (goK 1 [0, 1, 5] law15_spoil_S1 (fun y => law15_spoil_27 N y.1.1 y.2.1 y.2.2.1))) (B := (goK 1 [1, 5, 17] law15_spoil_S4 (fun y => law15_spoil_28 N y.1.1 y.1.2.1 y.2.1 y.2.2.1))) (by kernel_rfl) (NxOk.end (by kernel_rfl)) (NxOk.go hb (law15_spoil_27_b N hb)) (NxOk.go hb (law15_spoil_28_b N hb)) (fun x => by kernel_rfl)
theorem law15_spoil_24_b {E : Env} (N : Nat) (hb : Base Tryd.prog (law15_spoil_C N) E 1) : Blk Tryd.prog (law15_spoil_C N) E [0, 1, 5, 17] law15_spoil_S6 (law15_spoil_L22e.drop 0) (fun y => law15_spoil_24 N y.1.1 y.1.2.1 y.2.1 y.2.2.1) (law15_spoil_K22 N) :=
  Blk.chunkAt hb 1 (X := (goK 1 [0, 1, 5, 17, 75] law15_spoil_S5 (fun y => law15_spoil_25 N y.1.1 y.1.2.1 y.1.2.2.1 y.2.1 y.2.2.1))) (NxOk.go hb (law15_spoil_25_b N hb)) rfl (fun x => by kernel_rfl)
theorem law15_spoil_21_b {E : Env} (N : Nat) (hb : Base Tryd.prog (law15_spoil_C N) E 1) : Blk Tryd.prog (law15_spoil_C N) E [0, 1, 5, 17, 63] law15_spoil_S5 (law15_spoil_L18e.drop 1) (fun y => law15_spoil_21 N y.1.1 y.1.2.1 y.1.2.2.1 y.2.1 y.2.2.1) (law15_spoil_K18 N) :=
  Blk.condAt (n := 63) (X := (law15_spoil_K18 N .normal)) (A := (goK 1 [1, 5] law15_spoil_S2 (fun y => law15_spoil_23 N y.1.1 y.2.1 y.2.2.1))) (B := (goK 1 [0, 1, 5, 17] law15_spoil_S6 (fun y => law15_spoil_24 N y.1.1 y.1.2.1 y.2.1 y.2.2.1))) (by kernel_rfl) (NxOk.end (by kernel_rfl)) (NxOk.go hb (law15_spoil_23_b N hb)) (NxOk.go hb (law15_spoil_24_b N hb)) (fun x => by kernel_rfl)
theorem law15_spoil_20_b {E : Env} (N : Nat) (hb : Base Tryd.prog (law15_spoil_C N) E 1) : Blk Tryd.prog (law15_spoil_C N) E [0, 1, 5, 17] law15_spoil_S6 (law15_spoil_L18e.drop 0) (fun y => law15_spoil_20 N y.1.1 y.1.2.1 y.2.1 y.2.2.1) (law15_spoil_K18 N) :=
  Blk.chunkAt hb 1 (X := (goK 1 [0, 1, 5, 17, 63] law15_spoil_S5 (fun y => law15_spoil_21 N y.1.1 y.1.2.1 y.1.2.2.1 y.2.1 y.2.2.1))) (NxOk.go hb (law15_spoil_21_b N hb)) rfl (fun x => by kernel_rfl)
theorem law15_spoil_17_b {E : Env} (N : Nat) (hb : Base Tryd.prog (law15_spoil_C N) E 1) : Blk Tryd.prog (law15_spoil_C N) E [0, 1, 5, 17, 55] law15_spoil_S5 (law15_spoil_L14e.drop 1) (fun y => law15_spoil_17 N y.1.1 y.1.2.1 y.1.2.2.1 y.2.1 y.2.2.1) (law15_spoil_K14 N) :=
  Blk.condAt (n := 55) (X := (law15_spoil_K14 N .normal)) (A := (goK 1 [0, 1, 5] law15_spoil_S1 (fun y => law15_spoil_19 N y.1.1 y.2.1 y.2.2.1))) (B := (goK 1 [0, 1, 5, 17] law15_spoil_S6 (fun y => law15_spoil_20 N y.1.1 y.1.2.1 y.2.1 y.2.2.1))) (by kernel_rfl) (NxOk.end (by kernel_rfl)) (NxOk.go hb (law15_spoil_19_b N hb)) (NxOk.go hb (law15_spoil_20_b N hb)) (fun x => by kernel_rfl)
theorem law15_spoil_16_b {E : Env} (N : Nat) (hb : Base Tryd.prog (law15_spoil_C N) E 1) : Blk Tryd.prog (law15_spoil_C N) E [0, 1, 5, 17] law15_spoil_S6 (law15_spoil_L14e.drop 0) (fun y => law15_spoil_16 N y.1.1 y.1.2.1 y.2.1 y.2.2.1) (law15_spoil_K14 N) :=
  Blk.chunkAt hb 1 (X := (goK 1 [0, 1, 5, 17, 55] law15_spoil_S5 (fun y => law15_spoil_17 N y.1.1 y.1.2.1 y.1.2.2.1 y.2.1 y.2.2.1))) (NxOk.go hb (law15_spoil_17_b N hb)) rfl (fun x => by kernel_rfl)
theorem law15_spoil_13_b {E : Env} (N : Nat) (hb : Base Tryd.prog (law15_spoil_C N) E 1) : Blk Tryd.prog (law15_spoil_C N) E [0, 1, 5, 17, 47] law15_spoil_S5 (law15_spoil_L10e.drop 1) (fun y => law15_spoil_13 N y.1.1 y.1.2.1 y.1.2.2.1 y.2.1 y.2.2.1) (law15_spoil_K10 N) :=
  Blk.condAt (n := 47) (X := (law15_spoil_K10 N .normal)) (A := (goK 1 [0, 1, 5] law15_spoil_S1 (fun y => law15_spoil_15 N y.1.1 y.2.1 y.2.2.1))) (B := (goK 1 [0, 1, 5, 17] law15_spoil_S6 (fun y => law15_spoil_16 N y.1.1 y.1.2.1 y.2.1 y.2.2.1))) (by kernel_rfl) (NxOk.end (by kernel_rfl)) (NxOk.go hb (law15_spoil_15_b N hb)) (NxOk.go hb (law15_spoil_16_b N hb)) (fun x => by kernel_rfl)
theorem law15_spoil_12_b {E : Env} (N : Nat) (hb : Base Tryd.prog (law15_spoil_C N) E 1) : Blk Tryd.prog (law15_spoil_C N) E [0, 1, 5, 17] law15_spoil_S6 (law15_spoil_L10e.drop 0) (fun y => law15_spoil_12 N y.1.1 y.1.2.1 y.2.1 y.2.2.1) (law15_spoil_K10 N) :=
  Blk.chunkAt hb 1 (X := (goK 1 [0, 1, 5, 17, 47] law15_spoil_S5 (fun y => law15_spoil_13 N y.1.1 y.1.2.1 y.1.2.2.1 y.2.1 y.2.2.1))) (NxOk.go hb (law15_spoil_13_b N hb)) rfl (fun x => by kernel_rfl)
theorem law15_spoil_9_b {E : Env} (N : Nat) (hb : Base Tryd.prog (law15_spoil_C N) E 1) : Blk Tryd.prog (law15_spoil_C N) E [0, 1, 5, 17, 39] law15_spoil_S5 (law15_spoil_L5e.drop 1) (fun y => law15_spoil_9 N y.1.1 y.1.2.1 y.1.2.2.1 y.2.1 y.2.2.1) (law15_spoil_K5 N) :=
  Blk.condAt (n := 39) (X := (law15_spoil_K5 N .normal)) (A := (goK 1 [0, 1, 5] law15_spoil_S1 (fun y => law15_spoil_11 N y.1.1 y.2.1 y.2.2.1))) (B := (goK 1 [0, 1, 5, 17] law15_spoil_S6 (fun y => law15_spoil_12 N y.1.1 y.1.2.1 y.2.1 y.2.2.1))) (by kernel_rfl) (NxOk.end (by kernel_rfl)) (NxOk.go hb (law15_spoil_11_b N hb)) (NxOk.go hb (law15_spoil_12_b N hb)) (fun x => by kernel_rfl)
theorem law15_spoil_8_b {E : Env} (N : Nat) (hb : Base Tryd.prog (law15_spoil_C N) E 1) : Blk Tryd.prog (law15_spoil_C N) E [0, 1, 5, 17] law15_spoil_S6 (law15_spoil_L5e.drop 0) (fun y => law15_spoil_8 N y.1.1 y.1.2.1 y.2.1 y.2.2.1) (law15_spoil_K5 N) :=
  Blk.chunkAt hb 1 (X := (goK 1 [0, 1, 5, 17, 39] law15_spoil_S5 (fun y => law15_spoil_9 N y.1.1 y.1.2.1 y.1.2.2.1 y.2.1 y.2.2.1))) (NxOk.go hb (law15_spoil_9_b N hb)) rfl (fun x => by kernel_rfl)
theorem law15_spoil_4_b {E : Env} (N : Nat) (hb : Base Tryd.prog (law15_spoil_C N) E 1) : Blk Tryd.prog (law15_spoil_C N) E [0, 1, 5, 17, 28] law15_spoil_S5 (law15_spoil_L2b.drop 1) (fun y => law15_spoil_4 N y.1.1 y.1.2.1 y.1.2.2.1 y.2.1 y.2.2.1) (law15_spoil_K2 N) :=
  Blk.condAt (n := 28) (X := (law15_spoil_K2 N .normal)) (A := (goK 1 [0, 1, 5] law15_spoil_S1 (fun y => law15_spoil_6 N y.1.1 y.2.1 y.2.2.1))) (B := (goK 1 [0, 1, 5, 17] law15_spoil_S6 (fun y => law15_spoil_8 N y.1.1 y.1.2.1 y.2.1 y.2.2.1))) (by kernel_rfl) (NxOk.end (by kernel_rfl)) (NxOk.go hb (law15_spoil_6_b N hb)) (NxOk.go hb (law15_spoil_8_b N hb)) (fun x => by kernel_rfl)
theorem law15_spoil_3_b {E : Env} (N : Nat) (hb : Base Tryd.prog (law15_spoil_C N) E 1) : Blk Tryd.prog (law15_spoil_C N) E [0, 1, 5, 17] law15_spoil_S6 (law15_spoil_L2b.drop 0) (fun y => law15_spoil_3 N y.1.1 y.1.2.1 y.2.1 y.2.2.1) (law15_spoil_K2 N) :=
  Blk.chunkAt hb 1 (X := (goK 1 [0, 1, 5, 17, 28] law15_spoil_S5 (fun y => law15_spoil_4 N y.1.1 y.1.2.1 y.1.2.2.1 y.2.1 y.2.2.1))) (NxOk.go hb (law15_spoil_4_b N hb)) rfl (fun x => by kernel_rfl)
theorem law15_spoil_1_b {E : Env} (N : Nat) (hb : Base Tryd.prog (law15_spoil_C N) E 1) : Blk Tryd.prog (law15_spoil_C N) E [0, 1, 5, 17] law15_spoil_S6 (law15_spoil_L.drop 6) (fun y => law15_spoil_1 N y.1.1 y.1.2.1 y.2.1 y.2.2.1) (law15_spoil_K N) :=
  Blk.blockAt (bid := 0) (X := (goK 1 [1] law15_spoil_S0 (fun y => law15_spoil_7 N y.2.1 y.2.2.1))) (Y := (goK 1 [0, 1, 5, 17] law15_spoil_S6 (fun y => law15_spoil_3 N y.1.1 y.1.2.1 y.2.1 y.2.2.1))) (by kernel_rfl) (NxOk.go hb (law15_spoil_7_b N hb)) (NxOk.go hb (law15_spoil_3_b N hb)) (fun x => by kernel_rfl)
theorem law15_spoil_b {E : Env} (N : Nat) (hb : Base Tryd.prog (law15_spoil_C N) E 1) : Blk Tryd.prog (law15_spoil_C N) E (List.range law15_spoil_S7.ks.length) law15_spoil_S7 (law15_spoil_L.drop 0) (fun y => law15_spoil N y.1.1 y.2.1) (law15_spoil_K N) :=
  Blk.chunkAt hb 6 (X := (goK 1 [0, 1, 5, 17] law15_spoil_S6 (fun y => law15_spoil_1 N y.1.1 y.1.2.1 y.2.1 y.2.2.1))) (NxOk.go hb (law15_spoil_1_b N hb)) rfl (fun x => by kernel_rfl)
noncomputable def law15_spoil_ctr (N : Nat) : Ctr := ⟨law15_spoil_S7, law15_spoil_S0.un [false], 1, (fun y => law15_spoil N y.1.1 y.2.1)⟩
theorem law15_spoil_ctrs (N : Nat) : CtrsOk Tryd.prog (law15_spoil_C N) := ctrs_of (Γ := law15_spoil_C N) (by
  intro p hp
  simp only [law15_spoil_C, List.mem_cons, List.not_mem_nil, or_false] at hp
  rcases hp with rfl | rfl | rfl | rfl
  · exact make_Codes_Next_ok N
  · exact make_Codes_Word_ok N
  · exact make_Codes_Int_ok N
  · exact make_Codes_Change_ok N)
theorem law15_spoil_ok (N : Nat) : Ctr.ok Tryd.prog G_globs 43 (law15_spoil_ctr N) :=
  ctr_fn (Γ := law15_spoil_C N) (rfit := law15_spoil_S0) (bs := [false]) (res := [4]) (by kernel_rfl) (tys_ok G_tys_ok) (law15_spoil_ctrs N) Tryd.func43 (by kernel_rfl) (by kernel_rfl) Tryd.ntmps43 (by kernel_rfl) (by kernel_rfl) (by kernel_rfl) (by kernel_rfl) (fun E hb => law15_spoil_b N hb)
end Go.Proofs.YtofajgidjkjnpaaDoor
namespace Go.Proofs.YtofajgidjkjnpaaDoor
open Go
set_option maxRecDepth 100000
set_option linter.unusedVariables false
/-! ipsecgate/ipsecgateref15.Verify -/
abbrev ref15_Verify_R : Type := ((Int × Unit) × (Unit))
noncomputable def ref15_Verify_1 (N : Nat) (public_0 : UInt64) (message_1 : (List UInt8)) (e_7 : UInt64) (s_8 : UInt64) (t_26 : Bool) : Option ref15_Verify_R :=
  bif t_26 then
    some (((5 : Int), ()), (()))
  else
    Option.bind (ref13_Power N (4 : UInt64) s_8) fun y9 =>
    Option.bind (ref13_Power N public_0 ((2305843009213688669 : UInt64) - e_7)) fun y11 =>
    Option.bind (ref13_Mul N y9.1.1 y11.1.1) fun y12 =>
    Option.bind (ref15_challenge N y12.1.1 public_0 message_1) fun y13 =>
    bif (!(decide (y13.1.1 = e_7))) then
      some (((18 : Int), ()), (()))
    else
      some (((0 : Int), ()), (()))
noncomputable def ref15_Verify (N : Nat) (public_0 : UInt64) (message_1 : (List UInt8)) (signature_2 : (List UInt8)) : Option ref15_Verify_R :=
  Option.bind (ref13_Element N public_0) fun y1 =>
  bif (!y1.1.1) then
    some (((13 : Int), ()), (()))
  else
    bif (!(decide ((signature_2.length : Int) = (16 : Int)))) then
      some (((2 : Int), ()), (()))
    else
      Option.bind (ref15_first N signature_2) fun y5 =>
      bif decide (0 ≤ (8 : Int)) && decide ((8 : Int) ≤ (signature_2.length : Int)) && decide ((signature_2.length : Int) ≤ (signature_2.length : Int)) && true then
      Option.bind (ref15_first N (cut signature_2 8 signature_2.length)) fun y7 =>
      bif (decide ((2305843009213688669 : UInt64) ≤ y5.1.1)) then
        ref15_Verify_1 N public_0 message_1 y5.1.1 y7.1.1 true
      else
        ref15_Verify_1 N public_0 message_1 y5.1.1 y7.1.1 (decide ((2305843009213688669 : UInt64) ≤ y7.1.1))
      else none
noncomputable def ref15_Verify_C (N : Nat) : Ctx := ⟨40, G_tys, [(98, ref13_Element_ctr N), (83, ref15_first_ctr N), (82, ref13_Power_ctr N), (99, ref13_Mul_ctr N), (86, ref15_challenge_ctr N)], G_globs⟩
noncomputable def ref15_Verify_S0 : Spec := ⟨[.val .u64, .val (.sl .u8), .val .u64, .val .u64, .val .bool], []⟩
noncomputable def ref15_Verify_S1 : Spec := ⟨[.val .u64, .val (.sl .u8), .val (.sl .u8)], []⟩
noncomputable def ref15_Verify_S2 : Spec := ⟨[.val .i64], []⟩
noncomputable def ref15_Verify_K (_N : Nat) : XE → GS → Option ref15_Verify_R := retK 0 [6] [false] ref15_Verify_S2
noncomputable def ref15_Verify_L : List Code := (bodyOf (some Tryd.f24))
theorem ref15_Verify_1_b {E : Env} (N : Nat) (hb : Base Tryd.prog (ref15_Verify_C N) E 0) : Blk Tryd.prog (ref15_Verify_C N) E [0, 1, 7, 8, 26] ref15_Verify_S0 (ref15_Verify_L.drop 8) (fun y => ref15_Verify_1 N y.1.1 y.1.2.1 y.1.2.2.1 y.1.2.2.2.1 y.1.2.2.2.2.1) (ref15_Verify_K N) :=
  Blk.chunkAt hb 6 (X := (ref15_Verify_K N .normal)) (NxOk.end (by kernel_rfl)) rfl (fun x => by kernel_rfl)
theorem ref15_Verify_b {E : Env} (N : Nat) (hb : Base Tryd.prog (ref15_Verify_C N) E 0) : Blk Tryd.prog (ref15_Verify_C N) E (List.range ref15_Verify_S1.ks.length) ref15_Verify_S1 (ref15_Verify_L.drop 0) (fun y => ref15_Verify N y.1.1 y.1.2.1 y.1.2.2.1) (ref15_Verify_K N) :=
  Blk.chunkAt hb 8 (X := (goK 0 [0, 1, 7, 8, 26] ref15_Verify_S0 (fun y => ref15_Verify_1 N y.1.1 y.1.2.1 y.1.2.2.1 y.1.2.2.2.1 y.1.2.2.2.2.1))) (NxOk.go hb (ref15_Verify_1_b N hb)) rfl (fun x => by kernel_rfl)
noncomputable def ref15_Verify_ctr (N : Nat) : Ctr := ⟨ref15_Verify_S1, ref15_Verify_S2.un [false], 0, (fun y => ref15_Verify N y.1.1 y.1.2.1 y.1.2.2.1)⟩
theorem ref15_Verify_ctrs (N : Nat) : CtrsOk Tryd.prog (ref15_Verify_C N) := ctrs_of (Γ := ref15_Verify_C N) (by
  intro p hp
  simp only [ref15_Verify_C, List.mem_cons, List.not_mem_nil, or_false] at hp
  rcases hp with rfl | rfl | rfl | rfl | rfl
  · exact ref13_Element_ok N
  · exact ref15_first_ok N
  · exact ref13_Power_ok N
  · exact ref13_Mul_ok N
  · exact ref15_challenge_ok N)
theorem ref15_Verify_ok (N : Nat) : Ctr.ok Tryd.prog G_globs 24 (ref15_Verify_ctr N) :=
  ctr_fn (Γ := ref15_Verify_C N) (rfit := ref15_Verify_S2) (bs := [false]) (res := [6]) (by kernel_rfl) (tys_ok G_tys_ok) (ref15_Verify_ctrs N) Tryd.func24 (by kernel_rfl) (by kernel_rfl) Tryd.ntmps24 (by kernel_rfl) (by kernel_rfl) (by kernel_rfl) (by kernel_rfl) (fun E hb => ref15_Verify_b N hb)
end Go.Proofs.YtofajgidjkjnpaaDoor
namespace Go.Proofs.YtofajgidjkjnpaaDoor
open Go
set_option maxRecDepth 100000
set_option linter.unusedVariables false
/-! ipsecgate/ipsecgateref15.Chain -/
abbrev ref15_Chain_R : Type := (((List UInt8) × UInt64 × Int × Unit) × (Unit))
noncomputable def ref15_Chain_s2 (N : Nat) (l_0 : (List ((List UInt8) × (UInt64 × (Int × (Int × (Bool × ((List UInt8) × Unit)))))))) (anchor_1 : UInt64) (now_2 : Int) (i_9 : Int) : Option (Lo (((List ((List UInt8) × (UInt64 × (Int × (Int × (Bool × ((List UInt8) × Unit))))))) × UInt64 × Int × Int × Unit) × (Unit)) (((List ((List UInt8) × (UInt64 × (Int × (Int × (Bool × ((List UInt8) × Unit))))))) × Unit) × (Unit)) ref15_Chain_R) :=
  bif (decide (i_9 < (l_0.length : Int))) then
    bif inR i_9 l_0.length then
    Option.bind (ref15_Body N (l_0.getD i_9.toNat (([] : List UInt8), (0 : UInt64), (0 : Int), (0 : Int), false, ([] : List UInt8), ()))) fun y8 =>
    bif (!(decide (y8.1.1 = (0 : Int)))) then
      some (.rt ((([] : List UInt8), (0 : UInt64), y8.1.1, ()), (())))
    else
      bif (decide ((0 : Int) < i_9)) then
        bif inR i_9 l_0.length then
        bif (!(l_0.getD i_9.toNat (([] : List UInt8), (0 : UInt64), (0 : Int), (0 : Int), false, ([] : List UInt8), ())).2.2.2.2.1) then
          some (.rt ((([] : List UInt8), (0 : UInt64), (24 : Int), ()), (())))
        else
          bif inR i_9 l_0.length then
          bif (decide (now_2 < (l_0.getD i_9.toNat (([] : List UInt8), (0 : UInt64), (0 : Int), (0 : Int), false, ([] : List UInt8), ())).2.2.1)) then
            some (.rt ((([] : List UInt8), (0 : UInt64), (19 : Int), ()), (())))
          else
            bif inR i_9 l_0.length then
            bif (decide ((l_0.getD i_9.toNat (([] : List UInt8), (0 : UInt64), (0 : Int), (0 : Int), false, ([] : List UInt8), ())).2.2.2.1 < now_2)) then
              some (.rt ((([] : List UInt8), (0 : UInt64), (19 : Int), ()), (())))
            else
              bif (decide ((w64 (i_9 + (1 : Int))) < (l_0.length : Int))) then
                let x20 := w64 (i_9 + (1 : Int))
                bif inR x20 l_0.length then
                bif inR i_9 l_0.length then
                Option.bind (ref15_Verify N (l_0.getD x20.toNat (([] : List UInt8), (0 : UInt64), (0 : Int), (0 : Int), false, ([] : List UInt8), ())).2.1 y8.2.1 (l_0.getD i_9.toNat (([] : List UInt8), (0 : UInt64), (0 : Int), (0 : Int), false, ([] : List UInt8), ())).2.2.2.2.2.1) fun y23 =>
                bif (!(decide (y23.1.1 = (0 : Int)))) then
                  some (.rt ((([] : List UInt8), (0 : UInt64), y23.1.1, ()), (())))
                else
                  some (.go ((l_0, anchor_1, now_2, (w64 (i_9 + (1 : Int))), ()), (())))
                else none
                else none
              else
                bif inR i_9 l_0.length then
                Option.bind (ref15_Verify N anchor_1 y8.2.1 (l_0.getD i_9.toNat (([] : List UInt8), (0 : UInt64), (0 : Int), (0 : Int), false, ([] : List UInt8), ())).2.2.2.2.2.1) fun y27 =>
                bif (!(decide (y27.1.1 = (0 : Int)))) then
                  some (.rt ((([] : List UInt8), (0 : UInt64), y27.1.1, ()), (())))
                else
                  some (.go ((l_0, anchor_1, now_2, (w64 (i_9 + (1 : Int))), ()), (())))
                else none
            else none
          else none
        else none
      else
        bif inR i_9 l_0.length then
        bif (decide (now_2 < (l_0.getD i_9.toNat (([] : List UInt8), (0 : UInt64), (0 : Int), (0 : Int), false, ([] : List UInt8), ())).2.2.1)) then
          some (.rt ((([] : List UInt8), (0 : UInt64), (19 : Int), ()), (())))
        else
          bif inR i_9 l_0.length then
          bif (decide ((l_0.getD i_9.toNat (([] : List UInt8), (0 : UInt64), (0 : Int), (0 : Int), false, ([] : List UInt8), ())).2.2.2.1 < now_2)) then
            some (.rt ((([] : List UInt8), (0 : UInt64), (19 : Int), ()), (())))
          else
            bif (decide ((w64 (i_9 + (1 : Int))) < (l_0.length : Int))) then
              let x37 := w64 (i_9 + (1 : Int))
              bif inR x37 l_0.length then
              bif inR i_9 l_0.length then
              Option.bind (ref15_Verify N (l_0.getD x37.toNat (([] : List UInt8), (0 : UInt64), (0 : Int), (0 : Int), false, ([] : List UInt8), ())).2.1 y8.2.1 (l_0.getD i_9.toNat (([] : List UInt8), (0 : UInt64), (0 : Int), (0 : Int), false, ([] : List UInt8), ())).2.2.2.2.2.1) fun y40 =>
              bif (!(decide (y40.1.1 = (0 : Int)))) then
                some (.rt ((([] : List UInt8), (0 : UInt64), y40.1.1, ()), (())))
              else
                some (.go ((l_0, anchor_1, now_2, (w64 (i_9 + (1 : Int))), ()), (())))
              else none
              else none
            else
              bif inR i_9 l_0.length then
              Option.bind (ref15_Verify N anchor_1 y8.2.1 (l_0.getD i_9.toNat (([] : List UInt8), (0 : UInt64), (0 : Int), (0 : Int), false, ([] : List UInt8), ())).2.2.2.2.2.1) fun y44 =>
              bif (!(decide (y44.1.1 = (0 : Int)))) then
                some (.rt ((([] : List UInt8), (0 : UInt64), y44.1.1, ()), (())))
              else
                some (.go ((l_0, anchor_1, now_2, (w64 (i_9 + (1 : Int))), ()), (())))
              else none
          else none
        else none
    else none
  else
    some (.br ((l_0, ()), (())))
noncomputable def ref15_Chain_3 (N : Nat) (l_0 : (List ((List UInt8) × (UInt64 × (Int × (Int × (Bool × ((List UInt8) × Unit)))))))) : Option ref15_Chain_R :=
  bif inR (0 : Int) l_0.length then
  bif inR (0 : Int) l_0.length then
  some (((l_0.getD 0 (([] : List UInt8), (0 : UInt64), (0 : Int), (0 : Int), false, ([] : List UInt8), ())).1, (l_0.getD 0 (([] : List UInt8), (0 : UInt64), (0 : Int), (0 : Int), false, ([] : List UInt8), ())).2.1, (0 : Int), ()), (()))
  else none
  else none
noncomputable def ref15_Chain_1 (N : Nat) (l_0 : (List ((List UInt8) × (UInt64 × (Int × (Int × (Bool × ((List UInt8) × Unit)))))))) (anchor_1 : UInt64) (now_2 : Int) (i_9 : Int) : Option ref15_Chain_R :=
  loopK N (fun y => ref15_Chain_s2 N y.1.1 y.1.2.1 y.1.2.2.1 y.1.2.2.2.1) (fun (e : (((List ((List UInt8) × (UInt64 × (Int × (Int × (Bool × ((List UInt8) × Unit))))))) × Unit) × (Unit))) => ref15_Chain_3 N e.1.1) ((l_0, anchor_1, now_2, i_9, ()), (()))
noncomputable def ref15_Chain (N : Nat) (l_0 : (List ((List UInt8) × (UInt64 × (Int × (Int × (Bool × ((List UInt8) × Unit)))))))) (anchor_1 : UInt64) (now_2 : Int) : Option ref15_Chain_R :=
  bif (decide ((l_0.length : Int) = (0 : Int))) then
    some ((([] : List UInt8), (0 : UInt64), (8 : Int), ()), (()))
  else
    bif (decide ((6 : Int) < (l_0.length : Int))) then
      some ((([] : List UInt8), (0 : UInt64), (10 : Int), ()), (()))
    else
      ref15_Chain_1 N l_0 anchor_1 now_2 (0 : Int)
noncomputable def ref15_Chain_C (N : Nat) : Ctx := ⟨94, G_tys, [(51, ref15_Body_ctr N), (24, ref15_Verify_ctr N)], G_globs⟩
noncomputable def ref15_Chain_S0 : Spec := ⟨[.val (.sl (.pair .str (.pair .u64 (.pair .i64 (.pair .i64 (.pair .bool (.pair (.sl .u8) .unit))))))), .val .u64, .val .i64, .val .i64], []⟩
noncomputable def ref15_Chain_S1 : Spec := ⟨[.val (.sl (.pair .str (.pair .u64 (.pair .i64 (.pair .i64 (.pair .bool (.pair (.sl .u8) .unit)))))))], []⟩
noncomputable def ref15_Chain_S2 : Spec := ⟨[.val (.sl (.pair .str (.pair .u64 (.pair .i64 (.pair .i64 (.pair .bool (.pair (.sl .u8) .unit))))))), .val .u64, .val .i64], []⟩
noncomputable def ref15_Chain_S3 : Spec := ⟨[.val .str, .val .u64, .val .i64], []⟩
noncomputable def ref15_Chain_K (_N : Nat) : XE → GS → Option ref15_Chain_R := retK 0 [6, 7, 8] [false, false, false] ref15_Chain_S3
noncomputable def ref15_Chain_L : List Code := (bodyOf (some Tryd.f45))
noncomputable def ref15_Chain_L2 : List Code := (loopOf (ref15_Chain_L[6]?))
noncomputable def ref15_Chain_K2 (N : Nat) : XE → GS → Option (Lo (((List ((List UInt8) × (UInt64 × (Int × (Int × (Bool × ((List UInt8) × Unit))))))) × UInt64 × Int × Int × Unit) × (Unit)) (((List ((List UInt8) × (UInt64 × (Int × (Int × (Bool × ((List UInt8) × Unit))))))) × Unit) × (Unit)) ref15_Chain_R) := roundK (some 0) (fit 0 [0, 1, 2, 9] ref15_Chain_S0) (fit 0 [0] ref15_Chain_S1) (ref15_Chain_K N)
theorem ref15_Chain_s2_b {E : Env} (N : Nat) (hb : Base Tryd.prog (ref15_Chain_C N) E 0) : Blk Tryd.prog (ref15_Chain_C N) E [0, 1, 2, 9] ref15_Chain_S0 (ref15_Chain_L2.drop 0) (fun y => ref15_Chain_s2 N y.1.1 y.1.2.1 y.1.2.2.1 y.1.2.2.2.1) (ref15_Chain_K2 N) :=
  Blk.chunkAt hb 4 (X := (ref15_Chain_K2 N .normal)) (NxOk.end (by kernel_rfl)) rfl (fun x => by kernel_rfl)
theorem ref15_Chain_3_b {E : Env} (N : Nat) (hb : Base Tryd.prog (ref15_Chain_C N) E 0) : Blk Tryd.prog (ref15_Chain_C N) E [0] ref15_Chain_S1 (ref15_Chain_L.drop 7) (fun y => ref15_Chain_3 N y.1.1) (ref15_Chain_K N) :=
  Blk.chunkAt hb 2 (X := (ref15_Chain_K N .normal)) (NxOk.end (by kernel_rfl)) rfl (fun x => by kernel_rfl)
theorem ref15_Chain_1_b {E : Env} (N : Nat) (hb : Base Tryd.prog (ref15_Chain_C N) E 0) : Blk Tryd.prog (ref15_Chain_C N) E [0, 1, 2, 9] ref15_Chain_S0 (ref15_Chain_L.drop 6) (fun y => ref15_Chain_1 N y.1.1 y.1.2.1 y.1.2.2.1 y.1.2.2.2.1) (ref15_Chain_K N) :=
  Blk.loopAt (Nf := N) (hns := [0, 1, 2, 9]) (ans := [0]) (hc := ref15_Chain_S0) (ac := ref15_Chain_S1) (bid := 0) (step := (fun y => ref15_Chain_s2 N y.1.1 y.1.2.1 y.1.2.2.1 y.1.2.2.2.1)) (J := (fun e => (goK 0 [0] ref15_Chain_S1 (fun y => ref15_Chain_3 N y.1.1)) (ref15_Chain_S1.st [0] e))) hb (by kernel_rfl) (Blk.into (X := (goK 0 [0] ref15_Chain_S1 (fun y => ref15_Chain_3 N y.1.1))) (NxOk.go hb (ref15_Chain_3_b N hb)) (fun x => by kernel_rfl)) (ref15_Chain_s2_b N hb) (fun x => by kernel_rfl)
theorem ref15_Chain_b {E : Env} (N : Nat) (hb : Base Tryd.prog (ref15_Chain_C N) E 0) : Blk Tryd.prog (ref15_Chain_C N) E (List.range ref15_Chain_S2.ks.length) ref15_Chain_S2 (ref15_Chain_L.drop 0) (fun y => ref15_Chain N y.1.1 y.1.2.1 y.1.2.2.1) (ref15_Chain_K N) :=
  Blk.chunkAt hb 6 (X := (goK 0 [0, 1, 2, 9] ref15_Chain_S0 (fun y => ref15_Chain_1 N y.1.1 y.1.2.1 y.1.2.2.1 y.1.2.2.2.1))) (NxOk.go hb (ref15_Chain_1_b N hb)) rfl (fun x => by kernel_rfl)
noncomputable def ref15_Chain_ctr (N : Nat) : Ctr := ⟨ref15_Chain_S2, ref15_Chain_S3.un [false, false, false], 0, (fun y => ref15_Chain N y.1.1 y.1.2.1 y.1.2.2.1)⟩
theorem ref15_Chain_ctrs (N : Nat) : CtrsOk Tryd.prog (ref15_Chain_C N) := ctrs_of (Γ := ref15_Chain_C N) (by
  intro p hp
  simp only [ref15_Chain_C, List.mem_cons, List.not_mem_nil, or_false] at hp
  rcases hp with rfl | rfl
  · exact ref15_Body_ok N
  · exact ref15_Verify_ok N)
theorem ref15_Chain_ok (N : Nat) : Ctr.ok Tryd.prog G_globs 45 (ref15_Chain_ctr N) :=
  ctr_fn (Γ := ref15_Chain_C N) (rfit := ref15_Chain_S3) (bs := [false, false, false]) (res := [6, 7, 8]) (by kernel_rfl) (tys_ok G_tys_ok) (ref15_Chain_ctrs N) Tryd.func45 (by kernel_rfl) (by kernel_rfl) Tryd.ntmps45 (by kernel_rfl) (by kernel_rfl) (by kernel_rfl) (by kernel_rfl) (fun E hb => ref15_Chain_b N hb)
end Go.Proofs.YtofajgidjkjnpaaDoor
namespace Go.Proofs.YtofajgidjkjnpaaDoor
open Go
set_option maxRecDepth 100000
set_option linter.unusedVariables false
/-! ipsecgate/schnorr.Encode -/
abbrev schnorr_Encode_R : Type := ((Int × Unit) × ((List UInt8) × Unit))
noncomputable def schnorr_Encode_s2 (N : Nat) (t_12 : (List ((List UInt8) × (UInt64 × (Int × (Int × (Bool × ((List UInt8) × Unit)))))))) (t_13 : Int) (t_14 : Int) (out_4 : (List UInt8)) : Option (Lo (((List ((List UInt8) × (UInt64 × (Int × (Int × (Bool × ((List UInt8) × Unit))))))) × Int × Int × Unit) × ((List UInt8) × Unit)) ((Unit) × ((List UInt8) × Unit)) schnorr_Encode_R) :=
  bif (decide (t_14 < t_13)) then
    bif inR t_14 t_12.length then
    let x5 := t_12.getD t_14.toNat (([] : List UInt8), (0 : UInt64), (0 : Int), (0 : Int), false, ([] : List UInt8), ())
    Option.bind (schnorr_Body N x5) fun y6 =>
    bif (!(decide (y6.1.1 = (0 : Int)))) then
      some (.rt ((y6.1.1, ()), (([] : List UInt8), ())))
    else
      bif (!(decide ((x5.2.2.2.2.2.1.length : Int) = (16 : Int)))) then
        some (.rt (((2 : Int), ()), (([] : List UInt8), ())))
      else
        bif room (out_4.length + y6.2.1.length) 1 then
        let x10 := out_4 ++ y6.2.1
        bif room (x10.length + x5.2.2.2.2.2.1.length) 1 then
        some (.go ((t_12, t_13, (w64 (t_14 + (1 : Int))), ()), ((x10 ++ x5.2.2.2.2.2.1), ())))
        else none
        else none
    else none
  else
    some (.br ((()), (out_4, ())))
noncomputable def schnorr_Encode_3 (N : Nat) (out_4 : (List UInt8)) : Option schnorr_Encode_R :=
  some (((0 : Int), ()), (out_4, ()))
noncomputable def schnorr_Encode_1 (N : Nat) (t_12 : (List ((List UInt8) × (UInt64 × (Int × (Int × (Bool × ((List UInt8) × Unit)))))))) (t_13 : Int) (t_14 : Int) (out_4 : (List UInt8)) : Option schnorr_Encode_R :=
  loopK N (fun y => schnorr_Encode_s2 N y.1.1 y.1.2.1 y.1.2.2.1 y.2.1) (fun (e : ((Unit) × ((List UInt8) × Unit))) => schnorr_Encode_3 N e.2.1) ((t_12, t_13, t_14, ()), (out_4, ()))
noncomputable def schnorr_Encode (N : Nat) (l_0 : (List ((List UInt8) × (UInt64 × (Int × (Int × (Bool × ((List UInt8) × Unit)))))))) : Option schnorr_Encode_R :=
  bif (decide ((6 : Int) < (l_0.length : Int))) then
    some (((10 : Int), ()), (([] : List UInt8), ()))
  else
    schnorr_Encode_1 N l_0 (l_0.length : Int) (0 : Int) ([] : List UInt8)
noncomputable def schnorr_Encode_C (N : Nat) : Ctx := ⟨38, G_tys, [(50, schnorr_Body_ctr N)], G_globs⟩
noncomputable def schnorr_Encode_S0 : Spec := ⟨[.row 0, .val (.sl (.pair .str (.pair .u64 (.pair .i64 (.pair .i64 (.pair .bool (.pair (.sl .u8) .unit))))))), .val .i64, .val .i64], [(.row 5 .u8, .pos 0)]⟩
noncomputable def schnorr_Encode_S1 : Spec := ⟨[.row 0], [(.row 5 .u8, .pos 0)]⟩
noncomputable def schnorr_Encode_S2 : Spec := ⟨[.val (.sl (.pair .str (.pair .u64 (.pair .i64 (.pair .i64 (.pair .bool (.pair (.sl .u8) .unit)))))))], []⟩
noncomputable def schnorr_Encode_S3 : Spec := ⟨[.row 0, .val .i64], [(.row 5 .u8, .pos 0)]⟩
noncomputable def schnorr_Encode_K (_N : Nat) : XE → GS → Option schnorr_Encode_R := retK 0 [2, 3] [false, false] schnorr_Encode_S3
noncomputable def schnorr_Encode_L : List Code := (bodyOf (some Tryd.f39))
noncomputable def schnorr_Encode_L2 : List Code := (loopOf (schnorr_Encode_L[5]?))
noncomputable def schnorr_Encode_K2 (N : Nat) : XE → GS → Option (Lo (((List ((List UInt8) × (UInt64 × (Int × (Int × (Bool × ((List UInt8) × Unit))))))) × Int × Int × Unit) × ((List UInt8) × Unit)) ((Unit) × ((List UInt8) × Unit)) schnorr_Encode_R) := roundK (some 0) (fit 0 [4, 12, 13, 14] schnorr_Encode_S0) (fit 0 [4] schnorr_Encode_S1) (schnorr_Encode_K N)
theorem schnorr_Encode_s2_b {E : Env} (N : Nat) (hb : Base Tryd.prog (schnorr_Encode_C N) E 0) : Blk Tryd.prog (schnorr_Encode_C N) E [4, 12, 13, 14] schnorr_Encode_S0 (schnorr_Encode_L2.drop 0) (fun y => schnorr_Encode_s2 N y.1.1 y.1.2.1 y.1.2.2.1 y.2.1) (schnorr_Encode_K2 N) :=
  Blk.chunkAt hb 4 (X := (schnorr_Encode_K2 N .normal)) (NxOk.end (by kernel_rfl)) rfl (fun x => by kernel_rfl)
theorem schnorr_Encode_3_b {E : Env} (N : Nat) (hb : Base Tryd.prog (schnorr_Encode_C N) E 0) : Blk Tryd.prog (schnorr_Encode_C N) E [4] schnorr_Encode_S1 (schnorr_Encode_L.drop 6) (fun y => schnorr_Encode_3 N y.2.1) (schnorr_Encode_K N) :=
  Blk.chunkAt hb 2 (X := (schnorr_Encode_K N .normal)) (NxOk.end (by kernel_rfl)) rfl (fun x => by kernel_rfl)
theorem schnorr_Encode_1_b {E : Env} (N : Nat) (hb : Base Tryd.prog (schnorr_Encode_C N) E 0) : Blk Tryd.prog (schnorr_Encode_C N) E [4, 12, 13, 14] schnorr_Encode_S0 (schnorr_Encode_L.drop 5) (fun y => schnorr_Encode_1 N y.1.1 y.1.2.1 y.1.2.2.1 y.2.1) (schnorr_Encode_K N) :=
  Blk.loopAt (Nf := N) (hns := [4, 12, 13, 14]) (ans := [4]) (hc := schnorr_Encode_S0) (ac := schnorr_Encode_S1) (bid := 0) (step := (fun y => schnorr_Encode_s2 N y.1.1 y.1.2.1 y.1.2.2.1 y.2.1)) (J := (fun e => (goK 0 [4] schnorr_Encode_S1 (fun y => schnorr_Encode_3 N y.2.1)) (schnorr_Encode_S1.st [4] e))) hb (by kernel_rfl) (Blk.into (X := (goK 0 [4] schnorr_Encode_S1 (fun y => schnorr_Encode_3 N y.2.1))) (NxOk.go hb (schnorr_Encode_3_b N hb)) (fun x => by kernel_rfl)) (schnorr_Encode_s2_b N hb) (fun x => by kernel_rfl)
theorem schnorr_Encode_b {E : Env} (N : Nat) (hb : Base Tryd.prog (schnorr_Encode_C N) E 0) : Blk Tryd.prog (schnorr_Encode_C N) E (List.range schnorr_Encode_S2.ks.length) schnorr_Encode_S2 (schnorr_Encode_L.drop 0) (fun y => schnorr_Encode N y.1.1) (schnorr_Encode_K N) :=
  Blk.chunkAt hb 5 (X := (goK 0 [4, 12, 13, 14] schnorr_Encode_S0 (fun y => schnorr_Encode_1 N y.1.1 y.1.2.1 y.1.2.2.1 y.2.1))) (NxOk.go hb (schnorr_Encode_1_b N hb)) rfl (fun x => by kernel_rfl)
noncomputable def schnorr_Encode_ctr (N : Nat) : Ctr := ⟨schnorr_Encode_S2, schnorr_Encode_S3.un [false, false], 0, (fun y => schnorr_Encode N y.1.1)⟩
theorem schnorr_Encode_ctrs (N : Nat) : CtrsOk Tryd.prog (schnorr_Encode_C N) := ctrs_of (Γ := schnorr_Encode_C N) (by
  intro p hp
  simp only [schnorr_Encode_C, List.mem_cons, List.not_mem_nil, or_false] at hp
  rcases hp with rfl
  · exact schnorr_Body_ok N)
theorem schnorr_Encode_ok (N : Nat) : Ctr.ok Tryd.prog G_globs 39 (schnorr_Encode_ctr N) :=
  ctr_fn (Γ := schnorr_Encode_C N) (rfit := schnorr_Encode_S3) (bs := [false, false]) (res := [2, 3]) (by kernel_rfl) (tys_ok G_tys_ok) (schnorr_Encode_ctrs N) Tryd.func39 (by kernel_rfl) (by kernel_rfl) Tryd.ntmps39 (by kernel_rfl) (by kernel_rfl) (by kernel_rfl) (by kernel_rfl) (fun E hb => schnorr_Encode_b N hb)
end Go.Proofs.YtofajgidjkjnpaaDoor
namespace Go.Proofs.YtofajgidjkjnpaaDoor
open Go
set_option maxRecDepth 100000
set_option linter.unusedVariables false
/-! ipsecgate/ipsecgateref15.Encode -/
abbrev ref15_Encode_R : Type := ((Int × Unit) × ((List UInt8) × Unit))
noncomputable def ref15_Encode_s2 (N : Nat) (l_0 : (List ((List UInt8) × (UInt64 × (Int × (Int × (Bool × ((List UInt8) × Unit)))))))) (i_5 : Int) (out_4 : (List UInt8)) : Option (Lo (((List ((List UInt8) × (UInt64 × (Int × (Int × (Bool × ((List UInt8) × Unit))))))) × Int × Unit) × ((List UInt8) × Unit)) ((Unit) × ((List UInt8) × Unit)) ref15_Encode_R) :=
  bif (decide (i_5 < (l_0.length : Int))) then
    bif inR i_5 l_0.length then
    Option.bind (ref15_Body N (l_0.getD i_5.toNat (([] : List UInt8), (0 : UInt64), (0 : Int), (0 : Int), false, ([] : List UInt8), ()))) fun y6 =>
    bif (!(decide (y6.1.1 = (0 : Int)))) then
      some (.rt ((y6.1.1, ()), (([] : List UInt8), ())))
    else
      bif inR i_5 l_0.length then
      bif (!(decide (((l_0.getD i_5.toNat (([] : List UInt8), (0 : UInt64), (0 : Int), (0 : Int), false, ([] : List UInt8), ())).2.2.2.2.2.1.length : Int) = (16 : Int)))) then
        some (.rt (((2 : Int), ()), (([] : List UInt8), ())))
      else
        bif room (out_4.length + y6.2.1.length) 1 then
        let x11 := out_4 ++ y6.2.1
        bif inR i_5 l_0.length then
        let x12 := l_0.getD i_5.toNat (([] : List UInt8), (0 : UInt64), (0 : Int), (0 : Int), false, ([] : List UInt8), ())
        bif room (x11.length + x12.2.2.2.2.2.1.length) 1 then
        some (.go ((l_0, (w64 (i_5 + (1 : Int))), ()), ((x11 ++ x12.2.2.2.2.2.1), ())))
        else none
        else none
        else none
      else none
    else none
  else
    some (.br ((()), (out_4, ())))
noncomputable def ref15_Encode_3 (N : Nat) (out_4 : (List UInt8)) : Option ref15_Encode_R :=
  some (((0 : Int), ()), (out_4, ()))
noncomputable def ref15_Encode_1 (N : Nat) (l_0 : (List ((List UInt8) × (UInt64 × (Int × (Int × (Bool × ((List UInt8) × Unit)))))))) (i_5 : Int) (out_4 : (List UInt8)) : Option ref15_Encode_R :=
  loopK N (fun y => ref15_Encode_s2 N y.1.1 y.1.2.1 y.2.1) (fun (e : ((Unit) × ((List UInt8) × Unit))) => ref15_Encode_3 N e.2.1) ((l_0, i_5, ()), (out_4, ()))
noncomputable def ref15_Encode (N : Nat) (l_0 : (List ((List UInt8) × (UInt64 × (Int × (Int × (Bool × ((List UInt8) × Unit)))))))) : Option ref15_Encode_R :=
  bif (decide ((6 : Int) < (l_0.length : Int))) then
    some (((10 : Int), ()), (([] : List UInt8), ()))
  else
    ref15_Encode_1 N l_0 (0 : Int) ([] : List UInt8)
noncomputable def ref15_Encode_C (N : Nat) : Ctx := ⟨45, G_tys, [(51, ref15_Body_ctr N)], G_globs⟩
noncomputable def ref15_Encode_S0 : Spec := ⟨[.val (.sl (.pair .str (.pair .u64 (.pair .i64 (.pair .i64 (.pair .bool (.pair (.sl .u8) .unit))))))), .row 0, .val .i64], [(.row 5 .u8, .pos 1)]⟩
noncomputable def ref15_Encode_S1 : Spec := ⟨[.row 0], [(.row 5 .u8, .pos 0)]⟩
noncomputable def ref15_Encode_S2 : Spec := ⟨[.val (.sl (.pair .str (.pair .u64 (.pair .i64 (.pair .i64 (.pair .bool (.pair (.sl .u8) .unit)))))))], []⟩
noncomputable def ref15_Encode_S3 : Spec := ⟨[.row 0, .val .i64], [(.row 5 .u8, .pos 0)]⟩
noncomputable def ref15_Encode_K (_N : Nat) : XE → GS → Option ref15_Encode_R := retK 0 [2, 3] [false, false] ref15_Encode_S3
noncomputable def ref15_Encode_L : List Code := (bodyOf (some Tryd.f46))
noncomputable def ref15_Encode_L2 : List Code := (loopOf (ref15_Encode_L[5]?))
noncomputable def ref15_Encode_K2 (N : Nat) : XE → GS → Option (Lo (((List ((List UInt8) × (UInt64 × (Int × (Int × (Bool × ((List UInt8) × Unit))))))) × Int × Unit) × ((List UInt8) × Unit)) ((Unit) × ((List UInt8) × Unit)) ref15_Encode_R) := roundK (some 0) (fit 0 [0, 4, 5] ref15_Encode_S0) (fit 0 [4] ref15_Encode_S1) (ref15_Encode_K N)
theorem ref15_Encode_s2_b {E : Env} (N : Nat) (hb : Base Tryd.prog (ref15_Encode_C N) E 0) : Blk Tryd.prog (ref15_Encode_C N) E [0, 4, 5] ref15_Encode_S0 (ref15_Encode_L2.drop 0) (fun y => ref15_Encode_s2 N y.1.1 y.1.2.1 y.2.1) (ref15_Encode_K2 N) :=
  Blk.chunkAt hb 4 (X := (ref15_Encode_K2 N .normal)) (NxOk.end (by kernel_rfl)) rfl (fun x => by kernel_rfl)
theorem ref15_Encode_3_b {E : Env} (N : Nat) (hb : Base Tryd.prog (ref15_Encode_C N) E 0) : Blk Tryd.prog (ref15_Encode_C N) E [4] ref15_Encode_S1 (ref15_Encode_L.drop 6) (fun y => ref15_Encode_3 N y.2.1) (ref15_Encode_K N) :=
  Blk.chunkAt hb 2 (X := (ref15_Encode_K N .normal)) (NxOk.end (by kernel_rfl)) rfl (fun x => by kernel_rfl)
theorem ref15_Encode_1_b {E : Env} (N : Nat) (hb : Base Tryd.prog (ref15_Encode_C N) E 0) : Blk Tryd.prog (ref15_Encode_C N) E [0, 4, 5] ref15_Encode_S0 (ref15_Encode_L.drop 5) (fun y => ref15_Encode_1 N y.1.1 y.1.2.1 y.2.1) (ref15_Encode_K N) :=
  Blk.loopAt (Nf := N) (hns := [0, 4, 5]) (ans := [4]) (hc := ref15_Encode_S0) (ac := ref15_Encode_S1) (bid := 0) (step := (fun y => ref15_Encode_s2 N y.1.1 y.1.2.1 y.2.1)) (J := (fun e => (goK 0 [4] ref15_Encode_S1 (fun y => ref15_Encode_3 N y.2.1)) (ref15_Encode_S1.st [4] e))) hb (by kernel_rfl) (Blk.into (X := (goK 0 [4] ref15_Encode_S1 (fun y => ref15_Encode_3 N y.2.1))) (NxOk.go hb (ref15_Encode_3_b N hb)) (fun x => by kernel_rfl)) (ref15_Encode_s2_b N hb) (fun x => by kernel_rfl)
theorem ref15_Encode_b {E : Env} (N : Nat) (hb : Base Tryd.prog (ref15_Encode_C N) E 0) : Blk Tryd.prog (ref15_Encode_C N) E (List.range ref15_Encode_S2.ks.length) ref15_Encode_S2 (ref15_Encode_L.drop 0) (fun y => ref15_Encode N y.1.1) (ref15_Encode_K N) :=
  Blk.chunkAt hb 5 (X := (goK 0 [0, 4, 5] ref15_Encode_S0 (fun y => ref15_Encode_1 N y.1.1 y.1.2.1 y.2.1))) (NxOk.go hb (ref15_Encode_1_b N hb)) rfl (fun x => by kernel_rfl)
noncomputable def ref15_Encode_ctr (N : Nat) : Ctr := ⟨ref15_Encode_S2, ref15_Encode_S3.un [false, false], 0, (fun y => ref15_Encode N y.1.1)⟩
theorem ref15_Encode_ctrs (N : Nat) : CtrsOk Tryd.prog (ref15_Encode_C N) := ctrs_of (Γ := ref15_Encode_C N) (by
  intro p hp
  simp only [ref15_Encode_C, List.mem_cons, List.not_mem_nil, or_false] at hp
  rcases hp with rfl
  · exact ref15_Body_ok N)
theorem ref15_Encode_ok (N : Nat) : Ctr.ok Tryd.prog G_globs 46 (ref15_Encode_ctr N) :=
  ctr_fn (Γ := ref15_Encode_C N) (rfit := ref15_Encode_S3) (bs := [false, false]) (res := [2, 3]) (by kernel_rfl) (tys_ok G_tys_ok) (ref15_Encode_ctrs N) Tryd.func46 (by kernel_rfl) (by kernel_rfl) Tryd.ntmps46 (by kernel_rfl) (by kernel_rfl) (by kernel_rfl) (by kernel_rfl) (fun E hb => ref15_Encode_b N hb)
end Go.Proofs.YtofajgidjkjnpaaDoor
namespace Go.Proofs.YtofajgidjkjnpaaDoor
open Go
set_option maxRecDepth 100000
set_option linter.unusedVariables false
/-! ipsecgate/schnorr.decode -/
abbrev schnorr_decode_R : Type := ((((List UInt8) × (UInt64 × (Int × (Int × (Bool × ((List UInt8) × Unit)))))) × (List UInt8) × Bool × Unit) × (Unit))
noncomputable def schnorr_decode (N : Nat) (b_0 : (List UInt8)) : Option schnorr_decode_R :=
  bif inR (0 : Int) b_0.length then
  let x2 := ((b_0.getD 0 (0 : UInt8)).toNat : Int)
  bif (decide ((b_0.length : Int) < (w64 ((w64 ((w64 ((1 : Int) + x2)) + (17 : Int))) + (16 : Int))))) then
    some (((([] : List UInt8), (0 : UInt64), (0 : Int), (0 : Int), false, ([] : List UInt8), ()), ([] : List UInt8), false, ()), (()))
  else
    let x8 := w64 ((1 : Int) + x2)
    bif decide (0 ≤ (1 : Int)) && decide ((1 : Int) ≤ x8) && decide (x8 ≤ (b_0.length : Int)) && true then
    let x9 := cut b_0 1 x8.toNat
    let x10 := w64 ((1 : Int) + x2)
    bif decide (0 ≤ x10) && decide (x10 ≤ (b_0.length : Int)) && decide ((b_0.length : Int) ≤ (b_0.length : Int)) && true then
    Option.bind (schnorr_first N (cut b_0 x10.toNat b_0.length)) fun y12 =>
    Option.bind (wire_Number N b_0 (w64 ((9 : Int) + x2)) (4 : Int)) fun y14 =>
    Option.bind (wire_Number N b_0 (w64 ((13 : Int) + x2)) (4 : Int)) fun y16 =>
    let x17 := w64 (y14.1.1.toNat : Int)
    let x18 := w64 (y16.1.1.toNat : Int)
    let x19 := w64 ((17 : Int) + x2)
    bif inR x19 b_0.length then
    let x21 := decide ((b_0.getD x19.toNat (0 : UInt8)) = (1 : UInt8))
    let x22 := w64 ((18 : Int) + x2)
    let x24 := w64 ((w64 ((18 : Int) + x2)) + (16 : Int))
    bif decide (0 ≤ x22) && decide (x22 ≤ x24) && decide (x24 ≤ (b_0.length : Int)) && true then
    let x25 := cut b_0 x22.toNat x24.toNat
    bif room (0 + x25.length) 1 then
    Option.bind (schnorr_Body N (x9, y12.1.1, x17, x18, x21, x25, ())) fun y26 =>
    let x28 := w64 ((w64 ((18 : Int) + x2)) + (16 : Int))
    bif decide (0 ≤ x28) && decide (x28 ≤ (b_0.length : Int)) && decide ((b_0.length : Int) ≤ (b_0.length : Int)) && true then
    let x29 := cut b_0 x28.toNat b_0.length
    bif (decide (y26.1.1 = (0 : Int))) then
      let x31 := w64 ((17 : Int) + x2)
      bif inR x31 b_0.length then
      some (((x9, y12.1.1, x17, x18, x21, x25, ()), x29, (decide ((b_0.getD x31.toNat (0 : UInt8)) ≤ (1 : UInt8))), ()), (()))
      else none
    else
      some (((x9, y12.1.1, x17, x18, x21, x25, ()), x29, false, ()), (()))
    else none
    else none
    else none
    else none
    else none
    else none
  else none
noncomputable def schnorr_decode_C (N : Nat) : Ctx := ⟨94, G_tys, [(89, schnorr_first_ctr N), (107, wire_Number_ctr N), (50, schnorr_Body_ctr N)], G_globs⟩
noncomputable def schnorr_decode_S0 : Spec := ⟨[.val (.sl .u8)], []⟩
noncomputable def schnorr_decode_S1 : Spec := ⟨[.fp (.pair .str (.pair .u64 (.pair .i64 (.pair .i64 (.pair .bool (.pair (.sl .u8) .unit)))))), .val (.sl .u8), .val .bool], []⟩
noncomputable def schnorr_decode_K (_N : Nat) : XE → GS → Option schnorr_decode_R := retK 0 [2, 3, 4] [true, false, false] schnorr_decode_S1
noncomputable def schnorr_decode_L : List Code := (bodyOf (some Tryd.f110))
theorem schnorr_decode_b {E : Env} (N : Nat) (hb : Base Tryd.prog (schnorr_decode_C N) E 0) : Blk Tryd.prog (schnorr_decode_C N) E (List.range schnorr_decode_S0.ks.length) schnorr_decode_S0 (schnorr_decode_L.drop 0) (fun y => schnorr_decode N y.1.1) (schnorr_decode_K N) :=
  Blk.chunkAt hb 13 (X := (schnorr_decode_K N .normal)) (NxOk.end (by kernel_rfl)) rfl (fun x => by kernel_rfl)
noncomputable def schnorr_decode_ctr (N : Nat) : Ctr := ⟨schnorr_decode_S0, schnorr_decode_S1.un [true, false, false], 0, (fun y => schnorr_decode N y.1.1)⟩
theorem schnorr_decode_ctrs (N : Nat) : CtrsOk Tryd.prog (schnorr_decode_C N) := ctrs_of (Γ := schnorr_decode_C N) (by
  intro p hp
  simp only [schnorr_decode_C, List.mem_cons, List.not_mem_nil, or_false] at hp
  rcases hp with rfl | rfl | rfl
  · exact schnorr_first_ok N
  · exact wire_Number_ok N
  · exact schnorr_Body_ok N)
theorem schnorr_decode_ok (N : Nat) : Ctr.ok Tryd.prog G_globs 110 (schnorr_decode_ctr N) :=
  ctr_fn (Γ := schnorr_decode_C N) (rfit := schnorr_decode_S1) (bs := [true, false, false]) (res := [2, 3, 4]) (by kernel_rfl) (tys_ok G_tys_ok) (schnorr_decode_ctrs N) Tryd.func110 (by kernel_rfl) (by kernel_rfl) Tryd.ntmps110 (by kernel_rfl) (by kernel_rfl) (by kernel_rfl) (by kernel_rfl) (fun E hb => schnorr_decode_b N hb)
end Go.Proofs.YtofajgidjkjnpaaDoor
namespace Go.Proofs.YtofajgidjkjnpaaDoor
open Go
set_option maxRecDepth 100000
set_option linter.unusedVariables false
/-! ipsecgate/schnorr.Decode -/
abbrev schnorr_Decode_R : Type := ((Int × Unit) × ((List ((List UInt8) × (UInt64 × (Int × (Int × (Bool × ((List UInt8) × Unit))))))) × Unit))
noncomputable def schnorr_Decode_s2 (N : Nat) (b_0 : (List UInt8)) (l_4 : (List ((List UInt8) × (UInt64 × (Int × (Int × (Bool × ((List UInt8) × Unit)))))))) : Option (Lo (((List UInt8) × Unit) × ((List ((List UInt8) × (UInt64 × (Int × (Int × (Bool × ((List UInt8) × Unit))))))) × Unit)) ((Unit) × ((List ((List UInt8) × (UInt64 × (Int × (Int × (Bool × ((List UInt8) × Unit))))))) × Unit)) schnorr_Decode_R) :=
  bif (decide ((0 : Int) < (b_0.length : Int))) then
    Option.bind (schnorr_decode N b_0) fun y3 =>
    bif (!y3.1.2.2.1) then
      some (.rt (((4 : Int), ()), (([] : List ((List UInt8) × (UInt64 × (Int × (Int × (Bool × ((List UInt8) × Unit))))))), ())))
    else
      bif room (l_4.length + ([y3.1.1] : List ((List UInt8) × (UInt64 × (Int × (Int × (Bool × ((List UInt8) × Unit))))))).length) 72 then
      some (.go ((y3.1.2.1, ()), ((l_4 ++ ([y3.1.1] : List ((List UInt8) × (UInt64 × (Int × (Int × (Bool × ((List UInt8) × Unit)))))))), ())))
      else none
  else
    some (.br ((()), (l_4, ())))
noncomputable def schnorr_Decode_3 (N : Nat) (l_4 : (List ((List UInt8) × (UInt64 × (Int × (Int × (Bool × ((List UInt8) × Unit)))))))) : Option schnorr_Decode_R :=
  bif (decide ((6 : Int) < (l_4.length : Int))) then
    some (((10 : Int), ()), (([] : List ((List UInt8) × (UInt64 × (Int × (Int × (Bool × ((List UInt8) × Unit))))))), ()))
  else
    some (((0 : Int), ()), (l_4, ()))
noncomputable def schnorr_Decode_1 (N : Nat) (b_0 : (List UInt8)) (l_4 : (List ((List UInt8) × (UInt64 × (Int × (Int × (Bool × ((List UInt8) × Unit)))))))) : Option schnorr_Decode_R :=
  loopK N (fun y => schnorr_Decode_s2 N y.1.1 y.2.1) (fun (e : ((Unit) × ((List ((List UInt8) × (UInt64 × (Int × (Int × (Bool × ((List UInt8) × Unit))))))) × Unit))) => schnorr_Decode_3 N e.2.1) ((b_0, ()), (l_4, ()))
noncomputable def schnorr_Decode (N : Nat) (b_0 : (List UInt8)) : Option schnorr_Decode_R :=
  schnorr_Decode_1 N b_0 ([] : List ((List UInt8) × (UInt64 × (Int × (Int × (Bool × ((List UInt8) × Unit)))))))
noncomputable def schnorr_Decode_C (N : Nat) : Ctx := ⟨28, G_tys, [(110, schnorr_decode_ctr N)], G_globs⟩
noncomputable def schnorr_Decode_S0 : Spec := ⟨[.val (.sl .u8), .row 0], [(.row 66 (.pair .str (.pair .u64 (.pair .i64 (.pair .i64 (.pair .bool (.pair (.sl .u8) .unit)))))), .pos 1)]⟩
noncomputable def schnorr_Decode_S1 : Spec := ⟨[.row 0], [(.row 66 (.pair .str (.pair .u64 (.pair .i64 (.pair .i64 (.pair .bool (.pair (.sl .u8) .unit)))))), .pos 0)]⟩
noncomputable def schnorr_Decode_S2 : Spec := ⟨[.val (.sl .u8)], []⟩
noncomputable def schnorr_Decode_S3 : Spec := ⟨[.row 0, .val .i64], [(.row 66 (.pair .str (.pair .u64 (.pair .i64 (.pair .i64 (.pair .bool (.pair (.sl .u8) .unit)))))), .pos 0)]⟩
noncomputable def schnorr_Decode_K (_N : Nat) : XE → GS → Option schnorr_Decode_R := retK 0 [2, 3] [false, false] schnorr_Decode_S3
noncomputable def schnorr_Decode_L : List Code := (bodyOf (some Tryd.f40))
noncomputable def schnorr_Decode_L2 : List Code := (loopOf (schnorr_Decode_L[2]?))
noncomputable def schnorr_Decode_K2 (N : Nat) : XE → GS → Option (Lo (((List UInt8) × Unit) × ((List ((List UInt8) × (UInt64 × (Int × (Int × (Bool × ((List UInt8) × Unit))))))) × Unit)) ((Unit) × ((List ((List UInt8) × (UInt64 × (Int × (Int × (Bool × ((List UInt8) × Unit))))))) × Unit)) schnorr_Decode_R) := roundK (some 0) (fit 0 [0, 4] schnorr_Decode_S0) (fit 0 [4] schnorr_Decode_S1) (schnorr_Decode_K N)
theorem schnorr_Decode_s2_b {E : Env} (N : Nat) (hb : Base Tryd.prog (schnorr_Decode_C N) E 0) : Blk Tryd.prog (schnorr_Decode_C N) E [0, 4] schnorr_Decode_S0 (schnorr_Decode_L2.drop 0) (fun y => schnorr_Decode_s2 N y.1.1 y.2.1) (schnorr_Decode_K2 N) :=
  Blk.chunkAt hb 3 (X := (schnorr_Decode_K2 N .normal)) (NxOk.end (by kernel_rfl)) rfl (fun x => by kernel_rfl)
theorem schnorr_Decode_3_b {E : Env} (N : Nat) (hb : Base Tryd.prog (schnorr_Decode_C N) E 0) : Blk Tryd.prog (schnorr_Decode_C N) E [4] schnorr_Decode_S1 (schnorr_Decode_L.drop 3) (fun y => schnorr_Decode_3 N y.2.1) (schnorr_Decode_K N) :=
  Blk.chunkAt hb 4 (X := (schnorr_Decode_K N .normal)) (NxOk.end (by kernel_rfl)) rfl (fun x => by kernel_rfl)
theorem schnorr_Decode_1_b {E : Env} (N : Nat) (hb : Base Tryd.prog (schnorr_Decode_C N) E 0) : Blk Tryd.prog (schnorr_Decode_C N) E [0, 4] schnorr_Decode_S0 (schnorr_Decode_L.drop 2) (fun y => schnorr_Decode_1 N y.1.1 y.2.1) (schnorr_Decode_K N) :=
  Blk.loopAt (Nf := N) (hns := [0, 4]) (ans := [4]) (hc := schnorr_Decode_S0) (ac := schnorr_Decode_S1) (bid := 0) (step := (fun y => schnorr_Decode_s2 N y.1.1 y.2.1)) (J := (fun e => (goK 0 [4] schnorr_Decode_S1 (fun y => schnorr_Decode_3 N y.2.1)) (schnorr_Decode_S1.st [4] e))) hb (by kernel_rfl) (Blk.into (X := (goK 0 [4] schnorr_Decode_S1 (fun y => schnorr_Decode_3 N y.2.1))) (NxOk.go hb (schnorr_Decode_3_b N hb)) (fun x => by kernel_rfl)) (schnorr_Decode_s2_b N hb) (fun x => by kernel_rfl)
theorem schnorr_Decode_b {E : Env} (N : Nat) (hb : Base Tryd.prog (schnorr_Decode_C N) E 0) : Blk Tryd.prog (schnorr_Decode_C N) E (List.range schnorr_Decode_S2.ks.length) schnorr_Decode_S2 (schnorr_Decode_L.drop 0) (fun y => schnorr_Decode N y.1.1) (schnorr_Decode_K N) :=
  Blk.chunkAt hb 2 (X := (goK 0 [0, 4] schnorr_Decode_S0 (fun y => schnorr_Decode_1 N y.1.1 y.2.1))) (NxOk.go hb (schnorr_Decode_1_b N hb)) rfl (fun x => by kernel_rfl)
noncomputable def schnorr_Decode_ctr (N : Nat) : Ctr := ⟨schnorr_Decode_S2, schnorr_Decode_S3.un [false, false], 0, (fun y => schnorr_Decode N y.1.1)⟩
theorem schnorr_Decode_ctrs (N : Nat) : CtrsOk Tryd.prog (schnorr_Decode_C N) := ctrs_of (Γ := schnorr_Decode_C N) (by
  intro p hp
  simp only [schnorr_Decode_C, List.mem_cons, List.not_mem_nil, or_false] at hp
  rcases hp with rfl
  · exact schnorr_decode_ok N)
theorem schnorr_Decode_ok (N : Nat) : Ctr.ok Tryd.prog G_globs 40 (schnorr_Decode_ctr N) :=
  ctr_fn (Γ := schnorr_Decode_C N) (rfit := schnorr_Decode_S3) (bs := [false, false]) (res := [2, 3]) (by kernel_rfl) (tys_ok G_tys_ok) (schnorr_Decode_ctrs N) Tryd.func40 (by kernel_rfl) (by kernel_rfl) Tryd.ntmps40 (by kernel_rfl) (by kernel_rfl) (by kernel_rfl) (by kernel_rfl) (fun E hb => schnorr_Decode_b N hb)
end Go.Proofs.YtofajgidjkjnpaaDoor
namespace Go.Proofs.YtofajgidjkjnpaaDoor
open Go
set_option maxRecDepth 100000
set_option linter.unusedVariables false
/-! ipsecgate/ipsecgateref15.Decode -/
abbrev ref15_Decode_R : Type := ((Int × Unit) × ((List ((List UInt8) × (UInt64 × (Int × (Int × (Bool × ((List UInt8) × Unit))))))) × Unit))
noncomputable def ref15_Decode_s2 (N : Nat) (b_0 : (List UInt8)) (at_5 : Int) (out_4 : (List ((List UInt8) × (UInt64 × (Int × (Int × (Bool × ((List UInt8) × Unit)))))))) : Option (Lo (((List UInt8) × Int × Unit) × ((List ((List UInt8) × (UInt64 × (Int × (Int × (Bool × ((List UInt8) × Unit))))))) × Unit)) ((Unit) × ((List ((List UInt8) × (UInt64 × (Int × (Int × (Bool × ((List UInt8) × Unit))))))) × Unit)) ref15_Decode_R) :=
  bif (decide (at_5 < (b_0.length : Int))) then
    bif inR at_5 b_0.length then
    let x4 := ((b_0.getD at_5.toNat (0 : UInt8)).toNat : Int)
    bif (decide ((w64 ((b_0.length : Int) - at_5)) < (w64 ((w64 ((w64 ((1 : Int) + x4)) + (17 : Int))) + (16 : Int))))) then
      some (.rt (((4 : Int), ()), (([] : List ((List UInt8) × (UInt64 × (Int × (Int × (Bool × ((List UInt8) × Unit))))))), ())))
    else
      Option.bind (ref01_Number N b_0 (w64 ((w64 (at_5 + (1 : Int))) + x4)) (8 : Int)) fun y13 =>
      Option.bind (ref01_Number N b_0 (w64 ((w64 (at_5 + (9 : Int))) + x4)) (4 : Int)) fun y16 =>
      Option.bind (ref01_Number N b_0 (w64 ((w64 (at_5 + (13 : Int))) + x4)) (4 : Int)) fun y19 =>
      let x20 := w64 (at_5 + (17 : Int))
      bif inR (w64 (x20 + x4)) b_0.length then
      let x22 := b_0.getD (w64 (x20 + x4)).toNat (0 : UInt8)
      let x23 := w64 (at_5 + (1 : Int))
      let x24 := w64 (at_5 + (1 : Int))
      bif decide (0 ≤ x23) && decide (x23 ≤ (w64 (x24 + x4))) && decide ((w64 (x24 + x4)) ≤ (b_0.length : Int)) && true then
      let x26 := cut b_0 x23.toNat (w64 (x24 + x4)).toNat
      let x27 := w64 (y16.1.1.toNat : Int)
      let x28 := w64 (y19.1.1.toNat : Int)
      let x29 := decide (x22 = (1 : UInt8))
      let x30 := w64 (at_5 + (18 : Int))
      let x32 := w64 (at_5 + (34 : Int))
      bif decide (0 ≤ (w64 (x30 + x4))) && decide ((w64 (x30 + x4)) ≤ (w64 (x32 + x4))) && decide ((w64 (x32 + x4)) ≤ (b_0.length : Int)) && true then
      let x34 := cut b_0 (w64 (x30 + x4)).toNat (w64 (x32 + x4)).toNat
      bif room (0 + x34.length) 1 then
      Option.bind (ref15_Body N (x26, y13.1.1, x27, x28, x29, x34, ())) fun y35 =>
      bif (!(decide (y35.1.1 = (0 : Int)))) then
        some (.rt (((4 : Int), ()), (([] : List ((List UInt8) × (UInt64 × (Int × (Int × (Bool × ((List UInt8) × Unit))))))), ())))
      else
        bif (decide ((1 : UInt8) < x22)) then
          some (.rt (((4 : Int), ()), (([] : List ((List UInt8) × (UInt64 × (Int × (Int × (Bool × ((List UInt8) × Unit))))))), ())))
        else
          bif room (out_4.length + ([(x26, y13.1.1, x27, x28, x29, x34, ())] : List ((List UInt8) × (UInt64 × (Int × (Int × (Bool × ((List UInt8) × Unit))))))).length) 72 then
          some (.go ((b_0, (w64 (at_5 + (w64 ((34 : Int) + x4)))), ()), ((out_4 ++ ([(x26, y13.1.1, x27, x28, x29, x34, ())] : List ((List UInt8) × (UInt64 × (Int × (Int × (Bool × ((List UInt8) × Unit)))))))), ())))
          else none
      else none
      else none
      else none
      else none
    else none
  else
    some (.br ((()), (out_4, ())))
noncomputable def ref15_Decode_3 (N : Nat) (out_4 : (List ((List UInt8) × (UInt64 × (Int × (Int × (Bool × ((List UInt8) × Unit)))))))) : Option ref15_Decode_R :=
  bif (decide ((6 : Int) < (out_4.length : Int))) then
    some (((10 : Int), ()), (([] : List ((List UInt8) × (UInt64 × (Int × (Int × (Bool × ((List UInt8) × Unit))))))), ()))
  else
    some (((0 : Int), ()), (out_4, ()))
noncomputable def ref15_Decode_1 (N : Nat) (b_0 : (List UInt8)) (at_5 : Int) (out_4 : (List ((List UInt8) × (UInt64 × (Int × (Int × (Bool × ((List UInt8) × Unit)))))))) : Option ref15_Decode_R :=
  loopK N (fun y => ref15_Decode_s2 N y.1.1 y.1.2.1 y.2.1) (fun (e : ((Unit) × ((List ((List UInt8) × (UInt64 × (Int × (Int × (Bool × ((List UInt8) × Unit))))))) × Unit))) => ref15_Decode_3 N e.2.1) ((b_0, at_5, ()), (out_4, ()))
noncomputable def ref15_Decode (N : Nat) (b_0 : (List UInt8)) : Option ref15_Decode_R :=
  ref15_Decode_1 N b_0 (0 : Int) ([] : List ((List UInt8) × (UInt64 × (Int × (Int × (Bool × ((List UInt8) × Unit)))))))
noncomputable def ref15_Decode_C (N : Nat) : Ctx := ⟨120, G_tys, [(58, ref01_Number_ctr N), (51, ref15_Body_ctr N)], G_globs⟩
noncomputable def ref15_Decode_S0 : Spec := ⟨[.val (.sl .u8), .row 0, .val .i64], [(.row 66 (.pair .str (.pair .u64 (.pair .i64 (.pair .i64 (.pair .bool (.pair (.sl .u8) .unit)))))), .pos 1)]⟩
noncomputable def ref15_Decode_S1 : Spec := ⟨[.row 0], [(.row 66 (.pair .str (.pair .u64 (.pair .i64 (.pair .i64 (.pair .bool (.pair (.sl .u8) .unit)))))), .pos 0)]⟩
noncomputable def ref15_Decode_S2 : Spec := ⟨[.val (.sl .u8)], []⟩
noncomputable def ref15_Decode_S3 : Spec := ⟨[.row 0, .val .i64], [(.row 66 (.pair .str (.pair .u64 (.pair .i64 (.pair .i64 (.pair .bool (.pair (.sl .u8) .unit)))))), .pos 0)]⟩
noncomputable def ref15_Decode_K (_N : Nat) : XE → GS → Option ref15_Decode_R := retK 0 [2, 3] [false, false] ref15_Decode_S3
noncomputable def ref15_Decode_L : List Code := (bodyOf (some Tryd.f47))
noncomputable def ref15_Decode_L2 : List Code := (loopOf (ref15_Decode_L[3]?))
noncomputable def ref15_Decode_K2 (N : Nat) : XE → GS → Option (Lo (((List UInt8) × Int × Unit) × ((List ((List UInt8) × (UInt64 × (Int × (Int × (Bool × ((List UInt8) × Unit))))))) × Unit)) ((Unit) × ((List ((List UInt8) × (UInt64 × (Int × (Int × (Bool × ((List UInt8) × Unit))))))) × Unit)) ref15_Decode_R) := roundK (some 0) (fit 0 [0, 4, 5] ref15_Decode_S0) (fit 0 [4] ref15_Decode_S1) (ref15_Decode_K N)
theorem ref15_Decode_s2_b {E : Env} (N : Nat) (hb : Base Tryd.prog (ref15_Decode_C N) E 0) : Blk Tryd.prog (ref15_Decode_C N) E [0, 4, 5] ref15_Decode_S0 (ref15_Decode_L2.drop 0) (fun y => ref15_Decode_s2 N y.1.1 y.1.2.1 y.2.1) (ref15_Decode_K2 N) :=
  Blk.chunkAt hb 3 (X := (ref15_Decode_K2 N .normal)) (NxOk.end (by kernel_rfl)) rfl (fun x => by kernel_rfl)
theorem ref15_Decode_3_b {E : Env} (N : Nat) (hb : Base Tryd.prog (ref15_Decode_C N) E 0) : Blk Tryd.prog (ref15_Decode_C N) E [4] ref15_Decode_S1 (ref15_Decode_L.drop 4) (fun y => ref15_Decode_3 N y.2.1) (ref15_Decode_K N) :=
  Blk.chunkAt hb 4 (X := (ref15_Decode_K N .normal)) (NxOk.end (by kernel_rfl)) rfl (fun x => by kernel_rfl)
theorem ref15_Decode_1_b {E : Env} (N : Nat) (hb : Base Tryd.prog (ref15_Decode_C N) E 0) : Blk Tryd.prog (ref15_Decode_C N) E [0, 4, 5] ref15_Decode_S0 (ref15_Decode_L.drop 3) (fun y => ref15_Decode_1 N y.1.1 y.1.2.1 y.2.1) (ref15_Decode_K N) :=
  Blk.loopAt (Nf := N) (hns := [0, 4, 5]) (ans := [4]) (hc := ref15_Decode_S0) (ac := ref15_Decode_S1) (bid := 0) (step := (fun y => ref15_Decode_s2 N y.1.1 y.1.2.1 y.2.1)) (J := (fun e => (goK 0 [4] ref15_Decode_S1 (fun y => ref15_Decode_3 N y.2.1)) (ref15_Decode_S1.st [4] e))) hb (by kernel_rfl) (Blk.into (X := (goK 0 [4] ref15_Decode_S1 (fun y => ref15_Decode_3 N y.2.1))) (NxOk.go hb (ref15_Decode_3_b N hb)) (fun x => by kernel_rfl)) (ref15_Decode_s2_b N hb) (fun x => by kernel_rfl)
theorem ref15_Decode_b {E : Env} (N : Nat) (hb : Base Tryd.prog (ref15_Decode_C N) E 0) : Blk Tryd.prog (ref15_Decode_C N) E (List.range ref15_Decode_S2.ks.length) ref15_Decode_S2 (ref15_Decode_L.drop 0) (fun y => ref15_Decode N y.1.1) (ref15_Decode_K N) :=
  Blk.chunkAt hb 3 (X := (goK 0 [0, 4, 5] ref15_Decode_S0 (fun y => ref15_Decode_1 N y.1.1 y.1.2.1 y.2.1))) (NxOk.go hb (ref15_Decode_1_b N hb)) rfl (fun x => by kernel_rfl)
noncomputable def ref15_Decode_ctr (N : Nat) : Ctr := ⟨ref15_Decode_S2, ref15_Decode_S3.un [false, false], 0, (fun y => ref15_Decode N y.1.1)⟩
theorem ref15_Decode_ctrs (N : Nat) : CtrsOk Tryd.prog (ref15_Decode_C N) := ctrs_of (Γ := ref15_Decode_C N) (by
  intro p hp
  simp only [ref15_Decode_C, List.mem_cons, List.not_mem_nil, or_false] at hp
  rcases hp with rfl | rfl
  · exact ref01_Number_ok N
  · exact ref15_Body_ok N)
theorem ref15_Decode_ok (N : Nat) : Ctr.ok Tryd.prog G_globs 47 (ref15_Decode_ctr N) :=
  ctr_fn (Γ := ref15_Decode_C N) (rfit := ref15_Decode_S3) (bs := [false, false]) (res := [2, 3]) (by kernel_rfl) (tys_ok G_tys_ok) (ref15_Decode_ctrs N) Tryd.func47 (by kernel_rfl) (by kernel_rfl) Tryd.ntmps47 (by kernel_rfl) (by kernel_rfl) (by kernel_rfl) (by kernel_rfl) (fun E hb => ref15_Decode_b N hb)
end Go.Proofs.YtofajgidjkjnpaaDoor
namespace Go.Proofs.YtofajgidjkjnpaaDoor
open Go
set_option maxRecDepth 100000
set_option linter.unusedVariables false
/-! ipsecgate/ipsecgateref01.Compare -/
abbrev ref01_Compare_R : Type := ((Int × Unit) × (Unit))
noncomputable def ref01_Compare_3 (N : Nat) (a_0 : (List UInt8)) (b_1 : (List UInt8)) (i_5 : Int) (t_15 : Bool) : Option (Lo (((List UInt8) × (List UInt8) × Int × Unit) × (Unit)) (((List UInt8) × (List UInt8) × Unit) × (Unit)) ref01_Compare_R) :=
  bif t_15 then
    bif inR i_5 a_0.length then
    bif inR i_5 b_1.length then
    bif (decide ((a_0.getD i_5.toNat (0 : UInt8)) < (b_1.getD i_5.toNat (0 : UInt8)))) then
      some (.rt (((-1 : Int), ()), (())))
    else
      bif inR i_5 a_0.length then
      bif inR i_5 b_1.length then
      bif (decide ((b_1.getD i_5.toNat (0 : UInt8)) < (a_0.getD i_5.toNat (0 : UInt8)))) then
        some (.rt (((1 : Int), ()), (())))
      else
        some (.go ((a_0, b_1, (w64 (i_5 + (1 : Int))), ()), (())))
      else none
      else none
    else none
    else none
  else
    some (.br ((a_0, b_1, ()), (())))
noncomputable def ref01_Compare_s2 (N : Nat) (a_0 : (List UInt8)) (b_1 : (List UInt8)) (i_5 : Int) : Option (Lo (((List UInt8) × (List UInt8) × Int × Unit) × (Unit)) (((List UInt8) × (List UInt8) × Unit) × (Unit)) ref01_Compare_R) :=
  bif (decide (i_5 < (a_0.length : Int))) then
    ref01_Compare_3 N a_0 b_1 i_5 (decide (i_5 < (b_1.length : Int)))
  else
    ref01_Compare_3 N a_0 b_1 i_5 false
noncomputable def ref01_Compare_4 (N : Nat) (a_0 : (List UInt8)) (b_1 : (List UInt8)) : Option ref01_Compare_R :=
  bif (decide ((a_0.length : Int) < (b_1.length : Int))) then
    some (((-1 : Int), ()), (()))
  else
    bif (decide ((b_1.length : Int) < (a_0.length : Int))) then
      some (((1 : Int), ()), (()))
    else
      some (((0 : Int), ()), (()))
noncomputable def ref01_Compare_1 (N : Nat) (a_0 : (List UInt8)) (b_1 : (List UInt8)) (i_5 : Int) : Option ref01_Compare_R :=
  loopK N (fun y => ref01_Compare_s2 N y.1.1 y.1.2.1 y.1.2.2.1) (fun (e : (((List UInt8) × (List UInt8) × Unit) × (Unit))) => ref01_Compare_4 N e.1.1 e.1.2.1) ((a_0, b_1, i_5, ()), (()))
noncomputable def ref01_Compare (N : Nat) (a_0 : (List UInt8)) (b_1 : (List UInt8)) : Option ref01_Compare_R :=
  ref01_Compare_1 N a_0 b_1 (0 : Int)
noncomputable def ref01_Compare_C (N : Nat) : Ctx := ⟨48, G_tys, [], G_globs⟩
noncomputable def ref01_Compare_S0 : Spec := ⟨[.val (.sl .u8), .val (.sl .u8), .val .i64, .val .bool], []⟩
noncomputable def ref01_Compare_S1 : Spec := ⟨[.val (.sl .u8), .val (.sl .u8), .val .i64], []⟩
noncomputable def ref01_Compare_S2 : Spec := ⟨[.val (.sl .u8), .val (.sl .u8)], []⟩
noncomputable def ref01_Compare_S3 : Spec := ⟨[.val .i64], []⟩
noncomputable def ref01_Compare_K (_N : Nat) : XE → GS → Option ref01_Compare_R := retK 0 [4] [false] ref01_Compare_S3
noncomputable def ref01_Compare_L : List Code := (bodyOf (some Tryd.f95))
noncomputable def ref01_Compare_L2 : List Code := (loopOf (ref01_Compare_L[2]?))
noncomputable def ref01_Compare_K2 (N : Nat) : XE → GS → Option (Lo (((List UInt8) × (List UInt8) × Int × Unit) × (Unit)) (((List UInt8) × (List UInt8) × Unit) × (Unit)) ref01_Compare_R) := roundK (some 0) (fit 0 [0, 1, 5] ref01_Compare_S1) (fit 0 [0, 1] ref01_Compare_S2) (ref01_Compare_K N)
theorem ref01_Compare_3_b {E : Env} (N : Nat) (hb : Base Tryd.prog (ref01_Compare_C N) E 0) : Blk Tryd.prog (ref01_Compare_C N) E [0, 1, 5, 15] ref01_Compare_S0 (ref01_Compare_L2.drop 1) (fun y => ref01_Compare_3 N y.1.1 y.1.2.1 y.1.2.2.1 y.1.2.2.2.1) (ref01_Compare_K2 N) :=
  Blk.chunkAt hb 3 (X := (ref01_Compare_K2 N .normal)) (NxOk.end (by kernel_rfl)) rfl (fun x => by kernel_rfl)
theorem ref01_Compare_s2_b {E : Env} (N : Nat) (hb : Base Tryd.prog (ref01_Compare_C N) E 0) : Blk Tryd.prog (ref01_Compare_C N) E [0, 1, 5] ref01_Compare_S1 (ref01_Compare_L2.drop 0) (fun y => ref01_Compare_s2 N y.1.1 y.1.2.1 y.1.2.2.1) (ref01_Compare_K2 N) :=
  Blk.chunkAt hb 1 (X := (goK 0 [0, 1, 5, 15] ref01_Compare_S0 (fun y => ref01_Compare_3 N y.1.1 y.1.2.1 y.1.2.2.1 y.1.2.2.2.1))) (NxOk.go hb (ref01_Compare_3_b N hb)) rfl (fun x => by kernel_rfl)
theorem ref01_Compare_4_b {E : Env} (N : Nat) (hb : Base Tryd.prog (ref01_Compare_C N) E 0) : Blk Tryd.prog (ref01_Compare_C N) E [0, 1] ref01_Compare_S2 (ref01_Compare_L.drop 3) (fun y => ref01_Compare_4 N y.1.1 y.1.2.1) (ref01_Compare_K N) :=
  Blk.chunkAt hb 3 (X := (ref01_Compare_K N .normal)) (NxOk.end (by kernel_rfl)) rfl (fun x => by kernel_rfl)
theorem ref01_Compare_1_b {E : Env} (N : Nat) (hb : Base Tryd.prog (ref01_Compare_C N) E 0) : Blk Tryd.prog (ref01_Compare_C N) E [0, 1, 5] ref01_Compare_S1 (ref01_Compare_L.drop 2) (fun y => ref01_Compare_1 N y.1.1 y.1.2.1 y.1.2.2.1) (ref01_Compare_K N) :=
  Blk.loopAt (Nf := N) (hns := [0, 1, 5]) (ans := [0, 1]) (hc := ref01_Compare_S1) (ac := ref01_Compare_S2) (bid := 0) (step := (fun y => ref01_Compare_s2 N y.1.1 y.1.2.1 y.1.2.2.1)) (J := (fun e => (goK 0 [0, 1] ref01_Compare_S2 (fun y => ref01_Compare_4 N y.1.1 y.1.2.1)) (ref01_Compare_S2.st [0, 1] e))) hb (by kernel_rfl) (Blk.into (X := (goK 0 [0, 1] ref01_Compare_S2 (fun y => ref01_Compare_4 N y.1.1 y.1.2.1))) (NxOk.go hb (ref01_Compare_4_b N hb)) (fun x => by kernel_rfl)) (ref01_Compare_s2_b N hb) (fun x => by kernel_rfl)
theorem ref01_Compare_b {E : Env} (N : Nat) (hb : Base Tryd.prog (ref01_Compare_C N) E 0) : Blk Tryd.prog (ref01_Compare_C N) E (List.range ref01_Compare_S2.ks.length) ref01_Compare_S2 (ref01_Compare_L.drop 0) (fun y => ref01_Compare N y.1.1 y.1.2.1) (ref01_Compare_K N) :=
  Blk.chunkAt hb 2 (X := (goK 0 [0, 1, 5] ref01_Compare_S1 (fun y => ref01_Compare_1 N y.1.1 y.1.2.1 y.1.2.2.1))) (NxOk.go hb (ref01_Compare_1_b N hb)) rfl (fun x => by kernel_rfl)
noncomputable def ref01_Compare_ctr (N : Nat) : Ctr := ⟨ref01_Compare_S2, ref01_Compare_S3.un [false], 0, (fun y => ref01_Compare N y.1.1 y.1.2.1)⟩
theorem ref01_Compare_ctrs (N : Nat) : CtrsOk Tryd.prog (ref01_Compare_C N) := ctrs_nil rfl
theorem ref01_Compare_ok (N : Nat) : Ctr.ok Tryd.prog G_globs 95 (ref01_Compare_ctr N) :=
  ctr_fn (Γ := ref01_Compare_C N) (rfit := ref01_Compare_S3) (bs := [false]) (res := [4]) (by kernel_rfl) (tys_ok G_tys_ok) (ref01_Compare_ctrs N) Tryd.func95 (by kernel_rfl) (by kernel_rfl) Tryd.ntmps95 (by kernel_rfl) (by kernel_rfl) (by kernel_rfl) (by kernel_rfl) (fun E hb => ref01_Compare_b N hb)
end Go.Proofs.YtofajgidjkjnpaaDoor
namespace Go.Proofs.YtofajgidjkjnpaaDoor
open Go
set_option maxRecDepth 100000
set_option linter.unusedVariables false
/-! ipsecgate/ipsecgateref01.Equal -/
abbrev ref01_Equal_R : Type := ((Bool × Unit) × (Unit))
noncomputable def ref01_Equal (N : Nat) (a_0 : (List UInt8)) (b_1 : (List UInt8)) : Option ref01_Equal_R :=
  Option.bind (ref01_Compare N a_0 b_1) fun y1 =>
  some (((decide (y1.1.1 = (0 : Int))), ()), (()))
noncomputable def ref01_Equal_C (N : Nat) : Ctx := ⟨9, G_tys, [(95, ref01_Compare_ctr N)], G_globs⟩
noncomputable def ref01_Equal_S0 : Spec := ⟨[.val (.sl .u8), .val (.sl .u8)], []⟩
noncomputable def ref01_Equal_S1 : Spec := ⟨[.val .bool], []⟩
noncomputable def ref01_Equal_K (_N : Nat) : XE → GS → Option ref01_Equal_R := retK 0 [4] [false] ref01_Equal_S1
noncomputable def ref01_Equal_L : List Code := (bodyOf (some Tryd.f21))
theorem ref01_Equal_b {E : Env} (N : Nat) (hb : Base Tryd.prog (ref01_Equal_C N) E 0) : Blk Tryd.prog (ref01_Equal_C N) E (List.range ref01_Equal_S0.ks.length) ref01_Equal_S0 (ref01_Equal_L.drop 0) (fun y => ref01_Equal N y.1.1 y.1.2.1) (ref01_Equal_K N) :=
  Blk.chunkAt hb 3 (X := (ref01_Equal_K N .normal)) (NxOk.end (by kernel_rfl)) rfl (fun x => by kernel_rfl)
noncomputable def ref01_Equal_ctr (N : Nat) : Ctr := ⟨ref01_Equal_S0, ref01_Equal_S1.un [false], 0, (fun y => ref01_Equal N y.1.1 y.1.2.1)⟩
theorem ref01_Equal_ctrs (N : Nat) : CtrsOk Tryd.prog (ref01_Equal_C N) := ctrs_of (Γ := ref01_Equal_C N) (by
  intro p hp
  simp only [ref01_Equal_C, List.mem_cons, List.not_mem_nil, or_false] at hp
  rcases hp with rfl
  · exact ref01_Compare_ok N)
theorem ref01_Equal_ok (N : Nat) : Ctr.ok Tryd.prog G_globs 21 (ref01_Equal_ctr N) :=
  ctr_fn (Γ := ref01_Equal_C N) (rfit := ref01_Equal_S1) (bs := [false]) (res := [4]) (by kernel_rfl) (tys_ok G_tys_ok) (ref01_Equal_ctrs N) Tryd.func21 (by kernel_rfl) (by kernel_rfl) Tryd.ntmps21 (by kernel_rfl) (by kernel_rfl) (by kernel_rfl) (by kernel_rfl) (fun E hb => ref01_Equal_b N hb)
end Go.Proofs.YtofajgidjkjnpaaDoor
namespace Go.Proofs.YtofajgidjkjnpaaDoor
open Go
set_option maxRecDepth 100000
set_option linter.unusedVariables false
/-! ipsecgate/ipsecgateref15.Same -/
abbrev ref15_Same_R : Type := ((Bool × Unit) × (Unit))
noncomputable def ref15_Same (N : Nat) (a_0 : ((List UInt8) × (UInt64 × (Int × (Int × (Bool × ((List UInt8) × Unit))))))) (b_1 : ((List UInt8) × (UInt64 × (Int × (Int × (Bool × ((List UInt8) × Unit))))))) : Option ref15_Same_R :=
  bif (decide (a_0.1 = b_1.1)) then
    bif (decide (a_0.2.1 = b_1.2.1)) then
      bif (decide (a_0.2.2.1 = b_1.2.2.1)) then
        bif (decide (a_0.2.2.2.1 = b_1.2.2.2.1)) then
          bif (decide (a_0.2.2.2.2.1 = b_1.2.2.2.2.1)) then
            Option.bind (ref01_Equal N a_0.2.2.2.2.2.1 b_1.2.2.2.2.2.1) fun y6 =>
            some ((y6.1.1, ()), (()))
          else
            some ((false, ()), (()))
        else
          some ((false, ()), (()))
      else
        some ((false, ()), (()))
    else
      some ((false, ()), (()))
  else
    some ((false, ()), (()))
noncomputable def ref15_Same_C (N : Nat) : Ctx := ⟨45, G_tys, [(21, ref01_Equal_ctr N)], G_globs⟩
noncomputable def ref15_Same_S0 : Spec := ⟨[.val (.pair .str (.pair .u64 (.pair .i64 (.pair .i64 (.pair .bool (.pair (.sl .u8) .unit)))))), .val (.pair .str (.pair .u64 (.pair .i64 (.pair .i64 (.pair .bool (.pair (.sl .u8) .unit))))))], []⟩
noncomputable def ref15_Same_S1 : Spec := ⟨[.val .bool], []⟩
noncomputable def ref15_Same_K (_N : Nat) : XE → GS → Option ref15_Same_R := retK 0 [4] [false] ref15_Same_S1
noncomputable def ref15_Same_L : List Code := (bodyOf (some Tryd.f52))
theorem ref15_Same_b {E : Env} (N : Nat) (hb : Base Tryd.prog (ref15_Same_C N) E 0) : Blk Tryd.prog (ref15_Same_C N) E (List.range ref15_Same_S0.ks.length) ref15_Same_S0 (ref15_Same_L.drop 0) (fun y => ref15_Same N y.1.1 y.1.2.1) (ref15_Same_K N) :=
  Blk.chunkAt hb 3 (X := (ref15_Same_K N .normal)) (NxOk.end (by kernel_rfl)) rfl (fun x => by kernel_rfl)
noncomputable def ref15_Same_ctr (N : Nat) : Ctr := ⟨ref15_Same_S0, ref15_Same_S1.un [false], 0, (fun y => ref15_Same N y.1.1 y.1.2.1)⟩
theorem ref15_Same_ctrs (N : Nat) : CtrsOk Tryd.prog (ref15_Same_C N) := ctrs_of (Γ := ref15_Same_C N) (by
  intro p hp
  simp only [ref15_Same_C, List.mem_cons, List.not_mem_nil, or_false] at hp
  rcases hp with rfl
  · exact ref01_Equal_ok N)
theorem ref15_Same_ok (N : Nat) : Ctr.ok Tryd.prog G_globs 52 (ref15_Same_ctr N) :=
  ctr_fn (Γ := ref15_Same_C N) (rfit := ref15_Same_S1) (bs := [false]) (res := [4]) (by kernel_rfl) (tys_ok G_tys_ok) (ref15_Same_ctrs N) Tryd.func52 (by kernel_rfl) (by kernel_rfl) Tryd.ntmps52 (by kernel_rfl) (by kernel_rfl) (by kernel_rfl) (by kernel_rfl) (fun E hb => ref15_Same_b N hb)
end Go.Proofs.YtofajgidjkjnpaaDoor
namespace Go.Proofs.YtofajgidjkjnpaaDoor
open Go
set_option maxRecDepth 100000
set_option linter.unusedVariables false
/-! ipsecgate/ipsecgateref15.SameAll -/
abbrev ref15_SameAll_R : Type := ((Bool × Unit) × (Unit))
noncomputable def ref15_SameAll_s2 (N : Nat) (a_0 : (List ((List UInt8) × (UInt64 × (Int × (Int × (Bool × ((List UInt8) × Unit)))))))) (b_1 : (List ((List UInt8) × (UInt64 × (Int × (Int × (Bool × ((List UInt8) × Unit)))))))) (i_5 : Int) : Option (Lo (((List ((List UInt8) × (UInt64 × (Int × (Int × (Bool × ((List UInt8) × Unit))))))) × (List ((List UInt8) × (UInt64 × (Int × (Int × (Bool × ((List UInt8) × Unit))))))) × Int × Unit) × (Unit)) ((Unit) × (Unit)) ref15_SameAll_R) :=
  bif (decide (i_5 < (a_0.length : Int))) then
    bif inR i_5 a_0.length then
    bif inR i_5 b_1.length then
    Option.bind (ref15_Same N (a_0.getD i_5.toNat (([] : List UInt8), (0 : UInt64), (0 : Int), (0 : Int), false, ([] : List UInt8), ())) (b_1.getD i_5.toNat (([] : List UInt8), (0 : UInt64), (0 : Int), (0 : Int), false, ([] : List UInt8), ()))) fun y8 =>
    bif (!y8.1.1) then
      some (.rt ((false, ()), (())))
    else
      some (.go ((a_0, b_1, (w64 (i_5 + (1 : Int))), ()), (())))
    else none
    else none
  else
    some (.br ((()), (())))
noncomputable def ref15_SameAll_3 (N : Nat) : Option ref15_SameAll_R :=
  some ((true, ()), (()))
noncomputable def ref15_SameAll_1 (N : Nat) (a_0 : (List ((List UInt8) × (UInt64 × (Int × (Int × (Bool × ((List UInt8) × Unit)))))))) (b_1 : (List ((List UInt8) × (UInt64 × (Int × (Int × (Bool × ((List UInt8) × Unit)))))))) (i_5 : Int) : Option ref15_SameAll_R :=
  loopK N (fun y => ref15_SameAll_s2 N y.1.1 y.1.2.1 y.1.2.2.1) (fun (e : ((Unit) × (Unit))) => ref15_SameAll_3 N) ((a_0, b_1, i_5, ()), (()))
noncomputable def ref15_SameAll (N : Nat) (a_0 : (List ((List UInt8) × (UInt64 × (Int × (Int × (Bool × ((List UInt8) × Unit)))))))) (b_1 : (List ((List UInt8) × (UInt64 × (Int × (Int × (Bool × ((List UInt8) × Unit)))))))) : Option ref15_SameAll_R :=
  bif (!(decide ((a_0.length : Int) = (b_1.length : Int)))) then
    some ((false, ()), (()))
  else
    ref15_SameAll_1 N a_0 b_1 (0 : Int)
noncomputable def ref15_SameAll_C (N : Nat) : Ctx := ⟨27, G_tys, [(52, ref15_Same_ctr N)], G_globs⟩
noncomputable def ref15_SameAll_S0 : Spec := ⟨[.val (.sl (.pair .str (.pair .u64 (.pair .i64 (.pair .i64 (.pair .bool (.pair (.sl .u8) .unit))))))), .val (.sl (.pair .str (.pair .u64 (.pair .i64 (.pair .i64 (.pair .bool (.pair (.sl .u8) .unit))))))), .val .i64], []⟩
noncomputable def ref15_SameAll_S1 : Spec := ⟨[], []⟩
noncomputable def ref15_SameAll_S2 : Spec := ⟨[.val (.sl (.pair .str (.pair .u64 (.pair .i64 (.pair .i64 (.pair .bool (.pair (.sl .u8) .unit))))))), .val (.sl (.pair .str (.pair .u64 (.pair .i64 (.pair .i64 (.pair .bool (.pair (.sl .u8) .unit)))))))], []⟩
noncomputable def ref15_SameAll_S3 : Spec := ⟨[.val .bool], []⟩
noncomputable def ref15_SameAll_K (_N : Nat) : XE → GS → Option ref15_SameAll_R := retK 0 [4] [false] ref15_SameAll_S3
noncomputable def ref15_SameAll_L : List Code := (bodyOf (some Tryd.f41))
noncomputable def ref15_SameAll_L2 : List Code := (loopOf (ref15_SameAll_L[4]?))
noncomputable def ref15_SameAll_K2 (N : Nat) : XE → GS → Option (Lo (((List ((List UInt8) × (UInt64 × (Int × (Int × (Bool × ((List UInt8) × Unit))))))) × (List ((List UInt8) × (UInt64 × (Int × (Int × (Bool × ((List UInt8) × Unit))))))) × Int × Unit) × (Unit)) ((Unit) × (Unit)) ref15_SameAll_R) := roundK (some 0) (fit 0 [0, 1, 5] ref15_SameAll_S0) (fit 0 [] ref15_SameAll_S1) (ref15_SameAll_K N)
theorem ref15_SameAll_s2_b {E : Env} (N : Nat) (hb : Base Tryd.prog (ref15_SameAll_C N) E 0) : Blk Tryd.prog (ref15_SameAll_C N) E [0, 1, 5] ref15_SameAll_S0 (ref15_SameAll_L2.drop 0) (fun y => ref15_SameAll_s2 N y.1.1 y.1.2.1 y.1.2.2.1) (ref15_SameAll_K2 N) :=
  Blk.chunkAt hb 4 (X := (ref15_SameAll_K2 N .normal)) (NxOk.end (by kernel_rfl)) rfl (fun x => by kernel_rfl)
theorem ref15_SameAll_3_b {E : Env} (N : Nat) (hb : Base Tryd.prog (ref15_SameAll_C N) E 0) : Blk Tryd.prog (ref15_SameAll_C N) E [] ref15_SameAll_S1 (ref15_SameAll_L.drop 5) (fun y => ref15_SameAll_3 N) (ref15_SameAll_K N) :=
  Blk.chunkAt hb 2 (X := (ref15_SameAll_K N .normal)) (NxOk.end (by kernel_rfl)) rfl (fun x => by kernel_rfl)
theorem ref15_SameAll_1_b {E : Env} (N : Nat) (hb : Base Tryd.prog (ref15_SameAll_C N) E 0) : Blk Tryd.prog (ref15_SameAll_C N) E [0, 1, 5] ref15_SameAll_S0 (ref15_SameAll_L.drop 4) (fun y => ref15_SameAll_1 N y.1.1 y.1.2.1 y.1.2.2.1) (ref15_SameAll_K N) :=
  Blk.loopAt (Nf := N) (hns := [0, 1, 5]) (ans := []) (hc := ref15_SameAll_S0) (ac := ref15_SameAll_S1) (bid := 0) (step := (fun y => ref15_SameAll_s2 N y.1.1 y.1.2.1 y.1.2.2.1)) (J := (fun e => (goK 0 [] ref15_SameAll_S1 (fun y => ref15_SameAll_3 N)) (ref15_SameAll_S1.st [] e))) hb (by kernel_rfl) (Blk.into (X := (goK 0 [] ref15_SameAll_S1 (fun y => ref15_SameAll_3 N))) (NxOk.go hb (ref15_SameAll_3_b N hb)) (fun x => by kernel_rfl)) (ref15_SameAll_s2_b N hb) (fun x => by kernel_rfl)
theorem ref15_SameAll_b {E : Env} (N : Nat) (hb : Base Tryd.prog (ref15_SameAll_C N) E 0) : Blk Tryd.prog (ref15_SameAll_C N) E (List.range ref15_SameAll_S2.ks.length) ref15_SameAll_S2 (ref15_SameAll_L.drop 0) (fun y => ref15_SameAll N y.1.1 y.1.2.1) (ref15_SameAll_K N) :=
  Blk.chunkAt hb 4 (X := (goK 0 [0, 1, 5] ref15_SameAll_S0 (fun y => ref15_SameAll_1 N y.1.1 y.1.2.1 y.1.2.2.1))) (NxOk.go hb (ref15_SameAll_1_b N hb)) rfl (fun x => by kernel_rfl)
noncomputable def ref15_SameAll_ctr (N : Nat) : Ctr := ⟨ref15_SameAll_S2, ref15_SameAll_S3.un [false], 0, (fun y => ref15_SameAll N y.1.1 y.1.2.1)⟩
theorem ref15_SameAll_ctrs (N : Nat) : CtrsOk Tryd.prog (ref15_SameAll_C N) := ctrs_of (Γ := ref15_SameAll_C N) (by
  intro p hp
  simp only [ref15_SameAll_C, List.mem_cons, List.not_mem_nil, or_false] at hp
  rcases hp with rfl
  · exact ref15_Same_ok N)
theorem ref15_SameAll_ok (N : Nat) : Ctr.ok Tryd.prog G_globs 41 (ref15_SameAll_ctr N) :=
  ctr_fn (Γ := ref15_SameAll_C N) (rfit := ref15_SameAll_S3) (bs := [false]) (res := [4]) (by kernel_rfl) (tys_ok G_tys_ok) (ref15_SameAll_ctrs N) Tryd.func41 (by kernel_rfl) (by kernel_rfl) Tryd.ntmps41 (by kernel_rfl) (by kernel_rfl) (by kernel_rfl) (by kernel_rfl) (fun E hb => ref15_SameAll_b N hb)
end Go.Proofs.YtofajgidjkjnpaaDoor
namespace Go.Proofs.YtofajgidjkjnpaaDoor
open Go
set_option maxRecDepth 100000
set_option linter.unusedVariables false
/-! ipsecgate/schnorr.Issue -/
abbrev schnorr_Issue_R : Type := ((((List UInt8) × (UInt64 × (Int × (Int × (Bool × ((List UInt8) × Unit)))))) × Int × Unit) × (Unit))
noncomputable def schnorr_Issue_1 (N : Nat) (e_7 : Int) (c_2 : ((List UInt8) × (UInt64 × (Int × (Int × (Bool × ((List UInt8) × Unit))))))) (t_4 : ((List UInt8) × (UInt64 × (Int × (Int × (Bool × ((List UInt8) × Unit))))))) : Option schnorr_Issue_R :=
  bif (!(decide (e_7 = (0 : Int)))) then
    some (((([] : List UInt8), (0 : UInt64), (0 : Int), (0 : Int), false, ([] : List UInt8), ()), e_7, ()), (()))
  else
    some ((c_2, (0 : Int), ()), (()))
noncomputable def schnorr_Issue (N : Nat) (c_0 : ((List UInt8) × (UInt64 × (Int × (Int × (Bool × ((List UInt8) × Unit))))))) (secret_1 : UInt64) : Option schnorr_Issue_R :=
  Option.bind (schnorr_Body N c_0) fun y1 =>
  bif (decide (y1.1.1 = (0 : Int))) then
    Option.bind (schnorr_Sign N secret_1 y1.2.1) fun y3 =>
    schnorr_Issue_1 N y3.1.1 (c_0.1, c_0.2.1, c_0.2.2.1, c_0.2.2.2.1, c_0.2.2.2.2.1, y3.2.1, ()) (([] : List UInt8), (0 : UInt64), (0 : Int), (0 : Int), false, ([] : List UInt8), ())
  else
    schnorr_Issue_1 N y1.1.1 c_0 (([] : List UInt8), (0 : UInt64), (0 : Int), (0 : Int), false, ([] : List UInt8), ())
noncomputable def schnorr_Issue_C (N : Nat) : Ctx := ⟨27, G_tys, [(50, schnorr_Body_ctr N), (20, schnorr_Sign_ctr N)], G_globs⟩
noncomputable def schnorr_Issue_S0 : Spec := ⟨[.ref 0 (.pair .str (.pair .u64 (.pair .i64 (.pair .i64 (.pair .bool (.pair (.sl .u8) .unit)))))), .ref 1 (.pair .str (.pair .u64 (.pair .i64 (.pair .i64 (.pair .bool (.pair (.sl .u8) .unit)))))), .val .i64], [(.box 66 (.pair .str (.pair .u64 (.pair .i64 (.pair .i64 (.pair .bool (.pair (.sl .u8) .unit)))))), .pos 0), (.box 66 (.pair .str (.pair .u64 (.pair .i64 (.pair .i64 (.pair .bool (.pair (.sl .u8) .unit)))))), .pos 1)]⟩
noncomputable def schnorr_Issue_S1 : Spec := ⟨[.val (.pair .str (.pair .u64 (.pair .i64 (.pair .i64 (.pair .bool (.pair (.sl .u8) .unit)))))), .val .u64], []⟩
noncomputable def schnorr_Issue_S2 : Spec := ⟨[.fp (.pair .str (.pair .u64 (.pair .i64 (.pair .i64 (.pair .bool (.pair (.sl .u8) .unit)))))), .val .i64], []⟩
noncomputable def schnorr_Issue_K (_N : Nat) : XE → GS → Option schnorr_Issue_R := retK 0 [4, 5] [true, false] schnorr_Issue_S2
noncomputable def schnorr_Issue_L : List Code := (bodyOf (some Tryd.f48))
theorem schnorr_Issue_1_b {E : Env} (N : Nat) (hb : Base Tryd.prog (schnorr_Issue_C N) E 0) : Blk Tryd.prog (schnorr_Issue_C N) E [2, 4, 7] schnorr_Issue_S0 (schnorr_Issue_L.drop 4) (fun y => schnorr_Issue_1 N y.1.1 y.2.1 y.2.2.1) (schnorr_Issue_K N) :=
  Blk.chunkAt hb 4 (X := (schnorr_Issue_K N .normal)) (NxOk.end (by kernel_rfl)) rfl (fun x => by kernel_rfl)
theorem schnorr_Issue_b {E : Env} (N : Nat) (hb : Base Tryd.prog (schnorr_Issue_C N) E 0) : Blk Tryd.prog (schnorr_Issue_C N) E (List.range schnorr_Issue_S1.ks.length) schnorr_Issue_S1 (schnorr_Issue_L.drop 0) (fun y => schnorr_Issue N y.1.1 y.1.2.1) (schnorr_Issue_K N) :=
  Blk.chunkAt hb 4 (X := (goK 0 [2, 4, 7] schnorr_Issue_S0 (fun y => schnorr_Issue_1 N y.1.1 y.2.1 y.2.2.1))) (NxOk.go hb (schnorr_Issue_1_b N hb)) rfl (fun x => by kernel_rfl)
noncomputable def schnorr_Issue_ctr (N : Nat) : Ctr := ⟨schnorr_Issue_S1, schnorr_Issue_S2.un [true, false], 0, (fun y => schnorr_Issue N y.1.1 y.1.2.1)⟩
theorem schnorr_Issue_ctrs (N : Nat) : CtrsOk Tryd.prog (schnorr_Issue_C N) := ctrs_of (Γ := schnorr_Issue_C N) (by
  intro p hp
  simp only [schnorr_Issue_C, List.mem_cons, List.not_mem_nil, or_false] at hp
  rcases hp with rfl | rfl
  · exact schnorr_Body_ok N
  · exact schnorr_Sign_ok N)
theorem schnorr_Issue_ok (N : Nat) : Ctr.ok Tryd.prog G_globs 48 (schnorr_Issue_ctr N) :=
  ctr_fn (Γ := schnorr_Issue_C N) (rfit := schnorr_Issue_S2) (bs := [true, false]) (res := [4, 5]) (by kernel_rfl) (tys_ok G_tys_ok) (schnorr_Issue_ctrs N) Tryd.func48 (by kernel_rfl) (by kernel_rfl) Tryd.ntmps48 (by kernel_rfl) (by kernel_rfl) (by kernel_rfl) (by kernel_rfl) (fun E hb => schnorr_Issue_b N hb)
end Go.Proofs.YtofajgidjkjnpaaDoor
namespace Go.Proofs.YtofajgidjkjnpaaDoor
open Go
set_option maxRecDepth 100000
set_option linter.unusedVariables false
/-! ipsecgate/ipsecgatelaw15.SchnorrChains -/
abbrev law15_SchnorrChains_R : Type := ((Bool × Unit) × (Unit))
noncomputable def law15_SchnorrChains_s7 (N : Nat) (raw_2 : (List UInt8)) (secret_8 : UInt64) (y_10 : UInt64) (t_12 : Int) (x_14 : (List ((List UInt8) × (UInt64 × (Int × (Int × (Bool × ((List UInt8) × Unit)))))))) (t_65 : Int) (t_66 : Int) (t_78 : Int) (t_79 : Int) (c_7 : ((List UInt8) × (Int × Unit))) (t_64 : (List (List ((List UInt8) × (UInt64 × (Int × (Int × (Bool × ((List UInt8) × Unit))))))))) (t_77 : (List UInt64)) : Option (Lo (((List UInt8) × UInt64 × UInt64 × Int × (List ((List UInt8) × (UInt64 × (Int × (Int × (Bool × ((List UInt8) × Unit))))))) × Int × Int × Int × Int × Unit) × (((List UInt8) × (Int × Unit)) × (List (List ((List UInt8) × (UInt64 × (Int × (Int × (Bool × ((List UInt8) × Unit)))))))) × (List UInt64) × Unit)) (((List UInt8) × UInt64 × UInt64 × Int × (List ((List UInt8) × (UInt64 × (Int × (Int × (Bool × ((List UInt8) × Unit))))))) × Int × Int × Unit) × (((List UInt8) × (Int × Unit)) × (List (List ((List UInt8) × (UInt64 × (Int × (Int × (Bool × ((List UInt8) × Unit)))))))) × Unit)) (Lo (((List UInt8) × UInt64 × UInt64 × Int × Int × Int × Unit) × (((List UInt8) × (Int × Unit)) × (List (List ((List UInt8) × (UInt64 × (Int × (Int × (Bool × ((List UInt8) × Unit)))))))) × Unit)) ((Unit) × (Unit)) law15_SchnorrChains_R)) :=
  bif (decide (t_79 < t_78)) then
    bif inR t_79 t_77.length then
    let x17 := (t_77.getD t_79.toNat (0 : UInt64))
    Option.bind (schnorr_Chain N x_14 x17 t_12) fun y18 =>
    Option.bind (ref15_Chain N x_14 x17 t_12) fun y19 =>
    bif (!(decide (y18.1.1 = y19.1.1))) then
      some (.rt (.rt ((false, ()), (()))))
    else
      bif (!(decide (y18.1.2.1 = y19.1.2.1))) then
        some (.rt (.rt ((false, ()), (()))))
      else
        bif (!(decide (y18.1.2.2.1 = y19.1.2.2.1))) then
          some (.rt (.rt ((false, ()), (()))))
        else
          some (.go ((raw_2, secret_8, y_10, t_12, x_14, t_65, t_66, t_78, (w64 (t_79 + (1 : Int))), ()), (c_7, t_64, t_77, ())))
    else none
  else
    some (.br ((raw_2, secret_8, y_10, t_12, x_14, t_65, t_66, ()), (c_7, t_64, ())))
noncomputable def law15_SchnorrChains_s11 (N : Nat) (raw_2 : (List UInt8)) (secret_8 : UInt64) (y_10 : UInt64) (t_12 : Int) (x_14 : (List ((List UInt8) × (UInt64 × (Int × (Int × (Bool × ((List UInt8) × Unit)))))))) (t_65 : Int) (t_66 : Int) (t_138 : Int) (t_139 : Int) (c_7 : ((List UInt8) × (Int × Unit))) (t_64 : (List (List ((List UInt8) × (UInt64 × (Int × (Int × (Bool × ((List UInt8) × Unit))))))))) (t_137 : (List (List UInt8))) : Option (Lo (((List UInt8) × UInt64 × UInt64 × Int × (List ((List UInt8) × (UInt64 × (Int × (Int × (Bool × ((List UInt8) × Unit))))))) × Int × Int × Int × Int × Unit) × (((List UInt8) × (Int × Unit)) × (List (List ((List UInt8) × (UInt64 × (Int × (Int × (Bool × ((List UInt8) × Unit)))))))) × (List (List UInt8)) × Unit)) (((List UInt8) × UInt64 × UInt64 × Int × (List ((List UInt8) × (UInt64 × (Int × (Int × (Bool × ((List UInt8) × Unit))))))) × Int × Int × Unit) × (((List UInt8) × (Int × Unit)) × (List (List ((List UInt8) × (UInt64 × (Int × (Int × (Bool × ((List UInt8) × Unit)))))))) × Unit)) (Lo (((List UInt8) × UInt64 × UInt64 × Int × Int × Int × Unit) × (((List UInt8) × (Int × Unit)) × (List (List ((List UInt8) × (UInt64 × (Int × (Int × (Bool × ((List UInt8) × Unit)))))))) × Unit)) ((Unit) × (Unit)) law15_SchnorrChains_R)) :=
  bif (decide (t_139 < t_138)) then
    bif inR t_139 t_137.length then
    let x30 := (t_137.getD t_139.toNat ([] : List UInt8))
    Option.bind (schnorr_Decode N x30) fun y31 =>
    Option.bind (ref15_Decode N x30) fun y32 =>
    bif (!(decide (y31.1.1 = y32.1.1))) then
      some (.rt (.rt ((false, ()), (()))))
    else
      Option.bind (ref15_SameAll N y31.2.1 y32.2.1) fun y34 =>
      bif (!y34.1.1) then
        some (.rt (.rt ((false, ()), (()))))
      else
        some (.go ((raw_2, secret_8, y_10, t_12, x_14, t_65, t_66, t_138, (w64 (t_139 + (1 : Int))), ()), (c_7, t_64, t_137, ())))
    else none
  else
    some (.br ((raw_2, secret_8, y_10, t_12, x_14, t_65, t_66, ()), (c_7, t_64, ())))
noncomputable def law15_SchnorrChains_13 (N : Nat) (raw_2 : (List UInt8)) (secret_8 : UInt64) (y_10 : UInt64) (t_12 : Int) (t_65 : Int) (t_66 : Int) (c_7 : ((List UInt8) × (Int × Unit))) (t_64 : (List (List ((List UInt8) × (UInt64 × (Int × (Int × (Bool × ((List UInt8) × Unit))))))))) : Option (Lo (((List UInt8) × UInt64 × UInt64 × Int × Int × Int × Unit) × (((List UInt8) × (Int × Unit)) × (List (List ((List UInt8) × (UInt64 × (Int × (Int × (Bool × ((List UInt8) × Unit)))))))) × Unit)) ((Unit) × (Unit)) law15_SchnorrChains_R) :=
  some (.go ((raw_2, secret_8, y_10, t_12, t_65, (w64 (t_66 + (1 : Int))), ()), (c_7, t_64, ())))
noncomputable def law15_SchnorrChains_12 (N : Nat) (raw_2 : (List UInt8)) (secret_8 : UInt64) (y_10 : UInt64) (t_12 : Int) (x_14 : (List ((List UInt8) × (UInt64 × (Int × (Int × (Bool × ((List UInt8) × Unit)))))))) (t_65 : Int) (t_66 : Int) (c_7 : ((List UInt8) × (Int × Unit))) (t_64 : (List (List ((List UInt8) × (UInt64 × (Int × (Int × (Bool × ((List UInt8) × Unit))))))))) : Option (Lo (((List UInt8) × UInt64 × UInt64 × Int × Int × Int × Unit) × (((List UInt8) × (Int × Unit)) × (List (List ((List UInt8) × (UInt64 × (Int × (Int × (Bool × ((List UInt8) × Unit)))))))) × Unit)) ((Unit) × (Unit)) law15_SchnorrChains_R) :=
  bif inR (0 : Int) x_14.length then
  Option.bind (schnorr_Issue N (x_14.getD 0 (([] : List UInt8), (0 : UInt64), (0 : Int), (0 : Int), false, ([] : List UInt8), ())) secret_8) fun y38 =>
  bif inR (0 : Int) x_14.length then
  Option.bind (ref15_Issue N (x_14.getD 0 (([] : List UInt8), (0 : UInt64), (0 : Int), (0 : Int), false, ([] : List UInt8), ())) secret_8) fun y40 =>
  bif inR (0 : Int) x_14.length then
  Option.bind (schnorr_Body N (x_14.getD 0 (([] : List UInt8), (0 : UInt64), (0 : Int), (0 : Int), false, ([] : List UInt8), ()))) fun y42 =>
  bif inR (0 : Int) x_14.length then
  Option.bind (ref15_Body N (x_14.getD 0 (([] : List UInt8), (0 : UInt64), (0 : Int), (0 : Int), false, ([] : List UInt8), ()))) fun y44 =>
  bif (!(decide (y38.1.2.1 = y40.1.2.1))) then
    some (.rt ((false, ()), (())))
  else
    bif (!(decide (y42.1.1 = y44.1.1))) then
      some (.rt ((false, ()), (())))
    else
      Option.bind (ref15_Same N y38.1.1 y40.1.1) fun y47 =>
      bif (!y47.1.1) then
        some (.rt ((false, ()), (())))
      else
        Option.bind (ref01_Equal N y42.2.1 y44.2.1) fun y49 =>
        bif (!y49.1.1) then
          some (.rt ((false, ()), (())))
        else
          law15_SchnorrChains_13 N raw_2 secret_8 y_10 t_12 t_65 t_66 c_7 t_64
  else none
  else none
  else none
  else none
noncomputable def law15_SchnorrChains_10 (N : Nat) (raw_2 : (List UInt8)) (secret_8 : UInt64) (y_10 : UInt64) (t_12 : Int) (x_14 : (List ((List UInt8) × (UInt64 × (Int × (Int × (Bool × ((List UInt8) × Unit)))))))) (t_65 : Int) (t_66 : Int) (t_138 : Int) (t_139 : Int) (c_7 : ((List UInt8) × (Int × Unit))) (t_64 : (List (List ((List UInt8) × (UInt64 × (Int × (Int × (Bool × ((List UInt8) × Unit))))))))) (t_137 : (List (List UInt8))) : Option (Lo (((List UInt8) × UInt64 × UInt64 × Int × Int × Int × Unit) × (((List UInt8) × (Int × Unit)) × (List (List ((List UInt8) × (UInt64 × (Int × (Int × (Bool × ((List UInt8) × Unit)))))))) × Unit)) ((Unit) × (Unit)) law15_SchnorrChains_R) :=
  loopK N (fun y => law15_SchnorrChains_s11 N y.1.1 y.1.2.1 y.1.2.2.1 y.1.2.2.2.1 y.1.2.2.2.2.1 y.1.2.2.2.2.2.1 y.1.2.2.2.2.2.2.1 y.1.2.2.2.2.2.2.2.1 y.1.2.2.2.2.2.2.2.2.1 y.2.1 y.2.2.1 y.2.2.2.1) (fun (e : (((List UInt8) × UInt64 × UInt64 × Int × (List ((List UInt8) × (UInt64 × (Int × (Int × (Bool × ((List UInt8) × Unit))))))) × Int × Int × Unit) × (((List UInt8) × (Int × Unit)) × (List (List ((List UInt8) × (UInt64 × (Int × (Int × (Bool × ((List UInt8) × Unit)))))))) × Unit))) => law15_SchnorrChains_12 N e.1.1 e.1.2.1 e.1.2.2.1 e.1.2.2.2.1 e.1.2.2.2.2.1 e.1.2.2.2.2.2.1 e.1.2.2.2.2.2.2.1 e.2.1 e.2.2.1) ((raw_2, secret_8, y_10, t_12, x_14, t_65, t_66, t_138, t_139, ()), (c_7, t_64, t_137, ()))
noncomputable def law15_SchnorrChains_9 (N : Nat) (raw_2 : (List UInt8)) (secret_8 : UInt64) (y_10 : UInt64) (t_12 : Int) (x_14 : (List ((List UInt8) × (UInt64 × (Int × (Int × (Bool × ((List UInt8) × Unit)))))))) (t_65 : Int) (t_66 : Int) (t_131 : Bool) (c_7 : ((List UInt8) × (Int × Unit))) (w_25 : (List UInt8)) (t_64 : (List (List ((List UInt8) × (UInt64 × (Int × (Int × (Bool × ((List UInt8) × Unit))))))))) : Option (Lo (((List UInt8) × UInt64 × UInt64 × Int × Int × Int × Unit) × (((List UInt8) × (Int × Unit)) × (List (List ((List UInt8) × (UInt64 × (Int × (Int × (Bool × ((List UInt8) × Unit)))))))) × Unit)) ((Unit) × (Unit)) law15_SchnorrChains_R) :=
  bif t_131 then
    some (.rt ((false, ()), (())))
  else
    Option.bind (make_Codes_Change N w_25 c_7) fun y27 =>
    law15_SchnorrChains_10 N raw_2 secret_8 y_10 t_12 x_14 t_65 t_66 (([raw_2, w_25, y27.1.1] : List (List UInt8)).length : Int) (0 : Int) y27.2.1 t_64 ([raw_2, w_25, y27.1.1] : List (List UInt8))
noncomputable def law15_SchnorrChains_8 (N : Nat) (raw_2 : (List UInt8)) (secret_8 : UInt64) (y_10 : UInt64) (t_12 : Int) (x_14 : (List ((List UInt8) × (UInt64 × (Int × (Int × (Bool × ((List UInt8) × Unit)))))))) (t_65 : Int) (t_66 : Int) (c_7 : ((List UInt8) × (Int × Unit))) (t_64 : (List (List ((List UInt8) × (UInt64 × (Int × (Int × (Bool × ((List UInt8) × Unit))))))))) : Option (Lo (((List UInt8) × UInt64 × UInt64 × Int × Int × Int × Unit) × (((List UInt8) × (Int × Unit)) × (List (List ((List UInt8) × (UInt64 × (Int × (Int × (Bool × ((List UInt8) × Unit)))))))) × Unit)) ((Unit) × (Unit)) law15_SchnorrChains_R) :=
  Option.bind (schnorr_Encode N x_14) fun y24 =>
  Option.bind (ref15_Encode N x_14) fun y25 =>
  bif (!(decide (y24.1.1 = y25.1.1))) then
    law15_SchnorrChains_9 N raw_2 secret_8 y_10 t_12 x_14 t_65 t_66 true c_7 y25.2.1 t_64
  else
    Option.bind (ref01_Equal N y24.2.1 y25.2.1) fun y52 =>
    law15_SchnorrChains_9 N raw_2 secret_8 y_10 t_12 x_14 t_65 t_66 (!y52.1.1) c_7 y25.2.1 t_64
noncomputable def law15_SchnorrChains_6 (N : Nat) (raw_2 : (List UInt8)) (secret_8 : UInt64) (y_10 : UInt64) (t_12 : Int) (x_14 : (List ((List UInt8) × (UInt64 × (Int × (Int × (Bool × ((List UInt8) × Unit)))))))) (t_65 : Int) (t_66 : Int) (t_78 : Int) (t_79 : Int) (c_7 : ((List UInt8) × (Int × Unit))) (t_64 : (List (List ((List UInt8) × (UInt64 × (Int × (Int × (Bool × ((List UInt8) × Unit))))))))) (t_77 : (List UInt64)) : Option (Lo (((List UInt8) × UInt64 × UInt64 × Int × Int × Int × Unit) × (((List UInt8) × (Int × Unit)) × (List (List ((List UInt8) × (UInt64 × (Int × (Int × (Bool × ((List UInt8) × Unit)))))))) × Unit)) ((Unit) × (Unit)) law15_SchnorrChains_R) :=
  loopK N (fun y => law15_SchnorrChains_s7 N y.1.1 y.1.2.1 y.1.2.2.1 y.1.2.2.2.1 y.1.2.2.2.2.1 y.1.2.2.2.2.2.1 y.1.2.2.2.2.2.2.1 y.1.2.2.2.2.2.2.2.1 y.1.2.2.2.2.2.2.2.2.1 y.2.1 y.2.2.1 y.2.2.2.1) (fun (e : (((List UInt8) × UInt64 × UInt64 × Int × (List ((List UInt8) × (UInt64 × (Int × (Int × (Bool × ((List UInt8) × Unit))))))) × Int × Int × Unit) × (((List UInt8) × (Int × Unit)) × (List (List ((List UInt8) × (UInt64 × (Int × (Int × (Bool × ((List UInt8) × Unit)))))))) × Unit))) => law15_SchnorrChains_8 N e.1.1 e.1.2.1 e.1.2.2.1 e.1.2.2.2.1 e.1.2.2.2.2.1 e.1.2.2.2.2.2.1 e.1.2.2.2.2.2.2.1 e.2.1 e.2.2.1) ((raw_2, secret_8, y_10, t_12, x_14, t_65, t_66, t_78, t_79, ()), (c_7, t_64, t_77, ()))
noncomputable def law15_SchnorrChains_5 (N : Nat) (raw_2 : (List UInt8)) (secret_8 : UInt64) (y_10 : UInt64) (t_12 : Int) (t_65 : Int) (t_66 : Int) (c_7 : ((List UInt8) × (Int × Unit))) (t_64 : (List (List ((List UInt8) × (UInt64 × (Int × (Int × (Bool × ((List UInt8) × Unit))))))))) : Option (Lo (((List UInt8) × UInt64 × UInt64 × Int × Int × Int × Unit) × (((List UInt8) × (Int × Unit)) × (List (List ((List UInt8) × (UInt64 × (Int × (Int × (Bool × ((List UInt8) × Unit)))))))) × Unit)) ((Unit) × (Unit)) law15_SchnorrChains_R) :=
  bif inR t_66 t_64.length then
  let x12 := (t_64.getD t_66.toNat ([] : List ((List UInt8) × (UInt64 × (Int × (Int × (Bool × ((List UInt8) × Unit))))))))
  bif inR (0 : Int) x12.length then
  let x13 := x12.getD 0 (([] : List UInt8), (0 : UInt64), (0 : Int), (0 : Int), false, ([] : List UInt8), ())
  Option.bind (make_Codes_Word N c_7) fun y14 =>
  law15_SchnorrChains_6 N raw_2 secret_8 y_10 t_12 x12 t_65 t_66 (([y_10, x13.2.1, y14.1.1] : List UInt64).length : Int) (0 : Int) y14.2.1 t_64 ([y_10, x13.2.1, y14.1.1] : List UInt64)
  else none
  else none
noncomputable def law15_SchnorrChains_3 (N : Nat) (raw_2 : (List UInt8)) (secret_8 : UInt64) (y_10 : UInt64) (t_12 : Int) (t_65 : Int) (t_66 : Int) (c_7 : ((List UInt8) × (Int × Unit))) (t_64 : (List (List ((List UInt8) × (UInt64 × (Int × (Int × (Bool × ((List UInt8) × Unit))))))))) : Option (Lo (((List UInt8) × UInt64 × UInt64 × Int × Int × Int × Unit) × (((List UInt8) × (Int × Unit)) × (List (List ((List UInt8) × (UInt64 × (Int × (Int × (Bool × ((List UInt8) × Unit)))))))) × Unit)) ((Unit) × (Unit)) law15_SchnorrChains_R) :=
  law15_SchnorrChains_5 N raw_2 secret_8 y_10 t_12 t_65 t_66 c_7 t_64
noncomputable def law15_SchnorrChains_s2 (N : Nat) (raw_2 : (List UInt8)) (secret_8 : UInt64) (y_10 : UInt64) (t_12 : Int) (t_65 : Int) (t_66 : Int) (c_7 : ((List UInt8) × (Int × Unit))) (t_64 : (List (List ((List UInt8) × (UInt64 × (Int × (Int × (Bool × ((List UInt8) × Unit))))))))) : Option (Lo (((List UInt8) × UInt64 × UInt64 × Int × Int × Int × Unit) × (((List UInt8) × (Int × Unit)) × (List (List ((List UInt8) × (UInt64 × (Int × (Int × (Bool × ((List UInt8) × Unit)))))))) × Unit)) ((Unit) × (Unit)) law15_SchnorrChains_R) :=
  bif (decide (t_66 < t_65)) then
    law15_SchnorrChains_3 N raw_2 secret_8 y_10 t_12 t_65 t_66 c_7 t_64
  else
    some (.br ((()), (())))
noncomputable def law15_SchnorrChains_14 (N : Nat) : Option law15_SchnorrChains_R :=
  some ((true, ()), (()))
noncomputable def law15_SchnorrChains_1 (N : Nat) (raw_2 : (List UInt8)) (secret_8 : UInt64) (y_10 : UInt64) (t_12 : Int) (t_65 : Int) (t_66 : Int) (c_7 : ((List UInt8) × (Int × Unit))) (t_64 : (List (List ((List UInt8) × (UInt64 × (Int × (Int × (Bool × ((List UInt8) × Unit))))))))) : Option law15_SchnorrChains_R :=
  loopK N (fun y => law15_SchnorrChains_s2 N y.1.1 y.1.2.1 y.1.2.2.1 y.1.2.2.2.1 y.1.2.2.2.2.1 y.1.2.2.2.2.2.1 y.2.1 y.2.2.1) (fun (e : ((Unit) × (Unit))) => law15_SchnorrChains_14 N) ((raw_2, secret_8, y_10, t_12, t_65, t_66, ()), (c_7, t_64, ()))
noncomputable def law15_SchnorrChains (N : Nat) (codes_0 : (List UInt8)) (now_1 : Int) (raw_2 : (List UInt8)) : Option law15_SchnorrChains_R :=
  Option.bind (law15_awake N) fun y1 =>
  bif (!y1.1.1) then
    some ((false, ()), (()))
  else
    Option.bind (make_New N codes_0 (160 : Int)) fun y3 =>
    Option.bind (law15_draw N y3.2.1) fun y4 =>
    Option.bind (ref13_Public N y4.1.1) fun y5 =>
    Option.bind (make_Mod N now_1 (90 : Int)) fun y6 =>
    Option.bind (law15_spoil N y4.2.2.1 y4.2.1) fun y7 =>
    Option.bind (law15_spoil N y4.2.2.1 y7.2.1) fun y8 =>
    Option.bind (law15_spoil N y8.2.2.1 y8.2.1) fun y9 =>
    law15_SchnorrChains_1 N raw_2 y4.1.1 y5.1.1 y6.1.1 (([y4.2.2.1, y7.2.2.1, y9.2.2.1] : List (List ((List UInt8) × (UInt64 × (Int × (Int × (Bool × ((List UInt8) × Unit)))))))).length : Int) (0 : Int) y9.2.1 ([y4.2.2.1, y7.2.2.1, y9.2.2.1] : List (List ((List UInt8) × (UInt64 × (Int × (Int × (Bool × ((List UInt8) × Unit))))))))
noncomputable def law15_SchnorrChains_C (N : Nat) : Ctx := ⟨214, G_tys, [(15, law15_awake_ctr N), (16, make_New_ctr N), (37, law15_draw_ctr N), (18, ref13_Public_ctr N), (42, make_Mod_ctr N), (43, law15_spoil_ctr N), (44, make_Codes_Word_ctr N), (38, schnorr_Chain_ctr N), (45, ref15_Chain_ctr N), (39, schnorr_Encode_ctr N), (46, ref15_Encode_ctr N), (22, make_Codes_Change_ctr N), (40, schnorr_Decode_ctr N), (47, ref15_Decode_ctr N), (41, ref15_SameAll_ctr N), (48, schnorr_Issue_ctr N), (49, ref15_Issue_ctr N), (50, schnorr_Body_ctr N), (51, ref15_Body_ctr N), (52, ref15_Same_ctr N), (21, ref01_Equal_ctr N)], G_globs⟩
noncomputable def law15_SchnorrChains_S0 : Spec := ⟨[.val (.sl .u8), .ref 0 (.pair (.sl .u8) (.pair .i64 .unit)), .val .u64, .val .u64, .val .i64, .val (.sl (.pair .str (.pair .u64 (.pair .i64 (.pair .i64 (.pair .bool (.pair (.sl .u8) .unit))))))), .row 1, .val .i64, .val .i64, .row 2, .val .i64, .val .i64], [(.box 122 (.pair (.sl .u8) (.pair .i64 .unit)), .pos 1), (.row 57 (.sl (.pair .str (.pair .u64 (.pair .i64 (.pair .i64 (.pair .bool (.pair (.sl .u8) .unit))))))), .pos 6), (.row 23 .u64, .pos 9)]⟩
noncomputable def law15_SchnorrChains_S1 : Spec := ⟨[.val (.sl .u8), .ref 0 (.pair (.sl .u8) (.pair .i64 .unit)), .val .u64, .val .u64, .val .i64, .val (.sl (.pair .str (.pair .u64 (.pair .i64 (.pair .i64 (.pair .bool (.pair (.sl .u8) .unit))))))), .row 1, .val .i64, .val .i64, .row 2, .val .i64, .val .i64], [(.box 122 (.pair (.sl .u8) (.pair .i64 .unit)), .pos 1), (.row 57 (.sl (.pair .str (.pair .u64 (.pair .i64 (.pair .i64 (.pair .bool (.pair (.sl .u8) .unit))))))), .pos 6), (.row 22 (.sl .u8), .pos 9)]⟩
noncomputable def law15_SchnorrChains_S2 : Spec := ⟨[.val (.sl .u8), .ref 0 (.pair (.sl .u8) (.pair .i64 .unit)), .val .u64, .val .u64, .val .i64, .row 1, .val .i64, .val .i64], [(.box 122 (.pair (.sl .u8) (.pair .i64 .unit)), .pos 1), (.row 57 (.sl (.pair .str (.pair .u64 (.pair .i64 (.pair .i64 (.pair .bool (.pair (.sl .u8) .unit))))))), .pos 5)]⟩
noncomputable def law15_SchnorrChains_S3 : Spec := ⟨[.val (.sl .u8), .ref 0 (.pair (.sl .u8) (.pair .i64 .unit)), .val .u64, .val .u64, .val .i64, .val (.sl (.pair .str (.pair .u64 (.pair .i64 (.pair .i64 (.pair .bool (.pair (.sl .u8) .unit))))))), .row 1, .val .i64, .val .i64], [(.box 122 (.pair (.sl .u8) (.pair .i64 .unit)), .pos 1), (.row 57 (.sl (.pair .str (.pair .u64 (.pair .i64 (.pair .i64 (.pair .bool (.pair (.sl .u8) .unit))))))), .pos 6)]⟩
noncomputable def law15_SchnorrChains_S4 : Spec := ⟨[.val (.sl .u8), .ref 0 (.pair (.sl .u8) (.pair .i64 .unit)), .val .u64, .val .u64, .val .i64, .val (.sl (.pair .str (.pair .u64 (.pair .i64 (.pair .i64 (.pair .bool (.pair (.sl .u8) .unit))))))), .row 1, .row 2, .val .i64, .val .i64, .val .bool], [(.box 122 (.pair (.sl .u8) (.pair .i64 .unit)), .pos 1), (.row 5 .u8, .pos 6), (.row 57 (.sl (.pair .str (.pair .u64 (.pair .i64 (.pair .i64 (.pair .bool (.pair (.sl .u8) .unit))))))), .pos 7)]⟩
noncomputable def law15_SchnorrChains_S5 : Spec := ⟨[], []⟩
noncomputable def law15_SchnorrChains_S6 : Spec := ⟨[.val (.sl .u8), .val .i64, .val (.sl .u8)], []⟩
noncomputable def law15_SchnorrChains_S7 : Spec := ⟨[.val .bool], []⟩
noncomputable def law15_SchnorrChains_K (_N : Nat) : XE → GS → Option law15_SchnorrChains_R := retK 0 [6] [false] law15_SchnorrChains_S7
noncomputable def law15_SchnorrChains_L : List Code := (bodyOf (some Tryd.f8))
noncomputable def law15_SchnorrChains_L2 : List Code := (loopOf (law15_SchnorrChains_L[8]?))
noncomputable def law15_SchnorrChains_L4b : List Code := (blockOf (law15_SchnorrChains_L2[2]?))
noncomputable def law15_SchnorrChains_L7 : List Code := (loopOf (law15_SchnorrChains_L4b[2]?))
noncomputable def law15_SchnorrChains_L11 : List Code := (loopOf (law15_SchnorrChains_L4b[8]?))
noncomputable def law15_SchnorrChains_K2 (N : Nat) : XE → GS → Option (Lo (((List UInt8) × UInt64 × UInt64 × Int × Int × Int × Unit) × (((List UInt8) × (Int × Unit)) × (List (List ((List UInt8) × (UInt64 × (Int × (Int × (Bool × ((List UInt8) × Unit)))))))) × Unit)) ((Unit) × (Unit)) law15_SchnorrChains_R) := roundK (some 0) (fit 0 [2, 7, 8, 10, 12, 64, 65, 66] law15_SchnorrChains_S2) (fit 0 [] law15_SchnorrChains_S5) (law15_SchnorrChains_K N)
noncomputable def law15_SchnorrChains_K4 (N : Nat) : XE → GS → Option (Lo (((List UInt8) × UInt64 × UInt64 × Int × Int × Int × Unit) × (((List UInt8) × (Int × Unit)) × (List (List ((List UInt8) × (UInt64 × (Int × (Int × (Bool × ((List UInt8) × Unit)))))))) × Unit)) ((Unit) × (Unit)) law15_SchnorrChains_R) := blockK 1 (goK 0 [2, 7, 8, 10, 12, 64, 65, 66] law15_SchnorrChains_S2 (fun y => law15_SchnorrChains_13 N y.1.1 y.1.2.1 y.1.2.2.1 y.1.2.2.2.1 y.1.2.2.2.2.1 y.1.2.2.2.2.2.1 y.2.1 y.2.2.1)) (law15_SchnorrChains_K2 N)
noncomputable def law15_SchnorrChains_K7 (N : Nat) : XE → GS → Option (Lo (((List UInt8) × UInt64 × UInt64 × Int × (List ((List UInt8) × (UInt64 × (Int × (Int × (Bool × ((List UInt8) × Unit))))))) × Int × Int × Int × Int × Unit) × (((List UInt8) × (Int × Unit)) × (List (List ((List UInt8) × (UInt64 × (Int × (Int × (Bool × ((List UInt8) × Unit)))))))) × (List UInt64) × Unit)) (((List UInt8) × UInt64 × UInt64 × Int × (List ((List UInt8) × (UInt64 × (Int × (Int × (Bool × ((List UInt8) × Unit))))))) × Int × Int × Unit) × (((List UInt8) × (Int × Unit)) × (List (List ((List UInt8) × (UInt64 × (Int × (Int × (Bool × ((List UInt8) × Unit)))))))) × Unit)) (Lo (((List UInt8) × UInt64 × UInt64 × Int × Int × Int × Unit) × (((List UInt8) × (Int × Unit)) × (List (List ((List UInt8) × (UInt64 × (Int × (Int × (Bool × ((List UInt8) × Unit)))))))) × Unit)) ((Unit) × (Unit)) law15_SchnorrChains_R)) := roundK (some 2) (fit 0 [2, 7, 8, 10, 12, 14, 64, 65, 66, 77, 78, 79] law15_SchnorrChains_S0) (fit 0 [2, 7, 8, 10, 12, 14, 64, 65, 66] law15_SchnorrChains_S3) (law15_SchnorrChains_K4 N)
noncomputable def law15_SchnorrChains_K11 (N : Nat) : XE → GS → Option (Lo (((List UInt8) × UInt64 × UInt64 × Int × (List ((List UInt8) × (UInt64 × (Int × (Int × (Bool × ((List UInt8) × Unit))))))) × Int × Int × Int × Int × Unit) × (((List UInt8) × (Int × Unit)) × (List (List ((List UInt8) × (UInt64 × (Int × (Int × (Bool × ((List UInt8) × Unit)))))))) × (List (List UInt8)) × Unit)) (((List UInt8) × UInt64 × UInt64 × Int × (List ((List UInt8) × (UInt64 × (Int × (Int × (Bool × ((List UInt8) × Unit))))))) × Int × Int × Unit) × (((List UInt8) × (Int × Unit)) × (List (List ((List UInt8) × (UInt64 × (Int × (Int × (Bool × ((List UInt8) × Unit)))))))) × Unit)) (Lo (((List UInt8) × UInt64 × UInt64 × Int × Int × Int × Unit) × (((List UInt8) × (Int × Unit)) × (List (List ((List UInt8) × (UInt64 × (Int × (Int × (Bool × ((List UInt8) × Unit)))))))) × Unit)) ((Unit) × (Unit)) law15_SchnorrChains_R)) := roundK (some 4) (fit 0 [2, 7, 8, 10, 12, 14, 64, 65, 66, 137, 138, 139] law15_SchnorrChains_S1) (fit 0 [2, 7, 8, 10, 12, 14, 64, 65, 66] law15_SchnorrChains_S3) (law15_SchnorrChains_K4 N)
theorem law15_SchnorrChains_s7_b {E : Env} (N : Nat) (hb : Base Tryd.prog (law15_SchnorrChains_C N) E 0) : Blk Tryd.prog (law15_SchnorrChains_C N) E [2, 7, 8, 10, 12, 14, 64, 65, 66, 77, 78, 79] law15_SchnorrChains_S0 (law15_SchnorrChains_L7.drop 0) (fun y => law15_SchnorrChains_s7 N y.1.1 y.1.2.1 y.1.2.2.1 y.1.2.2.2.1 y.1.2.2.2.2.1 y.1.2.2.2.2.2.1 y.1.2.2.2.2.2.2.1 y.1.2.2.2.2.2.2.2.1 y.1.2.2.2.2.2.2.2.2.1 y.2.1 y.2.2.1 y.2.2.2.1) (law15_SchnorrChains_K7 N) :=
  Blk.chunkAt hb 4 (X := (law15_SchnorrChains_K7 N .normal)) (NxOk.end (by kernel_rfl)) rfl (fun x => by kernel_rfl)
theorem law15_SchnorrChains_s11_b {E : Env} (N : Nat) (hb : Base Tryd.prog (law15_SchnorrChains_C N) E 0) : Blk Tryd.prog (law15_SchnorrChains_C N) E [2, 7, 8, 10, 12, 14, 64, 65, 66, 137, 138, 139] law15_SchnorrChains_S1 (law15_SchnorrChains_L11.drop 0) (fun y => law15_SchnorrChains_s11 N y.1.1 y.1.2.1 y.1.2.2.1 y.1.2.2.2.1 y.1.2.2.2.2.1 y.1.2.2.2.2.2.1 y.1.2.2.2.2.2.2.1 y.1.2.2.2.2.2.2.2.1 y.1.2.2.2.2.2.2.2.2.1 y.2.1 y.2.2.1 y.2.2.2.1) (law15_SchnorrChains_K11 N) :=
  Blk.chunkAt hb 4 (X := (law15_SchnorrChains_K11 N .normal)) (NxOk.end (by kernel_rfl)) rfl (fun x => by kernel_rfl)
theorem law15_SchnorrChains_13_b {E : Env} (N : Nat) (hb : Base Tryd.prog (law15_SchnorrChains_C N) E 0) : Blk Tryd.prog (law15_SchnorrChains_C N) E [2, 7, 8, 10, 12, 64, 65, 66] law15_SchnorrChains_S2 (law15_SchnorrChains_L2.drop 3) (fun y => law15_SchnorrChains_13 N y.1.1 y.1.2.1 y.1.2.2.1 y.1.2.2.2.1 y.1.2.2.2.2.1 y.1.2.2.2.2.2.1 y.2.1 y.2.2.1) (law15_SchnorrChains_K2 N) :=
  Blk.chunkAt hb 1 (X := (law15_SchnorrChains_K2 N .normal)) (NxOk.end (by kernel_rfl)) rfl (fun x => by kernel_rfl)
theorem law15_SchnorrChains_12_b {E : Env} (N : Nat) (hb : Base Tryd.prog (law15_SchnorrChains_C N) E 0) : Blk Tryd.prog (law15_SchnorrChains_C N) E [2, 7, 8, 10, 12, 14, 64, 65, 66] law15_SchnorrChains_S3 (law15_SchnorrChains_L4b.drop 9) (fun y => law15_SchnorrChains_12 N y.1.1 y.1.2.1 y.1.2.2.1 y.1.2.2.2.1 y.1.2.2.2.2.1 y.1.2.2.2.2.2.1 y.1.2.2.2.2.2.2.1 y.2.1 y.2.2.1) (law15_SchnorrChains_K4 N) :=
  Blk.chunkAt hb 6 (X := (law15_SchnorrChains_K4 N .normal)) (NxOk.end (by kernel_rfl)) rfl (fun x => by kernel_rfl)
theorem law15_SchnorrChains_10_b {E : Env} (N : Nat) (hb : Base Tryd.prog (law15_SchnorrChains_C N) E 0) : Blk Tryd.prog (law15_SchnorrChains_C N) E [2, 7, 8, 10, 12, 14, 64, 65, 66, 137, 138, 139] law15_SchnorrChains_S1 (law15_SchnorrChains_L4b.drop 8) (fun y => law15_SchnorrChains_10 N y.1.1 y.1.2.1 y.1.2.2.1 y.1.2.2.2.1 y.1.2.2.2.2.1 y.1.2.2.2.2.2.1 y.1.2.2.2.2.2.2.1 y.1.2.2.2.2.2.2.2.1 y.1.2.2.2.2.2.2.2.2.1 y.2.1 y.2.2.1 y.2.2.2.1) (law15_SchnorrChains_K4 N) :=
  Blk.loopAt (Nf := N) (hns := [2, 7, 8, 10, 12, 14, 64, 65, 66, 137, 138, 139]) (ans := [2, 7, 8, 10, 12, 14, 64, 65, 66]) (hc := law15_SchnorrChains_S1) (ac := law15_SchnorrChains_S3) (bid := 4) (step := (fun y => law15_SchnorrChains_s11 N y.1.1 y.1.2.1 y.1.2.2.1 y.1.2.2.2.1 y.1.2.2.2.2.1 y.1.2.2.2.2.2.1 y.1.2.2.2.2.2.2.1 y.1.2.2.2.2.2.2.2.1 y.1.2.2.2.2.2.2.2.2.1 y.2.1 y.2.2.1 y.2.2.2.1)) (J := (fun e => (goK 0 [2, 7, 8, 10, 12, 14, 64, 65, 66] law15_SchnorrChains_S3 (fun y => law15_SchnorrChains_12 N y.1.1 y.1.2.1 y.1.2.2.1 y.1.2.2.2.1 y.1.2.2.2.2.1 y.1.2.2.2.2.2.1 y.1.2.2.2.2.2.2.1 y.2.1 y.2.2.1)) (law15_SchnorrChains_S3.st [2, 7, 8, 10, 12, 14, 64, 65, 66] e))) hb (by kernel_rfl) (Blk.into (X := (goK 0 [2, 7, 8, 10, 12, 14, 64, 65, 66] law15_SchnorrChains_S3 (fun y => law15_SchnorrChains_12 N y.1.1 y.1.2.1 y.1.2.2.1 y.1.2.2.2.1 y.1.2.2.2.2.1 y.1.2.2.2.2.2.1 y.1.2.2.2.2.2.2.1 y.2.1 y.2.2.1))) (NxOk.go hb (law15_SchnorrChains_12_b N hb)) (fun x => by kernel_rfl)) (law15_SchnorrChains_s11_b N hb) (fun x => by kernel_rfl)
theorem law15_SchnorrChains_9_b {E : Env} (N : Nat) (hb : Base Tryd.prog (law15_SchnorrChains_C N) E 0) : Blk Tryd.prog (law15_SchnorrChains_C N) E [2, 7, 8, 10, 12, 14, 25, 64, 65, 66, 131] law15_SchnorrChains_S4 (law15_SchnorrChains_L4b.drop 6) (fun y => law15_SchnorrChains_9 N y.1.1 y.1.2.1 y.1.2.2.1 y.1.2.2.2.1 y.1.2.2.2.2.1 y.1.2.2.2.2.2.1 y.1.2.2.2.2.2.2.1 y.1.2.2.2.2.2.2.2.1 y.2.1 y.2.2.1 y.2.2.2.1) (law15_SchnorrChains_K4 N) :=
  Blk.chunkAt hb 2 (X := (goK 0 [2, 7, 8, 10, 12, 14, 64, 65, 66, 137, 138, 139] law15_SchnorrChains_S1 (fun y => law15_SchnorrChains_10 N y.1.1 y.1.2.1 y.1.2.2.1 y.1.2.2.2.1 y.1.2.2.2.2.1 y.1.2.2.2.2.2.1 y.1.2.2.2.2.2.2.1 y.1.2.2.2.2.2.2.2.1 y.1.2.2.2.2.2.2.2.2.1 y.2.1 y.2.2.1 y.2.2.2.1))) (NxOk.go hb (law15_SchnorrChains_10_b N hb)) rfl (fun x => by kernel_rfl)
theorem law15_SchnorrChains_8_b {E : Env} (N : Nat) (hb : Base Tryd.prog (law15_SchnorrChains_C N) E 0) : Blk Tryd.prog (law15_SchnorrChains_C N) E [2, 7, 8, 10, 12, 14, 64, 65, 66] law15_SchnorrChains_S3 (law15_SchnorrChains_L4b.drop 3) (fun y => law15_SchnorrChains_8 N y.1.1 y.1.2.1 y.1.2.2.1 y.1.2.2.2.1 y.1.2.2.2.2.1 y.1.2.2.2.2.2.1 y.1.2.2.2.2.2.2.1 y.2.1 y.2.2.1) (law15_SchnorrChains_K4 N) :=
  Blk.chunkAt hb 3 (X := (goK 0 [2, 7, 8, 10, 12, 14, 25, 64, 65, 66, 131] law15_SchnorrChains_S4 (fun y => law15_SchnorrChains_9 N y.1.1 y.1.2.1 y.1.2.2.1 y.1.2.2.2.1 y.1.2.2.2.2.1 y.1.2.2.2.2.2.1 y.1.2.2.2.2.2.2.1 y.1.2.2.2.2.2.2.2.1 y.2.1 y.2.2.1 y.2.2.2.1))) (NxOk.go hb (law15_SchnorrChains_9_b N hb)) rfl (fun x => by kernel_rfl)
theorem law15_SchnorrChains_6_b {E : Env} (N : Nat) (hb : Base Tryd.prog (law15_SchnorrChains_C N) E 0) : Blk Tryd.prog (law15_SchnorrChains_C N) E [2, 7, 8, 10, 12, 14, 64, 65, 66, 77, 78, 79] law15_SchnorrChains_S0 (law15_SchnorrChains_L4b.drop 2) (fun y => law15_SchnorrChains_6 N y.1.1 y.1.2.1 y.1.2.2.1 y.1.2.2.2.1 y.1.2.2.2.2.1 y.1.2.2.2.2.2.1 y.1.2.2.2.2.2.2.1 y.1.2.2.2.2.2.2.2.1 y.1.2.2.2.2.2.2.2.2.1 y.2.1 y.2.2.1 y.2.2.2.1) (law15_SchnorrChains_K4 N) :=
  Blk.loopAt (Nf := N) (hns := [2, 7, 8, 10, 12, 14, 64, 65, 66, 77, 78, 79]) (ans := [2, 7, 8, 10, 12, 14, 64, 65, 66]) (hc := law15_SchnorrChains_S0) (ac := law15_SchnorrChains_S3) (bid := 2) (step := (fun y => law15_SchnorrChains_s7 N y.1.1 y.1.2.1 y.1.2.2.1 y.1.2.2.2.1 y.1.2.2.2.2.1 y.1.2.2.2.2.2.1 y.1.2.2.2.2.2.2.1 y.1.2.2.2.2.2.2.2.1 y.1.2.2.2.2.2.2.2.2.1 y.2.1 y.2.2.1 y.2.2.2.1)) (J := (fun e => (goK 0 [2, 7, 8, 10, 12, 14, 64, 65, 66] law15_SchnorrChains_S3 (fun y => law15_SchnorrChains_8 N y.1.1 y.1.2.1 y.1.2.2.1 y.1.2.2.2.1 y.1.2.2.2.2.1 y.1.2.2.2.2.2.1 y.1.2.2.2.2.2.2.1 y.2.1 y.2.2.1)) (law15_SchnorrChains_S3.st [2, 7, 8, 10, 12, 14, 64, 65, 66] e))) hb (by kernel_rfl) (Blk.into (X := (goK 0 [2, 7, 8, 10, 12, 14, 64, 65, 66] law15_SchnorrChains_S3 (fun y => law15_SchnorrChains_8 N y.1.1 y.1.2.1 y.1.2.2.1 y.1.2.2.2.1 y.1.2.2.2.2.1 y.1.2.2.2.2.2.1 y.1.2.2.2.2.2.2.1 y.2.1 y.2.2.1))) (NxOk.go hb (law15_SchnorrChains_8_b N hb)) (fun x => by kernel_rfl)) (law15_SchnorrChains_s7_b N hb) (fun x => by kernel_rfl)
theorem law15_SchnorrChains_5_b {E : Env} (N : Nat) (hb : Base Tryd.prog (law15_SchnorrChains_C N) E 0) : Blk Tryd.prog (law15_SchnorrChains_C N) E [2, 7, 8, 10, 12, 64, 65, 66] law15_SchnorrChains_S2 (law15_SchnorrChains_L4b.drop 0) (fun y => law15_SchnorrChains_5 N y.1.1 y.1.2.1 y.1.2.2.1 y.1.2.2.2.1 y.1.2.2.2.2.1 y.1.2.2.2.2.2.1 y.2.1 y.2.2.1) (law15_SchnorrChains_K4 N) :=
  Blk.chunkAt hb 2 (X := (goK 0 [2, 7, 8, 10, 12, 14, 64, 65, 66, 77, 78, 79] law15_SchnorrChains_S0 (fun y => law15_SchnorrChains_6 N y.1.1 y.1.2.1 y.1.2.2.1 y.1.2.2.2.1 y.1.2.2.2.2.1 y.1.2.2.2.2.2.1 y.1.2.2.2.2.2.2.1 y.1.2.2.2.2.2.2.2.1 y.1.2.2.2.2.2.2.2.2.1 y.2.1 y.2.2.1 y.2.2.2.1))) (NxOk.go hb (law15_SchnorrChains_6_b N hb)) rfl (fun x => by kernel_rfl)
theorem law15_SchnorrChains_3_b {E : Env} (N : Nat) (hb : Base Tryd.prog (law15_SchnorrChains_C N) E 0) : Blk Tryd.prog (law15_SchnorrChains_C N) E [2, 7, 8, 10, 12, 64, 65, 66] law15_SchnorrChains_S2 (law15_SchnorrChains_L2.drop 2) (fun y => law15_SchnorrChains_3 N y.1.1 y.1.2.1 y.1.2.2.1 y.1.2.2.2.1 y.1.2.2.2.2.1 y.1.2.2.2.2.2.1 y.2.1 y.2.2.1) (law15_SchnorrChains_K2 N) :=
  Blk.blockAt (bid := 1) (X := (goK 0 [2, 7, 8, 10, 12, 64, 65, 66] law15_SchnorrChains_S2 (fun y => law15_SchnorrChains_13 N y.1.1 y.1.2.1 y.1.2.2.1 y.1.2.2.2.1 y.1.2.2.2.2.1 y.1.2.2.2.2.2.1 y.2.1 y.2.2.1))) (Y := (goK 0 [2, 7, 8, 10, 12, 64, 65, 66] law15_SchnorrChains_S2 (fun y => law15_SchnorrChains_5 N y.1.1 y.1.2.1 y.1.2.2.1 y.1.2.2.2.1 y.1.2.2.2.2.1 y.1.2.2.2.2.2.1 y.2.1 y.2.2.1))) (by kernel_rfl) (NxOk.go hb (law15_SchnorrChains_13_b N hb)) (NxOk.go hb (law15_SchnorrChains_5_b N hb)) (fun x => by kernel_rfl)
theorem law15_SchnorrChains_s2_b {E : Env} (N : Nat) (hb : Base Tryd.prog (law15_SchnorrChains_C N) E 0) : Blk Tryd.prog (law15_SchnorrChains_C N) E [2, 7, 8, 10, 12, 64, 65, 66] law15_SchnorrChains_S2 (law15_SchnorrChains_L2.drop 0) (fun y => law15_SchnorrChains_s2 N y.1.1 y.1.2.1 y.1.2.2.1 y.1.2.2.2.1 y.1.2.2.2.2.1 y.1.2.2.2.2.2.1 y.2.1 y.2.2.1) (law15_SchnorrChains_K2 N) :=
  Blk.chunkAt hb 2 (X := (goK 0 [2, 7, 8, 10, 12, 64, 65, 66] law15_SchnorrChains_S2 (fun y => law15_SchnorrChains_3 N y.1.1 y.1.2.1 y.1.2.2.1 y.1.2.2.2.1 y.1.2.2.2.2.1 y.1.2.2.2.2.2.1 y.2.1 y.2.2.1))) (NxOk.go hb (law15_SchnorrChains_3_b N hb)) rfl (fun x => by kernel_rfl)
theorem law15_SchnorrChains_14_b {E : Env} (N : Nat) (hb : Base Tryd.prog (law15_SchnorrChains_C N) E 0) : Blk Tryd.prog (law15_SchnorrChains_C N) E [] law15_SchnorrChains_S5 (law15_SchnorrChains_L.drop 9) (fun y => law15_SchnorrChains_14 N) (law15_SchnorrChains_K N) :=
  Blk.chunkAt hb 2 (X := (law15_SchnorrChains_K N .normal)) (NxOk.end (by kernel_rfl)) rfl (fun x => by kernel_rfl)
theorem law15_SchnorrChains_1_b {E : Env} (N : Nat) (hb : Base Tryd.prog (law15_SchnorrChains_C N) E 0) : Blk Tryd.prog (law15_SchnorrChains_C N) E [2, 7, 8, 10, 12, 64, 65, 66] law15_SchnorrChains_S2 (law15_SchnorrChains_L.drop 8) (fun y => law15_SchnorrChains_1 N y.1.1 y.1.2.1 y.1.2.2.1 y.1.2.2.2.1 y.1.2.2.2.2.1 y.1.2.2.2.2.2.1 y.2.1 y.2.2.1) (law15_SchnorrChains_K N) :=
  Blk.loopAt (Nf := N) (hns := [2, 7, 8, 10, 12, 64, 65, 66]) (ans := []) (hc := law15_SchnorrChains_S2) (ac := law15_SchnorrChains_S5) (bid := 0) (step := (fun y => law15_SchnorrChains_s2 N y.1.1 y.1.2.1 y.1.2.2.1 y.1.2.2.2.1 y.1.2.2.2.2.1 y.1.2.2.2.2.2.1 y.2.1 y.2.2.1)) (J := (fun e => (goK 0 [] law15_SchnorrChains_S5 (fun y => law15_SchnorrChains_14 N)) (law15_SchnorrChains_S5.st [] e))) hb (by kernel_rfl) (Blk.into (X := (goK 0 [] law15_SchnorrChains_S5 (fun y => law15_SchnorrChains_14 N))) (NxOk.go hb (law15_SchnorrChains_14_b N hb)) (fun x => by kernel_rfl)) (law15_SchnorrChains_s2_b N hb) (fun x => by kernel_rfl)
theorem law15_SchnorrChains_b {E : Env} (N : Nat) (hb : Base Tryd.prog (law15_SchnorrChains_C N) E 0) : Blk Tryd.prog (law15_SchnorrChains_C N) E (List.range law15_SchnorrChains_S6.ks.length) law15_SchnorrChains_S6 (law15_SchnorrChains_L.drop 0) (fun y => law15_SchnorrChains N y.1.1 y.1.2.1 y.1.2.2.1) (law15_SchnorrChains_K N) :=
  Blk.chunkAt hb 8 (X := (goK 0 [2, 7, 8, 10, 12, 64, 65, 66] law15_SchnorrChains_S2 (fun y => law15_SchnorrChains_1 N y.1.1 y.1.2.1 y.1.2.2.1 y.1.2.2.2.1 y.1.2.2.2.2.1 y.1.2.2.2.2.2.1 y.2.1 y.2.2.1))) (NxOk.go hb (law15_SchnorrChains_1_b N hb)) rfl (fun x => by kernel_rfl)
noncomputable def law15_SchnorrChains_ctr (N : Nat) : Ctr := ⟨law15_SchnorrChains_S6, law15_SchnorrChains_S7.un [false], 0, (fun y => law15_SchnorrChains N y.1.1 y.1.2.1 y.1.2.2.1)⟩
theorem law15_SchnorrChains_ctrs (N : Nat) : CtrsOk Tryd.prog (law15_SchnorrChains_C N) := ctrs_of (Γ := law15_SchnorrChains_C N) (by
  intro p hp
  simp only [law15_SchnorrChains_C, List.mem_cons, List.not_mem_nil, or_false] at hp
  rcases hp with rfl | rfl | rfl | rfl | rfl | rfl | rfl | rfl | rfl | rfl | rfl | rfl | rfl | rfl | rfl | rfl | rfl | rfl | rfl | rfl | rfl
  · exact law15_awake_ok N
  · exact make_New_ok N
  · exact law15_draw_ok N
  · exact ref13_Public_ok N
  · exact make_Mod_ok N
  · exact law15_spoil_ok N
  · exact make_Codes_Word_ok N
  · exact schnorr_Chain_ok N
  · exact ref15_Chain_ok N
  · exact schnorr_Encode_ok N
  · exact ref15_Encode_ok N
  · exact make_Codes_Change_ok N
  · exact schnorr_Decode_ok N
  · exact ref15_Decode_ok N
  · exact ref15_SameAll_ok N
  · exact schnorr_Issue_ok N
  · exact ref15_Issue_ok N
  · exact schnorr_Body_ok N
  · exact ref15_Body_ok N
  · exact ref15_Same_ok N
  · exact ref01_Equal_ok N)
theorem law15_SchnorrChains_ok (N : Nat) : Ctr.ok Tryd.prog G_globs 8 (law15_SchnorrChains_ctr N) :=
  ctr_fn (Γ := law15_SchnorrChains_C N) (rfit := law15_SchnorrChains_S7) (bs := [false]) (res := [6]) (by kernel_rfl) (tys_ok G_tys_ok) (law15_SchnorrChains_ctrs N) Tryd.func8 (by kernel_rfl) (by kernel_rfl) Tryd.ntmps8 (by kernel_rfl) (by kernel_rfl) (by kernel_rfl) (by kernel_rfl) (fun E hb => law15_SchnorrChains_b N hb)
end Go.Proofs.YtofajgidjkjnpaaDoor
namespace Go.Proofs.YtofajgidjkjnpaaDoor
open Go
set_option maxRecDepth 100000
set_option linter.unusedVariables false
/-! (*ipsecgate/ipsecgatemake.Codes).Bytes -/
abbrev make_Codes_Bytes_R : Type := ((Unit) × (((List UInt8) × (Int × Unit)) × (List UInt8) × Unit))
noncomputable def make_Codes_Bytes_s2 (N : Nat) (n_1 : Int) (i_6 : Int) (p0 : ((List UInt8) × (Int × Unit))) (out_5 : (List UInt8)) : Option (Lo ((Int × Int × Unit) × (((List UInt8) × (Int × Unit)) × (List UInt8) × Unit)) ((Unit) × (((List UInt8) × (Int × Unit)) × (List UInt8) × Unit)) make_Codes_Bytes_R) :=
  bif (decide (i_6 < n_1)) then
    Option.bind (make_Codes_Next N (256 : Int) p0) fun y2 =>
    let x4 := w64 (y2.1.1 + (w64 (i_6 * (7 : Int))))
    bif room (out_5.length + ([iu8 x4] : List UInt8).length) 1 then
    some (.go ((n_1, (w64 (i_6 + (1 : Int))), ()), (y2.2.1, (out_5 ++ ([iu8 x4] : List UInt8)), ())))
    else none
  else
    some (.br ((()), (p0, out_5, ())))
noncomputable def make_Codes_Bytes_3 (N : Nat) (p0 : ((List UInt8) × (Int × Unit))) (out_5 : (List UInt8)) : Option make_Codes_Bytes_R :=
  some ((()), (p0, out_5, ()))
noncomputable def make_Codes_Bytes_1 (N : Nat) (n_1 : Int) (i_6 : Int) (p0 : ((List UInt8) × (Int × Unit))) (out_5 : (List UInt8)) : Option make_Codes_Bytes_R :=
  loopK N (fun y => make_Codes_Bytes_s2 N y.1.1 y.1.2.1 y.2.1 y.2.2.1) (fun (e : ((Unit) × (((List UInt8) × (Int × Unit)) × (List UInt8) × Unit))) => make_Codes_Bytes_3 N e.2.1 e.2.2.1) ((n_1, i_6, ()), (p0, out_5, ()))
noncomputable def make_Codes_Bytes (N : Nat) (n_1 : Int) (c_0 : ((List UInt8) × (Int × Unit))) : Option make_Codes_Bytes_R :=
  make_Codes_Bytes_1 N n_1 (0 : Int) c_0 ([] : List UInt8)
noncomputable def make_Codes_Bytes_C (N : Nat) : Ctx := ⟨22, G_tys, [(61, make_Codes_Next_ctr N)], G_globs⟩
noncomputable def make_Codes_Bytes_S0 : Spec := ⟨[.ref 0 (.pair (.sl .u8) (.pair .i64 .unit)), .val .i64, .row 1, .val .i64], [(.box 122 (.pair (.sl .u8) (.pair .i64 .unit)), .fix 0), (.row 5 .u8, .pos 2)]⟩
noncomputable def make_Codes_Bytes_S1 : Spec := ⟨[.row 1], [(.box 122 (.pair (.sl .u8) (.pair .i64 .unit)), .fix 0), (.row 5 .u8, .pos 0)]⟩
noncomputable def make_Codes_Bytes_S2 : Spec := ⟨[.ref 0 (.pair (.sl .u8) (.pair .i64 .unit)), .val .i64], [(.box 122 (.pair (.sl .u8) (.pair .i64 .unit)), .pos 0)]⟩
noncomputable def make_Codes_Bytes_K (_N : Nat) : XE → GS → Option make_Codes_Bytes_R := retK 1 [4] [false] make_Codes_Bytes_S1
noncomputable def make_Codes_Bytes_L : List Code := (bodyOf (some Tryd.f115))
noncomputable def make_Codes_Bytes_L2 : List Code := (loopOf (make_Codes_Bytes_L[3]?))
noncomputable def make_Codes_Bytes_K2 (N : Nat) : XE → GS → Option (Lo ((Int × Int × Unit) × (((List UInt8) × (Int × Unit)) × (List UInt8) × Unit)) ((Unit) × (((List UInt8) × (Int × Unit)) × (List UInt8) × Unit)) make_Codes_Bytes_R) := roundK (some 0) (fit 1 [0, 1, 5, 6] make_Codes_Bytes_S0) (fit 1 [5] make_Codes_Bytes_S1) (make_Codes_Bytes_K N)
theorem make_Codes_Bytes_s2_b {E : Env} (N : Nat) (hb : Base Tryd.prog (make_Codes_Bytes_C N) E 1) : Blk Tryd.prog (make_Codes_Bytes_C N) E [0, 1, 5, 6] make_Codes_Bytes_S0 (make_Codes_Bytes_L2.drop 0) (fun y => make_Codes_Bytes_s2 N y.1.1 y.1.2.1 y.2.1 y.2.2.1) (make_Codes_Bytes_K2 N) :=
  Blk.chunkAt hb 4 (X := (make_Codes_Bytes_K2 N .normal)) (NxOk.end (by kernel_rfl)) rfl (fun x => by kernel_rfl)
theorem make_Codes_Bytes_3_b {E : Env} (N : Nat) (hb : Base Tryd.prog (make_Codes_Bytes_C N) E 1) : Blk Tryd.prog (make_Codes_Bytes_C N) E [5] make_Codes_Bytes_S1 (make_Codes_Bytes_L.drop 4) (fun y => make_Codes_Bytes_3 N y.2.1 y.2.2.1) (make_Codes_Bytes_K N) :=
  Blk.chunkAt hb 2 (X := (make_Codes_Bytes_K N .normal)) (NxOk.end (by kernel_rfl)) rfl (fun x => by kernel_rfl)
theorem make_Codes_Bytes_1_b {E : Env} (N : Nat) (hb : Base Tryd.prog (make_Codes_Bytes_C N) E 1) : Blk Tryd.prog (make_Codes_Bytes_C N) E [0, 1, 5, 6] make_Codes_Bytes_S0 (make_Codes_Bytes_L.drop 3) (fun y => make_Codes_Bytes_1 N y.1.1 y.1.2.1 y.2.1 y.2.2.1) (make_Codes_Bytes_K N) :=
  Blk.loopAt (Nf := N) (hns := [0, 1, 5, 6]) (ans := [5]) (hc := make_Codes_Bytes_S0) (ac := make_Codes_Bytes_S1) (bid := 0) (step := (fun y => make_Codes_Bytes_s2 N y.1.1 y.1.2.1 y.2.1 y.2.2.1)) (J := (fun e => (goK 1 [5] make_Codes_Bytes_S1 (fun y => make_Codes_Bytes_3 N y.2.1 y.2.2.1)) (make_Codes_Bytes_S1.st [5] e))) hb (by kernel_rfl) (Blk.into (X := (goK 1 [5] make_Codes_Bytes_S1 (fun y => make_Codes_Bytes_3 N y.2.1 y.2.2.1))) (NxOk.go hb (make_Codes_Bytes_3_b N hb)) (fun x => by kernel_rfl)) (make_Codes_Bytes_s2_b N hb) (fun x => by kernel_rfl)
theorem make_Codes_Bytes_b {E : Env} (N : Nat) (hb : Base Tryd.prog (make_Codes_Bytes_C N) E 1) : Blk Tryd.prog (make_Codes_Bytes_C N) E (List.range make_Codes_Bytes_S2.ks.length) make_Codes_Bytes_S2 (make_Codes_Bytes_L.drop 0) (fun y => make_Codes_Bytes N y.1.1 y.2.1) (make_Codes_Bytes_K N) :=
  Blk.chunkAt hb 3 (X := (goK 1 [0, 1, 5, 6] make_Codes_Bytes_S0 (fun y => make_Codes_Bytes_1 N y.1.1 y.1.2.1 y.2.1 y.2.2.1))) (NxOk.go hb (make_Codes_Bytes_1_b N hb)) rfl (fun x => by kernel_rfl)
noncomputable def make_Codes_Bytes_ctr (N : Nat) : Ctr := ⟨make_Codes_Bytes_S2, make_Codes_Bytes_S1.un [false], 1, (fun y => make_Codes_Bytes N y.1.1 y.2.1)⟩
theorem make_Codes_Bytes_ctrs (N : Nat) : CtrsOk Tryd.prog (make_Codes_Bytes_C N) := ctrs_of (Γ := make_Codes_Bytes_C N) (by
  intro p hp
  simp only [make_Codes_Bytes_C, List.mem_cons, List.not_mem_nil, or_false] at hp
  rcases hp with rfl
  · exact make_Codes_Next_ok N)
theorem make_Codes_Bytes_ok (N : Nat) : Ctr.ok Tryd.prog G_globs 115 (make_Codes_Bytes_ctr N) :=
  ctr_fn (Γ := make_Codes_Bytes_C N) (rfit := make_Codes_Bytes_S1) (bs := [false]) (res := [4]) (by kernel_rfl) (tys_ok G_tys_ok) (make_Codes_Bytes_ctrs N) Tryd.func115 (by kernel_rfl) (by kernel_rfl) Tryd.ntmps115 (by kernel_rfl) (by kernel_rfl) (by kernel_rfl) (by kernel_rfl) (fun E hb => make_Codes_Bytes_b N hb)
end Go.Proofs.YtofajgidjkjnpaaDoor
namespace Go.Proofs.YtofajgidjkjnpaaDoor
open Go
set_option maxRecDepth 100000
set_option linter.unusedVariables false
/-! ipsecgate/ipsecgatelaw15.SchnorrSigns -/
abbrev law15_SchnorrSigns_R : Type := ((Bool × Unit) × (Unit))
noncomputable def law15_SchnorrSigns_s2 (N : Nat) (public_2 : UInt64) (m_3 : (List UInt8)) (sig_4 : (List UInt8)) (y_13 : UInt64) (t_49 : Int) (t_50 : Int) (c_11 : ((List UInt8) × (Int × Unit))) (s_15 : (List UInt8)) (t_48 : (List UInt64)) : Option (Lo ((UInt64 × (List UInt8) × (List UInt8) × UInt64 × Int × Int × Unit) × (((List UInt8) × (Int × Unit)) × (List UInt8) × (List UInt64) × Unit)) ((UInt64 × (List UInt8) × (List UInt8) × UInt64 × Unit) × (((List UInt8) × (Int × Unit)) × (List UInt8) × Unit)) law15_SchnorrSigns_R) :=
  bif (decide (t_50 < t_49)) then
    bif inR t_50 t_48.length then
    let x11 := (t_48.getD t_50.toNat (0 : UInt64))
    Option.bind (schnorr_Sign N x11 m_3) fun y12 =>
    Option.bind (ref15_Sign N x11 m_3) fun y13 =>
    bif (!(decide (y12.1.1 = y13.1.1))) then
      some (.rt ((false, ()), (())))
    else
      Option.bind (ref01_Equal N y12.2.1 y13.2.1) fun y15 =>
      bif (!y15.1.1) then
        some (.rt ((false, ()), (())))
      else
        some (.go ((public_2, m_3, sig_4, y_13, t_49, (w64 (t_50 + (1 : Int))), ()), (c_11, s_15, t_48, ())))
    else none
  else
    some (.br ((public_2, m_3, sig_4, y_13, ()), (c_11, s_15, ())))
noncomputable def law15_SchnorrSigns_s5 (N : Nat) (m_3 : (List UInt8)) (t_92 : Int) (t_93 : Int) (t_91 : (List (UInt64 × ((List UInt8) × Unit)))) : Option (Lo (((List UInt8) × Int × Int × Unit) × ((List (UInt64 × ((List UInt8) × Unit))) × Unit)) ((Unit) × (Unit)) law15_SchnorrSigns_R) :=
  bif (decide (t_93 < t_92)) then
    bif inR t_93 t_91.length then
    let x21 := (t_91.getD t_93.toNat ((0 : UInt64), ([] : List UInt8), ()))
    Option.bind (schnorr_Verify N x21.1 m_3 x21.2.1) fun y22 =>
    Option.bind (ref15_Verify N x21.1 m_3 x21.2.1) fun y23 =>
    bif (!(decide (y22.1.1 = y23.1.1))) then
      some (.rt ((false, ()), (())))
    else
      some (.go ((m_3, t_92, (w64 (t_93 + (1 : Int))), ()), (t_91, ())))
    else none
  else
    some (.br ((()), (())))
noncomputable def law15_SchnorrSigns_6 (N : Nat) : Option law15_SchnorrSigns_R :=
  some ((true, ()), (()))
noncomputable def law15_SchnorrSigns_4 (N : Nat) (m_3 : (List UInt8)) (t_92 : Int) (t_93 : Int) (t_91 : (List (UInt64 × ((List UInt8) × Unit)))) : Option law15_SchnorrSigns_R :=
  loopK N (fun y => law15_SchnorrSigns_s5 N y.1.1 y.1.2.1 y.1.2.2.1 y.2.1) (fun (e : ((Unit) × (Unit))) => law15_SchnorrSigns_6 N) ((m_3, t_92, t_93, ()), (t_91, ()))
noncomputable def law15_SchnorrSigns_3 (N : Nat) (public_2 : UInt64) (m_3 : (List UInt8)) (sig_4 : (List UInt8)) (y_13 : UInt64) (c_11 : ((List UInt8) × (Int × Unit))) (s_15 : (List UInt8)) : Option law15_SchnorrSigns_R :=
  Option.bind (make_Codes_Change N s_15 c_11) fun y18 =>
  law15_SchnorrSigns_4 N m_3 (([(y_13, s_15, ()), (public_2, s_15, ()), (y_13, sig_4, ()), (y_13, y18.1.1, ())] : List (UInt64 × ((List UInt8) × Unit))).length : Int) (0 : Int) ([(y_13, s_15, ()), (public_2, s_15, ()), (y_13, sig_4, ()), (y_13, y18.1.1, ())] : List (UInt64 × ((List UInt8) × Unit)))
noncomputable def law15_SchnorrSigns_1 (N : Nat) (public_2 : UInt64) (m_3 : (List UInt8)) (sig_4 : (List UInt8)) (y_13 : UInt64) (t_49 : Int) (t_50 : Int) (c_11 : ((List UInt8) × (Int × Unit))) (s_15 : (List UInt8)) (t_48 : (List UInt64)) : Option law15_SchnorrSigns_R :=
  loopK N (fun y => law15_SchnorrSigns_s2 N y.1.1 y.1.2.1 y.1.2.2.1 y.1.2.2.2.1 y.1.2.2.2.2.1 y.1.2.2.2.2.2.1 y.2.1 y.2.2.1 y.2.2.2.1) (fun (e : ((UInt64 × (List UInt8) × (List UInt8) × UInt64 × Unit) × (((List UInt8) × (Int × Unit)) × (List UInt8) × Unit))) => law15_SchnorrSigns_3 N e.1.1 e.1.2.1 e.1.2.2.1 e.1.2.2.2.1 e.2.1 e.2.2.1) ((public_2, m_3, sig_4, y_13, t_49, t_50, ()), (c_11, s_15, t_48, ()))
noncomputable def law15_SchnorrSigns (N : Nat) (codes_0 : (List UInt8)) (secret_1 : UInt64) (public_2 : UInt64) (m_3 : (List UInt8)) (sig_4 : (List UInt8)) : Option law15_SchnorrSigns_R :=
  Option.bind (law15_awake N) fun y1 =>
  bif (!y1.1.1) then
    some ((false, ()), (()))
  else
    bif (decide ((300 : Int) < (m_3.length : Int))) then
      some ((true, ()), (()))
    else
      Option.bind (make_New N codes_0 (80 : Int)) fun y5 =>
      Option.bind (make_Codes_Secret N y5.2.1) fun y6 =>
      Option.bind (ref13_Public N y6.1.1) fun y7 =>
      Option.bind (ref15_Sign N y6.1.1 m_3) fun y8 =>
      law15_SchnorrSigns_1 N public_2 m_3 sig_4 y7.1.1 (([secret_1, y6.1.1] : List UInt64).length : Int) (0 : Int) y6.2.1 y8.2.1 ([secret_1, y6.1.1] : List UInt64)
noncomputable def law15_SchnorrSigns_C (N : Nat) : Ctx := ⟨111, G_tys, [(15, law15_awake_ctr N), (16, make_New_ctr N), (17, make_Codes_Secret_ctr N), (18, ref13_Public_ctr N), (19, ref15_Sign_ctr N), (20, schnorr_Sign_ctr N), (21, ref01_Equal_ctr N), (22, make_Codes_Change_ctr N), (23, schnorr_Verify_ctr N), (24, ref15_Verify_ctr N)], G_globs⟩
noncomputable def law15_SchnorrSigns_S0 : Spec := ⟨[.val .u64, .val (.sl .u8), .val (.sl .u8), .ref 0 (.pair (.sl .u8) (.pair .i64 .unit)), .val .u64, .row 1, .row 2, .val .i64, .val .i64], [(.box 122 (.pair (.sl .u8) (.pair .i64 .unit)), .pos 3), (.row 5 .u8, .pos 5), (.row 23 .u64, .pos 6)]⟩
noncomputable def law15_SchnorrSigns_S1 : Spec := ⟨[.val (.sl .u8), .row 0, .val .i64, .val .i64], [(.row 36 (.pair .u64 (.pair (.sl .u8) .unit)), .pos 1)]⟩
noncomputable def law15_SchnorrSigns_S2 : Spec := ⟨[], []⟩
noncomputable def law15_SchnorrSigns_S3 : Spec := ⟨[.val .u64, .val (.sl .u8), .val (.sl .u8), .ref 0 (.pair (.sl .u8) (.pair .i64 .unit)), .val .u64, .row 1], [(.box 122 (.pair (.sl .u8) (.pair .i64 .unit)), .pos 3), (.row 5 .u8, .pos 5)]⟩
noncomputable def law15_SchnorrSigns_S4 : Spec := ⟨[.val (.sl .u8), .val .u64, .val .u64, .val (.sl .u8), .val (.sl .u8)], []⟩
noncomputable def law15_SchnorrSigns_S5 : Spec := ⟨[.val .bool], []⟩
noncomputable def law15_SchnorrSigns_K (_N : Nat) : XE → GS → Option law15_SchnorrSigns_R := retK 0 [10] [false] law15_SchnorrSigns_S5
noncomputable def law15_SchnorrSigns_L : List Code := (bodyOf (some Tryd.f3))
noncomputable def law15_SchnorrSigns_L2 : List Code := (loopOf (law15_SchnorrSigns_L[10]?))
noncomputable def law15_SchnorrSigns_L5 : List Code := (loopOf (law15_SchnorrSigns_L[13]?))
noncomputable def law15_SchnorrSigns_K2 (N : Nat) : XE → GS → Option (Lo ((UInt64 × (List UInt8) × (List UInt8) × UInt64 × Int × Int × Unit) × (((List UInt8) × (Int × Unit)) × (List UInt8) × (List UInt64) × Unit)) ((UInt64 × (List UInt8) × (List UInt8) × UInt64 × Unit) × (((List UInt8) × (Int × Unit)) × (List UInt8) × Unit)) law15_SchnorrSigns_R) := roundK (some 0) (fit 0 [2, 3, 4, 11, 13, 15, 48, 49, 50] law15_SchnorrSigns_S0) (fit 0 [2, 3, 4, 11, 13, 15] law15_SchnorrSigns_S3) (law15_SchnorrSigns_K N)
noncomputable def law15_SchnorrSigns_K5 (N : Nat) : XE → GS → Option (Lo (((List UInt8) × Int × Int × Unit) × ((List (UInt64 × ((List UInt8) × Unit))) × Unit)) ((Unit) × (Unit)) law15_SchnorrSigns_R) := roundK (some 2) (fit 0 [3, 91, 92, 93] law15_SchnorrSigns_S1) (fit 0 [] law15_SchnorrSigns_S2) (law15_SchnorrSigns_K N)
theorem law15_SchnorrSigns_s2_b {E : Env} (N : Nat) (hb : Base Tryd.prog (law15_SchnorrSigns_C N) E 0) : Blk Tryd.prog (law15_SchnorrSigns_C N) E [2, 3, 4, 11, 13, 15, 48, 49, 50] law15_SchnorrSigns_S0 (law15_SchnorrSigns_L2.drop 0) (fun y => law15_SchnorrSigns_s2 N y.1.1 y.1.2.1 y.1.2.2.1 y.1.2.2.2.1 y.1.2.2.2.2.1 y.1.2.2.2.2.2.1 y.2.1 y.2.2.1 y.2.2.2.1) (law15_SchnorrSigns_K2 N) :=
  Blk.chunkAt hb 4 (X := (law15_SchnorrSigns_K2 N .normal)) (NxOk.end (by kernel_rfl)) rfl (fun x => by kernel_rfl)
theorem law15_SchnorrSigns_s5_b {E : Env} (N : Nat) (hb : Base Tryd.prog (law15_SchnorrSigns_C N) E 0) : Blk Tryd.prog (law15_SchnorrSigns_C N) E [3, 91, 92, 93] law15_SchnorrSigns_S1 (law15_SchnorrSigns_L5.drop 0) (fun y => law15_SchnorrSigns_s5 N y.1.1 y.1.2.1 y.1.2.2.1 y.2.1) (law15_SchnorrSigns_K5 N) :=
  Blk.chunkAt hb 4 (X := (law15_SchnorrSigns_K5 N .normal)) (NxOk.end (by kernel_rfl)) rfl (fun x => by kernel_rfl)
theorem law15_SchnorrSigns_6_b {E : Env} (N : Nat) (hb : Base Tryd.prog (law15_SchnorrSigns_C N) E 0) : Blk Tryd.prog (law15_SchnorrSigns_C N) E [] law15_SchnorrSigns_S2 (law15_SchnorrSigns_L.drop 14) (fun y => law15_SchnorrSigns_6 N) (law15_SchnorrSigns_K N) :=
  Blk.chunkAt hb 2 (X := (law15_SchnorrSigns_K N .normal)) (NxOk.end (by kernel_rfl)) rfl (fun x => by kernel_rfl)
theorem law15_SchnorrSigns_4_b {E : Env} (N : Nat) (hb : Base Tryd.prog (law15_SchnorrSigns_C N) E 0) : Blk Tryd.prog (law15_SchnorrSigns_C N) E [3, 91, 92, 93] law15_SchnorrSigns_S1 (law15_SchnorrSigns_L.drop 13) (fun y => law15_SchnorrSigns_4 N y.1.1 y.1.2.1 y.1.2.2.1 y.2.1) (law15_SchnorrSigns_K N) :=
  Blk.loopAt (Nf := N) (hns := [3, 91, 92, 93]) (ans := []) (hc := law15_SchnorrSigns_S1) (ac := law15_SchnorrSigns_S2) (bid := 2) (step := (fun y => law15_SchnorrSigns_s5 N y.1.1 y.1.2.1 y.1.2.2.1 y.2.1)) (J := (fun e => (goK 0 [] law15_SchnorrSigns_S2 (fun y => law15_SchnorrSigns_6 N)) (law15_SchnorrSigns_S2.st [] e))) hb (by kernel_rfl) (Blk.into (X := (goK 0 [] law15_SchnorrSigns_S2 (fun y => law15_SchnorrSigns_6 N))) (NxOk.go hb (law15_SchnorrSigns_6_b N hb)) (fun x => by kernel_rfl)) (law15_SchnorrSigns_s5_b N hb) (fun x => by kernel_rfl)
theorem law15_SchnorrSigns_3_b {E : Env} (N : Nat) (hb : Base Tryd.prog (law15_SchnorrSigns_C N) E 0) : Blk Tryd.prog (law15_SchnorrSigns_C N) E [2, 3, 4, 11, 13, 15] law15_SchnorrSigns_S3 (law15_SchnorrSigns_L.drop 11) (fun y => law15_SchnorrSigns_3 N y.1.1 y.1.2.1 y.1.2.2.1 y.1.2.2.2.1 y.2.1 y.2.2.1) (law15_SchnorrSigns_K N) :=
  Blk.chunkAt hb 2 (X := (goK 0 [3, 91, 92, 93] law15_SchnorrSigns_S1 (fun y => law15_SchnorrSigns_4 N y.1.1 y.1.2.1 y.1.2.2.1 y.2.1))) (NxOk.go hb (law15_SchnorrSigns_4_b N hb)) rfl (fun x => by kernel_rfl)
theorem law15_SchnorrSigns_1_b {E : Env} (N : Nat) (hb : Base Tryd.prog (law15_SchnorrSigns_C N) E 0) : Blk Tryd.prog (law15_SchnorrSigns_C N) E [2, 3, 4, 11, 13, 15, 48, 49, 50] law15_SchnorrSigns_S0 (law15_SchnorrSigns_L.drop 10) (fun y => law15_SchnorrSigns_1 N y.1.1 y.1.2.1 y.1.2.2.1 y.1.2.2.2.1 y.1.2.2.2.2.1 y.1.2.2.2.2.2.1 y.2.1 y.2.2.1 y.2.2.2.1) (law15_SchnorrSigns_K N) :=
  Blk.loopAt (Nf := N) (hns := [2, 3, 4, 11, 13, 15, 48, 49, 50]) (ans := [2, 3, 4, 11, 13, 15]) (hc := law15_SchnorrSigns_S0) (ac := law15_SchnorrSigns_S3) (bid := 0) (step := (fun y => law15_SchnorrSigns_s2 N y.1.1 y.1.2.1 y.1.2.2.1 y.1.2.2.2.1 y.1.2.2.2.2.1 y.1.2.2.2.2.2.1 y.2.1 y.2.2.1 y.2.2.2.1)) (J := (fun e => (goK 0 [2, 3, 4, 11, 13, 15] law15_SchnorrSigns_S3 (fun y => law15_SchnorrSigns_3 N y.1.1 y.1.2.1 y.1.2.2.1 y.1.2.2.2.1 y.2.1 y.2.2.1)) (law15_SchnorrSigns_S3.st [2, 3, 4, 11, 13, 15] e))) hb (by kernel_rfl) (Blk.into (X := (goK 0 [2, 3, 4, 11, 13, 15] law15_SchnorrSigns_S3 (fun y => law15_SchnorrSigns_3 N y.1.1 y.1.2.1 y.1.2.2.1 y.1.2.2.2.1 y.2.1 y.2.2.1))) (NxOk.go hb (law15_SchnorrSigns_3_b N hb)) (fun x => by kernel_rfl)) (law15_SchnorrSigns_s2_b N hb) (fun x => by kernel_rfl)
theorem law15_SchnorrSigns_b {E : Env} (N : Nat) (hb : Base Tryd.prog (law15_SchnorrSigns_C N) E 0) : Blk Tryd.prog (law15_SchnorrSigns_C N) E (List.range law15_SchnorrSigns_S4.ks.length) law15_SchnorrSigns_S4 (law15_SchnorrSigns_L.drop 0) (fun y => law15_SchnorrSigns N y.1.1 y.1.2.1 y.1.2.2.1 y.1.2.2.2.1 y.1.2.2.2.2.1) (law15_SchnorrSigns_K N) :=
  Blk.chunkAt hb 10 (X := (goK 0 [2, 3, 4, 11, 13, 15, 48, 49, 50] law15_SchnorrSigns_S0 (fun y => law15_SchnorrSigns_1 N y.1.1 y.1.2.1 y.1.2.2.1 y.1.2.2.2.1 y.1.2.2.2.2.1 y.1.2.2.2.2.2.1 y.2.1 y.2.2.1 y.2.2.2.1))) (NxOk.go hb (law15_SchnorrSigns_1_b N hb)) rfl (fun x => by kernel_rfl)
noncomputable def law15_SchnorrSigns_ctr (N : Nat) : Ctr := ⟨law15_SchnorrSigns_S4, law15_SchnorrSigns_S5.un [false], 0, (fun y => law15_SchnorrSigns N y.1.1 y.1.2.1 y.1.2.2.1 y.1.2.2.2.1 y.1.2.2.2.2.1)⟩
theorem law15_SchnorrSigns_ctrs (N : Nat) : CtrsOk Tryd.prog (law15_SchnorrSigns_C N) := ctrs_of (Γ := law15_SchnorrSigns_C N) (by
  intro p hp
  simp only [law15_SchnorrSigns_C, List.mem_cons, List.not_mem_nil, or_false] at hp
  rcases hp with rfl | rfl | rfl | rfl | rfl | rfl | rfl | rfl | rfl | rfl
  · exact law15_awake_ok N
  · exact make_New_ok N
  · exact make_Codes_Secret_ok N
  · exact ref13_Public_ok N
  · exact ref15_Sign_ok N
  · exact schnorr_Sign_ok N
  · exact ref01_Equal_ok N
  · exact make_Codes_Change_ok N
  · exact schnorr_Verify_ok N
  · exact ref15_Verify_ok N)
theorem law15_SchnorrSigns_ok (N : Nat) : Ctr.ok Tryd.prog G_globs 3 (law15_SchnorrSigns_ctr N) :=
  ctr_fn (Γ := law15_SchnorrSigns_C N) (rfit := law15_SchnorrSigns_S5) (bs := [false]) (res := [10]) (by kernel_rfl) (tys_ok G_tys_ok) (law15_SchnorrSigns_ctrs N) Tryd.func3 (by kernel_rfl) (by kernel_rfl) Tryd.ntmps3 (by kernel_rfl) (by kernel_rfl) (by kernel_rfl) (by kernel_rfl) (fun E hb => law15_SchnorrSigns_b N hb)
end Go.Proofs.YtofajgidjkjnpaaDoor