/- Functions of the program as plain functions, each with the proof that the text computes it. -/
import Derived.Test.YtlamdneheilahaaDoorFnsKeysAgreeA
set_option linter.unusedVariables false
set_option linter.unusedSimpArgs false
namespace Go.Proofs.YtlamdneheilahaaDoor
open Go
set_option maxRecDepth 100000
set_option linter.unusedVariables false
/-! ipsecgate/ipsecgateref09.mask -/
abbrev ref09_mask_R : Type := ((Unit) × ((List UInt8) × Unit))
noncomputable def ref09_mask_s3 (N : Nat) (key_0 : (List UInt8)) (m_1 : UInt8) (i_6 : Int) (out_5 : (List UInt8)) : Option (Lo (((List UInt8) × UInt8 × Int × Unit) × ((List UInt8) × Unit)) ((Unit) × ((List UInt8) × Unit)) ref09_mask_R) :=
  bif (decide (i_6 < (64 : Int))) then
    bif inR i_6 out_5.length then
    let x5 := (out_5.set i_6.toNat m_1)
    bif (decide (i_6 < (key_0.length : Int))) then
      bif inR i_6 x5.length then
      bif inR i_6 key_0.length then
      bif inR i_6 x5.length then
      some (.go ((key_0, m_1, (w64 (i_6 + (1 : Int))), ()), ((x5.set i_6.toNat ((x5.getD i_6.toNat (0 : UInt8)) ^^^ (key_0.getD i_6.toNat (0 : UInt8)))), ())))
      else none
      else none
      else none
    else
      some (.go ((key_0, m_1, (w64 (i_6 + (1 : Int))), ()), (x5, ())))
    else none
  else
    some (.br ((()), (out_5, ())))
noncomputable def ref09_mask_4 (N : Nat) (out_5 : (List UInt8)) : Option ref09_mask_R :=
  some ((()), (out_5, ()))
noncomputable def ref09_mask_2 (N : Nat) (key_0 : (List UInt8)) (m_1 : UInt8) (i_6 : Int) (out_5 : (List UInt8)) : Option ref09_mask_R :=
  loopK N (fun y => ref09_mask_s3 N y.1.1 y.1.2.1 y.1.2.2.1 y.2.1) (fun (e : ((Unit) × ((List UInt8) × Unit))) => ref09_mask_4 N e.2.1) ((key_0, m_1, i_6, ()), (out_5, ()))
noncomputable def ref09_mask_1 (N : Nat) (key_0 : (List UInt8)) (m_1 : UInt8) : Option ref09_mask_R :=
  ref09_mask_2 N key_0 m_1 (0 : Int) (List.replicate 64 (0 : UInt8))
noncomputable def ref09_mask (N : Nat) (key_0 : (List UInt8)) (m_1 : UInt8) : Option ref09_mask_R :=
  bif (decide ((64 : Int) < (key_0.length : Int))) then
    Option.bind (ref08_Sum N key_0) fun y3 =>
    ref09_mask_1 N y3.2.1 m_1
  else
    ref09_mask_1 N key_0 m_1
noncomputable def ref09_mask_C (N : Nat) : Ctx := ⟨36, G_tys, [(21, ref08_Sum_ctr N)], G_globs⟩
noncomputable def ref09_mask_S0 : Spec := ⟨[.val (.sl .u8), .val .u8, .row 0, .val .i64], [(.row 5 .u8, .pos 2)]⟩
noncomputable def ref09_mask_S1 : Spec := ⟨[.row 0], [(.row 5 .u8, .pos 0)]⟩
noncomputable def ref09_mask_S2 : Spec := ⟨[.val (.sl .u8), .val .u8], []⟩
noncomputable def ref09_mask_K (_N : Nat) : XE → GS → Option ref09_mask_R := retK 0 [4] [false] ref09_mask_S1
noncomputable def ref09_mask_L : List Code := (bodyOf (some Tryd.f79))
noncomputable def ref09_mask_L3 : List Code := (loopOf (ref09_mask_L[5]?))
noncomputable def ref09_mask_K3 (N : Nat) : XE → GS → Option (Lo (((List UInt8) × UInt8 × Int × Unit) × ((List UInt8) × Unit)) ((Unit) × ((List UInt8) × Unit)) ref09_mask_R) := roundK (some 0) (fit 0 [0, 1, 5, 6] ref09_mask_S0) (fit 0 [5] ref09_mask_S1) (ref09_mask_K N)
theorem ref09_mask_s3_b {E : Env} (N : Nat) (hb : Base Tryd.prog (ref09_mask_C N) E 0) : Blk Tryd.prog (ref09_mask_C N) E [0, 1, 5, 6] ref09_mask_S0 (ref09_mask_L3.drop 0) (fun y => ref09_mask_s3 N y.1.1 y.1.2.1 y.1.2.2.1 y.2.1) (ref09_mask_K3 N) :=
  Blk.chunkAt hb 4 (X := (ref09_mask_K3 N .normal)) (NxOk.end (by kernel_rfl)) rfl (fun x => by kernel_rfl)
theorem ref09_mask_4_b {E : Env} (N : Nat) (hb : Base Tryd.prog (ref09_mask_C N) E 0) : Blk Tryd.prog (ref09_mask_C N) E [5] ref09_mask_S1 (ref09_mask_L.drop 6) (fun y => ref09_mask_4 N y.2.1) (ref09_mask_K N) :=
  Blk.chunkAt hb 2 (X := (ref09_mask_K N .normal)) (NxOk.end (by kernel_rfl)) rfl (fun x => by kernel_rfl)
theorem ref09_mask_2_b {E : Env} (N : Nat) (hb : Base Tryd.prog (ref09_mask_C N) E 0) : Blk Tryd.prog (ref09_mask_C N) E [0, 1, 5, 6] ref09_mask_S0 (ref09_mask_L.drop 5) (fun y => ref09_mask_2 N y.1.1 y.1.2.1 y.1.2.2.1 y.2.1) (ref09_mask_K N) :=
  Blk.loopAt (Nf := N) (hns := [0, 1, 5, 6]) (ans := [5]) (hc := ref09_mask_S0) (ac := ref09_mask_S1) (bid := 0) (step := (fun y => ref09_mask_s3 N y.1.1 y.1.2.1 y.1.2.2.1 y.2.1)) (J := (fun e => (goK 0 [5] ref09_mask_S1 (fun y => ref09_mask_4 N y.2.1)) (ref09_mask_S1.st [5] e))) hb (by kernel_rfl) (Blk.into (X := (goK 0 [5] ref09_mask_S1 (fun y => ref09_mask_4 N y.2.1))) (NxOk.go hb (ref09_mask_4_b N hb)) (fun x => by kernel_rfl)) (ref09_mask_s3_b N hb) (fun x => by kernel_rfl)
theorem ref09_mask_1_b {E : Env} (N : Nat) (hb : Base Tryd.prog (ref09_mask_C N) E 0) : Blk Tryd.prog (ref09_mask_C N) E [0, 1] ref09_mask_S2 (ref09_mask_L.drop 3) (fun y => ref09_mask_1 N y.1.1 y.1.2.1) (ref09_mask_K N) :=
  Blk.chunkAt hb 2 (X := (goK 0 [0, 1, 5, 6] ref09_mask_S0 (fun y => ref09_mask_2 N y.1.1 y.1.2.1 y.1.2.2.1 y.2.1))) (NxOk.go hb (ref09_mask_2_b N hb)) rfl (fun x => by kernel_rfl)
theorem ref09_mask_b {E : Env} (N : Nat) (hb : Base Tryd.prog (ref09_mask_C N) E 0) : Blk Tryd.prog (ref09_mask_C N) E (List.range ref09_mask_S2.ks.length) ref09_mask_S2 (ref09_mask_L.drop 0) (fun y => ref09_mask N y.1.1 y.1.2.1) (ref09_mask_K N) :=
  Blk.chunkAt hb 3 (X := (goK 0 [0, 1] ref09_mask_S2 (fun y => ref09_mask_1 N y.1.1 y.1.2.1))) (NxOk.go hb (ref09_mask_1_b N hb)) rfl (fun x => by kernel_rfl)
noncomputable def ref09_mask_ctr (N : Nat) : Ctr := ⟨ref09_mask_S2, ref09_mask_S1.un [false], 0, (fun y => ref09_mask N y.1.1 y.1.2.1)⟩
theorem ref09_mask_ctrs (N : Nat) : CtrsOk Tryd.prog (ref09_mask_C N) := ctrs_of (Γ := ref09_mask_C N) (by
  intro p hp
  simp only [ref09_mask_C, List.mem_cons, List.not_mem_nil, or_false] at hp
  rcases hp with rfl
  · exact ref08_Sum_ok N)
theorem ref09_mask_ok (N : Nat) : Ctr.ok Tryd.prog G_globs 79 (ref09_mask_ctr N) :=
  ctr_fn (Γ := ref09_mask_C N) (rfit := ref09_mask_S1) (bs := [false]) (res := [4]) (by kernel_rfl) (tys_ok G_tys_ok) (ref09_mask_ctrs N) Tryd.func79 (by kernel_rfl) (by kernel_rfl) Tryd.ntmps79 (by kernel_rfl) (by kernel_rfl) (by kernel_rfl) (by kernel_rfl) (fun E hb => ref09_mask_b N hb)
end Go.Proofs.YtlamdneheilahaaDoor
namespace Go.Proofs.YtlamdneheilahaaDoor
open Go
set_option maxRecDepth 100000
set_option linter.unusedVariables false
/-! ipsecgate/ipsecgateref09.Join -/
abbrev ref09_Join_R : Type := ((Unit) × ((List UInt8) × Unit))
noncomputable def ref09_Join_s2 (N : Nat) (l_0 : (List (List UInt8))) (i_4 : Int) (out_3 : (List UInt8)) : Option (Lo (((List (List UInt8)) × Int × Unit) × ((List UInt8) × Unit)) ((Unit) × ((List UInt8) × Unit)) ref09_Join_R) :=
  bif (decide (i_4 < (l_0.length : Int))) then
    bif inR i_4 l_0.length then
    let x3 := l_0.getD i_4.toNat ([] : List UInt8)
    bif room (out_3.length + x3.length) 1 then
    some (.go ((l_0, (w64 (i_4 + (1 : Int))), ()), ((out_3 ++ x3), ())))
    else none
    else none
  else
    some (.br ((()), (out_3, ())))
noncomputable def ref09_Join_3 (N : Nat) (out_3 : (List UInt8)) : Option ref09_Join_R :=
  some ((()), (out_3, ()))
noncomputable def ref09_Join_1 (N : Nat) (l_0 : (List (List UInt8))) (i_4 : Int) (out_3 : (List UInt8)) : Option ref09_Join_R :=
  loopK N (fun y => ref09_Join_s2 N y.1.1 y.1.2.1 y.2.1) (fun (e : ((Unit) × ((List UInt8) × Unit))) => ref09_Join_3 N e.2.1) ((l_0, i_4, ()), (out_3, ()))
noncomputable def ref09_Join (N : Nat) (l_0 : (List (List UInt8))) : Option ref09_Join_R :=
  ref09_Join_1 N l_0 (0 : Int) ([] : List UInt8)
noncomputable def ref09_Join_C (N : Nat) : Ctx := ⟨18, G_tys, [], G_globs⟩
noncomputable def ref09_Join_S0 : Spec := ⟨[.val (.sl (.sl .u8)), .row 0, .val .i64], [(.row 5 .u8, .pos 1)]⟩
noncomputable def ref09_Join_S1 : Spec := ⟨[.row 0], [(.row 5 .u8, .pos 0)]⟩
noncomputable def ref09_Join_S2 : Spec := ⟨[.val (.sl (.sl .u8))], []⟩
noncomputable def ref09_Join_K (_N : Nat) : XE → GS → Option ref09_Join_R := retK 0 [2] [false] ref09_Join_S1
noncomputable def ref09_Join_L : List Code := (bodyOf (some Tryd.f78))
noncomputable def ref09_Join_L2 : List Code := (loopOf (ref09_Join_L[3]?))
noncomputable def ref09_Join_K2 (N : Nat) : XE → GS → Option (Lo (((List (List UInt8)) × Int × Unit) × ((List UInt8) × Unit)) ((Unit) × ((List UInt8) × Unit)) ref09_Join_R) := roundK (some 0) (fit 0 [0, 3, 4] ref09_Join_S0) (fit 0 [3] ref09_Join_S1) (ref09_Join_K N)
theorem ref09_Join_s2_b {E : Env} (N : Nat) (hb : Base Tryd.prog (ref09_Join_C N) E 0) : Blk Tryd.prog (ref09_Join_C N) E [0, 3, 4] ref09_Join_S0 (ref09_Join_L2.drop 0) (fun y => ref09_Join_s2 N y.1.1 y.1.2.1 y.2.1) (ref09_Join_K2 N) :=
  Blk.chunkAt hb 4 (X := (ref09_Join_K2 N .normal)) (NxOk.end (by kernel_rfl)) rfl (fun x => by kernel_rfl)
theorem ref09_Join_3_b {E : Env} (N : Nat) (hb : Base Tryd.prog (ref09_Join_C N) E 0) : Blk Tryd.prog (ref09_Join_C N) E [3] ref09_Join_S1 (ref09_Join_L.drop 4) (fun y => ref09_Join_3 N y.2.1) (ref09_Join_K N) :=
  Blk.chunkAt hb 2 (X := (ref09_Join_K N .normal)) (NxOk.end (by kernel_rfl)) rfl (fun x => by kernel_rfl)
theorem ref09_Join_1_b {E : Env} (N : Nat) (hb : Base Tryd.prog (ref09_Join_C N) E 0) : Blk Tryd.prog (ref09_Join_C N) E [0, 3, 4] ref09_Join_S0 (ref09_Join_L.drop 3) (fun y => ref09_Join_1 N y.1.1 y.1.2.1 y.2.1) (ref09_Join_K N) :=
  Blk.loopAt (Nf := N) (hns := [0, 3, 4]) (ans := [3]) (hc := ref09_Join_S0) (ac := ref09_Join_S1) (bid := 0) (step := (fun y => ref09_Join_s2 N y.1.1 y.1.2.1 y.2.1)) (J := (fun e => (goK 0 [3] ref09_Join_S1 (fun y => ref09_Join_3 N y.2.1)) (ref09_Join_S1.st [3] e))) hb (by kernel_rfl) (Blk.into (X := (goK 0 [3] ref09_Join_S1 (fun y => ref09_Join_3 N y.2.1))) (NxOk.go hb (ref09_Join_3_b N hb)) (fun x => by kernel_rfl)) (ref09_Join_s2_b N hb) (fun x => by kernel_rfl)
theorem ref09_Join_b {E : Env} (N : Nat) (hb : Base Tryd.prog (ref09_Join_C N) E 0) : Blk Tryd.prog (ref09_Join_C N) E (List.range ref09_Join_S2.ks.length) ref09_Join_S2 (ref09_Join_L.drop 0) (fun y => ref09_Join N y.1.1) (ref09_Join_K N) :=
  Blk.chunkAt hb 3 (X := (goK 0 [0, 3, 4] ref09_Join_S0 (fun y => ref09_Join_1 N y.1.1 y.1.2.1 y.2.1))) (NxOk.go hb (ref09_Join_1_b N hb)) rfl (fun x => by kernel_rfl)
noncomputable def ref09_Join_ctr (N : Nat) : Ctr := ⟨ref09_Join_S2, ref09_Join_S1.un [false], 0, (fun y => ref09_Join N y.1.1)⟩
theorem ref09_Join_ctrs (N : Nat) : CtrsOk Tryd.prog (ref09_Join_C N) := ctrs_nil rfl
theorem ref09_Join_ok (N : Nat) : Ctr.ok Tryd.prog G_globs 78 (ref09_Join_ctr N) :=
  ctr_fn (Γ := ref09_Join_C N) (rfit := ref09_Join_S1) (bs := [false]) (res := [2]) (by kernel_rfl) (tys_ok G_tys_ok) (ref09_Join_ctrs N) Tryd.func78 (by kernel_rfl) (by kernel_rfl) Tryd.ntmps78 (by kernel_rfl) (by kernel_rfl) (by kernel_rfl) (by kernel_rfl) (fun E hb => ref09_Join_b N hb)
end Go.Proofs.YtlamdneheilahaaDoor
namespace Go.Proofs.YtlamdneheilahaaDoor
open Go
set_option maxRecDepth 100000
set_option linter.unusedVariables false
/-! ipsecgate/ipsecgateref09.Hmac -/
abbrev ref09_Hmac_R : Type := ((Unit) × ((List UInt8) × Unit))
noncomputable def ref09_Hmac (N : Nat) (key_0 : (List UInt8)) (b_1 : (List UInt8)) : Option ref09_Hmac_R :=
  Option.bind (ref09_mask N key_0 (92 : UInt8)) fun y1 =>
  Option.bind (ref09_mask N key_0 (54 : UInt8)) fun y2 =>
  Option.bind (ref09_Join N ([y2.2.1, b_1] : List (List UInt8))) fun y3 =>
  Option.bind (ref08_Sum N y3.2.1) fun y4 =>
  Option.bind (ref09_Join N ([y1.2.1, y4.2.1] : List (List UInt8))) fun y5 =>
  Option.bind (ref08_Sum N y5.2.1) fun y6 =>
  some ((()), (y6.2.1, ()))
noncomputable def ref09_Hmac_C (N : Nat) : Ctx := ⟨16, G_tys, [(79, ref09_mask_ctr N), (78, ref09_Join_ctr N), (21, ref08_Sum_ctr N)], G_globs⟩
noncomputable def ref09_Hmac_S0 : Spec := ⟨[.val (.sl .u8), .val (.sl .u8)], []⟩
noncomputable def ref09_Hmac_S1 : Spec := ⟨[.row 0], [(.row 5 .u8, .pos 0)]⟩
noncomputable def ref09_Hmac_K (_N : Nat) : XE → GS → Option ref09_Hmac_R := retK 0 [4] [false] ref09_Hmac_S1
noncomputable def ref09_Hmac_L : List Code := (bodyOf (some Tryd.f30))
theorem ref09_Hmac_b {E : Env} (N : Nat) (hb : Base Tryd.prog (ref09_Hmac_C N) E 0) : Blk Tryd.prog (ref09_Hmac_C N) E (List.range ref09_Hmac_S0.ks.length) ref09_Hmac_S0 (ref09_Hmac_L.drop 0) (fun y => ref09_Hmac N y.1.1 y.1.2.1) (ref09_Hmac_K N) :=
  Blk.chunkAt hb 3 (X := (ref09_Hmac_K N .normal)) (NxOk.end (by kernel_rfl)) rfl (fun x => by kernel_rfl)
noncomputable def ref09_Hmac_ctr (N : Nat) : Ctr := ⟨ref09_Hmac_S0, ref09_Hmac_S1.un [false], 0, (fun y => ref09_Hmac N y.1.1 y.1.2.1)⟩
theorem ref09_Hmac_ctrs (N : Nat) : CtrsOk Tryd.prog (ref09_Hmac_C N) := ctrs_of (Γ := ref09_Hmac_C N) (by
  intro p hp
  simp only [ref09_Hmac_C, List.mem_cons, List.not_mem_nil, or_false] at hp
  rcases hp with rfl | rfl | rfl
  · exact ref09_mask_ok N
  · exact ref09_Join_ok N
  · exact ref08_Sum_ok N)
theorem ref09_Hmac_ok (N : Nat) : Ctr.ok Tryd.prog G_globs 30 (ref09_Hmac_ctr N) :=
  ctr_fn (Γ := ref09_Hmac_C N) (rfit := ref09_Hmac_S1) (bs := [false]) (res := [4]) (by kernel_rfl) (tys_ok G_tys_ok) (ref09_Hmac_ctrs N) Tryd.func30 (by kernel_rfl) (by kernel_rfl) Tryd.ntmps30 (by kernel_rfl) (by kernel_rfl) (by kernel_rfl) (by kernel_rfl) (fun E hb => ref09_Hmac_b N hb)
end Go.Proofs.YtlamdneheilahaaDoor
namespace Go.Proofs.YtlamdneheilahaaDoor
open Go
set_option maxRecDepth 100000
set_option linter.unusedVariables false
/-! ipsecgate/ipsecgateref09.Plus -/
abbrev ref09_Plus_R : Type := (((List UInt8) × Int × Unit) × (Unit))
noncomputable def ref09_Plus_s3 (N : Nat) (key_0 : (List UInt8)) (seed_1 : (List UInt8)) (n_2 : Int) (i_10 : Int) (out_8 : (List UInt8)) (t_9 : (List UInt8)) : Option (Lo (((List UInt8) × (List UInt8) × Int × Int × Unit) × ((List UInt8) × (List UInt8) × Unit)) ((Int × Unit) × ((List UInt8) × Unit)) ref09_Plus_R) :=
  bif (decide ((out_8.length : Int) < n_2)) then
    Option.bind (ref09_Join N ([t_9, seed_1, ([(iu8 i_10)] : List UInt8)] : List (List UInt8))) fun y5 =>
    Option.bind (ref09_Hmac N key_0 y5.2.1) fun y6 =>
    bif room (out_8.length + y6.2.1.length) 1 then
    some (.go ((key_0, seed_1, n_2, (w64 (i_10 + (1 : Int))), ()), ((out_8 ++ y6.2.1), y6.2.1, ())))
    else none
  else
    some (.br ((n_2, ()), (out_8, ())))
noncomputable def ref09_Plus_4 (N : Nat) (n_2 : Int) (out_8 : (List UInt8)) : Option ref09_Plus_R :=
  bif decide (0 ≤ (0 : Int)) && decide ((0 : Int) ≤ n_2) && decide (n_2 ≤ (out_8.length : Int)) && true then
  some (((cut out_8 0 n_2.toNat), (0 : Int), ()), (()))
  else none
noncomputable def ref09_Plus_2 (N : Nat) (key_0 : (List UInt8)) (seed_1 : (List UInt8)) (n_2 : Int) (i_10 : Int) (out_8 : (List UInt8)) (t_9 : (List UInt8)) : Option ref09_Plus_R :=
  loopK N (fun y => ref09_Plus_s3 N y.1.1 y.1.2.1 y.1.2.2.1 y.1.2.2.2.1 y.2.1 y.2.2.1) (fun (e : ((Int × Unit) × ((List UInt8) × Unit))) => ref09_Plus_4 N e.1.1 e.2.1) ((key_0, seed_1, n_2, i_10, ()), (out_8, t_9, ()))
noncomputable def ref09_Plus_1 (N : Nat) (key_0 : (List UInt8)) (seed_1 : (List UInt8)) (n_2 : Int) (t_16 : Bool) : Option ref09_Plus_R :=
  bif t_16 then
    some ((([] : List UInt8), (5 : Int), ()), (()))
  else
    ref09_Plus_2 N key_0 seed_1 n_2 (1 : Int) ([] : List UInt8) ([] : List UInt8)
noncomputable def ref09_Plus (N : Nat) (key_0 : (List UInt8)) (seed_1 : (List UInt8)) (n_2 : Int) : Option ref09_Plus_R :=
  bif (decide (n_2 < (0 : Int))) then
    ref09_Plus_1 N key_0 seed_1 n_2 true
  else
    ref09_Plus_1 N key_0 seed_1 n_2 (decide ((8160 : Int) < n_2))
noncomputable def ref09_Plus_C (N : Nat) : Ctx := ⟨38, G_tys, [(78, ref09_Join_ctr N), (30, ref09_Hmac_ctr N)], G_globs⟩
noncomputable def ref09_Plus_S0 : Spec := ⟨[.val (.sl .u8), .val (.sl .u8), .val .i64, .row 0, .row 1, .val .i64], [(.row 5 .u8, .pos 3), (.row 5 .u8, .pos 4)]⟩
noncomputable def ref09_Plus_S1 : Spec := ⟨[.val .i64, .row 0], [(.row 5 .u8, .pos 1)]⟩
noncomputable def ref09_Plus_S2 : Spec := ⟨[.val (.sl .u8), .val (.sl .u8), .val .i64, .val .bool], []⟩
noncomputable def ref09_Plus_S3 : Spec := ⟨[.val (.sl .u8), .val (.sl .u8), .val .i64], []⟩
noncomputable def ref09_Plus_S4 : Spec := ⟨[.val (.sl .u8), .val .i64], []⟩
noncomputable def ref09_Plus_K (_N : Nat) : XE → GS → Option ref09_Plus_R := retK 0 [6, 7] [false, false] ref09_Plus_S4
noncomputable def ref09_Plus_L : List Code := (bodyOf (some Tryd.f37))
noncomputable def ref09_Plus_L3 : List Code := (loopOf (ref09_Plus_L[5]?))
noncomputable def ref09_Plus_K3 (N : Nat) : XE → GS → Option (Lo (((List UInt8) × (List UInt8) × Int × Int × Unit) × ((List UInt8) × (List UInt8) × Unit)) ((Int × Unit) × ((List UInt8) × Unit)) ref09_Plus_R) := roundK (some 0) (fit 0 [0, 1, 2, 8, 9, 10] ref09_Plus_S0) (fit 0 [2, 8] ref09_Plus_S1) (ref09_Plus_K N)
theorem ref09_Plus_s3_b {E : Env} (N : Nat) (hb : Base Tryd.prog (ref09_Plus_C N) E 0) : Blk Tryd.prog (ref09_Plus_C N) E [0, 1, 2, 8, 9, 10] ref09_Plus_S0 (ref09_Plus_L3.drop 0) (fun y => ref09_Plus_s3 N y.1.1 y.1.2.1 y.1.2.2.1 y.1.2.2.2.1 y.2.1 y.2.2.1) (ref09_Plus_K3 N) :=
  Blk.chunkAt hb 4 (X := (ref09_Plus_K3 N .normal)) (NxOk.end (by kernel_rfl)) rfl (fun x => by kernel_rfl)
theorem ref09_Plus_4_b {E : Env} (N : Nat) (hb : Base Tryd.prog (ref09_Plus_C N) E 0) : Blk Tryd.prog (ref09_Plus_C N) E [2, 8] ref09_Plus_S1 (ref09_Plus_L.drop 6) (fun y => ref09_Plus_4 N y.1.1 y.2.1) (ref09_Plus_K N) :=
  Blk.chunkAt hb 2 (X := (ref09_Plus_K N .normal)) (NxOk.end (by kernel_rfl)) rfl (fun x => by kernel_rfl)
theorem ref09_Plus_2_b {E : Env} (N : Nat) (hb : Base Tryd.prog (ref09_Plus_C N) E 0) : Blk Tryd.prog (ref09_Plus_C N) E [0, 1, 2, 8, 9, 10] ref09_Plus_S0 (ref09_Plus_L.drop 5) (fun y => ref09_Plus_2 N y.1.1 y.1.2.1 y.1.2.2.1 y.1.2.2.2.1 y.2.1 y.2.2.1) (ref09_Plus_K N) :=
  Blk.loopAt (Nf := N) (hns := [0, 1, 2, 8, 9, 10]) (ans := [2, 8]) (hc := ref09_Plus_S0) (ac := ref09_Plus_S1) (bid := 0) (step := (fun y => ref09_Plus_s3 N y.1.1 y.1.2.1 y.1.2.2.1 y.1.2.2.2.1 y.2.1 y.2.2.1)) (J := (fun e => (goK 0 [2, 8] ref09_Plus_S1 (fun y => ref09_Plus_4 N y.1.1 y.2.1)) (ref09_Plus_S1.st [2, 8] e))) hb (by kernel_rfl) (Blk.into (X := (goK 0 [2, 8] ref09_Plus_S1 (fun y => ref09_Plus_4 N y.1.1 y.2.1))) (NxOk.go hb (ref09_Plus_4_b N hb)) (fun x => by kernel_rfl)) (ref09_Plus_s3_b N hb) (fun x => by kernel_rfl)
theorem ref09_Plus_1_b {E : Env} (N : Nat) (hb : Base Tryd.prog (ref09_Plus_C N) E 0) : Blk Tryd.prog (ref09_Plus_C N) E [0, 1, 2, 16] ref09_Plus_S2 (ref09_Plus_L.drop 2) (fun y => ref09_Plus_1 N y.1.1 y.1.2.1 y.1.2.2.1 y.1.2.2.2.1) (ref09_Plus_K N) :=
  Blk.chunkAt hb 3 (X := (goK 0 [0, 1, 2, 8, 9, 10] ref09_Plus_S0 (fun y => ref09_Plus_2 N y.1.1 y.1.2.1 y.1.2.2.1 y.1.2.2.2.1 y.2.1 y.2.2.1))) (NxOk.go hb (ref09_Plus_2_b N hb)) rfl (fun x => by kernel_rfl)
theorem ref09_Plus_b {E : Env} (N : Nat) (hb : Base Tryd.prog (ref09_Plus_C N) E 0) : Blk Tryd.prog (ref09_Plus_C N) E (List.range ref09_Plus_S3.ks.length) ref09_Plus_S3 (ref09_Plus_L.drop 0) (fun y => ref09_Plus N y.1.1 y.1.2.1 y.1.2.2.1) (ref09_Plus_K N) :=
  Blk.chunkAt hb 2 (X := (goK 0 [0, 1, 2, 16] ref09_Plus_S2 (fun y => ref09_Plus_1 N y.1.1 y.1.2.1 y.1.2.2.1 y.1.2.2.2.1))) (NxOk.go hb (ref09_Plus_1_b N hb)) rfl (fun x => by kernel_rfl)
noncomputable def ref09_Plus_ctr (N : Nat) : Ctr := ⟨ref09_Plus_S3, ref09_Plus_S4.un [false, false], 0, (fun y => ref09_Plus N y.1.1 y.1.2.1 y.1.2.2.1)⟩
theorem ref09_Plus_ctrs (N : Nat) : CtrsOk Tryd.prog (ref09_Plus_C N) := ctrs_of (Γ := ref09_Plus_C N) (by
  intro p hp
  simp only [ref09_Plus_C, List.mem_cons, List.not_mem_nil, or_false] at hp
  rcases hp with rfl | rfl
  · exact ref09_Join_ok N
  · exact ref09_Hmac_ok N)
theorem ref09_Plus_ok (N : Nat) : Ctr.ok Tryd.prog G_globs 37 (ref09_Plus_ctr N) :=
  ctr_fn (Γ := ref09_Plus_C N) (rfit := ref09_Plus_S4) (bs := [false, false]) (res := [6, 7]) (by kernel_rfl) (tys_ok G_tys_ok) (ref09_Plus_ctrs N) Tryd.func37 (by kernel_rfl) (by kernel_rfl) Tryd.ntmps37 (by kernel_rfl) (by kernel_rfl) (by kernel_rfl) (by kernel_rfl) (fun E hb => ref09_Plus_b N hb)
end Go.Proofs.YtlamdneheilahaaDoor
namespace Go.Proofs.YtlamdneheilahaaDoor
open Go
set_option maxRecDepth 100000
set_option linter.unusedVariables false
/-! ipsecgate/ipsecgateref09.Split -/
abbrev ref09_Split_R : Type := ((Bool × Unit) × ((List (List UInt8)) × Unit))
noncomputable def ref09_Split_s2 (N : Nat) (b_0 : (List UInt8)) (sizes_1 : (List Int)) (at_7 : Int) (i_8 : Int) (out_6 : (List (List UInt8))) : Option (Lo (((List UInt8) × (List Int) × Int × Int × Unit) × ((List (List UInt8)) × Unit)) ((Unit) × ((List (List UInt8)) × Unit)) ref09_Split_R) :=
  bif (decide (i_8 < (sizes_1.length : Int))) then
    bif inR i_8 sizes_1.length then
    bif (decide ((sizes_1.getD i_8.toNat (0 : Int)) < (0 : Int))) then
      some (.rt ((false, ()), (([] : List (List UInt8)), ())))
    else
      bif inR i_8 sizes_1.length then
      bif (decide ((w64 ((b_0.length : Int) - at_7)) < (sizes_1.getD i_8.toNat (0 : Int)))) then
        some (.rt ((false, ()), (([] : List (List UInt8)), ())))
      else
        bif inR i_8 sizes_1.length then
        let x10 := w64 (at_7 + (sizes_1.getD i_8.toNat (0 : Int)))
        bif decide (0 ≤ at_7) && decide (at_7 ≤ x10) && decide (x10 ≤ (b_0.length : Int)) && true then
        let x11 := cut b_0 at_7.toNat x10.toNat
        bif room (0 + x11.length) 1 then
        bif room (out_6.length + ([x11] : List (List UInt8)).length) 24 then
        bif inR i_8 sizes_1.length then
        some (.go ((b_0, sizes_1, (w64 (at_7 + (sizes_1.getD i_8.toNat (0 : Int)))), (w64 (i_8 + (1 : Int))), ()), ((out_6 ++ ([x11] : List (List UInt8))), ())))
        else none
        else none
        else none
        else none
        else none
      else none
    else none
  else
    some (.br ((()), (out_6, ())))
noncomputable def ref09_Split_3 (N : Nat) (out_6 : (List (List UInt8))) : Option ref09_Split_R :=
  some ((true, ()), (out_6, ()))
noncomputable def ref09_Split_1 (N : Nat) (b_0 : (List UInt8)) (sizes_1 : (List Int)) (at_7 : Int) (i_8 : Int) (out_6 : (List (List UInt8))) : Option ref09_Split_R :=
  loopK N (fun y => ref09_Split_s2 N y.1.1 y.1.2.1 y.1.2.2.1 y.1.2.2.2.1 y.2.1) (fun (e : ((Unit) × ((List (List UInt8)) × Unit))) => ref09_Split_3 N e.2.1) ((b_0, sizes_1, at_7, i_8, ()), (out_6, ()))
noncomputable def ref09_Split (N : Nat) (b_0 : (List UInt8)) (sizes_1 : (List Int)) : Option ref09_Split_R :=
  ref09_Split_1 N b_0 sizes_1 (0 : Int) (0 : Int) ([] : List (List UInt8))
noncomputable def ref09_Split_C (N : Nat) : Ctx := ⟨51, G_tys, [], G_globs⟩
noncomputable def ref09_Split_S0 : Spec := ⟨[.val (.sl .u8), .val (.sl .i64), .row 0, .val .i64, .val .i64], [(.row 22 (.sl .u8), .pos 2)]⟩
noncomputable def ref09_Split_S1 : Spec := ⟨[.row 0], [(.row 22 (.sl .u8), .pos 0)]⟩
noncomputable def ref09_Split_S2 : Spec := ⟨[.val (.sl .u8), .val (.sl .i64)], []⟩
noncomputable def ref09_Split_S3 : Spec := ⟨[.row 0, .val .bool], [(.row 22 (.sl .u8), .pos 0)]⟩
noncomputable def ref09_Split_K (_N : Nat) : XE → GS → Option ref09_Split_R := retK 0 [4, 5] [false, false] ref09_Split_S3
noncomputable def ref09_Split_L : List Code := (bodyOf (some Tryd.f39))
noncomputable def ref09_Split_L2 : List Code := (loopOf (ref09_Split_L[4]?))
noncomputable def ref09_Split_K2 (N : Nat) : XE → GS → Option (Lo (((List UInt8) × (List Int) × Int × Int × Unit) × ((List (List UInt8)) × Unit)) ((Unit) × ((List (List UInt8)) × Unit)) ref09_Split_R) := roundK (some 0) (fit 0 [0, 1, 6, 7, 8] ref09_Split_S0) (fit 0 [6] ref09_Split_S1) (ref09_Split_K N)
theorem ref09_Split_s2_b {E : Env} (N : Nat) (hb : Base Tryd.prog (ref09_Split_C N) E 0) : Blk Tryd.prog (ref09_Split_C N) E [0, 1, 6, 7, 8] ref09_Split_S0 (ref09_Split_L2.drop 0) (fun y => ref09_Split_s2 N y.1.1 y.1.2.1 y.1.2.2.1 y.1.2.2.2.1 y.2.1) (ref09_Split_K2 N) :=
  Blk.chunkAt hb 4 (X := (ref09_Split_K2 N .normal)) (NxOk.end (by kernel_rfl)) rfl (fun x => by kernel_rfl)
theorem ref09_Split_3_b {E : Env} (N : Nat) (hb : Base Tryd.prog (ref09_Split_C N) E 0) : Blk Tryd.prog (ref09_Split_C N) E [6] ref09_Split_S1 (ref09_Split_L.drop 5) (fun y => ref09_Split_3 N y.2.1) (ref09_Split_K N) :=
  Blk.chunkAt hb 2 (X := (ref09_Split_K N .normal)) (NxOk.end (by kernel_rfl)) rfl (fun x => by kernel_rfl)
theorem ref09_Split_1_b {E : Env} (N : Nat) (hb : Base Tryd.prog (ref09_Split_C N) E 0) : Blk Tryd.prog (ref09_Split_C N) E [0, 1, 6, 7, 8] ref09_Split_S0 (ref09_Split_L.drop 4) (fun y => ref09_Split_1 N y.1.1 y.1.2.1 y.1.2.2.1 y.1.2.2.2.1 y.2.1) (ref09_Split_K N) :=
  Blk.loopAt (Nf := N) (hns := [0, 1, 6, 7, 8]) (ans := [6]) (hc := ref09_Split_S0) (ac := ref09_Split_S1) (bid := 0) (step := (fun y => ref09_Split_s2 N y.1.1 y.1.2.1 y.1.2.2.1 y.1.2.2.2.1 y.2.1)) (J := (fun e => (goK 0 [6] ref09_Split_S1 (fun y => ref09_Split_3 N y.2.1)) (ref09_Split_S1.st [6] e))) hb (by kernel_rfl) (Blk.into (X := (goK 0 [6] ref09_Split_S1 (fun y => ref09_Split_3 N y.2.1))) (NxOk.go hb (ref09_Split_3_b N hb)) (fun x => by kernel_rfl)) (ref09_Split_s2_b N hb) (fun x => by kernel_rfl)
theorem ref09_Split_b {E : Env} (N : Nat) (hb : Base Tryd.prog (ref09_Split_C N) E 0) : Blk Tryd.prog (ref09_Split_C N) E (List.range ref09_Split_S2.ks.length) ref09_Split_S2 (ref09_Split_L.drop 0) (fun y => ref09_Split N y.1.1 y.1.2.1) (ref09_Split_K N) :=
  Blk.chunkAt hb 4 (X := (goK 0 [0, 1, 6, 7, 8] ref09_Split_S0 (fun y => ref09_Split_1 N y.1.1 y.1.2.1 y.1.2.2.1 y.1.2.2.2.1 y.2.1))) (NxOk.go hb (ref09_Split_1_b N hb)) rfl (fun x => by kernel_rfl)
noncomputable def ref09_Split_ctr (N : Nat) : Ctr := ⟨ref09_Split_S2, ref09_Split_S3.un [false, false], 0, (fun y => ref09_Split N y.1.1 y.1.2.1)⟩
theorem ref09_Split_ctrs (N : Nat) : CtrsOk Tryd.prog (ref09_Split_C N) := ctrs_nil rfl
theorem ref09_Split_ok (N : Nat) : Ctr.ok Tryd.prog G_globs 39 (ref09_Split_ctr N) :=
  ctr_fn (Γ := ref09_Split_C N) (rfit := ref09_Split_S3) (bs := [false, false]) (res := [4, 5]) (by kernel_rfl) (tys_ok G_tys_ok) (ref09_Split_ctrs N) Tryd.func39 (by kernel_rfl) (by kernel_rfl) Tryd.ntmps39 (by kernel_rfl) (by kernel_rfl) (by kernel_rfl) (by kernel_rfl) (fun E hb => ref09_Split_b N hb)
end Go.Proofs.YtlamdneheilahaaDoor
namespace Go.Proofs.YtlamdneheilahaaDoor
open Go
set_option maxRecDepth 100000
set_option linter.unusedVariables false
/-! (*ipsecgate/ipsecgatemake.Codes).Nonce -/
abbrev make_Codes_Nonce_R : Type := ((Unit) × (((List UInt8) × (Int × Unit)) × (List UInt8) × Unit))
noncomputable def make_Codes_Nonce (N : Nat) (c_0 : ((List UInt8) × (Int × Unit))) : Option make_Codes_Nonce_R :=
  Option.bind (make_Codes_Next N (12 : Int) c_0) fun y1 =>
  bif (decide (y1.1.1 = (10 : Int))) then
    Option.bind (make_Codes_Next N (17 : Int) y1.2.1) fun y3 =>
    Option.bind (make_Codes_Bytes N y3.1.1 y3.2.1) fun y4 =>
    some ((()), (y4.2.1, y4.2.2.1, ()))
  else
    bif (decide (y1.1.1 = (11 : Int))) then
      Option.bind (make_Codes_Bytes N (20 : Int) y1.2.1) fun y6 =>
      Option.bind (make_Codes_Next N (3 : Int) y6.2.1) fun y7 =>
      let x8 := w64 ((235 : Int) + y7.1.1)
      bif decide (0 ≤ x8) then
      bif room (y6.2.2.1.length + (List.replicate x8.toNat (0 : UInt8)).length) 1 then
      some ((()), (y7.2.1, (y6.2.2.1 ++ (List.replicate x8.toNat (0 : UInt8))), ()))
      else none
      else none
    else
      Option.bind (make_Codes_Next N (20 : Int) y1.2.1) fun y10 =>
      Option.bind (make_Codes_Bytes N (w64 ((16 : Int) + y10.1.1)) y10.2.1) fun y12 =>
      some ((()), (y12.2.1, y12.2.2.1, ()))
noncomputable def make_Codes_Nonce_C (N : Nat) : Ctx := ⟨24, G_tys, [(43, make_Codes_Next_ctr N), (42, make_Codes_Bytes_ctr N)], G_globs⟩
noncomputable def make_Codes_Nonce_S0 : Spec := ⟨[.ref 0 (.pair (.sl .u8) (.pair .i64 .unit))], [(.box 100 (.pair (.sl .u8) (.pair .i64 .unit)), .pos 0)]⟩
noncomputable def make_Codes_Nonce_S1 : Spec := ⟨[.row 1], [(.box 100 (.pair (.sl .u8) (.pair .i64 .unit)), .fix 0), (.row 5 .u8, .pos 0)]⟩
noncomputable def make_Codes_Nonce_K (_N : Nat) : XE → GS → Option make_Codes_Nonce_R := retK 1 [2] [false] make_Codes_Nonce_S1
noncomputable def make_Codes_Nonce_L : List Code := (bodyOf (some Tryd.f48))
theorem make_Codes_Nonce_b {E : Env} (N : Nat) (hb : Base Tryd.prog (make_Codes_Nonce_C N) E 1) : Blk Tryd.prog (make_Codes_Nonce_C N) E (List.range make_Codes_Nonce_S0.ks.length) make_Codes_Nonce_S0 (make_Codes_Nonce_L.drop 0) (fun y => make_Codes_Nonce N y.2.1) (make_Codes_Nonce_K N) :=
  Blk.chunkAt hb 5 (X := (make_Codes_Nonce_K N .normal)) (NxOk.end (by kernel_rfl)) rfl (fun x => by kernel_rfl)
noncomputable def make_Codes_Nonce_ctr (N : Nat) : Ctr := ⟨make_Codes_Nonce_S0, make_Codes_Nonce_S1.un [false], 1, (fun y => make_Codes_Nonce N y.2.1)⟩
theorem make_Codes_Nonce_ctrs (N : Nat) : CtrsOk Tryd.prog (make_Codes_Nonce_C N) := ctrs_of (Γ := make_Codes_Nonce_C N) (by
  intro p hp
  simp only [make_Codes_Nonce_C, List.mem_cons, List.not_mem_nil, or_false] at hp
  rcases hp with rfl | rfl
  · exact make_Codes_Next_ok N
  · exact make_Codes_Bytes_ok N)
theorem make_Codes_Nonce_ok (N : Nat) : Ctr.ok Tryd.prog G_globs 48 (make_Codes_Nonce_ctr N) :=
  ctr_fn (Γ := make_Codes_Nonce_C N) (rfit := make_Codes_Nonce_S1) (bs := [false]) (res := [2]) (by kernel_rfl) (tys_ok G_tys_ok) (make_Codes_Nonce_ctrs N) Tryd.func48 (by kernel_rfl) (by kernel_rfl) Tryd.ntmps48 (by kernel_rfl) (by kernel_rfl) (by kernel_rfl) (by kernel_rfl) (fun E hb => make_Codes_Nonce_b N hb)
end Go.Proofs.YtlamdneheilahaaDoor
namespace Go.Proofs.YtlamdneheilahaaDoor
open Go
set_option maxRecDepth 100000
set_option linter.unusedVariables false
/-! ipsecgate/ipsecgateref16.nonces -/
abbrev ref16_nonces_R : Type := ((Bool × Unit) × (Unit))
noncomputable def ref16_nonces (N : Nat) (a_0 : (List UInt8)) (b_1 : (List UInt8)) : Option ref16_nonces_R :=
  bif (decide ((16 : Int) ≤ (a_0.length : Int))) then
    bif (decide ((a_0.length : Int) ≤ (256 : Int))) then
      bif (decide ((16 : Int) ≤ (b_1.length : Int))) then
        some (((decide ((b_1.length : Int) ≤ (256 : Int))), ()), (()))
      else
        some ((false, ()), (()))
    else
      some ((false, ()), (()))
  else
    some ((false, ()), (()))
noncomputable def ref16_nonces_C (N : Nat) : Ctx := ⟨23, G_tys, [], G_globs⟩
noncomputable def ref16_nonces_S0 : Spec := ⟨[.val (.sl .u8), .val (.sl .u8)], []⟩
noncomputable def ref16_nonces_S1 : Spec := ⟨[.val .bool], []⟩
noncomputable def ref16_nonces_K (_N : Nat) : XE → GS → Option ref16_nonces_R := retK 0 [4] [false] ref16_nonces_S1
noncomputable def ref16_nonces_L : List Code := (bodyOf (some Tryd.f83))
theorem ref16_nonces_b {E : Env} (N : Nat) (hb : Base Tryd.prog (ref16_nonces_C N) E 0) : Blk Tryd.prog (ref16_nonces_C N) E (List.range ref16_nonces_S0.ks.length) ref16_nonces_S0 (ref16_nonces_L.drop 0) (fun y => ref16_nonces N y.1.1 y.1.2.1) (ref16_nonces_K N) :=
  Blk.chunkAt hb 3 (X := (ref16_nonces_K N .normal)) (NxOk.end (by kernel_rfl)) rfl (fun x => by kernel_rfl)
noncomputable def ref16_nonces_ctr (N : Nat) : Ctr := ⟨ref16_nonces_S0, ref16_nonces_S1.un [false], 0, (fun y => ref16_nonces N y.1.1 y.1.2.1)⟩
theorem ref16_nonces_ctrs (N : Nat) : CtrsOk Tryd.prog (ref16_nonces_C N) := ctrs_nil rfl
theorem ref16_nonces_ok (N : Nat) : Ctr.ok Tryd.prog G_globs 83 (ref16_nonces_ctr N) :=
  ctr_fn (Γ := ref16_nonces_C N) (rfit := ref16_nonces_S1) (bs := [false]) (res := [4]) (by kernel_rfl) (tys_ok G_tys_ok) (ref16_nonces_ctrs N) Tryd.func83 (by kernel_rfl) (by kernel_rfl) Tryd.ntmps83 (by kernel_rfl) (by kernel_rfl) (by kernel_rfl) (by kernel_rfl) (fun E hb => ref16_nonces_b N hb)
end Go.Proofs.YtlamdneheilahaaDoor
namespace Go.Proofs.YtlamdneheilahaaDoor
open Go
set_option maxRecDepth 100000
set_option linter.unusedVariables false
/-! ipsecgate/ipsecgateref16.Seed -/
abbrev ref16_Seed_R : Type := ((Int × Unit) × ((List UInt8) × Unit))
noncomputable def ref16_Seed_1 (N : Nat) (ni_0 : (List UInt8)) (nr_1 : (List UInt8)) (shared_2 : (List UInt8)) (t_16 : Bool) : Option ref16_Seed_R :=
  bif t_16 then
    some (((13 : Int), ()), (([] : List UInt8), ()))
  else
    Option.bind (ref09_Join N ([ni_0, nr_1] : List (List UInt8))) fun y3 =>
    Option.bind (ref09_Hmac N y3.2.1 shared_2) fun y4 =>
    some (((0 : Int), ()), (y4.2.1, ()))
noncomputable def ref16_Seed (N : Nat) (ni_0 : (List UInt8)) (nr_1 : (List UInt8)) (shared_2 : (List UInt8)) : Option ref16_Seed_R :=
  Option.bind (ref16_nonces N ni_0 nr_1) fun y1 =>
  bif (!y1.1.1) then
    ref16_Seed_1 N ni_0 nr_1 shared_2 true
  else
    ref16_Seed_1 N ni_0 nr_1 shared_2 (decide ((shared_2.length : Int) = (0 : Int)))
noncomputable def ref16_Seed_C (N : Nat) : Ctx := ⟨23, G_tys, [(83, ref16_nonces_ctr N), (78, ref09_Join_ctr N), (30, ref09_Hmac_ctr N)], G_globs⟩
noncomputable def ref16_Seed_S0 : Spec := ⟨[.val (.sl .u8), .val (.sl .u8), .val (.sl .u8), .val .bool], []⟩
noncomputable def ref16_Seed_S1 : Spec := ⟨[.val (.sl .u8), .val (.sl .u8), .val (.sl .u8)], []⟩
noncomputable def ref16_Seed_S2 : Spec := ⟨[.row 0, .val .i64], [(.row 5 .u8, .pos 0)]⟩
noncomputable def ref16_Seed_K (_N : Nat) : XE → GS → Option ref16_Seed_R := retK 0 [6, 7] [false, false] ref16_Seed_S2
noncomputable def ref16_Seed_L : List Code := (bodyOf (some Tryd.f49))
theorem ref16_Seed_1_b {E : Env} (N : Nat) (hb : Base Tryd.prog (ref16_Seed_C N) E 0) : Blk Tryd.prog (ref16_Seed_C N) E [0, 1, 2, 16] ref16_Seed_S0 (ref16_Seed_L.drop 2) (fun y => ref16_Seed_1 N y.1.1 y.1.2.1 y.1.2.2.1 y.1.2.2.2.1) (ref16_Seed_K N) :=
  Blk.chunkAt hb 3 (X := (ref16_Seed_K N .normal)) (NxOk.end (by kernel_rfl)) rfl (fun x => by kernel_rfl)
theorem ref16_Seed_b {E : Env} (N : Nat) (hb : Base Tryd.prog (ref16_Seed_C N) E 0) : Blk Tryd.prog (ref16_Seed_C N) E (List.range ref16_Seed_S1.ks.length) ref16_Seed_S1 (ref16_Seed_L.drop 0) (fun y => ref16_Seed N y.1.1 y.1.2.1 y.1.2.2.1) (ref16_Seed_K N) :=
  Blk.chunkAt hb 2 (X := (goK 0 [0, 1, 2, 16] ref16_Seed_S0 (fun y => ref16_Seed_1 N y.1.1 y.1.2.1 y.1.2.2.1 y.1.2.2.2.1))) (NxOk.go hb (ref16_Seed_1_b N hb)) rfl (fun x => by kernel_rfl)
noncomputable def ref16_Seed_ctr (N : Nat) : Ctr := ⟨ref16_Seed_S1, ref16_Seed_S2.un [false, false], 0, (fun y => ref16_Seed N y.1.1 y.1.2.1 y.1.2.2.1)⟩
theorem ref16_Seed_ctrs (N : Nat) : CtrsOk Tryd.prog (ref16_Seed_C N) := ctrs_of (Γ := ref16_Seed_C N) (by
  intro p hp
  simp only [ref16_Seed_C, List.mem_cons, List.not_mem_nil, or_false] at hp
  rcases hp with rfl | rfl | rfl
  · exact ref16_nonces_ok N
  · exact ref09_Join_ok N
  · exact ref09_Hmac_ok N)
theorem ref16_Seed_ok (N : Nat) : Ctr.ok Tryd.prog G_globs 49 (ref16_Seed_ctr N) :=
  ctr_fn (Γ := ref16_Seed_C N) (rfit := ref16_Seed_S2) (bs := [false, false]) (res := [6, 7]) (by kernel_rfl) (tys_ok G_tys_ok) (ref16_Seed_ctrs N) Tryd.func49 (by kernel_rfl) (by kernel_rfl) Tryd.ntmps49 (by kernel_rfl) (by kernel_rfl) (by kernel_rfl) (by kernel_rfl) (fun E hb => ref16_Seed_b N hb)
end Go.Proofs.YtlamdneheilahaaDoor
namespace Go.Proofs.YtlamdneheilahaaDoor
open Go
set_option maxRecDepth 100000
set_option linter.unusedVariables false
/-! ipsecgate/keys.Rekey -/
abbrev keys_Rekey_R : Type := ((Int × Unit) × ((List UInt8) × Unit))
noncomputable def keys_Rekey_1 (N : Nat) (d_0 : (List UInt8)) (ni_1 : (List UInt8)) (nr_2 : (List UInt8)) (shared_3 : (List UInt8)) (t_19 : Bool) : Option keys_Rekey_R :=
  bif t_19 then
    some (((13 : Int), ()), (([] : List UInt8), ()))
  else
    Option.bind (keys_join N ([shared_3, ni_1, nr_2] : List (List UInt8))) fun y3 =>
    Option.bind (prf_Hmac N d_0 y3.2.1) fun y4 =>
    some (((0 : Int), ()), (y4.2.1, ()))
noncomputable def keys_Rekey (N : Nat) (d_0 : (List UInt8)) (ni_1 : (List UInt8)) (nr_2 : (List UInt8)) (shared_3 : (List UInt8)) : Option keys_Rekey_R :=
  Option.bind (keys_nonces N ([ni_1, nr_2] : List (List UInt8))) fun y1 =>
  bif (!y1.1.1) then
    keys_Rekey_1 N d_0 ni_1 nr_2 shared_3 true
  else
    keys_Rekey_1 N d_0 ni_1 nr_2 shared_3 (decide ((shared_3.length : Int) = (0 : Int)))
noncomputable def keys_Rekey_C (N : Nat) : Ctx := ⟨27, G_tys, [(82, keys_nonces_ctr N), (80, keys_join_ctr N), (29, prf_Hmac_ctr N)], G_globs⟩
noncomputable def keys_Rekey_S0 : Spec := ⟨[.val (.sl .u8), .val (.sl .u8), .val (.sl .u8), .val (.sl .u8), .val .bool], []⟩
noncomputable def keys_Rekey_S1 : Spec := ⟨[.val (.sl .u8), .val (.sl .u8), .val (.sl .u8), .val (.sl .u8)], []⟩
noncomputable def keys_Rekey_S2 : Spec := ⟨[.row 0, .val .i64], [(.row 5 .u8, .pos 0)]⟩
noncomputable def keys_Rekey_K (_N : Nat) : XE → GS → Option keys_Rekey_R := retK 0 [8, 9] [false, false] keys_Rekey_S2
noncomputable def keys_Rekey_L : List Code := (bodyOf (some Tryd.f47))
theorem keys_Rekey_1_b {E : Env} (N : Nat) (hb : Base Tryd.prog (keys_Rekey_C N) E 0) : Blk Tryd.prog (keys_Rekey_C N) E [0, 1, 2, 3, 19] keys_Rekey_S0 (keys_Rekey_L.drop 2) (fun y => keys_Rekey_1 N y.1.1 y.1.2.1 y.1.2.2.1 y.1.2.2.2.1 y.1.2.2.2.2.1) (keys_Rekey_K N) :=
  Blk.chunkAt hb 3 (X := (keys_Rekey_K N .normal)) (NxOk.end (by kernel_rfl)) rfl (fun x => by kernel_rfl)
theorem keys_Rekey_b {E : Env} (N : Nat) (hb : Base Tryd.prog (keys_Rekey_C N) E 0) : Blk Tryd.prog (keys_Rekey_C N) E (List.range keys_Rekey_S1.ks.length) keys_Rekey_S1 (keys_Rekey_L.drop 0) (fun y => keys_Rekey N y.1.1 y.1.2.1 y.1.2.2.1 y.1.2.2.2.1) (keys_Rekey_K N) :=
  Blk.chunkAt hb 2 (X := (goK 0 [0, 1, 2, 3, 19] keys_Rekey_S0 (fun y => keys_Rekey_1 N y.1.1 y.1.2.1 y.1.2.2.1 y.1.2.2.2.1 y.1.2.2.2.2.1))) (NxOk.go hb (keys_Rekey_1_b N hb)) rfl (fun x => by kernel_rfl)
noncomputable def keys_Rekey_ctr (N : Nat) : Ctr := ⟨keys_Rekey_S1, keys_Rekey_S2.un [false, false], 0, (fun y => keys_Rekey N y.1.1 y.1.2.1 y.1.2.2.1 y.1.2.2.2.1)⟩
theorem keys_Rekey_ctrs (N : Nat) : CtrsOk Tryd.prog (keys_Rekey_C N) := ctrs_of (Γ := keys_Rekey_C N) (by
  intro p hp
  simp only [keys_Rekey_C, List.mem_cons, List.not_mem_nil, or_false] at hp
  rcases hp with rfl | rfl | rfl
  · exact keys_nonces_ok N
  · exact keys_join_ok N
  · exact prf_Hmac_ok N)
theorem keys_Rekey_ok (N : Nat) : Ctr.ok Tryd.prog G_globs 47 (keys_Rekey_ctr N) :=
  ctr_fn (Γ := keys_Rekey_C N) (rfit := keys_Rekey_S2) (bs := [false, false]) (res := [8, 9]) (by kernel_rfl) (tys_ok G_tys_ok) (keys_Rekey_ctrs N) Tryd.func47 (by kernel_rfl) (by kernel_rfl) Tryd.ntmps47 (by kernel_rfl) (by kernel_rfl) (by kernel_rfl) (by kernel_rfl) (fun E hb => keys_Rekey_b N hb)
end Go.Proofs.YtlamdneheilahaaDoor
namespace Go.Proofs.YtlamdneheilahaaDoor
open Go
set_option maxRecDepth 100000
set_option linter.unusedVariables false
/-! ipsecgate/ipsecgateref16.Rekey -/
abbrev ref16_Rekey_R : Type := ((Int × Unit) × ((List UInt8) × Unit))
noncomputable def ref16_Rekey_1 (N : Nat) (d_0 : (List UInt8)) (ni_1 : (List UInt8)) (nr_2 : (List UInt8)) (shared_3 : (List UInt8)) (t_18 : Bool) : Option ref16_Rekey_R :=
  bif t_18 then
    some (((13 : Int), ()), (([] : List UInt8), ()))
  else
    Option.bind (ref09_Join N ([shared_3, ni_1, nr_2] : List (List UInt8))) fun y3 =>
    Option.bind (ref09_Hmac N d_0 y3.2.1) fun y4 =>
    some (((0 : Int), ()), (y4.2.1, ()))
noncomputable def ref16_Rekey (N : Nat) (d_0 : (List UInt8)) (ni_1 : (List UInt8)) (nr_2 : (List UInt8)) (shared_3 : (List UInt8)) : Option ref16_Rekey_R :=
  Option.bind (ref16_nonces N ni_1 nr_2) fun y1 =>
  bif (!y1.1.1) then
    ref16_Rekey_1 N d_0 ni_1 nr_2 shared_3 true
  else
    ref16_Rekey_1 N d_0 ni_1 nr_2 shared_3 (decide ((shared_3.length : Int) = (0 : Int)))
noncomputable def ref16_Rekey_C (N : Nat) : Ctx := ⟨26, G_tys, [(83, ref16_nonces_ctr N), (78, ref09_Join_ctr N), (30, ref09_Hmac_ctr N)], G_globs⟩
noncomputable def ref16_Rekey_S0 : Spec := ⟨[.val (.sl .u8), .val (.sl .u8), .val (.sl .u8), .val (.sl .u8), .val .bool], []⟩
noncomputable def ref16_Rekey_S1 : Spec := ⟨[.val (.sl .u8), .val (.sl .u8), .val (.sl .u8), .val (.sl .u8)], []⟩
noncomputable def ref16_Rekey_S2 : Spec := ⟨[.row 0, .val .i64], [(.row 5 .u8, .pos 0)]⟩
noncomputable def ref16_Rekey_K (_N : Nat) : XE → GS → Option ref16_Rekey_R := retK 0 [8, 9] [false, false] ref16_Rekey_S2
noncomputable def ref16_Rekey_L : List Code := (bodyOf (some Tryd.f50))
theorem ref16_Rekey_1_b {E : Env} (N : Nat) (hb : Base Tryd.prog (ref16_Rekey_C N) E 0) : Blk Tryd.prog (ref16_Rekey_C N) E [0, 1, 2, 3, 18] ref16_Rekey_S0 (ref16_Rekey_L.drop 2) (fun y => ref16_Rekey_1 N y.1.1 y.1.2.1 y.1.2.2.1 y.1.2.2.2.1 y.1.2.2.2.2.1) (ref16_Rekey_K N) :=
  Blk.chunkAt hb 3 (X := (ref16_Rekey_K N .normal)) (NxOk.end (by kernel_rfl)) rfl (fun x => by kernel_rfl)
theorem ref16_Rekey_b {E : Env} (N : Nat) (hb : Base Tryd.prog (ref16_Rekey_C N) E 0) : Blk Tryd.prog (ref16_Rekey_C N) E (List.range ref16_Rekey_S1.ks.length) ref16_Rekey_S1 (ref16_Rekey_L.drop 0) (fun y => ref16_Rekey N y.1.1 y.1.2.1 y.1.2.2.1 y.1.2.2.2.1) (ref16_Rekey_K N) :=
  Blk.chunkAt hb 2 (X := (goK 0 [0, 1, 2, 3, 18] ref16_Rekey_S0 (fun y => ref16_Rekey_1 N y.1.1 y.1.2.1 y.1.2.2.1 y.1.2.2.2.1 y.1.2.2.2.2.1))) (NxOk.go hb (ref16_Rekey_1_b N hb)) rfl (fun x => by kernel_rfl)
noncomputable def ref16_Rekey_ctr (N : Nat) : Ctr := ⟨ref16_Rekey_S1, ref16_Rekey_S2.un [false, false], 0, (fun y => ref16_Rekey N y.1.1 y.1.2.1 y.1.2.2.1 y.1.2.2.2.1)⟩
theorem ref16_Rekey_ctrs (N : Nat) : CtrsOk Tryd.prog (ref16_Rekey_C N) := ctrs_of (Γ := ref16_Rekey_C N) (by
  intro p hp
  simp only [ref16_Rekey_C, List.mem_cons, List.not_mem_nil, or_false] at hp
  rcases hp with rfl | rfl | rfl
  · exact ref16_nonces_ok N
  · exact ref09_Join_ok N
  · exact ref09_Hmac_ok N)
theorem ref16_Rekey_ok (N : Nat) : Ctr.ok Tryd.prog G_globs 50 (ref16_Rekey_ctr N) :=
  ctr_fn (Γ := ref16_Rekey_C N) (rfit := ref16_Rekey_S2) (bs := [false, false]) (res := [8, 9]) (by kernel_rfl) (tys_ok G_tys_ok) (ref16_Rekey_ctrs N) Tryd.func50 (by kernel_rfl) (by kernel_rfl) Tryd.ntmps50 (by kernel_rfl) (by kernel_rfl) (by kernel_rfl) (by kernel_rfl) (fun E hb => ref16_Rekey_b N hb)
end Go.Proofs.YtlamdneheilahaaDoor
namespace Go.Proofs.YtlamdneheilahaaDoor
open Go
set_option maxRecDepth 100000
set_option linter.unusedVariables false
/-! ipsecgate/ipsecgateref16.Derive -/
abbrev ref16_Derive_R : Type := ((((List UInt8) × ((List UInt8) × ((List UInt8) × ((List UInt8) × ((List UInt8) × Unit))))) × Int × Unit) × (Unit))
noncomputable def ref16_Derive (N : Nat) (seed_0 : (List UInt8)) (ni_1 : (List UInt8)) (nr_2 : (List UInt8)) (initiator_3 : UInt64) (responder_4 : UInt64) : Option ref16_Derive_R :=
  Option.bind (ref16_nonces N ni_1 nr_2) fun y1 =>
  bif (!y1.1.1) then
    some (((([] : List UInt8), ([] : List UInt8), ([] : List UInt8), ([] : List UInt8), ([] : List UInt8), ()), (13 : Int), ()), (()))
  else
    Option.bind (ref09_Join N ([ni_1, nr_2] : List (List UInt8))) fun y3 =>
    Option.bind (ref01_Put N y3.2.1 initiator_3 (8 : Int)) fun y4 =>
    Option.bind (ref01_Put N y4.2.1 responder_4 (8 : Int)) fun y5 =>
    Option.bind (ref09_Plus N seed_0 y5.2.1 (172 : Int)) fun y6 =>
    Option.bind (ref09_Split N y6.1.1 ([(32 : Int), (36 : Int), (36 : Int), (32 : Int), (32 : Int)] : List Int)) fun y7 =>
    bif inR (0 : Int) y7.2.1.length then
    bif inR (1 : Int) y7.2.1.length then
    bif inR (2 : Int) y7.2.1.length then
    bif inR (3 : Int) y7.2.1.length then
    bif inR (4 : Int) y7.2.1.length then
    some ((((y7.2.1.getD 0 ([] : List UInt8)), (y7.2.1.getD 1 ([] : List UInt8)), (y7.2.1.getD 2 ([] : List UInt8)), (y7.2.1.getD 3 ([] : List UInt8)), (y7.2.1.getD 4 ([] : List UInt8)), ()), (0 : Int), ()), (()))
    else none
    else none
    else none
    else none
    else none
noncomputable def ref16_Derive_C (N : Nat) : Ctx := ⟨58, G_tys, [(83, ref16_nonces_ctr N), (78, ref09_Join_ctr N), (46, ref01_Put_ctr N), (37, ref09_Plus_ctr N), (39, ref09_Split_ctr N)], G_globs⟩
noncomputable def ref16_Derive_S0 : Spec := ⟨[.val (.sl .u8), .val (.sl .u8), .val (.sl .u8), .val .u64, .val .u64], []⟩
noncomputable def ref16_Derive_S1 : Spec := ⟨[.fp (.pair (.sl .u8) (.pair (.sl .u8) (.pair (.sl .u8) (.pair (.sl .u8) (.pair (.sl .u8) .unit))))), .val .i64], []⟩
noncomputable def ref16_Derive_K (_N : Nat) : XE → GS → Option ref16_Derive_R := retK 0 [10, 11] [true, false] ref16_Derive_S1
noncomputable def ref16_Derive_L : List Code := (bodyOf (some Tryd.f51))
theorem ref16_Derive_b {E : Env} (N : Nat) (hb : Base Tryd.prog (ref16_Derive_C N) E 0) : Blk Tryd.prog (ref16_Derive_C N) E (List.range ref16_Derive_S0.ks.length) ref16_Derive_S0 (ref16_Derive_L.drop 0) (fun y => ref16_Derive N y.1.1 y.1.2.1 y.1.2.2.1 y.1.2.2.2.1 y.1.2.2.2.2.1) (ref16_Derive_K N) :=
  Blk.chunkAt hb 8 (X := (ref16_Derive_K N .normal)) (NxOk.end (by kernel_rfl)) rfl (fun x => by kernel_rfl)
noncomputable def ref16_Derive_ctr (N : Nat) : Ctr := ⟨ref16_Derive_S0, ref16_Derive_S1.un [true, false], 0, (fun y => ref16_Derive N y.1.1 y.1.2.1 y.1.2.2.1 y.1.2.2.2.1 y.1.2.2.2.2.1)⟩
theorem ref16_Derive_ctrs (N : Nat) : CtrsOk Tryd.prog (ref16_Derive_C N) := ctrs_of (Γ := ref16_Derive_C N) (by
  intro p hp
  simp only [ref16_Derive_C, List.mem_cons, List.not_mem_nil, or_false] at hp
  rcases hp with rfl | rfl | rfl | rfl | rfl
  · exact ref16_nonces_ok N
  · exact ref09_Join_ok N
  · exact ref01_Put_ok N
  · exact ref09_Plus_ok N
  · exact ref09_Split_ok N)
theorem ref16_Derive_ok (N : Nat) : Ctr.ok Tryd.prog G_globs 51 (ref16_Derive_ctr N) :=
  ctr_fn (Γ := ref16_Derive_C N) (rfit := ref16_Derive_S1) (bs := [true, false]) (res := [10, 11]) (by kernel_rfl) (tys_ok G_tys_ok) (ref16_Derive_ctrs N) Tryd.func51 (by kernel_rfl) (by kernel_rfl) Tryd.ntmps51 (by kernel_rfl) (by kernel_rfl) (by kernel_rfl) (by kernel_rfl) (fun E hb => ref16_Derive_b N hb)
end Go.Proofs.YtlamdneheilahaaDoor
namespace Go.Proofs.YtlamdneheilahaaDoor
open Go
set_option maxRecDepth 100000
set_option linter.unusedVariables false
/-! ipsecgate/ipsecgateref16.Child -/
abbrev ref16_Child_R : Type := ((((List UInt8) × ((List UInt8) × Unit)) × Int × Unit) × (Unit))
noncomputable def ref16_Child (N : Nat) (d_0 : (List UInt8)) (ni_1 : (List UInt8)) (nr_2 : (List UInt8)) (shared_3 : (List UInt8)) : Option ref16_Child_R :=
  Option.bind (ref16_nonces N ni_1 nr_2) fun y1 =>
  bif (!y1.1.1) then
    some (((([] : List UInt8), ([] : List UInt8), ()), (13 : Int), ()), (()))
  else
    Option.bind (ref09_Join N ([shared_3, ni_1, nr_2] : List (List UInt8))) fun y3 =>
    Option.bind (ref09_Plus N d_0 y3.2.1 (72 : Int)) fun y4 =>
    bif decide (0 ≤ (0 : Int)) && decide ((0 : Int) ≤ (36 : Int)) && decide ((36 : Int) ≤ (y4.1.1.length : Int)) && true then
    bif decide (0 ≤ (36 : Int)) && decide ((36 : Int) ≤ (y4.1.1.length : Int)) && decide ((y4.1.1.length : Int) ≤ (y4.1.1.length : Int)) && true then
    some ((((cut y4.1.1 0 36), (cut y4.1.1 36 y4.1.1.length), ()), (0 : Int), ()), (()))
    else none
    else none
noncomputable def ref16_Child_C (N : Nat) : Ctx := ⟨32, G_tys, [(83, ref16_nonces_ctr N), (78, ref09_Join_ctr N), (37, ref09_Plus_ctr N)], G_globs⟩
noncomputable def ref16_Child_S0 : Spec := ⟨[.val (.sl .u8), .val (.sl .u8), .val (.sl .u8), .val (.sl .u8)], []⟩
noncomputable def ref16_Child_S1 : Spec := ⟨[.fp (.pair (.sl .u8) (.pair (.sl .u8) .unit)), .val .i64], []⟩
noncomputable def ref16_Child_K (_N : Nat) : XE → GS → Option ref16_Child_R := retK 0 [8, 9] [true, false] ref16_Child_S1
noncomputable def ref16_Child_L : List Code := (bodyOf (some Tryd.f54))
theorem ref16_Child_b {E : Env} (N : Nat) (hb : Base Tryd.prog (ref16_Child_C N) E 0) : Blk Tryd.prog (ref16_Child_C N) E (List.range ref16_Child_S0.ks.length) ref16_Child_S0 (ref16_Child_L.drop 0) (fun y => ref16_Child N y.1.1 y.1.2.1 y.1.2.2.1 y.1.2.2.2.1) (ref16_Child_K N) :=
  Blk.chunkAt hb 6 (X := (ref16_Child_K N .normal)) (NxOk.end (by kernel_rfl)) rfl (fun x => by kernel_rfl)
noncomputable def ref16_Child_ctr (N : Nat) : Ctr := ⟨ref16_Child_S0, ref16_Child_S1.un [true, false], 0, (fun y => ref16_Child N y.1.1 y.1.2.1 y.1.2.2.1 y.1.2.2.2.1)⟩
theorem ref16_Child_ctrs (N : Nat) : CtrsOk Tryd.prog (ref16_Child_C N) := ctrs_of (Γ := ref16_Child_C N) (by
  intro p hp
  simp only [ref16_Child_C, List.mem_cons, List.not_mem_nil, or_false] at hp
  rcases hp with rfl | rfl | rfl
  · exact ref16_nonces_ok N
  · exact ref09_Join_ok N
  · exact ref09_Plus_ok N)
theorem ref16_Child_ok (N : Nat) : Ctr.ok Tryd.prog G_globs 54 (ref16_Child_ctr N) :=
  ctr_fn (Γ := ref16_Child_C N) (rfit := ref16_Child_S1) (bs := [true, false]) (res := [8, 9]) (by kernel_rfl) (tys_ok G_tys_ok) (ref16_Child_ctrs N) Tryd.func54 (by kernel_rfl) (by kernel_rfl) Tryd.ntmps54 (by kernel_rfl) (by kernel_rfl) (by kernel_rfl) (by kernel_rfl) (fun E hb => ref16_Child_b N hb)
end Go.Proofs.YtlamdneheilahaaDoor
namespace Go.Proofs.YtlamdneheilahaaDoor
open Go
set_option maxRecDepth 100000
set_option linter.unusedVariables false
/-! ipsecgate/ipsecgatelaw16.KeysDerive -/
abbrev law16_KeysDerive_R : Type := ((Bool × Unit) × (Unit))
noncomputable def law16_KeysDerive_4 (N : Nat) (shared_1 : (List UInt8)) (d_2 : (List UInt8)) (ni_12 : (List UInt8)) (nr_13 : (List UInt8)) (t_112 : Bool) : Option law16_KeysDerive_R :=
  bif t_112 then
    some ((false, ()), (()))
  else
    Option.bind (keys_Child N d_2 ni_12 nr_13 shared_1) fun y17 =>
    Option.bind (ref16_Child N d_2 ni_12 nr_13 shared_1) fun y18 =>
    bif (decide (y17.1.2.1 = y18.1.2.1)) then
      Option.bind (ref01_Equal N y17.1.1.1 y18.1.1.1) fun y20 =>
      bif y20.1.1 then
        Option.bind (ref01_Equal N y17.1.1.2.1 y18.1.1.2.1) fun y21 =>
        some ((y21.1.1, ()), (()))
      else
        some ((false, ()), (()))
    else
      some ((false, ()), (()))
noncomputable def law16_KeysDerive_3 (N : Nat) (shared_1 : (List UInt8)) (d_2 : (List UInt8)) (i_3 : UInt64) (r_4 : UInt64) (t_85 : Bool) (ni_12 : (List UInt8)) (nr_13 : (List UInt8)) : Option law16_KeysDerive_R :=
  bif t_85 then
    some ((false, ()), (()))
  else
    Option.bind (keys_Derive N d_2 ni_12 nr_13 i_3 r_4) fun y14 =>
    Option.bind (ref16_Derive N d_2 ni_12 nr_13 i_3 r_4) fun y15 =>
    bif (!(decide (y14.1.2.1 = y15.1.2.1))) then
      law16_KeysDerive_4 N shared_1 d_2 ni_12 nr_13 true
    else
      Option.bind (ref16_Same N y14.1.1 y15.1.1) fun y22 =>
      law16_KeysDerive_4 N shared_1 d_2 ni_12 nr_13 (!y22.1.1)
noncomputable def law16_KeysDerive_2 (N : Nat) (shared_1 : (List UInt8)) (d_2 : (List UInt8)) (i_3 : UInt64) (r_4 : UInt64) (t_60 : Bool) (ni_12 : (List UInt8)) (nr_13 : (List UInt8)) : Option law16_KeysDerive_R :=
  bif t_60 then
    some ((false, ()), (()))
  else
    Option.bind (keys_Rekey N d_2 ni_12 nr_13 shared_1) fun y11 =>
    Option.bind (ref16_Rekey N d_2 ni_12 nr_13 shared_1) fun y12 =>
    bif (!(decide (y11.1.1 = y12.1.1))) then
      law16_KeysDerive_3 N shared_1 d_2 i_3 r_4 true ni_12 nr_13
    else
      Option.bind (ref01_Equal N y11.2.1 y12.2.1) fun y24 =>
      law16_KeysDerive_3 N shared_1 d_2 i_3 r_4 (!y24.1.1) ni_12 nr_13
noncomputable def law16_KeysDerive_1 (N : Nat) (codes_0 : (List UInt8)) (shared_1 : (List UInt8)) (d_2 : (List UInt8)) (i_3 : UInt64) (r_4 : UInt64) (t_31 : Bool) : Option law16_KeysDerive_R :=
  bif t_31 then
    some ((true, ()), (()))
  else
    Option.bind (make_New N codes_0 (160 : Int)) fun y5 =>
    Option.bind (make_Codes_Nonce N y5.2.1) fun y6 =>
    Option.bind (make_Codes_Nonce N y6.2.1) fun y7 =>
    Option.bind (keys_Seed N y6.2.2.1 y7.2.2.1 shared_1) fun y8 =>
    Option.bind (ref16_Seed N y6.2.2.1 y7.2.2.1 shared_1) fun y9 =>
    bif (!(decide (y8.1.1 = y9.1.1))) then
      law16_KeysDerive_2 N shared_1 d_2 i_3 r_4 true y6.2.2.1 y7.2.2.1
    else
      Option.bind (ref01_Equal N y8.2.1 y9.2.1) fun y26 =>
      law16_KeysDerive_2 N shared_1 d_2 i_3 r_4 (!y26.1.1) y6.2.2.1 y7.2.2.1
noncomputable def law16_KeysDerive (N : Nat) (codes_0 : (List UInt8)) (shared_1 : (List UInt8)) (d_2 : (List UInt8)) (i_3 : UInt64) (r_4 : UInt64) : Option law16_KeysDerive_R :=
  Option.bind (law16_awake N) fun y1 =>
  bif (!y1.1.1) then
    some ((false, ()), (()))
  else
    bif (decide ((300 : Int) < (shared_1.length : Int))) then
      law16_KeysDerive_1 N codes_0 shared_1 d_2 i_3 r_4 true
    else
      law16_KeysDerive_1 N codes_0 shared_1 d_2 i_3 r_4 (decide ((300 : Int) < (d_2.length : Int)))
noncomputable def law16_KeysDerive_C (N : Nat) : Ctx := ⟨146, G_tys, [(32, law16_awake_ctr N), (41, make_New_ctr N), (48, make_Codes_Nonce_ctr N), (44, keys_Seed_ctr N), (49, ref16_Seed_ctr N), (47, keys_Rekey_ctr N), (50, ref16_Rekey_ctr N), (45, keys_Derive_ctr N), (51, ref16_Derive_ctr N), (53, keys_Child_ctr N), (54, ref16_Child_ctr N), (19, ref01_Equal_ctr N), (52, ref16_Same_ctr N)], G_globs⟩
noncomputable def law16_KeysDerive_S0 : Spec := ⟨[.val (.sl .u8), .val (.sl .u8), .val (.sl .u8), .val (.sl .u8), .val .bool], []⟩
noncomputable def law16_KeysDerive_S1 : Spec := ⟨[.val (.sl .u8), .val (.sl .u8), .val .u64, .val .u64, .row 0, .row 1, .val .bool], [(.row 5 .u8, .pos 4), (.row 5 .u8, .pos 5)]⟩
noncomputable def law16_KeysDerive_S2 : Spec := ⟨[.val (.sl .u8), .val (.sl .u8), .val (.sl .u8), .val .u64, .val .u64, .val .bool], []⟩
noncomputable def law16_KeysDerive_S3 : Spec := ⟨[.val (.sl .u8), .val (.sl .u8), .val (.sl .u8), .val .u64, .val .u64], []⟩
noncomputable def law16_KeysDerive_S4 : Spec := ⟨[.val .bool], []⟩
noncomputable def law16_KeysDerive_K (_N : Nat) : XE → GS → Option law16_KeysDerive_R := retK 0 [10] [false] law16_KeysDerive_S4
noncomputable def law16_KeysDerive_L : List Code := (bodyOf (some Tryd.f12))
theorem law16_KeysDerive_4_b {E : Env} (N : Nat) (hb : Base Tryd.prog (law16_KeysDerive_C N) E 0) : Blk Tryd.prog (law16_KeysDerive_C N) E [1, 2, 12, 13, 112] law16_KeysDerive_S0 (law16_KeysDerive_L.drop 18) (fun y => law16_KeysDerive_4 N y.1.1 y.1.2.1 y.1.2.2.1 y.1.2.2.2.1 y.1.2.2.2.2.1) (law16_KeysDerive_K N) :=
  Blk.chunkAt hb 5 (X := (law16_KeysDerive_K N .normal)) (NxOk.end (by kernel_rfl)) rfl (fun x => by kernel_rfl)
theorem law16_KeysDerive_3_b {E : Env} (N : Nat) (hb : Base Tryd.prog (law16_KeysDerive_C N) E 0) : Blk Tryd.prog (law16_KeysDerive_C N) E [1, 2, 3, 4, 12, 13, 85] law16_KeysDerive_S1 (law16_KeysDerive_L.drop 14) (fun y => law16_KeysDerive_3 N y.1.1 y.1.2.1 y.1.2.2.1 y.1.2.2.2.1 y.1.2.2.2.2.1 y.2.1 y.2.2.1) (law16_KeysDerive_K N) :=
  Blk.chunkAt hb 4 (X := (goK 0 [1, 2, 12, 13, 112] law16_KeysDerive_S0 (fun y => law16_KeysDerive_4 N y.1.1 y.1.2.1 y.1.2.2.1 y.1.2.2.2.1 y.1.2.2.2.2.1))) (NxOk.go hb (law16_KeysDerive_4_b N hb)) rfl (fun x => by kernel_rfl)
theorem law16_KeysDerive_2_b {E : Env} (N : Nat) (hb : Base Tryd.prog (law16_KeysDerive_C N) E 0) : Blk Tryd.prog (law16_KeysDerive_C N) E [1, 2, 3, 4, 12, 13, 60] law16_KeysDerive_S1 (law16_KeysDerive_L.drop 10) (fun y => law16_KeysDerive_2 N y.1.1 y.1.2.1 y.1.2.2.1 y.1.2.2.2.1 y.1.2.2.2.2.1 y.2.1 y.2.2.1) (law16_KeysDerive_K N) :=
  Blk.chunkAt hb 4 (X := (goK 0 [1, 2, 3, 4, 12, 13, 85] law16_KeysDerive_S1 (fun y => law16_KeysDerive_3 N y.1.1 y.1.2.1 y.1.2.2.1 y.1.2.2.2.1 y.1.2.2.2.2.1 y.2.1 y.2.2.1))) (NxOk.go hb (law16_KeysDerive_3_b N hb)) rfl (fun x => by kernel_rfl)
theorem law16_KeysDerive_1_b {E : Env} (N : Nat) (hb : Base Tryd.prog (law16_KeysDerive_C N) E 0) : Blk Tryd.prog (law16_KeysDerive_C N) E [0, 1, 2, 3, 4, 31] law16_KeysDerive_S2 (law16_KeysDerive_L.drop 4) (fun y => law16_KeysDerive_1 N y.1.1 y.1.2.1 y.1.2.2.1 y.1.2.2.2.1 y.1.2.2.2.2.1 y.1.2.2.2.2.2.1) (law16_KeysDerive_K N) :=
  Blk.chunkAt hb 6 (X := (goK 0 [1, 2, 3, 4, 12, 13, 60] law16_KeysDerive_S1 (fun y => law16_KeysDerive_2 N y.1.1 y.1.2.1 y.1.2.2.1 y.1.2.2.2.1 y.1.2.2.2.2.1 y.2.1 y.2.2.1))) (NxOk.go hb (law16_KeysDerive_2_b N hb)) rfl (fun x => by kernel_rfl)
theorem law16_KeysDerive_b {E : Env} (N : Nat) (hb : Base Tryd.prog (law16_KeysDerive_C N) E 0) : Blk Tryd.prog (law16_KeysDerive_C N) E (List.range law16_KeysDerive_S3.ks.length) law16_KeysDerive_S3 (law16_KeysDerive_L.drop 0) (fun y => law16_KeysDerive N y.1.1 y.1.2.1 y.1.2.2.1 y.1.2.2.2.1 y.1.2.2.2.2.1) (law16_KeysDerive_K N) :=
  Blk.chunkAt hb 4 (X := (goK 0 [0, 1, 2, 3, 4, 31] law16_KeysDerive_S2 (fun y => law16_KeysDerive_1 N y.1.1 y.1.2.1 y.1.2.2.1 y.1.2.2.2.1 y.1.2.2.2.2.1 y.1.2.2.2.2.2.1))) (NxOk.go hb (law16_KeysDerive_1_b N hb)) rfl (fun x => by kernel_rfl)
noncomputable def law16_KeysDerive_ctr (N : Nat) : Ctr := ⟨law16_KeysDerive_S3, law16_KeysDerive_S4.un [false], 0, (fun y => law16_KeysDerive N y.1.1 y.1.2.1 y.1.2.2.1 y.1.2.2.2.1 y.1.2.2.2.2.1)⟩
theorem law16_KeysDerive_ctrs (N : Nat) : CtrsOk Tryd.prog (law16_KeysDerive_C N) := ctrs_of (Γ := law16_KeysDerive_C N) (by
  intro p hp
  simp only [law16_KeysDerive_C, List.mem_cons, List.not_mem_nil, or_false] at hp
  rcases hp with rfl | rfl | rfl | rfl | rfl | rfl | rfl | rfl | rfl | rfl | rfl | rfl | rfl
  · exact law16_awake_ok N
  · exact make_New_ok N
  · exact make_Codes_Nonce_ok N
  · exact keys_Seed_ok N
  · exact ref16_Seed_ok N
  · exact keys_Rekey_ok N
  · exact ref16_Rekey_ok N
  · exact keys_Derive_ok N
  · exact ref16_Derive_ok N
  · exact keys_Child_ok N
  · exact ref16_Child_ok N
  · exact ref01_Equal_ok N
  · exact ref16_Same_ok N)
theorem law16_KeysDerive_ok (N : Nat) : Ctr.ok Tryd.prog G_globs 12 (law16_KeysDerive_ctr N) :=
  ctr_fn (Γ := law16_KeysDerive_C N) (rfit := law16_KeysDerive_S4) (bs := [false]) (res := [10]) (by kernel_rfl) (tys_ok G_tys_ok) (law16_KeysDerive_ctrs N) Tryd.func12 (by kernel_rfl) (by kernel_rfl) Tryd.ntmps12 (by kernel_rfl) (by kernel_rfl) (by kernel_rfl) (by kernel_rfl) (fun E hb => law16_KeysDerive_b N hb)
end Go.Proofs.YtlamdneheilahaaDoor
namespace Go.Proofs.YtlamdneheilahaaDoor
open Go
set_option maxRecDepth 100000
set_option linter.unusedVariables false
/-! ipsecgate/ipsecgatelaw16.KeysChains -/
abbrev law16_KeysChains_R : Type := ((Bool × Unit) × (Unit))
noncomputable def law16_KeysChains_s4 (N : Nat) (shared_1 : (List UInt8)) (ni_10 : (List UInt8)) (nr_11 : (List UInt8)) (e_14 : Int) (all_16 : (List UInt8)) (f_17 : Int) (t_95 : Int) (t_96 : Int) (both_12 : (List UInt8)) (k_15 : ((List UInt8) × ((List UInt8) × ((List UInt8) × ((List UInt8) × ((List UInt8) × Unit)))))) (joined_18 : (List UInt8)) (t_94 : (List (List UInt8))) : Option (Lo (((List UInt8) × (List UInt8) × (List UInt8) × Int × (List UInt8) × Int × Int × Int × Unit) × ((List UInt8) × ((List UInt8) × ((List UInt8) × ((List UInt8) × ((List UInt8) × ((List UInt8) × Unit))))) × (List UInt8) × (List (List UInt8)) × Unit)) (((List UInt8) × (List UInt8) × (List UInt8) × Int × (List UInt8) × Int × Unit) × ((List UInt8) × ((List UInt8) × ((List UInt8) × ((List UInt8) × ((List UInt8) × ((List UInt8) × Unit))))) × (List UInt8) × Unit)) law16_KeysChains_R) :=
  bif (decide (t_96 < t_95)) then
    bif inR t_96 t_94.length then
    let x21 := (t_94.getD t_96.toNat ([] : List UInt8))
    bif room (joined_18.length + x21.length) 1 then
    some (.go ((shared_1, ni_10, nr_11, e_14, all_16, f_17, t_95, (w64 (t_96 + (1 : Int))), ()), (both_12, k_15, (joined_18 ++ x21), t_94, ())))
    else none
    else none
  else
    some (.br ((shared_1, ni_10, nr_11, e_14, all_16, f_17, ()), (both_12, k_15, joined_18, ())))
noncomputable def law16_KeysChains_6 (N : Nat) (shared_1 : (List UInt8)) (ni_10 : (List UInt8)) (nr_11 : (List UInt8)) (t_115 : Bool) (both_12 : (List UInt8)) (k_15 : ((List UInt8) × ((List UInt8) × ((List UInt8) × ((List UInt8) × ((List UInt8) × Unit)))))) : Option law16_KeysChains_R :=
  bif t_115 then
    some ((false, ()), (()))
  else
    Option.bind (keys_Rekey N k_15.1 ni_10 nr_11 shared_1) fun y25 =>
    bif (decide (y25.1.1 = (0 : Int))) then
      bif room (0 + shared_1.length) 1 then
      bif room (shared_1.length + both_12.length) 1 then
      Option.bind (prf_Hmac N k_15.1 (shared_1 ++ both_12)) fun y28 =>
      Option.bind (ref01_Equal N y25.2.1 y28.2.1) fun y29 =>
      some ((y29.1.1, ()), (()))
      else none
      else none
    else
      some ((false, ()), (()))
noncomputable def law16_KeysChains_5 (N : Nat) (shared_1 : (List UInt8)) (ni_10 : (List UInt8)) (nr_11 : (List UInt8)) (e_14 : Int) (all_16 : (List UInt8)) (f_17 : Int) (both_12 : (List UInt8)) (k_15 : ((List UInt8) × ((List UInt8) × ((List UInt8) × ((List UInt8) × ((List UInt8) × Unit)))))) (joined_18 : (List UInt8)) : Option law16_KeysChains_R :=
  bif (!(decide (e_14 = (0 : Int)))) then
    law16_KeysChains_6 N shared_1 ni_10 nr_11 true both_12 k_15
  else
    bif (!(decide (f_17 = (0 : Int)))) then
      law16_KeysChains_6 N shared_1 ni_10 nr_11 true both_12 k_15
    else
      Option.bind (ref01_Equal N joined_18 all_16) fun y31 =>
      law16_KeysChains_6 N shared_1 ni_10 nr_11 (!y31.1.1) both_12 k_15
noncomputable def law16_KeysChains_3 (N : Nat) (shared_1 : (List UInt8)) (ni_10 : (List UInt8)) (nr_11 : (List UInt8)) (e_14 : Int) (all_16 : (List UInt8)) (f_17 : Int) (t_95 : Int) (t_96 : Int) (both_12 : (List UInt8)) (k_15 : ((List UInt8) × ((List UInt8) × ((List UInt8) × ((List UInt8) × ((List UInt8) × Unit)))))) (joined_18 : (List UInt8)) (t_94 : (List (List UInt8))) : Option law16_KeysChains_R :=
  loopK N (fun y => law16_KeysChains_s4 N y.1.1 y.1.2.1 y.1.2.2.1 y.1.2.2.2.1 y.1.2.2.2.2.1 y.1.2.2.2.2.2.1 y.1.2.2.2.2.2.2.1 y.1.2.2.2.2.2.2.2.1 y.2.1 y.2.2.1 y.2.2.2.1 y.2.2.2.2.1) (fun (e : (((List UInt8) × (List UInt8) × (List UInt8) × Int × (List UInt8) × Int × Unit) × ((List UInt8) × ((List UInt8) × ((List UInt8) × ((List UInt8) × ((List UInt8) × ((List UInt8) × Unit))))) × (List UInt8) × Unit))) => law16_KeysChains_5 N e.1.1 e.1.2.1 e.1.2.2.1 e.1.2.2.2.1 e.1.2.2.2.2.1 e.1.2.2.2.2.2.1 e.2.1 e.2.2.1 e.2.2.2.1) ((shared_1, ni_10, nr_11, e_14, all_16, f_17, t_95, t_96, ()), (both_12, k_15, joined_18, t_94, ()))
noncomputable def law16_KeysChains_2 (N : Nat) (shared_1 : (List UInt8)) (i_2 : UInt64) (r_3 : UInt64) (t_64 : Bool) (ni_10 : (List UInt8)) (nr_11 : (List UInt8)) (both_12 : (List UInt8)) (s_13 : (List UInt8)) : Option law16_KeysChains_R :=
  bif t_64 then
    some ((false, ()), (()))
  else
    Option.bind (keys_Derive N s_13 ni_10 nr_11 i_2 r_3) fun y15 =>
    Option.bind (ref01_Put N both_12 i_2 (8 : Int)) fun y16 =>
    Option.bind (ref01_Put N y16.2.1 r_3 (8 : Int)) fun y17 =>
    Option.bind (prf_Plus N s_13 y17.2.1 (168 : Int)) fun y18 =>
    law16_KeysChains_3 N shared_1 ni_10 nr_11 y15.1.2.1 y18.1.1 y18.1.2.1 (([y15.1.1.1, y15.1.1.2.1, y15.1.1.2.2.1, y15.1.1.2.2.2.1, y15.1.1.2.2.2.2.1] : List (List UInt8)).length : Int) (0 : Int) both_12 y15.1.1 ([] : List UInt8) ([y15.1.1.1, y15.1.1.2.1, y15.1.1.2.2.1, y15.1.1.2.2.2.1, y15.1.1.2.2.2.2.1] : List (List UInt8))
noncomputable def law16_KeysChains_1 (N : Nat) (codes_0 : (List UInt8)) (shared_1 : (List UInt8)) (i_2 : UInt64) (r_3 : UInt64) (t_31 : Bool) : Option law16_KeysChains_R :=
  bif t_31 then
    some ((true, ()), (()))
  else
    Option.bind (make_New N codes_0 (160 : Int)) fun y5 =>
    Option.bind (make_Codes_Next N (20 : Int) y5.2.1) fun y6 =>
    Option.bind (make_Codes_Bytes N (w64 ((16 : Int) + y6.1.1)) y6.2.1) fun y8 =>
    Option.bind (make_Codes_Next N (20 : Int) y8.2.1) fun y9 =>
    Option.bind (make_Codes_Bytes N (w64 ((16 : Int) + y9.1.1)) y9.2.1) fun y11 =>
    bif room (0 + y8.2.2.1.length) 1 then
    bif room (y8.2.2.1.length + y11.2.2.1.length) 1 then
    let x12 := y8.2.2.1 ++ y11.2.2.1
    Option.bind (keys_Seed N y8.2.2.1 y11.2.2.1 shared_1) fun y13 =>
    bif (!(decide (y13.1.1 = (0 : Int)))) then
      law16_KeysChains_2 N shared_1 i_2 r_3 true y8.2.2.1 y11.2.2.1 x12 y13.2.1
    else
      Option.bind (prf_Hmac N x12 shared_1) fun y33 =>
      Option.bind (ref01_Equal N y13.2.1 y33.2.1) fun y34 =>
      law16_KeysChains_2 N shared_1 i_2 r_3 (!y34.1.1) y8.2.2.1 y11.2.2.1 x12 y13.2.1
    else none
    else none
noncomputable def law16_KeysChains (N : Nat) (codes_0 : (List UInt8)) (shared_1 : (List UInt8)) (i_2 : UInt64) (r_3 : UInt64) : Option law16_KeysChains_R :=
  Option.bind (law16_awake N) fun y1 =>
  bif (!y1.1.1) then
    some ((false, ()), (()))
  else
    bif (decide ((200 : Int) < (shared_1.length : Int))) then
      law16_KeysChains_1 N codes_0 shared_1 i_2 r_3 true
    else
      law16_KeysChains_1 N codes_0 shared_1 i_2 r_3 (decide ((shared_1.length : Int) = (0 : Int)))
noncomputable def law16_KeysChains_C (N : Nat) : Ctx := ⟨138, G_tys, [(32, law16_awake_ctr N), (41, make_New_ctr N), (43, make_Codes_Next_ctr N), (42, make_Codes_Bytes_ctr N), (44, keys_Seed_ctr N), (45, keys_Derive_ctr N), (46, ref01_Put_ctr N), (31, prf_Plus_ctr N), (47, keys_Rekey_ctr N), (29, prf_Hmac_ctr N), (19, ref01_Equal_ctr N)], G_globs⟩
noncomputable def law16_KeysChains_S0 : Spec := ⟨[.val (.sl .u8), .val (.sl .u8), .val (.sl .u8), .row 0, .val .i64, .ref 1 (.pair (.sl .u8) (.pair (.sl .u8) (.pair (.sl .u8) (.pair (.sl .u8) (.pair (.sl .u8) .unit))))), .val (.sl .u8), .val .i64, .row 2, .row 3, .val .i64, .val .i64], [(.row 5 .u8, .pos 3), (.box 61 (.pair (.sl .u8) (.pair (.sl .u8) (.pair (.sl .u8) (.pair (.sl .u8) (.pair (.sl .u8) .unit))))), .pos 5), (.row 5 .u8, .pos 8), (.row 22 (.sl .u8), .pos 9)]⟩
noncomputable def law16_KeysChains_S1 : Spec := ⟨[.val (.sl .u8), .val (.sl .u8), .val (.sl .u8), .row 0, .ref 1 (.pair (.sl .u8) (.pair (.sl .u8) (.pair (.sl .u8) (.pair (.sl .u8) (.pair (.sl .u8) .unit))))), .val .bool], [(.row 5 .u8, .pos 3), (.box 61 (.pair (.sl .u8) (.pair (.sl .u8) (.pair (.sl .u8) (.pair (.sl .u8) (.pair (.sl .u8) .unit))))), .pos 4)]⟩
noncomputable def law16_KeysChains_S2 : Spec := ⟨[.val (.sl .u8), .val (.sl .u8), .val (.sl .u8), .row 0, .val .i64, .ref 1 (.pair (.sl .u8) (.pair (.sl .u8) (.pair (.sl .u8) (.pair (.sl .u8) (.pair (.sl .u8) .unit))))), .val (.sl .u8), .val .i64, .row 2], [(.row 5 .u8, .pos 3), (.box 61 (.pair (.sl .u8) (.pair (.sl .u8) (.pair (.sl .u8) (.pair (.sl .u8) (.pair (.sl .u8) .unit))))), .pos 5), (.row 5 .u8, .pos 8)]⟩
noncomputable def law16_KeysChains_S3 : Spec := ⟨[.val (.sl .u8), .val .u64, .val .u64, .row 0, .row 1, .row 2, .row 3, .val .bool], [(.row 5 .u8, .pos 3), (.row 5 .u8, .pos 4), (.row 5 .u8, .pos 5), (.row 5 .u8, .pos 6)]⟩
noncomputable def law16_KeysChains_S4 : Spec := ⟨[.val (.sl .u8), .val (.sl .u8), .val .u64, .val .u64, .val .bool], []⟩
noncomputable def law16_KeysChains_S5 : Spec := ⟨[.val (.sl .u8), .val (.sl .u8), .val .u64, .val .u64], []⟩
noncomputable def law16_KeysChains_S6 : Spec := ⟨[.val .bool], []⟩
noncomputable def law16_KeysChains_K (_N : Nat) : XE → GS → Option law16_KeysChains_R := retK 0 [8] [false] law16_KeysChains_S6
noncomputable def law16_KeysChains_L : List Code := (bodyOf (some Tryd.f11))
noncomputable def law16_KeysChains_L4 : List Code := (loopOf (law16_KeysChains_L[15]?))
noncomputable def law16_KeysChains_K4 (N : Nat) : XE → GS → Option (Lo (((List UInt8) × (List UInt8) × (List UInt8) × Int × (List UInt8) × Int × Int × Int × Unit) × ((List UInt8) × ((List UInt8) × ((List UInt8) × ((List UInt8) × ((List UInt8) × ((List UInt8) × Unit))))) × (List UInt8) × (List (List UInt8)) × Unit)) (((List UInt8) × (List UInt8) × (List UInt8) × Int × (List UInt8) × Int × Unit) × ((List UInt8) × ((List UInt8) × ((List UInt8) × ((List UInt8) × ((List UInt8) × ((List UInt8) × Unit))))) × (List UInt8) × Unit)) law16_KeysChains_R) := roundK (some 0) (fit 0 [1, 10, 11, 12, 14, 15, 16, 17, 18, 94, 95, 96] law16_KeysChains_S0) (fit 0 [1, 10, 11, 12, 14, 15, 16, 17, 18] law16_KeysChains_S2) (law16_KeysChains_K N)
theorem law16_KeysChains_s4_b {E : Env} (N : Nat) (hb : Base Tryd.prog (law16_KeysChains_C N) E 0) : Blk Tryd.prog (law16_KeysChains_C N) E [1, 10, 11, 12, 14, 15, 16, 17, 18, 94, 95, 96] law16_KeysChains_S0 (law16_KeysChains_L4.drop 0) (fun y => law16_KeysChains_s4 N y.1.1 y.1.2.1 y.1.2.2.1 y.1.2.2.2.1 y.1.2.2.2.2.1 y.1.2.2.2.2.2.1 y.1.2.2.2.2.2.2.1 y.1.2.2.2.2.2.2.2.1 y.2.1 y.2.2.1 y.2.2.2.1 y.2.2.2.2.1) (law16_KeysChains_K4 N) :=
  Blk.chunkAt hb 4 (X := (law16_KeysChains_K4 N .normal)) (NxOk.end (by kernel_rfl)) rfl (fun x => by kernel_rfl)
theorem law16_KeysChains_6_b {E : Env} (N : Nat) (hb : Base Tryd.prog (law16_KeysChains_C N) E 0) : Blk Tryd.prog (law16_KeysChains_C N) E [1, 10, 11, 12, 15, 115] law16_KeysChains_S1 (law16_KeysChains_L.drop 17) (fun y => law16_KeysChains_6 N y.1.1 y.1.2.1 y.1.2.2.1 y.1.2.2.2.1 y.2.1 y.2.2.1) (law16_KeysChains_K N) :=
  Blk.chunkAt hb 4 (X := (law16_KeysChains_K N .normal)) (NxOk.end (by kernel_rfl)) rfl (fun x => by kernel_rfl)
theorem law16_KeysChains_5_b {E : Env} (N : Nat) (hb : Base Tryd.prog (law16_KeysChains_C N) E 0) : Blk Tryd.prog (law16_KeysChains_C N) E [1, 10, 11, 12, 14, 15, 16, 17, 18] law16_KeysChains_S2 (law16_KeysChains_L.drop 16) (fun y => law16_KeysChains_5 N y.1.1 y.1.2.1 y.1.2.2.1 y.1.2.2.2.1 y.1.2.2.2.2.1 y.1.2.2.2.2.2.1 y.2.1 y.2.2.1 y.2.2.2.1) (law16_KeysChains_K N) :=
  Blk.chunkAt hb 1 (X := (goK 0 [1, 10, 11, 12, 15, 115] law16_KeysChains_S1 (fun y => law16_KeysChains_6 N y.1.1 y.1.2.1 y.1.2.2.1 y.1.2.2.2.1 y.2.1 y.2.2.1))) (NxOk.go hb (law16_KeysChains_6_b N hb)) rfl (fun x => by kernel_rfl)
theorem law16_KeysChains_3_b {E : Env} (N : Nat) (hb : Base Tryd.prog (law16_KeysChains_C N) E 0) : Blk Tryd.prog (law16_KeysChains_C N) E [1, 10, 11, 12, 14, 15, 16, 17, 18, 94, 95, 96] law16_KeysChains_S0 (law16_KeysChains_L.drop 15) (fun y => law16_KeysChains_3 N y.1.1 y.1.2.1 y.1.2.2.1 y.1.2.2.2.1 y.1.2.2.2.2.1 y.1.2.2.2.2.2.1 y.1.2.2.2.2.2.2.1 y.1.2.2.2.2.2.2.2.1 y.2.1 y.2.2.1 y.2.2.2.1 y.2.2.2.2.1) (law16_KeysChains_K N) :=
  Blk.loopAt (Nf := N) (hns := [1, 10, 11, 12, 14, 15, 16, 17, 18, 94, 95, 96]) (ans := [1, 10, 11, 12, 14, 15, 16, 17, 18]) (hc := law16_KeysChains_S0) (ac := law16_KeysChains_S2) (bid := 0) (step := (fun y => law16_KeysChains_s4 N y.1.1 y.1.2.1 y.1.2.2.1 y.1.2.2.2.1 y.1.2.2.2.2.1 y.1.2.2.2.2.2.1 y.1.2.2.2.2.2.2.1 y.1.2.2.2.2.2.2.2.1 y.2.1 y.2.2.1 y.2.2.2.1 y.2.2.2.2.1)) (J := (fun e => (goK 0 [1, 10, 11, 12, 14, 15, 16, 17, 18] law16_KeysChains_S2 (fun y => law16_KeysChains_5 N y.1.1 y.1.2.1 y.1.2.2.1 y.1.2.2.2.1 y.1.2.2.2.2.1 y.1.2.2.2.2.2.1 y.2.1 y.2.2.1 y.2.2.2.1)) (law16_KeysChains_S2.st [1, 10, 11, 12, 14, 15, 16, 17, 18] e))) hb (by kernel_rfl) (Blk.into (X := (goK 0 [1, 10, 11, 12, 14, 15, 16, 17, 18] law16_KeysChains_S2 (fun y => law16_KeysChains_5 N y.1.1 y.1.2.1 y.1.2.2.1 y.1.2.2.2.1 y.1.2.2.2.2.1 y.1.2.2.2.2.2.1 y.2.1 y.2.2.1 y.2.2.2.1))) (NxOk.go hb (law16_KeysChains_5_b N hb)) (fun x => by kernel_rfl)) (law16_KeysChains_s4_b N hb) (fun x => by kernel_rfl)
theorem law16_KeysChains_2_b {E : Env} (N : Nat) (hb : Base Tryd.prog (law16_KeysChains_C N) E 0) : Blk Tryd.prog (law16_KeysChains_C N) E [1, 2, 3, 10, 11, 12, 13, 64] law16_KeysChains_S3 (law16_KeysChains_L.drop 10) (fun y => law16_KeysChains_2 N y.1.1 y.1.2.1 y.1.2.2.1 y.1.2.2.2.1 y.2.1 y.2.2.1 y.2.2.2.1 y.2.2.2.2.1) (law16_KeysChains_K N) :=
  Blk.chunkAt hb 5 (X := (goK 0 [1, 10, 11, 12, 14, 15, 16, 17, 18, 94, 95, 96] law16_KeysChains_S0 (fun y => law16_KeysChains_3 N y.1.1 y.1.2.1 y.1.2.2.1 y.1.2.2.2.1 y.1.2.2.2.2.1 y.1.2.2.2.2.2.1 y.1.2.2.2.2.2.2.1 y.1.2.2.2.2.2.2.2.1 y.2.1 y.2.2.1 y.2.2.2.1 y.2.2.2.2.1))) (NxOk.go hb (law16_KeysChains_3_b N hb)) rfl (fun x => by kernel_rfl)
theorem law16_KeysChains_1_b {E : Env} (N : Nat) (hb : Base Tryd.prog (law16_KeysChains_C N) E 0) : Blk Tryd.prog (law16_KeysChains_C N) E [0, 1, 2, 3, 31] law16_KeysChains_S4 (law16_KeysChains_L.drop 4) (fun y => law16_KeysChains_1 N y.1.1 y.1.2.1 y.1.2.2.1 y.1.2.2.2.1 y.1.2.2.2.2.1) (law16_KeysChains_K N) :=
  Blk.chunkAt hb 6 (X := (goK 0 [1, 2, 3, 10, 11, 12, 13, 64] law16_KeysChains_S3 (fun y => law16_KeysChains_2 N y.1.1 y.1.2.1 y.1.2.2.1 y.1.2.2.2.1 y.2.1 y.2.2.1 y.2.2.2.1 y.2.2.2.2.1))) (NxOk.go hb (law16_KeysChains_2_b N hb)) rfl (fun x => by kernel_rfl)
theorem law16_KeysChains_b {E : Env} (N : Nat) (hb : Base Tryd.prog (law16_KeysChains_C N) E 0) : Blk Tryd.prog (law16_KeysChains_C N) E (List.range law16_KeysChains_S5.ks.length) law16_KeysChains_S5 (law16_KeysChains_L.drop 0) (fun y => law16_KeysChains N y.1.1 y.1.2.1 y.1.2.2.1 y.1.2.2.2.1) (law16_KeysChains_K N) :=
  Blk.chunkAt hb 4 (X := (goK 0 [0, 1, 2, 3, 31] law16_KeysChains_S4 (fun y => law16_KeysChains_1 N y.1.1 y.1.2.1 y.1.2.2.1 y.1.2.2.2.1 y.1.2.2.2.2.1))) (NxOk.go hb (law16_KeysChains_1_b N hb)) rfl (fun x => by kernel_rfl)
noncomputable def law16_KeysChains_ctr (N : Nat) : Ctr := ⟨law16_KeysChains_S5, law16_KeysChains_S6.un [false], 0, (fun y => law16_KeysChains N y.1.1 y.1.2.1 y.1.2.2.1 y.1.2.2.2.1)⟩
theorem law16_KeysChains_ctrs (N : Nat) : CtrsOk Tryd.prog (law16_KeysChains_C N) := ctrs_of (Γ := law16_KeysChains_C N) (by
  intro p hp
  simp only [law16_KeysChains_C, List.mem_cons, List.not_mem_nil, or_false] at hp
  rcases hp with rfl | rfl | rfl | rfl | rfl | rfl | rfl | rfl | rfl | rfl | rfl
  · exact law16_awake_ok N
  · exact make_New_ok N
  · exact make_Codes_Next_ok N
  · exact make_Codes_Bytes_ok N
  · exact keys_Seed_ok N
  · exact keys_Derive_ok N
  · exact ref01_Put_ok N
  · exact prf_Plus_ok N
  · exact keys_Rekey_ok N
  · exact prf_Hmac_ok N
  · exact ref01_Equal_ok N)
theorem law16_KeysChains_ok (N : Nat) : Ctr.ok Tryd.prog G_globs 11 (law16_KeysChains_ctr N) :=
  ctr_fn (Γ := law16_KeysChains_C N) (rfit := law16_KeysChains_S6) (bs := [false]) (res := [8]) (by kernel_rfl) (tys_ok G_tys_ok) (law16_KeysChains_ctrs N) Tryd.func11 (by kernel_rfl) (by kernel_rfl) Tryd.ntmps11 (by kernel_rfl) (by kernel_rfl) (by kernel_rfl) (by kernel_rfl) (fun E hb => law16_KeysChains_b N hb)
end Go.Proofs.YtlamdneheilahaaDoor