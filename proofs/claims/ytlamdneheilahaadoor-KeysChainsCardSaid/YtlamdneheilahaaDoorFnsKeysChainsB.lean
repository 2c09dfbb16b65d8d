import Derived.Test.YtlamdneheilahaaDoorFnsKeysChainsA
set_option linter.unusedVariables false
set_option linter.unusedSimpArgs false
namespace Go.Proofs.YtlamdneheilahaaDoor
open Go
set_option maxRecDepth 100000
set_option linter.unusedVariables false
/-! ipsecgate/ipsecgatelaw16.KeysDerive -/
abbrev law16_KeysDerive_R : Type := ((Bool × Unit) × (Unit))
noncomputable def law16_KeysDerive_4 (N : Nat) (shared_1 : (List UInt8)) (d_2 : (List UInt8)) (ni_12 : (List UInt8)) (nr_13 : (List UInt8)) (t_112 : Bool) : Option law16_KeysDerive_R :=
  bif t_112 then
    some ((false, ()), (()))
  else
    Option.bind (keys_Child N d_2 ni_12 nr_13 shared_1) fun y17 =>
    Option.bind (ref16_Child N d_2 ni_12 nr_13 shared_1) fun y18 =>
    bif (decide (y17.1.2.1 = y18.1.2.1)) then
      Option.bind (ref01_Equal N y17.1.1.1 y18.1.1.1) fun y20 =>
      bif y20.1.1 then
        Option.bind (ref01_Equal N y17.1.1.2.1 y18.1.1.2.1) fun y21 =>
        some ((y21.1.1, ()), (()))
      else
        some ((false, ()), (()))
    else
      some ((false, ()), (()))
noncomputable def law16_KeysDerive_3 (N : Nat) (shared_1 : (List UInt8)) (d_2 : (List UInt8)) (i_3 : UInt64) (r_4 : UInt64) (t_85 : Bool) (ni_12 : (List UInt8)) (nr_13 : (List UInt8)) : Option law16_KeysDerive_R :=
  bif t_85 then
    some ((false, ()), (()))
  else
    Option.bind (keys_Derive N d_2 ni_12 nr_13 i_3 r_4) fun y14 =>
    Option.bind (ref16_Derive N d_2 ni_12 nr_13 i_3 r_4) fun y15 =>
    bif (!(decide (y14.1.2.1 = y15.1.2.1))) then
      law16_KeysDerive_4 N shared_1 d_2 ni_12 nr_13 true
    else
      Option.bind (ref16_Same N y14.1.1 y15.1.1) fun y22 =>
      law16_KeysDerive_4 N shared_1 d_2 ni_12 nr_13 (!y22.1.1)
noncomputable def law16_KeysDerive_2 (N : Nat) (shared_1 : (List UInt8)) (d_2 : (List UInt8)) (i_3 : UInt64) (r_4 : UInt64) (t_60 : Bool) (ni_12 : (List UInt8)) (nr_13 : (List UInt8)) : Option law16_KeysDerive_R :=
  bif t_60 then
    some ((false, ()), (()))
  else
    Option.bind (keys_Rekey N d_2 ni_12 nr_13 shared_1) fun y11 =>
    Option.bind (ref16_Rekey N d_2 ni_12 nr_13 shared_1) fun y12 =>
    bif (!(decide (y11.1.1 = y12.1.1))) then
      law16_KeysDerive_3 N shared_1 d_2 i_3 r_4 true ni_12 nr_13
    else
      Option.bind (ref01_Equal N y11.2.1 y12.2.1) fun y24 =>
      law16_KeysDerive_3 N shared_1 d_2 i_3 r_4 (!y24.1.1) ni_12 nr_13
noncomputable def law16_KeysDerive_1 (N : Nat) (codes_0 : (List UInt8)) (shared_1 : (List UInt8)) (d_2 : (List UInt8)) (i_3 : UInt64) (r_4 : UInt64) (t_31 : Bool) : Option law16_KeysDerive_R :=
  bif t_31 then
    some ((true, ()), (()))
  else
    Option.bind (make_New N codes_0 (160 : Int)) fun y5 =>
    Option.bind (make_Codes_Nonce N y5.2.1) fun y6 =>
    Option.bind (make_Codes_Nonce N y6.2.1) fun y7 =>
    Option.bind (keys_Seed N y6.2.2.1 y7.2.2.1 shared_1) fun y8 =>
    Option.bind (ref16_Seed N y6.2.2.1 y7.2.2.1 shared_1) fun y9 =>
    bif (!(decide (y8.1.1 = y9.1.1))) then
      law16_KeysDerive_2 N shared_1 d_2 i_3 r_4 true y6.2.2.1 y7.2.2.1
    else
      Option.bind (ref01_Equal N y8.2.1 y9.2.1) fun y26 =>
      law16_KeysDerive_2 N shared_1 d_2 i_3 r_4 (!y26.1.1) y6.2.2.1 y7.2.2.1
noncomputable def law16_KeysDerive (N : Nat) (codes_0 : (List UInt8)) (shared_1 : (List UInt8)) (d_2 : (List UInt8)) (i_3 : UInt64) (r_4 : UInt64) : Option law16_KeysDerive_R :=
  Option.bind (law16_awake N) fun y1 =>
  bif (!y1.1.1) then
    some ((false, ()), (()))
  else
    bif (decide ((300 : Int) < (shared_1.length : Int))) then
      law16_KeysDerive_1 N codes_0 shared_1 d_2 i_3 r_4 true
    else
      law16_KeysDerive_1 N codes_0 shared_1 d_2 i_3 r_4 (decide ((300 : Int) < (d_2.length : Int)))
noncomputable def law16_KeysDerive_C (N : Nat) : Ctx := ⟨146, G_tys, [(32, law16_awake_ctr N), (41, make_New_ctr N), (48, make_Codes_Nonce_ctr N), (44, keys_Seed_ctr N), (49, ref16_Seed_ctr N), (47, keys_Rekey_ctr N), (50, ref16_Rekey_ctr N), (45, keys_Derive_ctr N), (51, ref16_Derive_ctr N), (53, keys_Child_ctr N), (54, ref16_Child_ctr N), (19, ref01_Equal_ctr N), (52, ref16_Same_ctr N)], G_globs⟩
noncomputable def law16_KeysDerive_S0 : Spec := ⟨[.val (.sl .u8), .val (.sl .u8), .val (.sl .u8), .val (.sl .u8), .val .bool], []⟩
noncomputable def law16_KeysDerive_S1 : Spec := ⟨[.val (.sl .u8), .val (.sl .u8), .val .u64, .val .u64, .row 0, .row 1, .val .bool], [(.row 5 .u8, .pos 4), (.row 5 .u8, .pos 5)]⟩
noncomputable def law16_KeysDerive_S2 : Spec := ⟨[.val (.sl .u8), .val (.sl .u8), .val (.sl .u8), .val .u64, .val .u64, .val .bool], []⟩
noncomputable def law16_KeysDerive_S3 : Spec := ⟨[.val (.sl .u8), .val (.sl .u8), .val (.sl .u8), .val .u64, .val .u64], []⟩
noncomputable def law16_KeysDerive_S4 : Spec := ⟨[.val .bool], []⟩
noncomputable def law16_KeysDerive_K (_N : Nat) : XE → GS → Option law16_KeysDerive_R := retK 0 [10] [false] law16_KeysDerive_S4
noncomputable def law16_KeysDerive_L : List Code := (bodyOf (some Tryd.f12))
theorem law16_KeysDerive_4_b {E : Env} (N : Nat) (hb : Base Tryd.prog (law16_KeysDerive_C N) E 0) : Blk Tryd.prog (law16_KeysDerive_C N) E [1, 2, 12, 13, 112] law16_KeysDerive_S0 (law16_KeysDerive_L.drop 18) (fun y => law16_KeysDerive_4 N y.1.1 y.1.2.1 y.1.2.2.1 y.1.2.2.2.1 y.1.2.2.2.2.1) (law16_KeysDerive_K N) :=
  Blk.chunkAt hb 5 (X := (law16_KeysDerive_K N .normal)) (NxOk.end (by kernel_rfl)) rfl (fun x => by kernel_rfl)
theorem law16_KeysDerive_3_b {E : Env} (N : Nat) (hb : Base Tryd.prog (law16_KeysDerive_C N) E 0) : Blk Tryd.prog (law16_KeysDerive_C N) E [1, 2, 3, 4, 12, 13, 85] law16_KeysDerive_S1 (law16_KeysDerive_L.drop 14) (fun y => law16_KeysDerive_3 N y.1.1 y.1.2.1 y.1.2.2.1 y.1.2.2.2.1 y.1.2.2.2.2.1 y.2.1 y.2.2.1) (law16_KeysDerive_K N) :=
  Blk.chunkAt hb 4 (X := (goK 0 [1, 2, 12, 13, 112] law16_KeysDerive_S0 (fun y => law16_KeysDerive_4 N y.1.1 y.1.2.1 y.1.2.2.1 y.1.2.2.2.1 y.1.2.2.2.2.1))) (NxOk.go hb (law16_KeysDerive_4_b N hb)) rfl (fun x => by kernel_rfl)
theorem law16_KeysDerive_2_b {E : Env} (N : Nat) (hb : Base Tryd.prog (law16_KeysDerive_C N) E 0) : Blk Tryd.prog (law16_KeysDerive_C N) E [1, 2, 3, 4, 12, 13, 60] law16_KeysDerive_S1 (law16_KeysDerive_L.drop 10) (fun y => law16_KeysDerive_2 N y.1.1 y.1.2.1 y.1.2.2.1 y.1.2.2.2.1 y.1.2.2.2.2.1 y.2.1 y.2.2.1) (law16_KeysDerive_K N) :=
  Blk.chunkAt hb 4 (X := (goK 0 [1, 2, 3, 4, 12, 13, 85] law16_KeysDerive_S1 (fun y => law16_KeysDerive_3 N y.1.1 y.1.2.1 y.1.2.2.1 y.1.2.2.2.1 y.1.2.2.2.2.1 y.2.1 y.2.2.1))) (NxOk.go hb (law16_KeysDerive_3_b N hb)) rfl (fun x => by kernel_rfl)
theorem law16_KeysDerive_1_b {E : Env} (N : Nat) (hb : Base Tryd.prog (law16_KeysDerive_C N) E 0) : Blk Tryd.prog (law16_KeysDerive_C N) E [0, 1, 2, 3, 4, 31] law16_KeysDerive_S2 (law16_KeysDerive_L.drop 4) (fun y => law16_KeysDerive_1 N y.1.1 y.1.2.1 y.1.2.2.1 y.1.2.2.2.1 y.1.2.2.2.2.1 y.1.2.2.2.2.2.1) (law16_KeysDerive_K N) :=
  Blk.chunkAt hb 6 (X := (goK 0 [1, 2, 3, 4, 12, 13, 60] law16_KeysDerive_S1 (fun y => law16_KeysDerive_2 N y.1.1 y.1.2.1 y.1.2.2.1 y.1.2.2.2.1 y.1.2.2.2.2.1 y.2.1 y.2.2.1))) (NxOk.go hb (law16_KeysDerive_2_b N hb)) rfl (fun x => by kernel_rfl)
theorem law16_KeysDerive_b {E : Env} (N : Nat) (hb : Base Tryd.prog (law16_KeysDerive_C N) E 0) : Blk Tryd.prog (law16_KeysDerive_C N) E (List.range law16_KeysDerive_S3.ks.length) law16_KeysDerive_S3 (law16_KeysDerive_L.drop 0) (fun y => law16_KeysDerive N y.1.1 y.1.2.1 y.1.2.2.1 y.1.2.2.2.1 y.1.2.2.2.2.1) (law16_KeysDerive_K N) :=
  Blk.chunkAt hb 4 (X := (goK 0 [0, 1, 2, 3, 4, 31] law16_KeysDerive_S2 (fun y => law16_KeysDerive_1 N y.1.1 y.1.2.1 y.1.2.2.1 y.1.2.2.2.1 y.1.2.2.2.2.1 y.1.2.2.2.2.2.1))) (NxOk.go hb (law16_KeysDerive_1_b N hb)) rfl (fun x => by kernel_rfl)
noncomputable def law16_KeysDerive_ctr (N : Nat) : Ctr := ⟨law16_KeysDerive_S3, law16_KeysDerive_S4.un [false], 0, (fun y => law16_KeysDerive N y.1.1 y.1.2.1 y.1.2.2.1 y.1.2.2.2.1 y.1.2.2.2.2.1)⟩
theorem law16_KeysDerive_ctrs (N : Nat) : CtrsOk Tryd.prog (law16_KeysDerive_C N) := ctrs_of (Γ := law16_KeysDerive_C N) (by
  intro p hp
  simp only [law16_KeysDerive_C, List.mem_cons, List.not_mem_nil, or_false] at hp
  rcases hp with rfl | rfl | rfl | rfl | rfl | rfl | rfl | rfl | rfl | rfl | rfl | rfl | rfl
  · exact law16_awake_ok N
  · exact make_New_ok N
  · exact make_Codes_Nonce_ok N
  · exact keys_Seed_ok N
  · exact ref16_Seed_ok N
  · exact keys_Rekey_ok N
  · exact ref16_Rekey_ok N
  · exact keys_Derive_ok N
  · exact ref16_Derive_ok N
  · exact keys_Child_ok N
  · exact ref16_Child_ok N
  · exact ref01_Equal_ok N
  · exact ref16_Same_ok N)
theorem law16_KeysDerive_ok (N : Nat) : Ctr.ok Tryd.prog G_globs 12 (law16_KeysDerive_ctr N) :=
  ctr_fn (Γ := law16_KeysDerive_C N) (rfit := law16_KeysDerive_S4) (bs := [false]) (res := [10]) (by kernel_rfl) (tys_ok G_tys_ok) (law16_KeysDerive_ctrs N) Tryd.func12 (by kernel_rfl) (by kernel_rfl) Tryd.ntmps12 (by kernel_rfl) (by kernel_rfl) (by kernel_rfl) (by kernel_rfl) (fun E hb => law16_KeysDerive_b N hb)
end Go.Proofs.YtlamdneheilahaaDoor