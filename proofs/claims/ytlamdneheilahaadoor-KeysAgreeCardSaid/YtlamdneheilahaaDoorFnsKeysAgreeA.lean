/- Functions of the program as plain functions, each with the proof that the text computes it. -/
import Derived.Test.YtlamdneheilahaaDoorGmRule
import Derived.Test.YtlamdneheilahaaDoorProg
set_option linter.unusedVariables false
set_option linter.unusedSimpArgs false
namespace Go.Proofs.YtlamdneheilahaaDoor
open Go
set_option maxRecDepth 100000
set_option linter.unusedVariables false
noncomputable def G_tys : List (Nat × TI) := [(2, ⟨.i64, 8, 0⟩), (3, ⟨.i64, 8, 0⟩), (4, ⟨.bool, 1, 0⟩), (5, ⟨.u8, 1, 0⟩), (6, ⟨.u8, 1, 0⟩), (7, ⟨(.pair .i64 (.pair .i64 (.pair .bool (.pair .u8 .unit)))), 24, 0⟩), (8, ⟨(.pair .i64 (.pair .i64 (.pair .bool (.pair .u8 .unit)))), 24, 0⟩), (9, ⟨.str, 16, 0⟩), (10, ⟨.str, 16, 0⟩), (11, ⟨.str, 16, 0⟩), (12, ⟨.u64, 8, 0⟩), (13, ⟨(.pair .str (.pair .u64 .unit)), 24, 0⟩), (14, ⟨(.pair .str (.pair .u64 .unit)), 24, 0⟩), (22, ⟨(.sl .u8), 24, 5⟩), (29, ⟨.u64, 8, 0⟩), (33, ⟨.u32, 4, 0⟩), (34, ⟨(.arr 8 .u32), 32, 33⟩), (41, ⟨.i64, 8, 0⟩), (44, ⟨(.pair .i64 (.pair (.sl .u8) .unit)), 32, 0⟩), (45, ⟨(.pair .i64 (.pair (.sl .u8) .unit)), 32, 0⟩), (48, ⟨(.sl .i64), 24, 3⟩), (49, ⟨(.sl (.sl .i64)), 24, 48⟩), (50, ⟨(.sl (.sl .u8)), 24, 22⟩), (60, ⟨(.pair (.sl .u8) (.pair (.sl .u8) (.pair (.sl .u8) (.pair (.sl .u8) (.pair (.sl .u8) .unit))))), 120, 0⟩), (61, ⟨(.pair (.sl .u8) (.pair (.sl .u8) (.pair (.sl .u8) (.pair (.sl .u8) (.pair (.sl .u8) .unit))))), 120, 0⟩), (68, ⟨(.pair (.sl .u8) (.pair (.sl .u8) .unit)), 48, 0⟩), (69, ⟨(.pair (.sl .u8) (.pair (.sl .u8) .unit)), 48, 0⟩), (73, ⟨(.arr 2 (.sl .u8)), 48, 22⟩), (74, ⟨(.sl (.arr 2 (.sl .u8))), 24, 73⟩), (82, ⟨.u64, 8, 0⟩), (92, ⟨(.arr 64 .u32), 256, 33⟩), (95, ⟨(.arr 64 .u8), 64, 5⟩), (99, ⟨(.pair (.sl .u8) (.pair .i64 .unit)), 32, 0⟩), (100, ⟨(.pair (.sl .u8) (.pair .i64 .unit)), 32, 0⟩), (105, ⟨(.arr 16 .u32), 64, 33⟩), (108, ⟨(.arr 4 .i64), 32, 3⟩), (109, ⟨(.arr 8 (.arr 4 .i64)), 256, 108⟩), (112, ⟨(.arr 5 .u64), 40, 29⟩), (113, ⟨(.arr 5 .u64), 40, 29⟩), (124, ⟨(.arr 17 .u32), 68, 33⟩), (143, ⟨.u8, 1, 0⟩), (144, ⟨.u8, 1, 0⟩), (151, ⟨(.pair .str .unit), 16, 0⟩), (152, ⟨(.pair .str .unit), 16, 0⟩)]
noncomputable def g_sha256_initial : (List UInt32) := [1779033703, 3144134277, 1013904242, 2773480762, 1359893119, 2600822924, 528734635, 1541459225]
noncomputable def g_sha256_constants : (List UInt32) := [1116352408, 1899447441, 3049323471, 3921009573, 961987163, 1508970993, 2453635748, 2870763221, 3624381080, 310598401, 607225278, 1426881987, 1925078388, 2162078206, 2614888103, 3248222580, 3835390401, 4022224774, 264347078, 604807628, 770255983, 1249150122, 1555081692, 1996064986, 2554220882, 2821834349, 2952996808, 3210313671, 3336571891, 3584528711, 113926993, 338241895, 666307205, 773529912, 1294757372, 1396182291, 1695183700, 1986661051, 2177026350, 2456956037, 2730485921, 2820302411, 3259730800, 3345764771, 3516065817, 3600352804, 4094571909, 275423344, 430227734, 506948616, 659060556, 883997877, 958139571, 1322822218, 1537002063, 1747873779, 1955562222, 2024104815, 2227730452, 2361852424, 2428436474, 2756734187, 3204031479, 3329325298]
noncomputable def g_keys_sizes : (List Int) := [32, 36, 36, 32, 32, 4]
noncomputable def G_globs : List (Nat × Dt) := [(0, ⟨(.arr 8 .u32), g_sha256_initial⟩), (1, ⟨(.arr 64 .u32), g_sha256_constants⟩), (2, ⟨(.sl .i64), g_keys_sizes⟩)]
theorem G_tys_ok : tyChk Tryd.prog G_tys = true := by kernel_rfl
end Go.Proofs.YtlamdneheilahaaDoor
namespace Go.Proofs.YtlamdneheilahaaDoor
open Go
set_option maxRecDepth 100000
set_option linter.unusedVariables false
/-! ipsecgate/keys.nonces -/
abbrev keys_nonces_R : Type := ((Bool × Unit) × (Unit))
noncomputable def keys_nonces_s2 (N : Nat) (t_5 : (List (List UInt8))) (t_6 : Int) (t_7 : Int) : Option (Lo (((List (List UInt8)) × Int × Int × Unit) × (Unit)) ((Unit) × (Unit)) keys_nonces_R) :=
  bif (decide (t_7 < t_6)) then
    bif inR t_7 t_5.length then
    let x3 := t_5.getD t_7.toNat ([] : List UInt8)
    bif (decide ((x3.length : Int) < (16 : Int))) then
      some (.rt ((false, ()), (())))
    else
      bif (decide ((256 : Int) < (x3.length : Int))) then
        some (.rt ((false, ()), (())))
      else
        some (.go ((t_5, t_6, (w64 (t_7 + (1 : Int))), ()), (())))
    else none
  else
    some (.br ((()), (())))
noncomputable def keys_nonces_3 (N : Nat) : Option keys_nonces_R :=
  some ((true, ()), (()))
noncomputable def keys_nonces_1 (N : Nat) (t_5 : (List (List UInt8))) (t_6 : Int) (t_7 : Int) : Option keys_nonces_R :=
  loopK N (fun y => keys_nonces_s2 N y.1.1 y.1.2.1 y.1.2.2.1) (fun (e : ((Unit) × (Unit))) => keys_nonces_3 N) ((t_5, t_6, t_7, ()), (()))
noncomputable def keys_nonces (N : Nat) (l_0 : (List (List UInt8))) : Option keys_nonces_R :=
  keys_nonces_1 N l_0 (l_0.length : Int) (0 : Int)
noncomputable def keys_nonces_C (N : Nat) : Ctx := ⟨20, G_tys, [], G_globs⟩
noncomputable def keys_nonces_S0 : Spec := ⟨[.val (.sl (.sl .u8)), .val .i64, .val .i64], []⟩
noncomputable def keys_nonces_S1 : Spec := ⟨[], []⟩
noncomputable def keys_nonces_S2 : Spec := ⟨[.val (.sl (.sl .u8))], []⟩
noncomputable def keys_nonces_S3 : Spec := ⟨[.val .bool], []⟩
noncomputable def keys_nonces_K (_N : Nat) : XE → GS → Option keys_nonces_R := retK 0 [2] [false] keys_nonces_S3
noncomputable def keys_nonces_L : List Code := (bodyOf (some Tryd.f82))
noncomputable def keys_nonces_L2 : List Code := (loopOf (keys_nonces_L[2]?))
noncomputable def keys_nonces_K2 (N : Nat) : XE → GS → Option (Lo (((List (List UInt8)) × Int × Int × Unit) × (Unit)) ((Unit) × (Unit)) keys_nonces_R) := roundK (some 0) (fit 0 [5, 6, 7] keys_nonces_S0) (fit 0 [] keys_nonces_S1) (keys_nonces_K N)
theorem keys_nonces_s2_b {E : Env} (N : Nat) (hb : Base Tryd.prog (keys_nonces_C N) E 0) : Blk Tryd.prog (keys_nonces_C N) E [5, 6, 7] keys_nonces_S0 (keys_nonces_L2.drop 0) (fun y => keys_nonces_s2 N y.1.1 y.1.2.1 y.1.2.2.1) (keys_nonces_K2 N) :=
  Blk.chunkAt hb 4 (X := (keys_nonces_K2 N .normal)) (NxOk.end (by kernel_rfl)) rfl (fun x => by kernel_rfl)
theorem keys_nonces_3_b {E : Env} (N : Nat) (hb : Base Tryd.prog (keys_nonces_C N) E 0) : Blk Tryd.prog (keys_nonces_C N) E [] keys_nonces_S1 (keys_nonces_L.drop 3) (fun y => keys_nonces_3 N) (keys_nonces_K N) :=
  Blk.chunkAt hb 2 (X := (keys_nonces_K N .normal)) (NxOk.end (by kernel_rfl)) rfl (fun x => by kernel_rfl)
theorem keys_nonces_1_b {E : Env} (N : Nat) (hb : Base Tryd.prog (keys_nonces_C N) E 0) : Blk Tryd.prog (keys_nonces_C N) E [5, 6, 7] keys_nonces_S0 (keys_nonces_L.drop 2) (fun y => keys_nonces_1 N y.1.1 y.1.2.1 y.1.2.2.1) (keys_nonces_K N) :=
  Blk.loopAt (Nf := N) (hns := [5, 6, 7]) (ans := []) (hc := keys_nonces_S0) (ac := keys_nonces_S1) (bid := 0) (step := (fun y => keys_nonces_s2 N y.1.1 y.1.2.1 y.1.2.2.1)) (J := (fun e => (goK 0 [] keys_nonces_S1 (fun y => keys_nonces_3 N)) (keys_nonces_S1.st [] e))) hb (by kernel_rfl) (Blk.into (X := (goK 0 [] keys_nonces_S1 (fun y => keys_nonces_3 N))) (NxOk.go hb (keys_nonces_3_b N hb)) (fun x => by kernel_rfl)) (keys_nonces_s2_b N hb) (fun x => by kernel_rfl)
theorem keys_nonces_b {E : Env} (N : Nat) (hb : Base Tryd.prog (keys_nonces_C N) E 0) : Blk Tryd.prog (keys_nonces_C N) E (List.range keys_nonces_S2.ks.length) keys_nonces_S2 (keys_nonces_L.drop 0) (fun y => keys_nonces N y.1.1) (keys_nonces_K N) :=
  Blk.chunkAt hb 2 (X := (goK 0 [5, 6, 7] keys_nonces_S0 (fun y => keys_nonces_1 N y.1.1 y.1.2.1 y.1.2.2.1))) (NxOk.go hb (keys_nonces_1_b N hb)) rfl (fun x => by kernel_rfl)
noncomputable def keys_nonces_ctr (N : Nat) : Ctr := ⟨keys_nonces_S2, keys_nonces_S3.un [false], 0, (fun y => keys_nonces N y.1.1)⟩
theorem keys_nonces_ctrs (N : Nat) : CtrsOk Tryd.prog (keys_nonces_C N) := ctrs_nil rfl
theorem keys_nonces_ok (N : Nat) : Ctr.ok Tryd.prog G_globs 82 (keys_nonces_ctr N) :=
  ctr_fn (Γ := keys_nonces_C N) (rfit := keys_nonces_S3) (bs := [false]) (res := [2]) (by kernel_rfl) (tys_ok G_tys_ok) (keys_nonces_ctrs N) Tryd.func82 (by kernel_rfl) (by kernel_rfl) Tryd.ntmps82 (by kernel_rfl) (by kernel_rfl) (by kernel_rfl) (by kernel_rfl) (fun E hb => keys_nonces_b N hb)
end Go.Proofs.YtlamdneheilahaaDoor
namespace Go.Proofs.YtlamdneheilahaaDoor
open Go
set_option maxRecDepth 100000
set_option linter.unusedVariables false
/-! ipsecgate/keys.join -/
abbrev keys_join_R : Type := ((Unit) × ((List UInt8) × Unit))
noncomputable def keys_join_s2 (N : Nat) (t_6 : (List (List UInt8))) (t_7 : Int) (t_8 : Int) (b_3 : (List UInt8)) : Option (Lo (((List (List UInt8)) × Int × Int × Unit) × ((List UInt8) × Unit)) ((Unit) × ((List UInt8) × Unit)) keys_join_R) :=
  bif (decide (t_8 < t_7)) then
    bif inR t_8 t_6.length then
    let x3 := t_6.getD t_8.toNat ([] : List UInt8)
    bif room (b_3.length + x3.length) 1 then
    some (.go ((t_6, t_7, (w64 (t_8 + (1 : Int))), ()), ((b_3 ++ x3), ())))
    else none
    else none
  else
    some (.br ((()), (b_3, ())))
noncomputable def keys_join_3 (N : Nat) (b_3 : (List UInt8)) : Option keys_join_R :=
  some ((()), (b_3, ()))
noncomputable def keys_join_1 (N : Nat) (t_6 : (List (List UInt8))) (t_7 : Int) (t_8 : Int) (b_3 : (List UInt8)) : Option keys_join_R :=
  loopK N (fun y => keys_join_s2 N y.1.1 y.1.2.1 y.1.2.2.1 y.2.1) (fun (e : ((Unit) × ((List UInt8) × Unit))) => keys_join_3 N e.2.1) ((t_6, t_7, t_8, ()), (b_3, ()))
noncomputable def keys_join (N : Nat) (l_0 : (List (List UInt8))) : Option keys_join_R :=
  keys_join_1 N l_0 (l_0.length : Int) (0 : Int) ([] : List UInt8)
noncomputable def keys_join_C (N : Nat) : Ctx := ⟨17, G_tys, [], G_globs⟩
noncomputable def keys_join_S0 : Spec := ⟨[.row 0, .val (.sl (.sl .u8)), .val .i64, .val .i64], [(.row 5 .u8, .pos 0)]⟩
noncomputable def keys_join_S1 : Spec := ⟨[.row 0], [(.row 5 .u8, .pos 0)]⟩
noncomputable def keys_join_S2 : Spec := ⟨[.val (.sl (.sl .u8))], []⟩
noncomputable def keys_join_K (_N : Nat) : XE → GS → Option keys_join_R := retK 0 [2] [false] keys_join_S1
noncomputable def keys_join_L : List Code := (bodyOf (some Tryd.f80))
noncomputable def keys_join_L2 : List Code := (loopOf (keys_join_L[3]?))
noncomputable def keys_join_K2 (N : Nat) : XE → GS → Option (Lo (((List (List UInt8)) × Int × Int × Unit) × ((List UInt8) × Unit)) ((Unit) × ((List UInt8) × Unit)) keys_join_R) := roundK (some 0) (fit 0 [3, 6, 7, 8] keys_join_S0) (fit 0 [3] keys_join_S1) (keys_join_K N)
theorem keys_join_s2_b {E : Env} (N : Nat) (hb : Base Tryd.prog (keys_join_C N) E 0) : Blk Tryd.prog (keys_join_C N) E [3, 6, 7, 8] keys_join_S0 (keys_join_L2.drop 0) (fun y => keys_join_s2 N y.1.1 y.1.2.1 y.1.2.2.1 y.2.1) (keys_join_K2 N) :=
  Blk.chunkAt hb 4 (X := (keys_join_K2 N .normal)) (NxOk.end (by kernel_rfl)) rfl (fun x => by kernel_rfl)
theorem keys_join_3_b {E : Env} (N : Nat) (hb : Base Tryd.prog (keys_join_C N) E 0) : Blk Tryd.prog (keys_join_C N) E [3] keys_join_S1 (keys_join_L.drop 4) (fun y => keys_join_3 N y.2.1) (keys_join_K N) :=
  Blk.chunkAt hb 2 (X := (keys_join_K N .normal)) (NxOk.end (by kernel_rfl)) rfl (fun x => by kernel_rfl)
theorem keys_join_1_b {E : Env} (N : Nat) (hb : Base Tryd.prog (keys_join_C N) E 0) : Blk Tryd.prog (keys_join_C N) E [3, 6, 7, 8] keys_join_S0 (keys_join_L.drop 3) (fun y => keys_join_1 N y.1.1 y.1.2.1 y.1.2.2.1 y.2.1) (keys_join_K N) :=
  Blk.loopAt (Nf := N) (hns := [3, 6, 7, 8]) (ans := [3]) (hc := keys_join_S0) (ac := keys_join_S1) (bid := 0) (step := (fun y => keys_join_s2 N y.1.1 y.1.2.1 y.1.2.2.1 y.2.1)) (J := (fun e => (goK 0 [3] keys_join_S1 (fun y => keys_join_3 N y.2.1)) (keys_join_S1.st [3] e))) hb (by kernel_rfl) (Blk.into (X := (goK 0 [3] keys_join_S1 (fun y => keys_join_3 N y.2.1))) (NxOk.go hb (keys_join_3_b N hb)) (fun x => by kernel_rfl)) (keys_join_s2_b N hb) (fun x => by kernel_rfl)
theorem keys_join_b {E : Env} (N : Nat) (hb : Base Tryd.prog (keys_join_C N) E 0) : Blk Tryd.prog (keys_join_C N) E (List.range keys_join_S2.ks.length) keys_join_S2 (keys_join_L.drop 0) (fun y => keys_join N y.1.1) (keys_join_K N) :=
  Blk.chunkAt hb 3 (X := (goK 0 [3, 6, 7, 8] keys_join_S0 (fun y => keys_join_1 N y.1.1 y.1.2.1 y.1.2.2.1 y.2.1))) (NxOk.go hb (keys_join_1_b N hb)) rfl (fun x => by kernel_rfl)
noncomputable def keys_join_ctr (N : Nat) : Ctr := ⟨keys_join_S2, keys_join_S1.un [false], 0, (fun y => keys_join N y.1.1)⟩
theorem keys_join_ctrs (N : Nat) : CtrsOk Tryd.prog (keys_join_C N) := ctrs_nil rfl
theorem keys_join_ok (N : Nat) : Ctr.ok Tryd.prog G_globs 80 (keys_join_ctr N) :=
  ctr_fn (Γ := keys_join_C N) (rfit := keys_join_S1) (bs := [false]) (res := [2]) (by kernel_rfl) (tys_ok G_tys_ok) (keys_join_ctrs N) Tryd.func80 (by kernel_rfl) (by kernel_rfl) Tryd.ntmps80 (by kernel_rfl) (by kernel_rfl) (by kernel_rfl) (by kernel_rfl) (fun E hb => keys_join_b N hb)
end Go.Proofs.YtlamdneheilahaaDoor
namespace Go.Proofs.YtlamdneheilahaaDoor
open Go
set_option maxRecDepth 100000
set_option linter.unusedVariables false
/-! ipsecgate/wire.Put -/
abbrev wire_Put_R : Type := ((Unit) × ((List UInt8) × Unit))
noncomputable def wire_Put_s3 (N : Nat) (v_1 : UInt64) (i_7 : Int) (b_0 : (List UInt8)) : Option (Lo ((UInt64 × Int × Unit) × ((List UInt8) × Unit)) ((Unit) × ((List UInt8) × Unit)) wire_Put_R) :=
  bif (decide ((0 : Int) ≤ i_7)) then
    let x4 := w64 ((8 : Int) * i_7)
    bif decide (0 ≤ x4) then
    let x5 := shr64 v_1 x4.toNat
    bif room (b_0.length + ([x5.toUInt8] : List UInt8).length) 1 then
    some (.go ((v_1, (w64 (i_7 - (1 : Int))), ()), ((b_0 ++ ([x5.toUInt8] : List UInt8)), ())))
    else none
    else none
  else
    some (.br ((()), (b_0, ())))
noncomputable def wire_Put_4 (N : Nat) (b_0 : (List UInt8)) : Option wire_Put_R :=
  some ((()), (b_0, ()))
noncomputable def wire_Put_2 (N : Nat) (v_1 : UInt64) (i_7 : Int) (b_0 : (List UInt8)) : Option wire_Put_R :=
  loopK N (fun y => wire_Put_s3 N y.1.1 y.1.2.1 y.2.1) (fun (e : ((Unit) × ((List UInt8) × Unit))) => wire_Put_4 N e.2.1) ((v_1, i_7, ()), (b_0, ()))
noncomputable def wire_Put_1 (N : Nat) (v_1 : UInt64) (width_2 : Int) (t_13 : Bool) (b_0 : (List UInt8)) : Option wire_Put_R :=
  bif t_13 then
    some ((()), (b_0, ()))
  else
    wire_Put_2 N v_1 (w64 (width_2 - (1 : Int))) b_0
noncomputable def wire_Put (N : Nat) (v_1 : UInt64) (width_2 : Int) (b_0 : (List UInt8)) : Option wire_Put_R :=
  bif (decide (width_2 < (1 : Int))) then
    wire_Put_1 N v_1 width_2 true b_0
  else
    wire_Put_1 N v_1 width_2 (decide ((8 : Int) < width_2)) b_0
noncomputable def wire_Put_C (N : Nat) : Ctx := ⟨30, G_tys, [], G_globs⟩
noncomputable def wire_Put_S0 : Spec := ⟨[.row 0, .val .u64, .val .i64], [(.row 5 .u8, .pos 0)]⟩
noncomputable def wire_Put_S1 : Spec := ⟨[.row 0], [(.row 5 .u8, .pos 0)]⟩
noncomputable def wire_Put_S2 : Spec := ⟨[.row 0, .val .u64, .val .i64, .val .bool], [(.row 5 .u8, .pos 0)]⟩
noncomputable def wire_Put_K (_N : Nat) : XE → GS → Option wire_Put_R := retK 0 [6] [false] wire_Put_S1
noncomputable def wire_Put_L : List Code := (bodyOf (some Tryd.f26))
noncomputable def wire_Put_L3 : List Code := (loopOf (wire_Put_L[4]?))
noncomputable def wire_Put_K3 (N : Nat) : XE → GS → Option (Lo ((UInt64 × Int × Unit) × ((List UInt8) × Unit)) ((Unit) × ((List UInt8) × Unit)) wire_Put_R) := roundK (some 0) (fit 0 [0, 1, 7] wire_Put_S0) (fit 0 [0] wire_Put_S1) (wire_Put_K N)
theorem wire_Put_s3_b {E : Env} (N : Nat) (hb : Base Tryd.prog (wire_Put_C N) E 0) : Blk Tryd.prog (wire_Put_C N) E [0, 1, 7] wire_Put_S0 (wire_Put_L3.drop 0) (fun y => wire_Put_s3 N y.1.1 y.1.2.1 y.2.1) (wire_Put_K3 N) :=
  Blk.chunkAt hb 4 (X := (wire_Put_K3 N .normal)) (NxOk.end (by kernel_rfl)) rfl (fun x => by kernel_rfl)
theorem wire_Put_4_b {E : Env} (N : Nat) (hb : Base Tryd.prog (wire_Put_C N) E 0) : Blk Tryd.prog (wire_Put_C N) E [0] wire_Put_S1 (wire_Put_L.drop 5) (fun y => wire_Put_4 N y.2.1) (wire_Put_K N) :=
  Blk.chunkAt hb 2 (X := (wire_Put_K N .normal)) (NxOk.end (by kernel_rfl)) rfl (fun x => by kernel_rfl)
theorem wire_Put_2_b {E : Env} (N : Nat) (hb : Base Tryd.prog (wire_Put_C N) E 0) : Blk Tryd.prog (wire_Put_C N) E [0, 1, 7] wire_Put_S0 (wire_Put_L.drop 4) (fun y => wire_Put_2 N y.1.1 y.1.2.1 y.2.1) (wire_Put_K N) :=
  Blk.loopAt (Nf := N) (hns := [0, 1, 7]) (ans := [0]) (hc := wire_Put_S0) (ac := wire_Put_S1) (bid := 0) (step := (fun y => wire_Put_s3 N y.1.1 y.1.2.1 y.2.1)) (J := (fun e => (goK 0 [0] wire_Put_S1 (fun y => wire_Put_4 N y.2.1)) (wire_Put_S1.st [0] e))) hb (by kernel_rfl) (Blk.into (X := (goK 0 [0] wire_Put_S1 (fun y => wire_Put_4 N y.2.1))) (NxOk.go hb (wire_Put_4_b N hb)) (fun x => by kernel_rfl)) (wire_Put_s3_b N hb) (fun x => by kernel_rfl)
theorem wire_Put_1_b {E : Env} (N : Nat) (hb : Base Tryd.prog (wire_Put_C N) E 0) : Blk Tryd.prog (wire_Put_C N) E [0, 1, 2, 13] wire_Put_S2 (wire_Put_L.drop 2) (fun y => wire_Put_1 N y.1.1 y.1.2.1 y.1.2.2.1 y.2.1) (wire_Put_K N) :=
  Blk.chunkAt hb 2 (X := (goK 0 [0, 1, 7] wire_Put_S0 (fun y => wire_Put_2 N y.1.1 y.1.2.1 y.2.1))) (NxOk.go hb (wire_Put_2_b N hb)) rfl (fun x => by kernel_rfl)
theorem wire_Put_b {E : Env} (N : Nat) (hb : Base Tryd.prog (wire_Put_C N) E 0) : Blk Tryd.prog (wire_Put_C N) E (List.range wire_Put_S0.ks.length) wire_Put_S0 (wire_Put_L.drop 0) (fun y => wire_Put N y.1.1 y.1.2.1 y.2.1) (wire_Put_K N) :=
  Blk.chunkAt hb 2 (X := (goK 0 [0, 1, 2, 13] wire_Put_S2 (fun y => wire_Put_1 N y.1.1 y.1.2.1 y.1.2.2.1 y.2.1))) (NxOk.go hb (wire_Put_1_b N hb)) rfl (fun x => by kernel_rfl)
noncomputable def wire_Put_ctr (N : Nat) : Ctr := ⟨wire_Put_S0, wire_Put_S1.un [false], 0, (fun y => wire_Put N y.1.1 y.1.2.1 y.2.1)⟩
theorem wire_Put_ctrs (N : Nat) : CtrsOk Tryd.prog (wire_Put_C N) := ctrs_nil rfl
theorem wire_Put_ok (N : Nat) : Ctr.ok Tryd.prog G_globs 26 (wire_Put_ctr N) :=
  ctr_fn (Γ := wire_Put_C N) (rfit := wire_Put_S1) (bs := [false]) (res := [6]) (by kernel_rfl) (tys_ok G_tys_ok) (wire_Put_ctrs N) Tryd.func26 (by kernel_rfl) (by kernel_rfl) Tryd.ntmps26 (by kernel_rfl) (by kernel_rfl) (by kernel_rfl) (by kernel_rfl) (fun E hb => wire_Put_b N hb)
end Go.Proofs.YtlamdneheilahaaDoor
namespace Go.Proofs.YtlamdneheilahaaDoor
open Go
set_option maxRecDepth 100000
set_option linter.unusedVariables false
/-! ipsecgate/sha256.Pad -/
abbrev sha256_Pad_R : Type := ((Unit) × ((List UInt8) × Unit))
noncomputable def sha256_Pad_s2 (N : Nat) (length_0 : Int) (b_3 : (List UInt8)) : Option (Lo ((Int × Unit) × ((List UInt8) × Unit)) ((Int × Unit) × ((List UInt8) × Unit)) sha256_Pad_R) :=
  bif (!(decide (((w64 ((length_0.tmod (64 : Int)) + (b_3.length : Int))).tmod (64 : Int)) = (56 : Int)))) then
    bif room (b_3.length + ([(0 : UInt8)] : List UInt8).length) 1 then
    some (.go ((length_0, ()), ((b_3 ++ ([(0 : UInt8)] : List UInt8)), ())))
    else none
  else
    some (.br ((length_0, ()), (b_3, ())))
noncomputable def sha256_Pad_3 (N : Nat) (length_0 : Int) (b_3 : (List UInt8)) : Option sha256_Pad_R :=
  Option.bind (wire_Put N ((iu64 length_0) * (8 : UInt64)) (8 : Int) b_3) fun y10 =>
  some ((()), (y10.2.1, ()))
noncomputable def sha256_Pad_1 (N : Nat) (length_0 : Int) (b_3 : (List UInt8)) : Option sha256_Pad_R :=
  loopK N (fun y => sha256_Pad_s2 N y.1.1 y.2.1) (fun (e : ((Int × Unit) × ((List UInt8) × Unit))) => sha256_Pad_3 N e.1.1 e.2.1) ((length_0, ()), (b_3, ()))
noncomputable def sha256_Pad (N : Nat) (length_0 : Int) : Option sha256_Pad_R :=
  bif (decide (length_0 < (0 : Int))) then
    some ((()), (([] : List UInt8), ()))
  else
    sha256_Pad_1 N length_0 ([(128 : UInt8)] : List UInt8)
noncomputable def sha256_Pad_C (N : Nat) : Ctx := ⟨22, G_tys, [(26, wire_Put_ctr N)], G_globs⟩
noncomputable def sha256_Pad_S0 : Spec := ⟨[.val .i64, .row 0], [(.row 5 .u8, .pos 1)]⟩
noncomputable def sha256_Pad_S1 : Spec := ⟨[.val .i64], []⟩
noncomputable def sha256_Pad_S2 : Spec := ⟨[.row 0], [(.row 5 .u8, .pos 0)]⟩
noncomputable def sha256_Pad_K (_N : Nat) : XE → GS → Option sha256_Pad_R := retK 0 [2] [false] sha256_Pad_S2
noncomputable def sha256_Pad_L : List Code := (bodyOf (some Tryd.f23))
noncomputable def sha256_Pad_L2 : List Code := (loopOf (sha256_Pad_L[4]?))
noncomputable def sha256_Pad_K2 (N : Nat) : XE → GS → Option (Lo ((Int × Unit) × ((List UInt8) × Unit)) ((Int × Unit) × ((List UInt8) × Unit)) sha256_Pad_R) := roundK (some 0) (fit 0 [0, 3] sha256_Pad_S0) (fit 0 [0, 3] sha256_Pad_S0) (sha256_Pad_K N)
theorem sha256_Pad_s2_b {E : Env} (N : Nat) (hb : Base Tryd.prog (sha256_Pad_C N) E 0) : Blk Tryd.prog (sha256_Pad_C N) E [0, 3] sha256_Pad_S0 (sha256_Pad_L2.drop 0) (fun y => sha256_Pad_s2 N y.1.1 y.2.1) (sha256_Pad_K2 N) :=
  Blk.chunkAt hb 3 (X := (sha256_Pad_K2 N .normal)) (NxOk.end (by kernel_rfl)) rfl (fun x => by kernel_rfl)
theorem sha256_Pad_3_b {E : Env} (N : Nat) (hb : Base Tryd.prog (sha256_Pad_C N) E 0) : Blk Tryd.prog (sha256_Pad_C N) E [0, 3] sha256_Pad_S0 (sha256_Pad_L.drop 5) (fun y => sha256_Pad_3 N y.1.1 y.2.1) (sha256_Pad_K N) :=
  Blk.chunkAt hb 2 (X := (sha256_Pad_K N .normal)) (NxOk.end (by kernel_rfl)) rfl (fun x => by kernel_rfl)
theorem sha256_Pad_1_b {E : Env} (N : Nat) (hb : Base Tryd.prog (sha256_Pad_C N) E 0) : Blk Tryd.prog (sha256_Pad_C N) E [0, 3] sha256_Pad_S0 (sha256_Pad_L.drop 4) (fun y => sha256_Pad_1 N y.1.1 y.2.1) (sha256_Pad_K N) :=
  Blk.loopAt (Nf := N) (hns := [0, 3]) (ans := [0, 3]) (hc := sha256_Pad_S0) (ac := sha256_Pad_S0) (bid := 0) (step := (fun y => sha256_Pad_s2 N y.1.1 y.2.1)) (J := (fun e => (goK 0 [0, 3] sha256_Pad_S0 (fun y => sha256_Pad_3 N y.1.1 y.2.1)) (sha256_Pad_S0.st [0, 3] e))) hb (by kernel_rfl) (Blk.into (X := (goK 0 [0, 3] sha256_Pad_S0 (fun y => sha256_Pad_3 N y.1.1 y.2.1))) (NxOk.go hb (sha256_Pad_3_b N hb)) (fun x => by kernel_rfl)) (sha256_Pad_s2_b N hb) (fun x => by kernel_rfl)
theorem sha256_Pad_b {E : Env} (N : Nat) (hb : Base Tryd.prog (sha256_Pad_C N) E 0) : Blk Tryd.prog (sha256_Pad_C N) E (List.range sha256_Pad_S1.ks.length) sha256_Pad_S1 (sha256_Pad_L.drop 0) (fun y => sha256_Pad N y.1.1) (sha256_Pad_K N) :=
  Blk.chunkAt hb 4 (X := (goK 0 [0, 3] sha256_Pad_S0 (fun y => sha256_Pad_1 N y.1.1 y.2.1))) (NxOk.go hb (sha256_Pad_1_b N hb)) rfl (fun x => by kernel_rfl)
noncomputable def sha256_Pad_ctr (N : Nat) : Ctr := ⟨sha256_Pad_S1, sha256_Pad_S2.un [false], 0, (fun y => sha256_Pad N y.1.1)⟩
theorem sha256_Pad_ctrs (N : Nat) : CtrsOk Tryd.prog (sha256_Pad_C N) := ctrs_of (Γ := sha256_Pad_C N) (by
  intro p hp
  simp only [sha256_Pad_C, List.mem_cons, List.not_mem_nil, or_false] at hp
  rcases hp with rfl
  · exact wire_Put_ok N)
theorem sha256_Pad_ok (N : Nat) : Ctr.ok Tryd.prog G_globs 23 (sha256_Pad_ctr N) :=
  ctr_fn (Γ := sha256_Pad_C N) (rfit := sha256_Pad_S2) (bs := [false]) (res := [2]) (by kernel_rfl) (tys_ok G_tys_ok) (sha256_Pad_ctrs N) Tryd.func23 (by kernel_rfl) (by kernel_rfl) Tryd.ntmps23 (by kernel_rfl) (by kernel_rfl) (by kernel_rfl) (by kernel_rfl) (fun E hb => sha256_Pad_b N hb)
end Go.Proofs.YtlamdneheilahaaDoor
namespace Go.Proofs.YtlamdneheilahaaDoor
open Go
set_option maxRecDepth 100000
set_option linter.unusedVariables false
/-! ipsecgate/wire.Slice -/
abbrev wire_Slice_R : Type := (((List UInt8) × Bool × Unit) × (Unit))
noncomputable def wire_Slice_1 (N : Nat) (b_0 : (List UInt8)) (at_1 : Int) (n_2 : Int) (t_27 : Bool) : Option wire_Slice_R :=
  bif t_27 then
    some ((([] : List UInt8), false, ()), (()))
  else
    let x2 := w64 (at_1 + n_2)
    let x3 := w64 (at_1 + n_2)
    bif decide (0 ≤ at_1) && decide (at_1 ≤ x2) && decide (x2 ≤ (b_0.length : Int)) && (decide (x2 ≤ x3) && decide (x3 ≤ (b_0.length : Int))) then
    some (((cut b_0 at_1.toNat x2.toNat), true, ()), (()))
    else none
noncomputable def wire_Slice (N : Nat) (b_0 : (List UInt8)) (at_1 : Int) (n_2 : Int) : Option wire_Slice_R :=
  bif (decide (at_1 < (0 : Int))) then
    wire_Slice_1 N b_0 at_1 n_2 true
  else
    bif (decide (n_2 < (0 : Int))) then
      wire_Slice_1 N b_0 at_1 n_2 true
    else
      bif (decide ((b_0.length : Int) < at_1)) then
        wire_Slice_1 N b_0 at_1 n_2 true
      else
        wire_Slice_1 N b_0 at_1 n_2 (decide ((w64 ((b_0.length : Int) - at_1)) < n_2))
noncomputable def wire_Slice_C (N : Nat) : Ctx := ⟨37, G_tys, [], G_globs⟩
noncomputable def wire_Slice_S0 : Spec := ⟨[.val (.sl .u8), .val .i64, .val .i64, .val .bool], []⟩
noncomputable def wire_Slice_S1 : Spec := ⟨[.val (.sl .u8), .val .i64, .val .i64], []⟩
noncomputable def wire_Slice_S2 : Spec := ⟨[.val (.sl .u8), .val .bool], []⟩
noncomputable def wire_Slice_K (_N : Nat) : XE → GS → Option wire_Slice_R := retK 0 [6, 7] [false, false] wire_Slice_S2
noncomputable def wire_Slice_L : List Code := (bodyOf (some Tryd.f73))
theorem wire_Slice_1_b {E : Env} (N : Nat) (hb : Base Tryd.prog (wire_Slice_C N) E 0) : Blk Tryd.prog (wire_Slice_C N) E [0, 1, 2, 27] wire_Slice_S0 (wire_Slice_L.drop 2) (fun y => wire_Slice_1 N y.1.1 y.1.2.1 y.1.2.2.1 y.1.2.2.2.1) (wire_Slice_K N) :=
  Blk.chunkAt hb 3 (X := (wire_Slice_K N .normal)) (NxOk.end (by kernel_rfl)) rfl (fun x => by kernel_rfl)
theorem wire_Slice_b {E : Env} (N : Nat) (hb : Base Tryd.prog (wire_Slice_C N) E 0) : Blk Tryd.prog (wire_Slice_C N) E (List.range wire_Slice_S1.ks.length) wire_Slice_S1 (wire_Slice_L.drop 0) (fun y => wire_Slice N y.1.1 y.1.2.1 y.1.2.2.1) (wire_Slice_K N) :=
  Blk.chunkAt hb 2 (X := (goK 0 [0, 1, 2, 27] wire_Slice_S0 (fun y => wire_Slice_1 N y.1.1 y.1.2.1 y.1.2.2.1 y.1.2.2.2.1))) (NxOk.go hb (wire_Slice_1_b N hb)) rfl (fun x => by kernel_rfl)
noncomputable def wire_Slice_ctr (N : Nat) : Ctr := ⟨wire_Slice_S1, wire_Slice_S2.un [false, false], 0, (fun y => wire_Slice N y.1.1 y.1.2.1 y.1.2.2.1)⟩
theorem wire_Slice_ctrs (N : Nat) : CtrsOk Tryd.prog (wire_Slice_C N) := ctrs_nil rfl
theorem wire_Slice_ok (N : Nat) : Ctr.ok Tryd.prog G_globs 73 (wire_Slice_ctr N) :=
  ctr_fn (Γ := wire_Slice_C N) (rfit := wire_Slice_S2) (bs := [false, false]) (res := [6, 7]) (by kernel_rfl) (tys_ok G_tys_ok) (wire_Slice_ctrs N) Tryd.func73 (by kernel_rfl) (by kernel_rfl) Tryd.ntmps73 (by kernel_rfl) (by kernel_rfl) (by kernel_rfl) (by kernel_rfl) (fun E hb => wire_Slice_b N hb)
end Go.Proofs.YtlamdneheilahaaDoor
namespace Go.Proofs.YtlamdneheilahaaDoor
open Go
set_option maxRecDepth 100000
set_option linter.unusedVariables false
/-! ipsecgate/wire.Number -/
abbrev wire_Number_R : Type := ((UInt64 × Bool × Unit) × (Unit))
noncomputable def wire_Number_s3 (N : Nat) (v_10 : UInt64) (t_28 : (List UInt8)) (t_29 : Int) (t_30 : Int) : Option (Lo ((UInt64 × (List UInt8) × Int × Int × Unit) × (Unit)) ((UInt64 × Unit) × (Unit)) wire_Number_R) :=
  bif (decide (t_30 < t_29)) then
    bif inR t_30 t_28.length then
    some (.go ((((shl64 v_10 8) ||| (t_28.getD t_30.toNat (0 : UInt8)).toUInt64), t_28, t_29, (w64 (t_30 + (1 : Int))), ()), (())))
    else none
  else
    some (.br ((v_10, ()), (())))
noncomputable def wire_Number_4 (N : Nat) (v_10 : UInt64) : Option wire_Number_R :=
  some ((v_10, true, ()), (()))
noncomputable def wire_Number_2 (N : Nat) (v_10 : UInt64) (t_28 : (List UInt8)) (t_29 : Int) (t_30 : Int) : Option wire_Number_R :=
  loopK N (fun y => wire_Number_s3 N y.1.1 y.1.2.1 y.1.2.2.1 y.1.2.2.2.1) (fun (e : ((UInt64 × Unit) × (Unit))) => wire_Number_4 N e.1.1) ((v_10, t_28, t_29, t_30, ()), (()))
noncomputable def wire_Number_1 (N : Nat) (b_0 : (List UInt8)) (at_1 : Int) (width_2 : Int) (t_18 : Bool) : Option wire_Number_R :=
  bif t_18 then
    some (((0 : UInt64), false, ()), (()))
  else
    Option.bind (wire_Slice N b_0 at_1 width_2) fun y2 =>
    bif (!y2.1.2.1) then
      some (((0 : UInt64), false, ()), (()))
    else
      wire_Number_2 N (0 : UInt64) y2.1.1 (y2.1.1.length : Int) (0 : Int)
noncomputable def wire_Number (N : Nat) (b_0 : (List UInt8)) (at_1 : Int) (width_2 : Int) : Option wire_Number_R :=
  bif (decide (width_2 < (1 : Int))) then
    wire_Number_1 N b_0 at_1 width_2 true
  else
    wire_Number_1 N b_0 at_1 width_2 (decide ((8 : Int) < width_2))
noncomputable def wire_Number_C (N : Nat) : Ctx := ⟨41, G_tys, [(73, wire_Slice_ctr N)], G_globs⟩
noncomputable def wire_Number_S0 : Spec := ⟨[.val .u64, .val (.sl .u8), .val .i64, .val .i64], []⟩
noncomputable def wire_Number_S1 : Spec := ⟨[.val .u64], []⟩
noncomputable def wire_Number_S2 : Spec := ⟨[.val (.sl .u8), .val .i64, .val .i64, .val .bool], []⟩
noncomputable def wire_Number_S3 : Spec := ⟨[.val (.sl .u8), .val .i64, .val .i64], []⟩
noncomputable def wire_Number_S4 : Spec := ⟨[.val .u64, .val .bool], []⟩
noncomputable def wire_Number_K (_N : Nat) : XE → GS → Option wire_Number_R := retK 0 [6, 7] [false, false] wire_Number_S4
noncomputable def wire_Number_L : List Code := (bodyOf (some Tryd.f24))
noncomputable def wire_Number_L3 : List Code := (loopOf (wire_Number_L[8]?))
noncomputable def wire_Number_K3 (N : Nat) : XE → GS → Option (Lo ((UInt64 × (List UInt8) × Int × Int × Unit) × (Unit)) ((UInt64 × Unit) × (Unit)) wire_Number_R) := roundK (some 0) (fit 0 [10, 28, 29, 30] wire_Number_S0) (fit 0 [10] wire_Number_S1) (wire_Number_K N)
theorem wire_Number_s3_b {E : Env} (N : Nat) (hb : Base Tryd.prog (wire_Number_C N) E 0) : Blk Tryd.prog (wire_Number_C N) E [10, 28, 29, 30] wire_Number_S0 (wire_Number_L3.drop 0) (fun y => wire_Number_s3 N y.1.1 y.1.2.1 y.1.2.2.1 y.1.2.2.2.1) (wire_Number_K3 N) :=
  Blk.chunkAt hb 4 (X := (wire_Number_K3 N .normal)) (NxOk.end (by kernel_rfl)) rfl (fun x => by kernel_rfl)
theorem wire_Number_4_b {E : Env} (N : Nat) (hb : Base Tryd.prog (wire_Number_C N) E 0) : Blk Tryd.prog (wire_Number_C N) E [10] wire_Number_S1 (wire_Number_L.drop 9) (fun y => wire_Number_4 N y.1.1) (wire_Number_K N) :=
  Blk.chunkAt hb 2 (X := (wire_Number_K N .normal)) (NxOk.end (by kernel_rfl)) rfl (fun x => by kernel_rfl)
theorem wire_Number_2_b {E : Env} (N : Nat) (hb : Base Tryd.prog (wire_Number_C N) E 0) : Blk Tryd.prog (wire_Number_C N) E [10, 28, 29, 30] wire_Number_S0 (wire_Number_L.drop 8) (fun y => wire_Number_2 N y.1.1 y.1.2.1 y.1.2.2.1 y.1.2.2.2.1) (wire_Number_K N) :=
  Blk.loopAt (Nf := N) (hns := [10, 28, 29, 30]) (ans := [10]) (hc := wire_Number_S0) (ac := wire_Number_S1) (bid := 0) (step := (fun y => wire_Number_s3 N y.1.1 y.1.2.1 y.1.2.2.1 y.1.2.2.2.1)) (J := (fun e => (goK 0 [10] wire_Number_S1 (fun y => wire_Number_4 N y.1.1)) (wire_Number_S1.st [10] e))) hb (by kernel_rfl) (Blk.into (X := (goK 0 [10] wire_Number_S1 (fun y => wire_Number_4 N y.1.1))) (NxOk.go hb (wire_Number_4_b N hb)) (fun x => by kernel_rfl)) (wire_Number_s3_b N hb) (fun x => by kernel_rfl)
theorem wire_Number_1_b {E : Env} (N : Nat) (hb : Base Tryd.prog (wire_Number_C N) E 0) : Blk Tryd.prog (wire_Number_C N) E [0, 1, 2, 18] wire_Number_S2 (wire_Number_L.drop 2) (fun y => wire_Number_1 N y.1.1 y.1.2.1 y.1.2.2.1 y.1.2.2.2.1) (wire_Number_K N) :=
  Blk.chunkAt hb 6 (X := (goK 0 [10, 28, 29, 30] wire_Number_S0 (fun y => wire_Number_2 N y.1.1 y.1.2.1 y.1.2.2.1 y.1.2.2.2.1))) (NxOk.go hb (wire_Number_2_b N hb)) rfl (fun x => by kernel_rfl)
theorem wire_Number_b {E : Env} (N : Nat) (hb : Base Tryd.prog (wire_Number_C N) E 0) : Blk Tryd.prog (wire_Number_C N) E (List.range wire_Number_S3.ks.length) wire_Number_S3 (wire_Number_L.drop 0) (fun y => wire_Number N y.1.1 y.1.2.1 y.1.2.2.1) (wire_Number_K N) :=
  Blk.chunkAt hb 2 (X := (goK 0 [0, 1, 2, 18] wire_Number_S2 (fun y => wire_Number_1 N y.1.1 y.1.2.1 y.1.2.2.1 y.1.2.2.2.1))) (NxOk.go hb (wire_Number_1_b N hb)) rfl (fun x => by kernel_rfl)
noncomputable def wire_Number_ctr (N : Nat) : Ctr := ⟨wire_Number_S3, wire_Number_S4.un [false, false], 0, (fun y => wire_Number N y.1.1 y.1.2.1 y.1.2.2.1)⟩
theorem wire_Number_ctrs (N : Nat) : CtrsOk Tryd.prog (wire_Number_C N) := ctrs_of (Γ := wire_Number_C N) (by
  intro p hp
  simp only [wire_Number_C, List.mem_cons, List.not_mem_nil, or_false] at hp
  rcases hp with rfl
  · exact wire_Slice_ok N)
theorem wire_Number_ok (N : Nat) : Ctr.ok Tryd.prog G_globs 24 (wire_Number_ctr N) :=
  ctr_fn (Γ := wire_Number_C N) (rfit := wire_Number_S4) (bs := [false, false]) (res := [6, 7]) (by kernel_rfl) (tys_ok G_tys_ok) (wire_Number_ctrs N) Tryd.func24 (by kernel_rfl) (by kernel_rfl) Tryd.ntmps24 (by kernel_rfl) (by kernel_rfl) (by kernel_rfl) (by kernel_rfl) (fun E hb => wire_Number_b N hb)
end Go.Proofs.YtlamdneheilahaaDoor
namespace Go.Proofs.YtlamdneheilahaaDoor
open Go
set_option maxRecDepth 100000
set_option linter.unusedVariables false
/-! math/bits.RotateLeft32 -/
abbrev math_bits_RotateLeft32_R : Type := ((UInt32 × Unit) × (Unit))
noncomputable def math_bits_RotateLeft32 (N : Nat) (x_0 : UInt32) (k_1 : Int) : Option math_bits_RotateLeft32_R :=
  let x2 := (iu64 k_1) &&& (31 : UInt64)
  some ((((shl32 x_0 x2.toNat) ||| (shr32 x_0 ((32 : UInt64) - x2).toNat)), ()), (()))
noncomputable def math_bits_RotateLeft32_C (N : Nat) : Ctx := ⟨17, G_tys, [], G_globs⟩
noncomputable def math_bits_RotateLeft32_S0 : Spec := ⟨[.val .u32, .val .i64], []⟩
noncomputable def math_bits_RotateLeft32_S1 : Spec := ⟨[.val .u32], []⟩
noncomputable def math_bits_RotateLeft32_K (_N : Nat) : XE → GS → Option math_bits_RotateLeft32_R := retK 0 [4] [false] math_bits_RotateLeft32_S1
noncomputable def math_bits_RotateLeft32_L : List Code := (bodyOf (some Tryd.f108))
theorem math_bits_RotateLeft32_b {E : Env} (N : Nat) (hb : Base Tryd.prog (math_bits_RotateLeft32_C N) E 0) : Blk Tryd.prog (math_bits_RotateLeft32_C N) E (List.range math_bits_RotateLeft32_S0.ks.length) math_bits_RotateLeft32_S0 (math_bits_RotateLeft32_L.drop 0) (fun y => math_bits_RotateLeft32 N y.1.1 y.1.2.1) (math_bits_RotateLeft32_K N) :=
  Blk.chunkAt hb 4 (X := (math_bits_RotateLeft32_K N .normal)) (NxOk.end (by kernel_rfl)) rfl (fun x => by kernel_rfl)
noncomputable def math_bits_RotateLeft32_ctr (N : Nat) : Ctr := ⟨math_bits_RotateLeft32_S0, math_bits_RotateLeft32_S1.un [false], 0, (fun y => math_bits_RotateLeft32 N y.1.1 y.1.2.1)⟩
theorem math_bits_RotateLeft32_ctrs (N : Nat) : CtrsOk Tryd.prog (math_bits_RotateLeft32_C N) := ctrs_nil rfl
theorem math_bits_RotateLeft32_ok (N : Nat) : Ctr.ok Tryd.prog G_globs 108 (math_bits_RotateLeft32_ctr N) :=
  ctr_fn (Γ := math_bits_RotateLeft32_C N) (rfit := math_bits_RotateLeft32_S1) (bs := [false]) (res := [4]) (by kernel_rfl) (tys_ok G_tys_ok) (math_bits_RotateLeft32_ctrs N) Tryd.func108 (by kernel_rfl) (by kernel_rfl) Tryd.ntmps108 (by kernel_rfl) (by kernel_rfl) (by kernel_rfl) (by kernel_rfl) (fun E hb => math_bits_RotateLeft32_b N hb)
end Go.Proofs.YtlamdneheilahaaDoor
namespace Go.Proofs.YtlamdneheilahaaDoor
open Go
set_option maxRecDepth 100000
set_option linter.unusedVariables false
/-! ipsecgate/sha256.right -/
abbrev sha256_right_R : Type := ((UInt32 × Unit) × (Unit))
noncomputable def sha256_right (N : Nat) (x_0 : UInt32) (n_1 : Int) : Option sha256_right_R :=
  Option.bind (math_bits_RotateLeft32 N x_0 (w64 (0 - n_1))) fun y2 =>
  some ((y2.1.1, ()), (()))
noncomputable def sha256_right_C (N : Nat) : Ctx := ⟨9, G_tys, [(108, math_bits_RotateLeft32_ctr N)], G_globs⟩
noncomputable def sha256_right_S0 : Spec := ⟨[.val .u32, .val .i64], []⟩
noncomputable def sha256_right_S1 : Spec := ⟨[.val .u32], []⟩
noncomputable def sha256_right_K (_N : Nat) : XE → GS → Option sha256_right_R := retK 0 [4] [false] sha256_right_S1
noncomputable def sha256_right_L : List Code := (bodyOf (some Tryd.f75))
theorem sha256_right_b {E : Env} (N : Nat) (hb : Base Tryd.prog (sha256_right_C N) E 0) : Blk Tryd.prog (sha256_right_C N) E (List.range sha256_right_S0.ks.length) sha256_right_S0 (sha256_right_L.drop 0) (fun y => sha256_right N y.1.1 y.1.2.1) (sha256_right_K N) :=
  Blk.chunkAt hb 3 (X := (sha256_right_K N .normal)) (NxOk.end (by kernel_rfl)) rfl (fun x => by kernel_rfl)
noncomputable def sha256_right_ctr (N : Nat) : Ctr := ⟨sha256_right_S0, sha256_right_S1.un [false], 0, (fun y => sha256_right N y.1.1 y.1.2.1)⟩
theorem sha256_right_ctrs (N : Nat) : CtrsOk Tryd.prog (sha256_right_C N) := ctrs_of (Γ := sha256_right_C N) (by
  intro p hp
  simp only [sha256_right_C, List.mem_cons, List.not_mem_nil, or_false] at hp
  rcases hp with rfl
  · exact math_bits_RotateLeft32_ok N)
theorem sha256_right_ok (N : Nat) : Ctr.ok Tryd.prog G_globs 75 (sha256_right_ctr N) :=
  ctr_fn (Γ := sha256_right_C N) (rfit := sha256_right_S1) (bs := [false]) (res := [4]) (by kernel_rfl) (tys_ok G_tys_ok) (sha256_right_ctrs N) Tryd.func75 (by kernel_rfl) (by kernel_rfl) Tryd.ntmps75 (by kernel_rfl) (by kernel_rfl) (by kernel_rfl) (by kernel_rfl) (fun E hb => sha256_right_b N hb)
end Go.Proofs.YtlamdneheilahaaDoor
namespace Go.Proofs.YtlamdneheilahaaDoor
open Go
set_option maxRecDepth 100000
set_option linter.unusedVariables false
/-! ipsecgate/sha256.schedule -/
abbrev sha256_schedule_R : Type := (((List UInt32) × Unit) × (Unit))
noncomputable def sha256_schedule_s2 (N : Nat) (block_0 : (List UInt8)) (t_9 : Int) (t_2 : (List UInt32)) (w_3 : (List UInt32)) : Option (Lo (((List UInt8) × Int × Unit) × ((List UInt32) × (List UInt32) × Unit)) ((Unit) × ((List UInt32) × (List UInt32) × Unit)) sha256_schedule_R) :=
  bif (decide (t_9 < (64 : Int))) then
    bif (decide (t_9 < (16 : Int))) then
      Option.bind (wire_Number N block_0 (w64 ((4 : Int) * t_9)) (4 : Int)) fun y4 =>
      bif inR t_9 64 then
      some (.go ((block_0, (w64 (t_9 + (1 : Int))), ()), (t_2, (w_3.set t_9.toNat y4.1.1.toUInt32), ())))
      else none
    else
      let x7 := w64 (t_9 - (2 : Int))
      bif inR x7 64 then
      let x8 := (w_3.getD x7.toNat (0 : UInt32))
      let x9 := w64 (t_9 - (15 : Int))
      bif inR x9 64 then
      let x10 := (w_3.getD x9.toNat (0 : UInt32))
      Option.bind (sha256_right N x8 (17 : Int)) fun y11 =>
      Option.bind (sha256_right N x8 (19 : Int)) fun y12 =>
      let x16 := w64 (t_9 - (7 : Int))
      bif inR x16 64 then
      Option.bind (sha256_right N x10 (7 : Int)) fun y19 =>
      Option.bind (sha256_right N x10 (18 : Int)) fun y20 =>
      let x25 := w64 (t_9 - (16 : Int))
      bif inR x25 64 then
      bif inR t_9 64 then
      some (.go ((block_0, (w64 (t_9 + (1 : Int))), ()), (t_2, (w_3.set t_9.toNat (((((y11.1.1 ^^^ y12.1.1) ^^^ (shr32 x8 10)) + (w_3.getD x16.toNat (0 : UInt32))) + ((y19.1.1 ^^^ y20.1.1) ^^^ (shr32 x10 3))) + (w_3.getD x25.toNat (0 : UInt32)))), ())))
      else none
      else none
      else none
      else none
      else none
  else
    some (.br ((()), (t_2, w_3, ())))
noncomputable def sha256_schedule_3 (N : Nat) (t_2 : (List UInt32)) (w_3 : (List UInt32)) : Option sha256_schedule_R :=
  some ((w_3, ()), (()))
noncomputable def sha256_schedule_1 (N : Nat) (block_0 : (List UInt8)) (t_9 : Int) (t_2 : (List UInt32)) (w_3 : (List UInt32)) : Option sha256_schedule_R :=
  loopK N (fun y => sha256_schedule_s2 N y.1.1 y.1.2.1 y.2.1 y.2.2.1) (fun (e : ((Unit) × ((List UInt32) × (List UInt32) × Unit))) => sha256_schedule_3 N e.2.1 e.2.2.1) ((block_0, t_9, ()), (t_2, w_3, ()))
noncomputable def sha256_schedule (N : Nat) (block_0 : (List UInt8)) : Option sha256_schedule_R :=
  sha256_schedule_1 N block_0 (0 : Int) (List.replicate 64 (0 : UInt32)) (List.replicate 64 (0 : UInt32))
noncomputable def sha256_schedule_C (N : Nat) : Ctx := ⟨64, G_tys, [(24, wire_Number_ctr N), (75, sha256_right_ctr N)], G_globs⟩
noncomputable def sha256_schedule_S0 : Spec := ⟨[.val (.sl .u8), .ref 0 (.arr 64 .u32), .ref 1 (.arr 64 .u32), .val .i64], [(.box 92 (.arr 64 .u32), .pos 1), (.box 92 (.arr 64 .u32), .pos 2)]⟩
noncomputable def sha256_schedule_S1 : Spec := ⟨[.ref 0 (.arr 64 .u32), .ref 1 (.arr 64 .u32)], [(.box 92 (.arr 64 .u32), .pos 0), (.box 92 (.arr 64 .u32), .pos 1)]⟩
noncomputable def sha256_schedule_S2 : Spec := ⟨[.val (.sl .u8)], []⟩
noncomputable def sha256_schedule_S3 : Spec := ⟨[.fp (.arr 64 .u32)], []⟩
noncomputable def sha256_schedule_K (_N : Nat) : XE → GS → Option sha256_schedule_R := retK 0 [2] [true] sha256_schedule_S3
noncomputable def sha256_schedule_L : List Code := (bodyOf (some Tryd.f74))
noncomputable def sha256_schedule_L2 : List Code := (loopOf (sha256_schedule_L[3]?))
noncomputable def sha256_schedule_K2 (N : Nat) : XE → GS → Option (Lo (((List UInt8) × Int × Unit) × ((List UInt32) × (List UInt32) × Unit)) ((Unit) × ((List UInt32) × (List UInt32) × Unit)) sha256_schedule_R) := roundK (some 0) (fit 0 [0, 2, 3, 9] sha256_schedule_S0) (fit 0 [2, 3] sha256_schedule_S1) (sha256_schedule_K N)
theorem sha256_schedule_s2_b {E : Env} (N : Nat) (hb : Base Tryd.prog (sha256_schedule_C N) E 0) : Blk Tryd.prog (sha256_schedule_C N) E [0, 2, 3, 9] sha256_schedule_S0 (sha256_schedule_L2.drop 0) (fun y => sha256_schedule_s2 N y.1.1 y.1.2.1 y.2.1 y.2.2.1) (sha256_schedule_K2 N) :=
  Blk.chunkAt hb 4 (X := (sha256_schedule_K2 N .normal)) (NxOk.end (by kernel_rfl)) rfl (fun x => by kernel_rfl)
theorem sha256_schedule_3_b {E : Env} (N : Nat) (hb : Base Tryd.prog (sha256_schedule_C N) E 0) : Blk Tryd.prog (sha256_schedule_C N) E [2, 3] sha256_schedule_S1 (sha256_schedule_L.drop 4) (fun y => sha256_schedule_3 N y.2.1 y.2.2.1) (sha256_schedule_K N) :=
  Blk.chunkAt hb 2 (X := (sha256_schedule_K N .normal)) (NxOk.end (by kernel_rfl)) rfl (fun x => by kernel_rfl)
theorem sha256_schedule_1_b {E : Env} (N : Nat) (hb : Base Tryd.prog (sha256_schedule_C N) E 0) : Blk Tryd.prog (sha256_schedule_C N) E [0, 2, 3, 9] sha256_schedule_S0 (sha256_schedule_L.drop 3) (fun y => sha256_schedule_1 N y.1.1 y.1.2.1 y.2.1 y.2.2.1) (sha256_schedule_K N) :=
  Blk.loopAt (Nf := N) (hns := [0, 2, 3, 9]) (ans := [2, 3]) (hc := sha256_schedule_S0) (ac := sha256_schedule_S1) (bid := 0) (step := (fun y => sha256_schedule_s2 N y.1.1 y.1.2.1 y.2.1 y.2.2.1)) (J := (fun e => (goK 0 [2, 3] sha256_schedule_S1 (fun y => sha256_schedule_3 N y.2.1 y.2.2.1)) (sha256_schedule_S1.st [2, 3] e))) hb (by kernel_rfl) (Blk.into (X := (goK 0 [2, 3] sha256_schedule_S1 (fun y => sha256_schedule_3 N y.2.1 y.2.2.1))) (NxOk.go hb (sha256_schedule_3_b N hb)) (fun x => by kernel_rfl)) (sha256_schedule_s2_b N hb) (fun x => by kernel_rfl)
theorem sha256_schedule_b {E : Env} (N : Nat) (hb : Base Tryd.prog (sha256_schedule_C N) E 0) : Blk Tryd.prog (sha256_schedule_C N) E (List.range sha256_schedule_S2.ks.length) sha256_schedule_S2 (sha256_schedule_L.drop 0) (fun y => sha256_schedule N y.1.1) (sha256_schedule_K N) :=
  Blk.chunkAt hb 3 (X := (goK 0 [0, 2, 3, 9] sha256_schedule_S0 (fun y => sha256_schedule_1 N y.1.1 y.1.2.1 y.2.1 y.2.2.1))) (NxOk.go hb (sha256_schedule_1_b N hb)) rfl (fun x => by kernel_rfl)
noncomputable def sha256_schedule_ctr (N : Nat) : Ctr := ⟨sha256_schedule_S2, sha256_schedule_S3.un [true], 0, (fun y => sha256_schedule N y.1.1)⟩
theorem sha256_schedule_ctrs (N : Nat) : CtrsOk Tryd.prog (sha256_schedule_C N) := ctrs_of (Γ := sha256_schedule_C N) (by
  intro p hp
  simp only [sha256_schedule_C, List.mem_cons, List.not_mem_nil, or_false] at hp
  rcases hp with rfl | rfl
  · exact wire_Number_ok N
  · exact sha256_right_ok N)
theorem sha256_schedule_ok (N : Nat) : Ctr.ok Tryd.prog G_globs 74 (sha256_schedule_ctr N) :=
  ctr_fn (Γ := sha256_schedule_C N) (rfit := sha256_schedule_S3) (bs := [true]) (res := [2]) (by kernel_rfl) (tys_ok G_tys_ok) (sha256_schedule_ctrs N) Tryd.func74 (by kernel_rfl) (by kernel_rfl) Tryd.ntmps74 (by kernel_rfl) (by kernel_rfl) (by kernel_rfl) (by kernel_rfl) (fun E hb => sha256_schedule_b N hb)
end Go.Proofs.YtlamdneheilahaaDoor
namespace Go.Proofs.YtlamdneheilahaaDoor
open Go
set_option maxRecDepth 100000
set_option linter.unusedVariables false
/-! ipsecgate/sha256.Block -/
abbrev sha256_Block_R : Type := (((List UInt32) × Bool × Unit) × (Unit))
noncomputable def sha256_Block_s2 (N : Nat) (a_6 : UInt32) (b_7 : UInt32) (c_8 : UInt32) (d_9 : UInt32) (e_10 : UInt32) (f_11 : UInt32) (g_12 : UInt32) (h_13 : UInt32) (t_41 : (List UInt32)) (t_42 : Int) (state_2 : (List UInt32)) (t_4 : (List UInt32)) : Option (Lo ((UInt32 × UInt32 × UInt32 × UInt32 × UInt32 × UInt32 × UInt32 × UInt32 × (List UInt32) × Int × Unit) × ((List UInt32) × (List UInt32) × Unit)) ((UInt32 × UInt32 × UInt32 × UInt32 × UInt32 × UInt32 × UInt32 × UInt32 × Unit) × ((List UInt32) × (List UInt32) × Unit)) sha256_Block_R) :=
  bif (decide (t_42 < (64 : Int))) then
    bif inR t_42 64 then
    let x14 := t_41.getD t_42.toNat (0 : UInt32)
    Option.bind (sha256_right N e_10 (6 : Int)) fun y15 =>
    Option.bind (sha256_right N e_10 (11 : Int)) fun y16 =>
    Option.bind (sha256_right N e_10 (25 : Int)) fun y18 =>
    let x19 := (y15.1.1 ^^^ y16.1.1) ^^^ y18.1.1
    bif inR t_42 64 then
    let x26 := g_sha256_constants.getD t_42.toNat (0 : UInt32)
    Option.bind (sha256_right N a_6 (2 : Int)) fun y29 =>
    Option.bind (sha256_right N a_6 (13 : Int)) fun y30 =>
    Option.bind (sha256_right N a_6 (22 : Int)) fun y32 =>
    some (.go (((((((h_13 + x19) + ((e_10 &&& f_11) ^^^ ((~~~ e_10) &&& g_12))) + x26) + x14) + (((y29.1.1 ^^^ y30.1.1) ^^^ y32.1.1) + (((a_6 &&& b_7) ^^^ (a_6 &&& c_8)) ^^^ (b_7 &&& c_8)))), a_6, b_7, c_8, (d_9 + ((((h_13 + x19) + ((e_10 &&& f_11) ^^^ ((~~~ e_10) &&& g_12))) + x26) + x14)), e_10, f_11, g_12, t_41, (w64 (t_42 + (1 : Int))), ()), (state_2, t_4, ())))
    else none
    else none
  else
    some (.br ((a_6, b_7, c_8, d_9, e_10, f_11, g_12, h_13, ()), (state_2, t_4, ())))
noncomputable def sha256_Block_s5 (N : Nat) (t_112 : (List UInt32)) (t_113 : Int) (state_2 : (List UInt32)) (t_4 : (List UInt32)) : Option (Lo (((List UInt32) × Int × Unit) × ((List UInt32) × (List UInt32) × Unit)) ((Unit) × ((List UInt32) × (List UInt32) × Unit)) sha256_Block_R) :=
  bif (decide (t_113 < (8 : Int))) then
    bif inR t_113 8 then
    bif inR t_113 8 then
    bif inR t_113 8 then
    some (.go ((t_112, (w64 (t_113 + (1 : Int))), ()), ((state_2.set t_113.toNat ((state_2.getD t_113.toNat (0 : UInt32)) + (t_112.getD t_113.toNat (0 : UInt32)))), t_4, ())))
    else none
    else none
    else none
  else
    some (.br ((()), (state_2, t_4, ())))
noncomputable def sha256_Block_6 (N : Nat) (state_2 : (List UInt32)) (t_4 : (List UInt32)) : Option sha256_Block_R :=
  some ((state_2, true, ()), (()))
noncomputable def sha256_Block_4 (N : Nat) (t_112 : (List UInt32)) (t_113 : Int) (state_2 : (List UInt32)) (t_4 : (List UInt32)) : Option sha256_Block_R :=
  loopK N (fun y => sha256_Block_s5 N y.1.1 y.1.2.1 y.2.1 y.2.2.1) (fun (e : ((Unit) × ((List UInt32) × (List UInt32) × Unit))) => sha256_Block_6 N e.2.1 e.2.2.1) ((t_112, t_113, ()), (state_2, t_4, ()))
noncomputable def sha256_Block_3 (N : Nat) (a_6 : UInt32) (b_7 : UInt32) (c_8 : UInt32) (d_9 : UInt32) (e_10 : UInt32) (f_11 : UInt32) (g_12 : UInt32) (h_13 : UInt32) (state_2 : (List UInt32)) (t_4 : (List UInt32)) : Option sha256_Block_R :=
  sha256_Block_4 N ([a_6, b_7, c_8, d_9, e_10, f_11, g_12, h_13] : List UInt32) (0 : Int) state_2 t_4
noncomputable def sha256_Block_1 (N : Nat) (a_6 : UInt32) (b_7 : UInt32) (c_8 : UInt32) (d_9 : UInt32) (e_10 : UInt32) (f_11 : UInt32) (g_12 : UInt32) (h_13 : UInt32) (t_41 : (List UInt32)) (t_42 : Int) (state_2 : (List UInt32)) (t_4 : (List UInt32)) : Option sha256_Block_R :=
  loopK N (fun y => sha256_Block_s2 N y.1.1 y.1.2.1 y.1.2.2.1 y.1.2.2.2.1 y.1.2.2.2.2.1 y.1.2.2.2.2.2.1 y.1.2.2.2.2.2.2.1 y.1.2.2.2.2.2.2.2.1 y.1.2.2.2.2.2.2.2.2.1 y.1.2.2.2.2.2.2.2.2.2.1 y.2.1 y.2.2.1) (fun (e : ((UInt32 × UInt32 × UInt32 × UInt32 × UInt32 × UInt32 × UInt32 × UInt32 × Unit) × ((List UInt32) × (List UInt32) × Unit))) => sha256_Block_3 N e.1.1 e.1.2.1 e.1.2.2.1 e.1.2.2.2.1 e.1.2.2.2.2.1 e.1.2.2.2.2.2.1 e.1.2.2.2.2.2.2.1 e.1.2.2.2.2.2.2.2.1 e.2.1 e.2.2.1) ((a_6, b_7, c_8, d_9, e_10, f_11, g_12, h_13, t_41, t_42, ()), (state_2, t_4, ()))
noncomputable def sha256_Block (N : Nat) (state_0 : (List UInt32)) (block_1 : (List UInt8)) : Option sha256_Block_R :=
  bif (!(decide ((block_1.length : Int) = (64 : Int)))) then
    some (((List.replicate 8 (0 : UInt32)), false, ()), (()))
  else
    Option.bind (sha256_schedule N block_1) fun y12 =>
    sha256_Block_1 N (state_0.getD 0 (0 : UInt32)) (state_0.getD 1 (0 : UInt32)) (state_0.getD 2 (0 : UInt32)) (state_0.getD 3 (0 : UInt32)) (state_0.getD 4 (0 : UInt32)) (state_0.getD 5 (0 : UInt32)) (state_0.getD 6 (0 : UInt32)) (state_0.getD 7 (0 : UInt32)) y12.1.1 (0 : Int) state_0 (List.replicate 8 (0 : UInt32))
noncomputable def sha256_Block_C (N : Nat) : Ctx := ⟨125, G_tys, [(74, sha256_schedule_ctr N), (75, sha256_right_ctr N)], G_globs⟩
noncomputable def sha256_Block_S0 : Spec := ⟨[.ref 0 (.arr 8 .u32), .ref 1 (.arr 8 .u32), .val .u32, .val .u32, .val .u32, .val .u32, .val .u32, .val .u32, .val .u32, .val .u32, .val (.arr 64 .u32), .val .i64], [(.box 34 (.arr 8 .u32), .pos 0), (.box 34 (.arr 8 .u32), .pos 1)]⟩
noncomputable def sha256_Block_S1 : Spec := ⟨[.ref 0 (.arr 8 .u32), .ref 1 (.arr 8 .u32), .val (.arr 8 .u32), .val .i64], [(.box 34 (.arr 8 .u32), .pos 0), (.box 34 (.arr 8 .u32), .pos 1)]⟩
noncomputable def sha256_Block_S2 : Spec := ⟨[.ref 0 (.arr 8 .u32), .ref 1 (.arr 8 .u32)], [(.box 34 (.arr 8 .u32), .pos 0), (.box 34 (.arr 8 .u32), .pos 1)]⟩
noncomputable def sha256_Block_S3 : Spec := ⟨[.ref 0 (.arr 8 .u32), .ref 1 (.arr 8 .u32), .val .u32, .val .u32, .val .u32, .val .u32, .val .u32, .val .u32, .val .u32, .val .u32], [(.box 34 (.arr 8 .u32), .pos 0), (.box 34 (.arr 8 .u32), .pos 1)]⟩
noncomputable def sha256_Block_S4 : Spec := ⟨[.val (.arr 8 .u32), .val (.sl .u8)], []⟩
noncomputable def sha256_Block_S5 : Spec := ⟨[.fp (.arr 8 .u32), .val .bool], []⟩
noncomputable def sha256_Block_K (_N : Nat) : XE → GS → Option sha256_Block_R := retK 0 [4, 5] [true, false] sha256_Block_S5
noncomputable def sha256_Block_L : List Code := (bodyOf (some Tryd.f25))
noncomputable def sha256_Block_L2 : List Code := (loopOf (sha256_Block_L[5]?))
noncomputable def sha256_Block_L5 : List Code := (loopOf (sha256_Block_L[7]?))
noncomputable def sha256_Block_K2 (N : Nat) : XE → GS → Option (Lo ((UInt32 × UInt32 × UInt32 × UInt32 × UInt32 × UInt32 × UInt32 × UInt32 × (List UInt32) × Int × Unit) × ((List UInt32) × (List UInt32) × Unit)) ((UInt32 × UInt32 × UInt32 × UInt32 × UInt32 × UInt32 × UInt32 × UInt32 × Unit) × ((List UInt32) × (List UInt32) × Unit)) sha256_Block_R) := roundK (some 0) (fit 0 [2, 4, 6, 7, 8, 9, 10, 11, 12, 13, 41, 42] sha256_Block_S0) (fit 0 [2, 4, 6, 7, 8, 9, 10, 11, 12, 13] sha256_Block_S3) (sha256_Block_K N)
noncomputable def sha256_Block_K5 (N : Nat) : XE → GS → Option (Lo (((List UInt32) × Int × Unit) × ((List UInt32) × (List UInt32) × Unit)) ((Unit) × ((List UInt32) × (List UInt32) × Unit)) sha256_Block_R) := roundK (some 2) (fit 0 [2, 4, 112, 113] sha256_Block_S1) (fit 0 [2, 4] sha256_Block_S2) (sha256_Block_K N)
theorem sha256_Block_s2_b {E : Env} (N : Nat) (hb : Base Tryd.prog (sha256_Block_C N) E 0) : Blk Tryd.prog (sha256_Block_C N) E [2, 4, 6, 7, 8, 9, 10, 11, 12, 13, 41, 42] sha256_Block_S0 (sha256_Block_L2.drop 0) (fun y => sha256_Block_s2 N y.1.1 y.1.2.1 y.1.2.2.1 y.1.2.2.2.1 y.1.2.2.2.2.1 y.1.2.2.2.2.2.1 y.1.2.2.2.2.2.2.1 y.1.2.2.2.2.2.2.2.1 y.1.2.2.2.2.2.2.2.2.1 y.1.2.2.2.2.2.2.2.2.2.1 y.2.1 y.2.2.1) (sha256_Block_K2 N) :=
  Blk.chunkAt hb 4 (X := (sha256_Block_K2 N .normal)) (NxOk.end (by kernel_rfl)) rfl (fun x => by kernel_rfl)
theorem sha256_Block_s5_b {E : Env} (N : Nat) (hb : Base Tryd.prog (sha256_Block_C N) E 0) : Blk Tryd.prog (sha256_Block_C N) E [2, 4, 112, 113] sha256_Block_S1 (sha256_Block_L5.drop 0) (fun y => sha256_Block_s5 N y.1.1 y.1.2.1 y.2.1 y.2.2.1) (sha256_Block_K5 N) :=
  Blk.chunkAt hb 4 (X := (sha256_Block_K5 N .normal)) (NxOk.end (by kernel_rfl)) rfl (fun x => by kernel_rfl)
theorem sha256_Block_6_b {E : Env} (N : Nat) (hb : Base Tryd.prog (sha256_Block_C N) E 0) : Blk Tryd.prog (sha256_Block_C N) E [2, 4] sha256_Block_S2 (sha256_Block_L.drop 8) (fun y => sha256_Block_6 N y.2.1 y.2.2.1) (sha256_Block_K N) :=
  Blk.chunkAt hb 2 (X := (sha256_Block_K N .normal)) (NxOk.end (by kernel_rfl)) rfl (fun x => by kernel_rfl)
theorem sha256_Block_4_b {E : Env} (N : Nat) (hb : Base Tryd.prog (sha256_Block_C N) E 0) : Blk Tryd.prog (sha256_Block_C N) E [2, 4, 112, 113] sha256_Block_S1 (sha256_Block_L.drop 7) (fun y => sha256_Block_4 N y.1.1 y.1.2.1 y.2.1 y.2.2.1) (sha256_Block_K N) :=
  Blk.loopAt (Nf := N) (hns := [2, 4, 112, 113]) (ans := [2, 4]) (hc := sha256_Block_S1) (ac := sha256_Block_S2) (bid := 2) (step := (fun y => sha256_Block_s5 N y.1.1 y.1.2.1 y.2.1 y.2.2.1)) (J := (fun e => (goK 0 [2, 4] sha256_Block_S2 (fun y => sha256_Block_6 N y.2.1 y.2.2.1)) (sha256_Block_S2.st [2, 4] e))) hb (by kernel_rfl) (Blk.into (X := (goK 0 [2, 4] sha256_Block_S2 (fun y => sha256_Block_6 N y.2.1 y.2.2.1))) (NxOk.go hb (sha256_Block_6_b N hb)) (fun x => by kernel_rfl)) (sha256_Block_s5_b N hb) (fun x => by kernel_rfl)
theorem sha256_Block_3_b {E : Env} (N : Nat) (hb : Base Tryd.prog (sha256_Block_C N) E 0) : Blk Tryd.prog (sha256_Block_C N) E [2, 4, 6, 7, 8, 9, 10, 11, 12, 13] sha256_Block_S3 (sha256_Block_L.drop 6) (fun y => sha256_Block_3 N y.1.1 y.1.2.1 y.1.2.2.1 y.1.2.2.2.1 y.1.2.2.2.2.1 y.1.2.2.2.2.2.1 y.1.2.2.2.2.2.2.1 y.1.2.2.2.2.2.2.2.1 y.2.1 y.2.2.1) (sha256_Block_K N) :=
  Blk.chunkAt hb 1 (X := (goK 0 [2, 4, 112, 113] sha256_Block_S1 (fun y => sha256_Block_4 N y.1.1 y.1.2.1 y.2.1 y.2.2.1))) (NxOk.go hb (sha256_Block_4_b N hb)) rfl (fun x => by kernel_rfl)
theorem sha256_Block_1_b {E : Env} (N : Nat) (hb : Base Tryd.prog (sha256_Block_C N) E 0) : Blk Tryd.prog (sha256_Block_C N) E [2, 4, 6, 7, 8, 9, 10, 11, 12, 13, 41, 42] sha256_Block_S0 (sha256_Block_L.drop 5) (fun y => sha256_Block_1 N y.1.1 y.1.2.1 y.1.2.2.1 y.1.2.2.2.1 y.1.2.2.2.2.1 y.1.2.2.2.2.2.1 y.1.2.2.2.2.2.2.1 y.1.2.2.2.2.2.2.2.1 y.1.2.2.2.2.2.2.2.2.1 y.1.2.2.2.2.2.2.2.2.2.1 y.2.1 y.2.2.1) (sha256_Block_K N) :=
  Blk.loopAt (Nf := N) (hns := [2, 4, 6, 7, 8, 9, 10, 11, 12, 13, 41, 42]) (ans := [2, 4, 6, 7, 8, 9, 10, 11, 12, 13]) (hc := sha256_Block_S0) (ac := sha256_Block_S3) (bid := 0) (step := (fun y => sha256_Block_s2 N y.1.1 y.1.2.1 y.1.2.2.1 y.1.2.2.2.1 y.1.2.2.2.2.1 y.1.2.2.2.2.2.1 y.1.2.2.2.2.2.2.1 y.1.2.2.2.2.2.2.2.1 y.1.2.2.2.2.2.2.2.2.1 y.1.2.2.2.2.2.2.2.2.2.1 y.2.1 y.2.2.1)) (J := (fun e => (goK 0 [2, 4, 6, 7, 8, 9, 10, 11, 12, 13] sha256_Block_S3 (fun y => sha256_Block_3 N y.1.1 y.1.2.1 y.1.2.2.1 y.1.2.2.2.1 y.1.2.2.2.2.1 y.1.2.2.2.2.2.1 y.1.2.2.2.2.2.2.1 y.1.2.2.2.2.2.2.2.1 y.2.1 y.2.2.1)) (sha256_Block_S3.st [2, 4, 6, 7, 8, 9, 10, 11, 12, 13] e))) hb (by kernel_rfl) (Blk.into (X := (goK 0 [2, 4, 6, 7, 8, 9, 10, 11, 12, 13] sha256_Block_S3 (fun y => sha256_Block_3 N y.1.1 y.1.2.1 y.1.2.2.1 y.1.2.2.2.1 y.1.2.2.2.2.1 y.1.2.2.2.2.2.1 y.1.2.2.2.2.2.2.1 y.1.2.2.2.2.2.2.2.1 y.2.1 y.2.2.1))) (NxOk.go hb (sha256_Block_3_b N hb)) (fun x => by kernel_rfl)) (sha256_Block_s2_b N hb) (fun x => by kernel_rfl)
theorem sha256_Block_b {E : Env} (N : Nat) (hb : Base Tryd.prog (sha256_Block_C N) E 0) : Blk Tryd.prog (sha256_Block_C N) E (List.range sha256_Block_S4.ks.length) sha256_Block_S4 (sha256_Block_L.drop 0) (fun y => sha256_Block N y.1.1 y.1.2.1) (sha256_Block_K N) :=
  Blk.chunkAt hb 5 (X := (goK 0 [2, 4, 6, 7, 8, 9, 10, 11, 12, 13, 41, 42] sha256_Block_S0 (fun y => sha256_Block_1 N y.1.1 y.1.2.1 y.1.2.2.1 y.1.2.2.2.1 y.1.2.2.2.2.1 y.1.2.2.2.2.2.1 y.1.2.2.2.2.2.2.1 y.1.2.2.2.2.2.2.2.1 y.1.2.2.2.2.2.2.2.2.1 y.1.2.2.2.2.2.2.2.2.2.1 y.2.1 y.2.2.1))) (NxOk.go hb (sha256_Block_1_b N hb)) rfl (fun x => by kernel_rfl)
noncomputable def sha256_Block_ctr (N : Nat) : Ctr := ⟨sha256_Block_S4, sha256_Block_S5.un [true, false], 0, (fun y => sha256_Block N y.1.1 y.1.2.1)⟩
theorem sha256_Block_ctrs (N : Nat) : CtrsOk Tryd.prog (sha256_Block_C N) := ctrs_of (Γ := sha256_Block_C N) (by
  intro p hp
  simp only [sha256_Block_C, List.mem_cons, List.not_mem_nil, or_false] at hp
  rcases hp with rfl | rfl
  · exact sha256_schedule_ok N
  · exact sha256_right_ok N)
theorem sha256_Block_ok (N : Nat) : Ctr.ok Tryd.prog G_globs 25 (sha256_Block_ctr N) :=
  ctr_fn (Γ := sha256_Block_C N) (rfit := sha256_Block_S5) (bs := [true, false]) (res := [4, 5]) (by kernel_rfl) (tys_ok G_tys_ok) (sha256_Block_ctrs N) Tryd.func25 (by kernel_rfl) (by kernel_rfl) Tryd.ntmps25 (by kernel_rfl) (by kernel_rfl) (by kernel_rfl) (by kernel_rfl) (fun E hb => sha256_Block_b N hb)
end Go.Proofs.YtlamdneheilahaaDoor
namespace Go.Proofs.YtlamdneheilahaaDoor
open Go
set_option maxRecDepth 100000
set_option linter.unusedVariables false
/-! ipsecgate/sha256.Sum -/
abbrev sha256_Sum_R : Type := ((Unit) × ((List UInt8) × Unit))
noncomputable def sha256_Sum_s2 (N : Nat) (all_3 : (List UInt8)) (at_5 : Int) (state_4 : (List UInt32)) : Option (Lo (((List UInt8) × Int × Unit) × ((List UInt32) × Unit)) ((Unit) × ((List UInt32) × Unit)) sha256_Sum_R) :=
  bif (decide (at_5 < (all_3.length : Int))) then
    let x6 := w64 (at_5 + (64 : Int))
    bif decide (0 ≤ at_5) && decide (at_5 ≤ x6) && decide (x6 ≤ (all_3.length : Int)) && true then
    Option.bind (sha256_Block N state_4 (cut all_3 at_5.toNat x6.toNat)) fun y8 =>
    some (.go ((all_3, (w64 (at_5 + (64 : Int))), ()), (y8.1.1, ())))
    else none
  else
    some (.br ((()), (state_4, ())))
noncomputable def sha256_Sum_s5 (N : Nat) (t_32 : (List UInt32)) (t_33 : Int) (out_6 : (List UInt8)) : Option (Lo (((List UInt32) × Int × Unit) × ((List UInt8) × Unit)) ((Unit) × ((List UInt8) × Unit)) sha256_Sum_R) :=
  bif (decide (t_33 < (8 : Int))) then
    bif inR t_33 8 then
    Option.bind (wire_Put N (t_32.getD t_33.toNat (0 : UInt32)).toUInt64 (4 : Int) out_6) fun y12 =>
    some (.go ((t_32, (w64 (t_33 + (1 : Int))), ()), (y12.2.1, ())))
    else none
  else
    some (.br ((()), (out_6, ())))
noncomputable def sha256_Sum_6 (N : Nat) (out_6 : (List UInt8)) : Option sha256_Sum_R :=
  some ((()), (out_6, ()))
noncomputable def sha256_Sum_4 (N : Nat) (t_32 : (List UInt32)) (t_33 : Int) (out_6 : (List UInt8)) : Option sha256_Sum_R :=
  loopK N (fun y => sha256_Sum_s5 N y.1.1 y.1.2.1 y.2.1) (fun (e : ((Unit) × ((List UInt8) × Unit))) => sha256_Sum_6 N e.2.1) ((t_32, t_33, ()), (out_6, ()))
noncomputable def sha256_Sum_3 (N : Nat) (state_4 : (List UInt32)) : Option sha256_Sum_R :=
  sha256_Sum_4 N state_4 (0 : Int) ([] : List UInt8)
noncomputable def sha256_Sum_1 (N : Nat) (at_5 : Int) (all_3 : (List UInt8)) (state_4 : (List UInt32)) : Option sha256_Sum_R :=
  loopK N (fun y => sha256_Sum_s2 N y.1.1 y.1.2.1 y.2.1) (fun (e : ((Unit) × ((List UInt32) × Unit))) => sha256_Sum_3 N e.2.1) ((all_3, at_5, ()), (state_4, ()))
noncomputable def sha256_Sum (N : Nat) (b_0 : (List UInt8)) : Option sha256_Sum_R :=
  bif room (0 + b_0.length) 1 then
  Option.bind (sha256_Pad N (b_0.length : Int)) fun y2 =>
  bif room (b_0.length + y2.2.1.length) 1 then
  sha256_Sum_1 N (0 : Int) (b_0 ++ y2.2.1) g_sha256_initial
  else none
  else none
noncomputable def sha256_Sum_C (N : Nat) : Ctx := ⟨42, G_tys, [(23, sha256_Pad_ctr N), (25, sha256_Block_ctr N), (26, wire_Put_ctr N)], G_globs⟩
noncomputable def sha256_Sum_S0 : Spec := ⟨[.val (.sl .u8), .ref 0 (.arr 8 .u32), .val .i64], [(.box 34 (.arr 8 .u32), .pos 1)]⟩
noncomputable def sha256_Sum_S1 : Spec := ⟨[.row 0, .val (.arr 8 .u32), .val .i64], [(.row 5 .u8, .pos 0)]⟩
noncomputable def sha256_Sum_S2 : Spec := ⟨[.row 0], [(.row 5 .u8, .pos 0)]⟩
noncomputable def sha256_Sum_S3 : Spec := ⟨[.ref 0 (.arr 8 .u32)], [(.box 34 (.arr 8 .u32), .pos 0)]⟩
noncomputable def sha256_Sum_S4 : Spec := ⟨[.row 0, .ref 1 (.arr 8 .u32), .val .i64], [(.row 5 .u8, .pos 0), (.box 34 (.arr 8 .u32), .pos 1)]⟩
noncomputable def sha256_Sum_S5 : Spec := ⟨[.val (.sl .u8)], []⟩
noncomputable def sha256_Sum_K (_N : Nat) : XE → GS → Option sha256_Sum_R := retK 0 [2] [false] sha256_Sum_S2
noncomputable def sha256_Sum_L : List Code := (bodyOf (some Tryd.f20))
noncomputable def sha256_Sum_L2 : List Code := (loopOf (sha256_Sum_L[4]?))
noncomputable def sha256_Sum_L5 : List Code := (loopOf (sha256_Sum_L[7]?))
noncomputable def sha256_Sum_K2 (N : Nat) : XE → GS → Option (Lo (((List UInt8) × Int × Unit) × ((List UInt32) × Unit)) ((Unit) × ((List UInt32) × Unit)) sha256_Sum_R) := roundK (some 0) (fit 0 [3, 4, 5] sha256_Sum_S0) (fit 0 [4] sha256_Sum_S3) (sha256_Sum_K N)
noncomputable def sha256_Sum_K5 (N : Nat) : XE → GS → Option (Lo (((List UInt32) × Int × Unit) × ((List UInt8) × Unit)) ((Unit) × ((List UInt8) × Unit)) sha256_Sum_R) := roundK (some 2) (fit 0 [6, 32, 33] sha256_Sum_S1) (fit 0 [6] sha256_Sum_S2) (sha256_Sum_K N)
theorem sha256_Sum_s2_b {E : Env} (N : Nat) (hb : Base Tryd.prog (sha256_Sum_C N) E 0) : Blk Tryd.prog (sha256_Sum_C N) E [3, 4, 5] sha256_Sum_S0 (sha256_Sum_L2.drop 0) (fun y => sha256_Sum_s2 N y.1.1 y.1.2.1 y.2.1) (sha256_Sum_K2 N) :=
  Blk.chunkAt hb 4 (X := (sha256_Sum_K2 N .normal)) (NxOk.end (by kernel_rfl)) rfl (fun x => by kernel_rfl)
theorem sha256_Sum_s5_b {E : Env} (N : Nat) (hb : Base Tryd.prog (sha256_Sum_C N) E 0) : Blk Tryd.prog (sha256_Sum_C N) E [6, 32, 33] sha256_Sum_S1 (sha256_Sum_L5.drop 0) (fun y => sha256_Sum_s5 N y.1.1 y.1.2.1 y.2.1) (sha256_Sum_K5 N) :=
  Blk.chunkAt hb 4 (X := (sha256_Sum_K5 N .normal)) (NxOk.end (by kernel_rfl)) rfl (fun x => by kernel_rfl)
theorem sha256_Sum_6_b {E : Env} (N : Nat) (hb : Base Tryd.prog (sha256_Sum_C N) E 0) : Blk Tryd.prog (sha256_Sum_C N) E [6] sha256_Sum_S2 (sha256_Sum_L.drop 8) (fun y => sha256_Sum_6 N y.2.1) (sha256_Sum_K N) :=
  Blk.chunkAt hb 2 (X := (sha256_Sum_K N .normal)) (NxOk.end (by kernel_rfl)) rfl (fun x => by kernel_rfl)
theorem sha256_Sum_4_b {E : Env} (N : Nat) (hb : Base Tryd.prog (sha256_Sum_C N) E 0) : Blk Tryd.prog (sha256_Sum_C N) E [6, 32, 33] sha256_Sum_S1 (sha256_Sum_L.drop 7) (fun y => sha256_Sum_4 N y.1.1 y.1.2.1 y.2.1) (sha256_Sum_K N) :=
  Blk.loopAt (Nf := N) (hns := [6, 32, 33]) (ans := [6]) (hc := sha256_Sum_S1) (ac := sha256_Sum_S2) (bid := 2) (step := (fun y => sha256_Sum_s5 N y.1.1 y.1.2.1 y.2.1)) (J := (fun e => (goK 0 [6] sha256_Sum_S2 (fun y => sha256_Sum_6 N y.2.1)) (sha256_Sum_S2.st [6] e))) hb (by kernel_rfl) (Blk.into (X := (goK 0 [6] sha256_Sum_S2 (fun y => sha256_Sum_6 N y.2.1))) (NxOk.go hb (sha256_Sum_6_b N hb)) (fun x => by kernel_rfl)) (sha256_Sum_s5_b N hb) (fun x => by kernel_rfl)
theorem sha256_Sum_3_b {E : Env} (N : Nat) (hb : Base Tryd.prog (sha256_Sum_C N) E 0) : Blk Tryd.prog (sha256_Sum_C N) E [4] sha256_Sum_S3 (sha256_Sum_L.drop 5) (fun y => sha256_Sum_3 N y.2.1) (sha256_Sum_K N) :=
  Blk.chunkAt hb 2 (X := (goK 0 [6, 32, 33] sha256_Sum_S1 (fun y => sha256_Sum_4 N y.1.1 y.1.2.1 y.2.1))) (NxOk.go hb (sha256_Sum_4_b N hb)) rfl (fun x => by kernel_rfl)
theorem sha256_Sum_1_b {E : Env} (N : Nat) (hb : Base Tryd.prog (sha256_Sum_C N) E 0) : Blk Tryd.prog (sha256_Sum_C N) E [3, 4, 5] sha256_Sum_S4 (sha256_Sum_L.drop 4) (fun y => sha256_Sum_1 N y.1.1 y.2.1 y.2.2.1) (sha256_Sum_K N) :=
  Blk.loopAt (Nf := N) (hns := [3, 4, 5]) (ans := [4]) (hc := sha256_Sum_S0) (ac := sha256_Sum_S3) (bid := 0) (step := (fun y => sha256_Sum_s2 N y.1.1 y.1.2.1 y.2.1)) (J := (fun e => (goK 0 [4] sha256_Sum_S3 (fun y => sha256_Sum_3 N y.2.1)) (sha256_Sum_S3.st [4] e))) hb (by kernel_rfl) (Blk.into (X := (goK 0 [4] sha256_Sum_S3 (fun y => sha256_Sum_3 N y.2.1))) (NxOk.go hb (sha256_Sum_3_b N hb)) (fun x => by kernel_rfl)) (sha256_Sum_s2_b N hb) (fun x => by kernel_rfl)
theorem sha256_Sum_b {E : Env} (N : Nat) (hb : Base Tryd.prog (sha256_Sum_C N) E 0) : Blk Tryd.prog (sha256_Sum_C N) E (List.range sha256_Sum_S5.ks.length) sha256_Sum_S5 (sha256_Sum_L.drop 0) (fun y => sha256_Sum N y.1.1) (sha256_Sum_K N) :=
  Blk.chunkAt hb 4 (X := (goK 0 [3, 4, 5] sha256_Sum_S4 (fun y => sha256_Sum_1 N y.1.1 y.2.1 y.2.2.1))) (NxOk.go hb (sha256_Sum_1_b N hb)) rfl (fun x => by kernel_rfl)
noncomputable def sha256_Sum_ctr (N : Nat) : Ctr := ⟨sha256_Sum_S5, sha256_Sum_S2.un [false], 0, (fun y => sha256_Sum N y.1.1)⟩
theorem sha256_Sum_ctrs (N : Nat) : CtrsOk Tryd.prog (sha256_Sum_C N) := ctrs_of (Γ := sha256_Sum_C N) (by
  intro p hp
  simp only [sha256_Sum_C, List.mem_cons, List.not_mem_nil, or_false] at hp
  rcases hp with rfl | rfl | rfl
  · exact sha256_Pad_ok N
  · exact sha256_Block_ok N
  · exact wire_Put_ok N)
theorem sha256_Sum_ok (N : Nat) : Ctr.ok Tryd.prog G_globs 20 (sha256_Sum_ctr N) :=
  ctr_fn (Γ := sha256_Sum_C N) (rfit := sha256_Sum_S2) (bs := [false]) (res := [2]) (by kernel_rfl) (tys_ok G_tys_ok) (sha256_Sum_ctrs N) Tryd.func20 (by kernel_rfl) (by kernel_rfl) Tryd.ntmps20 (by kernel_rfl) (by kernel_rfl) (by kernel_rfl) (by kernel_rfl) (fun E hb => sha256_Sum_b N hb)
end Go.Proofs.YtlamdneheilahaaDoor
namespace Go.Proofs.YtlamdneheilahaaDoor
open Go
set_option maxRecDepth 100000
set_option linter.unusedVariables false
/-! ipsecgate/prf.Hmac$1 -/
abbrev prf_Hmac_f1_R : Type := ((Unit) × ((List UInt8) × Unit))
noncomputable def prf_Hmac_f1_s2 (N : Nat) (mask_0 : UInt8) (b_1 : (List UInt8)) (t_9 : (List UInt8)) (t_10 : Int) (l_6 : (List UInt8)) : Option (Lo ((UInt8 × (List UInt8) × (List UInt8) × Int × Unit) × ((List UInt8) × Unit)) (((List UInt8) × Unit) × ((List UInt8) × Unit)) prf_Hmac_f1_R) :=
  bif (decide (t_10 < (64 : Int))) then
    bif inR t_10 64 then
    let x2 := t_9.getD t_10.toNat (0 : UInt8)
    bif room (l_6.length + ([(x2 ^^^ mask_0)] : List UInt8).length) 1 then
    some (.go ((mask_0, b_1, t_9, (w64 (t_10 + (1 : Int))), ()), ((l_6 ++ ([(x2 ^^^ mask_0)] : List UInt8)), ())))
    else none
    else none
  else
    some (.br ((b_1, ()), (l_6, ())))
noncomputable def prf_Hmac_f1_3 (N : Nat) (b_1 : (List UInt8)) (l_6 : (List UInt8)) : Option prf_Hmac_f1_R :=
  bif room (l_6.length + b_1.length) 1 then
  Option.bind (sha256_Sum N (l_6 ++ b_1)) fun y7 =>
  some ((()), (y7.2.1, ()))
  else none
noncomputable def prf_Hmac_f1_1 (N : Nat) (mask_0 : UInt8) (b_1 : (List UInt8)) (t_9 : (List UInt8)) (t_10 : Int) (l_6 : (List UInt8)) : Option prf_Hmac_f1_R :=
  loopK N (fun y => prf_Hmac_f1_s2 N y.1.1 y.1.2.1 y.1.2.2.1 y.1.2.2.2.1 y.2.1) (fun (e : (((List UInt8) × Unit) × ((List UInt8) × Unit))) => prf_Hmac_f1_3 N e.1.1 e.2.1) ((mask_0, b_1, t_9, t_10, ()), (l_6, ()))
noncomputable def prf_Hmac_f1 (N : Nat) (mask_0 : UInt8) (b_1 : (List UInt8)) (t_2 : (List UInt8)) : Option prf_Hmac_f1_R :=
  prf_Hmac_f1_1 N mask_0 b_1 t_2 (0 : Int) ([] : List UInt8)
noncomputable def prf_Hmac_f1_C (N : Nat) : Ctx := ⟨24, G_tys, [(20, sha256_Sum_ctr N)], G_globs⟩
noncomputable def prf_Hmac_f1_S0 : Spec := ⟨[.val .u8, .val (.sl .u8), .row 0, .val (.arr 64 .u8), .val .i64], [(.row 5 .u8, .pos 2)]⟩
noncomputable def prf_Hmac_f1_S1 : Spec := ⟨[.val (.sl .u8), .row 0], [(.row 5 .u8, .pos 1)]⟩
noncomputable def prf_Hmac_f1_S2 : Spec := ⟨[.val .u8, .val (.sl .u8), .fp (.arr 64 .u8)], []⟩
noncomputable def prf_Hmac_f1_S3 : Spec := ⟨[.row 0], [(.row 5 .u8, .pos 0)]⟩
noncomputable def prf_Hmac_f1_K (_N : Nat) : XE → GS → Option prf_Hmac_f1_R := retK 0 [5] [false] prf_Hmac_f1_S3
noncomputable def prf_Hmac_f1_L : List Code := (bodyOf (some Tryd.f77))
noncomputable def prf_Hmac_f1_L2 : List Code := (loopOf (prf_Hmac_f1_L[3]?))
noncomputable def prf_Hmac_f1_K2 (N : Nat) : XE → GS → Option (Lo ((UInt8 × (List UInt8) × (List UInt8) × Int × Unit) × ((List UInt8) × Unit)) (((List UInt8) × Unit) × ((List UInt8) × Unit)) prf_Hmac_f1_R) := roundK (some 0) (fit 0 [0, 1, 6, 9, 10] prf_Hmac_f1_S0) (fit 0 [1, 6] prf_Hmac_f1_S1) (prf_Hmac_f1_K N)
theorem prf_Hmac_f1_s2_b {E : Env} (N : Nat) (hb : Base Tryd.prog (prf_Hmac_f1_C N) E 0) : Blk Tryd.prog (prf_Hmac_f1_C N) E [0, 1, 6, 9, 10] prf_Hmac_f1_S0 (prf_Hmac_f1_L2.drop 0) (fun y => prf_Hmac_f1_s2 N y.1.1 y.1.2.1 y.1.2.2.1 y.1.2.2.2.1 y.2.1) (prf_Hmac_f1_K2 N) :=
  Blk.chunkAt hb 4 (X := (prf_Hmac_f1_K2 N .normal)) (NxOk.end (by kernel_rfl)) rfl (fun x => by kernel_rfl)
theorem prf_Hmac_f1_3_b {E : Env} (N : Nat) (hb : Base Tryd.prog (prf_Hmac_f1_C N) E 0) : Blk Tryd.prog (prf_Hmac_f1_C N) E [1, 6] prf_Hmac_f1_S1 (prf_Hmac_f1_L.drop 4) (fun y => prf_Hmac_f1_3 N y.1.1 y.2.1) (prf_Hmac_f1_K N) :=
  Blk.chunkAt hb 2 (X := (prf_Hmac_f1_K N .normal)) (NxOk.end (by kernel_rfl)) rfl (fun x => by kernel_rfl)
theorem prf_Hmac_f1_1_b {E : Env} (N : Nat) (hb : Base Tryd.prog (prf_Hmac_f1_C N) E 0) : Blk Tryd.prog (prf_Hmac_f1_C N) E [0, 1, 6, 9, 10] prf_Hmac_f1_S0 (prf_Hmac_f1_L.drop 3) (fun y => prf_Hmac_f1_1 N y.1.1 y.1.2.1 y.1.2.2.1 y.1.2.2.2.1 y.2.1) (prf_Hmac_f1_K N) :=
  Blk.loopAt (Nf := N) (hns := [0, 1, 6, 9, 10]) (ans := [1, 6]) (hc := prf_Hmac_f1_S0) (ac := prf_Hmac_f1_S1) (bid := 0) (step := (fun y => prf_Hmac_f1_s2 N y.1.1 y.1.2.1 y.1.2.2.1 y.1.2.2.2.1 y.2.1)) (J := (fun e => (goK 0 [1, 6] prf_Hmac_f1_S1 (fun y => prf_Hmac_f1_3 N y.1.1 y.2.1)) (prf_Hmac_f1_S1.st [1, 6] e))) hb (by kernel_rfl) (Blk.into (X := (goK 0 [1, 6] prf_Hmac_f1_S1 (fun y => prf_Hmac_f1_3 N y.1.1 y.2.1))) (NxOk.go hb (prf_Hmac_f1_3_b N hb)) (fun x => by kernel_rfl)) (prf_Hmac_f1_s2_b N hb) (fun x => by kernel_rfl)
theorem prf_Hmac_f1_b {E : Env} (N : Nat) (hb : Base Tryd.prog (prf_Hmac_f1_C N) E 0) : Blk Tryd.prog (prf_Hmac_f1_C N) E (List.range prf_Hmac_f1_S2.ks.length) prf_Hmac_f1_S2 (prf_Hmac_f1_L.drop 0) (fun y => prf_Hmac_f1 N y.1.1 y.1.2.1 y.1.2.2.1) (prf_Hmac_f1_K N) :=
  Blk.chunkAt hb 3 (X := (goK 0 [0, 1, 6, 9, 10] prf_Hmac_f1_S0 (fun y => prf_Hmac_f1_1 N y.1.1 y.1.2.1 y.1.2.2.1 y.1.2.2.2.1 y.2.1))) (NxOk.go hb (prf_Hmac_f1_1_b N hb)) rfl (fun x => by kernel_rfl)
noncomputable def prf_Hmac_f1_ctr (N : Nat) : Ctr := ⟨prf_Hmac_f1_S2, prf_Hmac_f1_S3.un [false], 0, (fun y => prf_Hmac_f1 N y.1.1 y.1.2.1 y.1.2.2.1)⟩
theorem prf_Hmac_f1_ctrs (N : Nat) : CtrsOk Tryd.prog (prf_Hmac_f1_C N) := ctrs_of (Γ := prf_Hmac_f1_C N) (by
  intro p hp
  simp only [prf_Hmac_f1_C, List.mem_cons, List.not_mem_nil, or_false] at hp
  rcases hp with rfl
  · exact sha256_Sum_ok N)
theorem prf_Hmac_f1_ok (N : Nat) : Ctr.ok Tryd.prog G_globs 77 (prf_Hmac_f1_ctr N) :=
  ctr_fn (Γ := prf_Hmac_f1_C N) (rfit := prf_Hmac_f1_S3) (bs := [false]) (res := [5]) (by kernel_rfl) (tys_ok G_tys_ok) (prf_Hmac_f1_ctrs N) Tryd.func77 (by kernel_rfl) (by kernel_rfl) Tryd.ntmps77 (by kernel_rfl) (by kernel_rfl) (by kernel_rfl) (by kernel_rfl) (fun E hb => prf_Hmac_f1_b N hb)
end Go.Proofs.YtlamdneheilahaaDoor
namespace Go.Proofs.YtlamdneheilahaaDoor
open Go
set_option maxRecDepth 100000
set_option linter.unusedVariables false
/-! ipsecgate/prf.Hmac -/
abbrev prf_Hmac_R : Type := ((Unit) × ((List UInt8) × Unit))
noncomputable def prf_Hmac_1 (N : Nat) (key_0 : (List UInt8)) (b_1 : (List UInt8)) (padded_5 : (List UInt8)) : Option prf_Hmac_R :=
  let x4 := splice padded_5 key_0
  Option.bind (prf_Hmac_f1 N (54 : UInt8) b_1 x4) fun y5 =>
  Option.bind (prf_Hmac_f1 N (92 : UInt8) y5.2.1 x4) fun y6 =>
  some ((()), (y6.2.1, ()))
noncomputable def prf_Hmac (N : Nat) (key_0 : (List UInt8)) (b_1 : (List UInt8)) : Option prf_Hmac_R :=
  bif (decide ((64 : Int) < (key_0.length : Int))) then
    Option.bind (sha256_Sum N key_0) fun y3 =>
    prf_Hmac_1 N y3.2.1 b_1 (List.replicate 64 (0 : UInt8))
  else
    prf_Hmac_1 N key_0 b_1 (List.replicate 64 (0 : UInt8))
noncomputable def prf_Hmac_C (N : Nat) : Ctx := ⟨21, G_tys, [(20, sha256_Sum_ctr N), (77, prf_Hmac_f1_ctr N)], G_globs⟩
noncomputable def prf_Hmac_S0 : Spec := ⟨[.val (.sl .u8), .val (.sl .u8), .ref 0 (.arr 64 .u8)], [(.box 95 (.arr 64 .u8), .pos 2)]⟩
noncomputable def prf_Hmac_S1 : Spec := ⟨[.val (.sl .u8), .val (.sl .u8)], []⟩
noncomputable def prf_Hmac_S2 : Spec := ⟨[.row 0], [(.row 5 .u8, .pos 0)]⟩
noncomputable def prf_Hmac_K (_N : Nat) : XE → GS → Option prf_Hmac_R := retK 0 [4] [false] prf_Hmac_S2
noncomputable def prf_Hmac_L : List Code := (bodyOf (some Tryd.f29))
theorem prf_Hmac_1_b {E : Env} (N : Nat) (hb : Base Tryd.prog (prf_Hmac_C N) E 0) : Blk Tryd.prog (prf_Hmac_C N) E [0, 1, 5] prf_Hmac_S0 (prf_Hmac_L.drop 4) (fun y => prf_Hmac_1 N y.1.1 y.1.2.1 y.2.1) (prf_Hmac_K N) :=
  Blk.chunkAt hb 4 (X := (prf_Hmac_K N .normal)) (NxOk.end (by kernel_rfl)) rfl (fun x => by kernel_rfl)
theorem prf_Hmac_b {E : Env} (N : Nat) (hb : Base Tryd.prog (prf_Hmac_C N) E 0) : Blk Tryd.prog (prf_Hmac_C N) E (List.range prf_Hmac_S1.ks.length) prf_Hmac_S1 (prf_Hmac_L.drop 0) (fun y => prf_Hmac N y.1.1 y.1.2.1) (prf_Hmac_K N) :=
  Blk.chunkAt hb 4 (X := (goK 0 [0, 1, 5] prf_Hmac_S0 (fun y => prf_Hmac_1 N y.1.1 y.1.2.1 y.2.1))) (NxOk.go hb (prf_Hmac_1_b N hb)) rfl (fun x => by kernel_rfl)
noncomputable def prf_Hmac_ctr (N : Nat) : Ctr := ⟨prf_Hmac_S1, prf_Hmac_S2.un [false], 0, (fun y => prf_Hmac N y.1.1 y.1.2.1)⟩
theorem prf_Hmac_ctrs (N : Nat) : CtrsOk Tryd.prog (prf_Hmac_C N) := ctrs_of (Γ := prf_Hmac_C N) (by
  intro p hp
  simp only [prf_Hmac_C, List.mem_cons, List.not_mem_nil, or_false] at hp
  rcases hp with rfl | rfl
  · exact sha256_Sum_ok N
  · exact prf_Hmac_f1_ok N)
theorem prf_Hmac_ok (N : Nat) : Ctr.ok Tryd.prog G_globs 29 (prf_Hmac_ctr N) :=
  ctr_fn (Γ := prf_Hmac_C N) (rfit := prf_Hmac_S2) (bs := [false]) (res := [4]) (by kernel_rfl) (tys_ok G_tys_ok) (prf_Hmac_ctrs N) Tryd.func29 (by kernel_rfl) (by kernel_rfl) Tryd.ntmps29 (by kernel_rfl) (by kernel_rfl) (by kernel_rfl) (by kernel_rfl) (fun E hb => prf_Hmac_b N hb)
end Go.Proofs.YtlamdneheilahaaDoor
namespace Go.Proofs.YtlamdneheilahaaDoor
open Go
set_option maxRecDepth 100000
set_option linter.unusedVariables false
/-! ipsecgate/keys.Seed -/
abbrev keys_Seed_R : Type := ((Int × Unit) × ((List UInt8) × Unit))
noncomputable def keys_Seed_1 (N : Nat) (ni_0 : (List UInt8)) (nr_1 : (List UInt8)) (shared_2 : (List UInt8)) (t_17 : Bool) : Option keys_Seed_R :=
  bif t_17 then
    some (((13 : Int), ()), (([] : List UInt8), ()))
  else
    Option.bind (keys_join N ([ni_0, nr_1] : List (List UInt8))) fun y3 =>
    Option.bind (prf_Hmac N y3.2.1 shared_2) fun y4 =>
    some (((0 : Int), ()), (y4.2.1, ()))
noncomputable def keys_Seed (N : Nat) (ni_0 : (List UInt8)) (nr_1 : (List UInt8)) (shared_2 : (List UInt8)) : Option keys_Seed_R :=
  Option.bind (keys_nonces N ([ni_0, nr_1] : List (List UInt8))) fun y1 =>
  bif (!y1.1.1) then
    keys_Seed_1 N ni_0 nr_1 shared_2 true
  else
    keys_Seed_1 N ni_0 nr_1 shared_2 (decide ((shared_2.length : Int) = (0 : Int)))
noncomputable def keys_Seed_C (N : Nat) : Ctx := ⟨24, G_tys, [(82, keys_nonces_ctr N), (80, keys_join_ctr N), (29, prf_Hmac_ctr N)], G_globs⟩
noncomputable def keys_Seed_S0 : Spec := ⟨[.val (.sl .u8), .val (.sl .u8), .val (.sl .u8), .val .bool], []⟩
noncomputable def keys_Seed_S1 : Spec := ⟨[.val (.sl .u8), .val (.sl .u8), .val (.sl .u8)], []⟩
noncomputable def keys_Seed_S2 : Spec := ⟨[.row 0, .val .i64], [(.row 5 .u8, .pos 0)]⟩
noncomputable def keys_Seed_K (_N : Nat) : XE → GS → Option keys_Seed_R := retK 0 [6, 7] [false, false] keys_Seed_S2
noncomputable def keys_Seed_L : List Code := (bodyOf (some Tryd.f44))
theorem keys_Seed_1_b {E : Env} (N : Nat) (hb : Base Tryd.prog (keys_Seed_C N) E 0) : Blk Tryd.prog (keys_Seed_C N) E [0, 1, 2, 17] keys_Seed_S0 (keys_Seed_L.drop 2) (fun y => keys_Seed_1 N y.1.1 y.1.2.1 y.1.2.2.1 y.1.2.2.2.1) (keys_Seed_K N) :=
  Blk.chunkAt hb 3 (X := (keys_Seed_K N .normal)) (NxOk.end (by kernel_rfl)) rfl (fun x => by kernel_rfl)
theorem keys_Seed_b {E : Env} (N : Nat) (hb : Base Tryd.prog (keys_Seed_C N) E 0) : Blk Tryd.prog (keys_Seed_C N) E (List.range keys_Seed_S1.ks.length) keys_Seed_S1 (keys_Seed_L.drop 0) (fun y => keys_Seed N y.1.1 y.1.2.1 y.1.2.2.1) (keys_Seed_K N) :=
  Blk.chunkAt hb 2 (X := (goK 0 [0, 1, 2, 17] keys_Seed_S0 (fun y => keys_Seed_1 N y.1.1 y.1.2.1 y.1.2.2.1 y.1.2.2.2.1))) (NxOk.go hb (keys_Seed_1_b N hb)) rfl (fun x => by kernel_rfl)
noncomputable def keys_Seed_ctr (N : Nat) : Ctr := ⟨keys_Seed_S1, keys_Seed_S2.un [false, false], 0, (fun y => keys_Seed N y.1.1 y.1.2.1 y.1.2.2.1)⟩
theorem keys_Seed_ctrs (N : Nat) : CtrsOk Tryd.prog (keys_Seed_C N) := ctrs_of (Γ := keys_Seed_C N) (by
  intro p hp
  simp only [keys_Seed_C, List.mem_cons, List.not_mem_nil, or_false] at hp
  rcases hp with rfl | rfl | rfl
  · exact keys_nonces_ok N
  · exact keys_join_ok N
  · exact prf_Hmac_ok N)
theorem keys_Seed_ok (N : Nat) : Ctr.ok Tryd.prog G_globs 44 (keys_Seed_ctr N) :=
  ctr_fn (Γ := keys_Seed_C N) (rfit := keys_Seed_S2) (bs := [false, false]) (res := [6, 7]) (by kernel_rfl) (tys_ok G_tys_ok) (keys_Seed_ctrs N) Tryd.func44 (by kernel_rfl) (by kernel_rfl) Tryd.ntmps44 (by kernel_rfl) (by kernel_rfl) (by kernel_rfl) (by kernel_rfl) (fun E hb => keys_Seed_b N hb)
end Go.Proofs.YtlamdneheilahaaDoor
namespace Go.Proofs.YtlamdneheilahaaDoor
open Go
set_option maxRecDepth 100000
set_option linter.unusedVariables false
/-! ipsecgate/ipsecgatelaw16.awake -/
abbrev law16_awake_R : Type := ((Bool × Unit) × (Unit))
noncomputable def law16_awake (N : Nat) : Option law16_awake_R :=
  Option.bind (keys_Seed N (List.replicate 15 (0 : UInt8)) (List.replicate 16 (0 : UInt8)) ([(1 : UInt8)] : List UInt8)) fun y1 =>
  Option.bind (keys_Seed N (List.replicate 16 (0 : UInt8)) (List.replicate 16 (0 : UInt8)) ([(1 : UInt8)] : List UInt8)) fun y2 =>
  bif (decide (y1.1.1 = (13 : Int))) then
    bif (decide (y2.1.1 = (0 : Int))) then
      some (((decide ((y2.2.1.length : Int) = (32 : Int))), ()), (()))
    else
      some ((false, ()), (()))
  else
    some ((false, ()), (()))
noncomputable def law16_awake_C (N : Nat) : Ctx := ⟨30, G_tys, [(44, keys_Seed_ctr N)], G_globs⟩
noncomputable def law16_awake_S0 : Spec := ⟨[], []⟩
noncomputable def law16_awake_S1 : Spec := ⟨[.val .bool], []⟩
noncomputable def law16_awake_K (_N : Nat) : XE → GS → Option law16_awake_R := retK 0 [0] [false] law16_awake_S1
noncomputable def law16_awake_L : List Code := (bodyOf (some Tryd.f32))
theorem law16_awake_b {E : Env} (N : Nat) (hb : Base Tryd.prog (law16_awake_C N) E 0) : Blk Tryd.prog (law16_awake_C N) E (List.range law16_awake_S0.ks.length) law16_awake_S0 (law16_awake_L.drop 0) (fun y => law16_awake N) (law16_awake_K N) :=
  Blk.chunkAt hb 5 (X := (law16_awake_K N .normal)) (NxOk.end (by kernel_rfl)) rfl (fun x => by kernel_rfl)
noncomputable def law16_awake_ctr (N : Nat) : Ctr := ⟨law16_awake_S0, law16_awake_S1.un [false], 0, (fun y => law16_awake N)⟩
theorem law16_awake_ctrs (N : Nat) : CtrsOk Tryd.prog (law16_awake_C N) := ctrs_of (Γ := law16_awake_C N) (by
  intro p hp
  simp only [law16_awake_C, List.mem_cons, List.not_mem_nil, or_false] at hp
  rcases hp with rfl
  · exact keys_Seed_ok N)
theorem law16_awake_ok (N : Nat) : Ctr.ok Tryd.prog G_globs 32 (law16_awake_ctr N) :=
  ctr_fn (Γ := law16_awake_C N) (rfit := law16_awake_S1) (bs := [false]) (res := [0]) (by kernel_rfl) (tys_ok G_tys_ok) (law16_awake_ctrs N) Tryd.func32 (by kernel_rfl) (by kernel_rfl) Tryd.ntmps32 (by kernel_rfl) (by kernel_rfl) (by kernel_rfl) (by kernel_rfl) (fun E hb => law16_awake_b N hb)
end Go.Proofs.YtlamdneheilahaaDoor
namespace Go.Proofs.YtlamdneheilahaaDoor
open Go
set_option maxRecDepth 100000
set_option linter.unusedVariables false
/-! ipsecgate/ipsecgatemake.New -/
abbrev make_New_R : Type := ((Unit) × (((List UInt8) × (Int × Unit)) × Unit))
noncomputable def make_New_1 (N : Nat) (list_0 : (List UInt8)) : Option make_New_R :=
  some ((()), ((list_0, (0 : Int), ()), ()))
noncomputable def make_New (N : Nat) (list_0 : (List UInt8)) (most_1 : Int) : Option make_New_R :=
  bif (decide (most_1 < (list_0.length : Int))) then
    bif decide (0 ≤ (0 : Int)) && decide ((0 : Int) ≤ most_1) && decide (most_1 ≤ (list_0.length : Int)) && true then
    make_New_1 N (cut list_0 0 most_1.toNat)
    else none
  else
    make_New_1 N list_0
noncomputable def make_New_C (N : Nat) : Ctx := ⟨15, G_tys, [], G_globs⟩
noncomputable def make_New_S0 : Spec := ⟨[.val (.sl .u8)], []⟩
noncomputable def make_New_S1 : Spec := ⟨[.val (.sl .u8), .val .i64], []⟩
noncomputable def make_New_S2 : Spec := ⟨[.ref 0 (.pair (.sl .u8) (.pair .i64 .unit))], [(.box 100 (.pair (.sl .u8) (.pair .i64 .unit)), .pos 0)]⟩
noncomputable def make_New_K (_N : Nat) : XE → GS → Option make_New_R := retK 0 [4] [false] make_New_S2
noncomputable def make_New_L : List Code := (bodyOf (some Tryd.f41))
theorem make_New_1_b {E : Env} (N : Nat) (hb : Base Tryd.prog (make_New_C N) E 0) : Blk Tryd.prog (make_New_C N) E [0] make_New_S0 (make_New_L.drop 3) (fun y => make_New_1 N y.1.1) (make_New_K N) :=
  Blk.chunkAt hb 2 (X := (make_New_K N .normal)) (NxOk.end (by kernel_rfl)) rfl (fun x => by kernel_rfl)
theorem make_New_b {E : Env} (N : Nat) (hb : Base Tryd.prog (make_New_C N) E 0) : Blk Tryd.prog (make_New_C N) E (List.range make_New_S1.ks.length) make_New_S1 (make_New_L.drop 0) (fun y => make_New N y.1.1 y.1.2.1) (make_New_K N) :=
  Blk.chunkAt hb 3 (X := (goK 0 [0] make_New_S0 (fun y => make_New_1 N y.1.1))) (NxOk.go hb (make_New_1_b N hb)) rfl (fun x => by kernel_rfl)
noncomputable def make_New_ctr (N : Nat) : Ctr := ⟨make_New_S1, make_New_S2.un [false], 0, (fun y => make_New N y.1.1 y.1.2.1)⟩
theorem make_New_ctrs (N : Nat) : CtrsOk Tryd.prog (make_New_C N) := ctrs_nil rfl
theorem make_New_ok (N : Nat) : Ctr.ok Tryd.prog G_globs 41 (make_New_ctr N) :=
  ctr_fn (Γ := make_New_C N) (rfit := make_New_S2) (bs := [false]) (res := [4]) (by kernel_rfl) (tys_ok G_tys_ok) (make_New_ctrs N) Tryd.func41 (by kernel_rfl) (by kernel_rfl) Tryd.ntmps41 (by kernel_rfl) (by kernel_rfl) (by kernel_rfl) (by kernel_rfl) (fun E hb => make_New_b N hb)
end Go.Proofs.YtlamdneheilahaaDoor
namespace Go.Proofs.YtlamdneheilahaaDoor
open Go
set_option maxRecDepth 100000
set_option linter.unusedVariables false
/-! (*ipsecgate/ipsecgatemake.Codes).Left -/
abbrev make_Codes_Left_R : Type := ((Bool × Unit) × (Unit))
noncomputable def make_Codes_Left (N : Nat) (c_0 : ((List UInt8) × (Int × Unit))) : Option make_Codes_Left_R :=
  some (((decide (c_0.2.1 < (c_0.1.length : Int))), ()), (()))
noncomputable def make_Codes_Left_C (N : Nat) : Ctx := ⟨13, G_tys, [], G_globs⟩
noncomputable def make_Codes_Left_S0 : Spec := ⟨[.fp (.pair (.sl .u8) (.pair .i64 .unit))], []⟩
noncomputable def make_Codes_Left_S1 : Spec := ⟨[.val .bool], []⟩
noncomputable def make_Codes_Left_K (_N : Nat) : XE → GS → Option make_Codes_Left_R := retK 0 [2] [false] make_Codes_Left_S1
noncomputable def make_Codes_Left_L : List Code := (bodyOf (some Tryd.f81))
theorem make_Codes_Left_b {E : Env} (N : Nat) (hb : Base Tryd.prog (make_Codes_Left_C N) E 0) : Blk Tryd.prog (make_Codes_Left_C N) E (List.range make_Codes_Left_S0.ks.length) make_Codes_Left_S0 (make_Codes_Left_L.drop 0) (fun y => make_Codes_Left N y.1.1) (make_Codes_Left_K N) :=
  Blk.chunkAt hb 3 (X := (make_Codes_Left_K N .normal)) (NxOk.end (by kernel_rfl)) rfl (fun x => by kernel_rfl)
noncomputable def make_Codes_Left_ctr (N : Nat) : Ctr := ⟨make_Codes_Left_S0, make_Codes_Left_S1.un [false], 0, (fun y => make_Codes_Left N y.1.1)⟩
theorem make_Codes_Left_ctrs (N : Nat) : CtrsOk Tryd.prog (make_Codes_Left_C N) := ctrs_nil rfl
theorem make_Codes_Left_ok (N : Nat) : Ctr.ok Tryd.prog G_globs 81 (make_Codes_Left_ctr N) :=
  ctr_fn (Γ := make_Codes_Left_C N) (rfit := make_Codes_Left_S1) (bs := [false]) (res := [2]) (by kernel_rfl) (tys_ok G_tys_ok) (make_Codes_Left_ctrs N) Tryd.func81 (by kernel_rfl) (by kernel_rfl) Tryd.ntmps81 (by kernel_rfl) (by kernel_rfl) (by kernel_rfl) (by kernel_rfl) (fun E hb => make_Codes_Left_b N hb)
end Go.Proofs.YtlamdneheilahaaDoor
namespace Go.Proofs.YtlamdneheilahaaDoor
open Go
set_option maxRecDepth 100000
set_option linter.unusedVariables false
/-! (*ipsecgate/ipsecgatemake.Codes).Next -/
abbrev make_Codes_Next_R : Type := ((Int × Unit) × (((List UInt8) × (Int × Unit)) × Unit))
noncomputable def make_Codes_Next (N : Nat) (n_1 : Int) (c_0 : ((List UInt8) × (Int × Unit))) : Option make_Codes_Next_R :=
  Option.bind (make_Codes_Left N c_0) fun y1 =>
  bif (!y1.1.1) then
    some (((0 : Int), ()), (c_0, ()))
  else
    let x3 := w64 (c_0.2.1 + (1 : Int))
    let x4 := w64 (x3 - (1 : Int))
    bif inR x4 c_0.1.length then
    bif !(decide (n_1 = 0)) then
    some (((((c_0.1.getD x4.toNat (0 : UInt8)).toNat : Int).tmod n_1), ()), ((c_0.1, x3, ()), ()))
    else none
    else none
noncomputable def make_Codes_Next_C (N : Nat) : Ctx := ⟨29, G_tys, [(81, make_Codes_Left_ctr N)], G_globs⟩
noncomputable def make_Codes_Next_S0 : Spec := ⟨[.ref 0 (.pair (.sl .u8) (.pair .i64 .unit)), .val .i64], [(.box 100 (.pair (.sl .u8) (.pair .i64 .unit)), .pos 0)]⟩
noncomputable def make_Codes_Next_S1 : Spec := ⟨[.val .i64], [(.box 100 (.pair (.sl .u8) (.pair .i64 .unit)), .fix 0)]⟩
noncomputable def make_Codes_Next_K (_N : Nat) : XE → GS → Option make_Codes_Next_R := retK 1 [4] [false] make_Codes_Next_S1
noncomputable def make_Codes_Next_L : List Code := (bodyOf (some Tryd.f43))
theorem make_Codes_Next_b {E : Env} (N : Nat) (hb : Base Tryd.prog (make_Codes_Next_C N) E 1) : Blk Tryd.prog (make_Codes_Next_C N) E (List.range make_Codes_Next_S0.ks.length) make_Codes_Next_S0 (make_Codes_Next_L.drop 0) (fun y => make_Codes_Next N y.1.1 y.2.1) (make_Codes_Next_K N) :=
  Blk.chunkAt hb 6 (X := (make_Codes_Next_K N .normal)) (NxOk.end (by kernel_rfl)) rfl (fun x => by kernel_rfl)
noncomputable def make_Codes_Next_ctr (N : Nat) : Ctr := ⟨make_Codes_Next_S0, make_Codes_Next_S1.un [false], 1, (fun y => make_Codes_Next N y.1.1 y.2.1)⟩
theorem make_Codes_Next_ctrs (N : Nat) : CtrsOk Tryd.prog (make_Codes_Next_C N) := ctrs_of (Γ := make_Codes_Next_C N) (by
  intro p hp
  simp only [make_Codes_Next_C, List.mem_cons, List.not_mem_nil, or_false] at hp
  rcases hp with rfl
  · exact make_Codes_Left_ok N)
theorem make_Codes_Next_ok (N : Nat) : Ctr.ok Tryd.prog G_globs 43 (make_Codes_Next_ctr N) :=
  ctr_fn (Γ := make_Codes_Next_C N) (rfit := make_Codes_Next_S1) (bs := [false]) (res := [4]) (by kernel_rfl) (tys_ok G_tys_ok) (make_Codes_Next_ctrs N) Tryd.func43 (by kernel_rfl) (by kernel_rfl) Tryd.ntmps43 (by kernel_rfl) (by kernel_rfl) (by kernel_rfl) (by kernel_rfl) (fun E hb => make_Codes_Next_b N hb)
end Go.Proofs.YtlamdneheilahaaDoor
namespace Go.Proofs.YtlamdneheilahaaDoor
open Go
set_option maxRecDepth 100000
set_option linter.unusedVariables false
/-! (*ipsecgate/ipsecgatemake.Codes).Word -/
abbrev make_Codes_Word_R : Type := ((UInt64 × Unit) × (((List UInt8) × (Int × Unit)) × Unit))
noncomputable def make_Codes_Word_s2 (N : Nat) (v_3 : UInt64) (i_4 : Int) (p0 : ((List UInt8) × (Int × Unit))) : Option (Lo ((UInt64 × Int × Unit) × (((List UInt8) × (Int × Unit)) × Unit)) ((UInt64 × Unit) × (((List UInt8) × (Int × Unit)) × Unit)) make_Codes_Word_R) :=
  bif (decide (i_4 < (8 : Int))) then
    Option.bind (make_Codes_Next N (256 : Int) p0) fun y11 =>
    some (.go ((((shl64 v_3 8) ||| (iu64 y11.1.1)), (w64 (i_4 + (1 : Int))), ()), (y11.2.1, ())))
  else
    some (.br ((v_3, ()), (p0, ())))
noncomputable def make_Codes_Word_3 (N : Nat) (v_3 : UInt64) (p0 : ((List UInt8) × (Int × Unit))) : Option make_Codes_Word_R :=
  some ((v_3, ()), (p0, ()))
noncomputable def make_Codes_Word_1 (N : Nat) (v_3 : UInt64) (i_4 : Int) (p0 : ((List UInt8) × (Int × Unit))) : Option make_Codes_Word_R :=
  loopK N (fun y => make_Codes_Word_s2 N y.1.1 y.1.2.1 y.2.1) (fun (e : ((UInt64 × Unit) × (((List UInt8) × (Int × Unit)) × Unit))) => make_Codes_Word_3 N e.1.1 e.2.1) ((v_3, i_4, ()), (p0, ()))
noncomputable def make_Codes_Word (N : Nat) (c_0 : ((List UInt8) × (Int × Unit))) : Option make_Codes_Word_R :=
  Option.bind (make_Codes_Next N (6 : Int) c_0) fun y1 =>
  bif (decide (y1.1.1 = (0 : Int))) then
    Option.bind (make_Codes_Next N (4 : Int) y1.2.1) fun y3 =>
    some (((iu64 y3.1.1), ()), (y3.2.1, ()))
  else
    bif (decide (y1.1.1 = (1 : Int))) then
      Option.bind (make_Codes_Next N (3 : Int) y1.2.1) fun y6 =>
      some ((((18446744073709551615 : UInt64) - (iu64 y6.1.1)), ()), (y6.2.1, ()))
    else
      make_Codes_Word_1 N (0 : UInt64) (0 : Int) y1.2.1
noncomputable def make_Codes_Word_C (N : Nat) : Ctx := ⟨29, G_tys, [(43, make_Codes_Next_ctr N)], G_globs⟩
noncomputable def make_Codes_Word_S0 : Spec := ⟨[.ref 0 (.pair (.sl .u8) (.pair .i64 .unit)), .val .u64, .val .i64], [(.box 100 (.pair (.sl .u8) (.pair .i64 .unit)), .fix 0)]⟩
noncomputable def make_Codes_Word_S1 : Spec := ⟨[.val .u64], [(.box 100 (.pair (.sl .u8) (.pair .i64 .unit)), .fix 0)]⟩
noncomputable def make_Codes_Word_S2 : Spec := ⟨[.ref 0 (.pair (.sl .u8) (.pair .i64 .unit))], [(.box 100 (.pair (.sl .u8) (.pair .i64 .unit)), .pos 0)]⟩
noncomputable def make_Codes_Word_K (_N : Nat) : XE → GS → Option make_Codes_Word_R := retK 1 [2] [false] make_Codes_Word_S1
noncomputable def make_Codes_Word_L : List Code := (bodyOf (some Tryd.f100))
noncomputable def make_Codes_Word_L2 : List Code := (loopOf (make_Codes_Word_L[5]?))
noncomputable def make_Codes_Word_K2 (N : Nat) : XE → GS → Option (Lo ((UInt64 × Int × Unit) × (((List UInt8) × (Int × Unit)) × Unit)) ((UInt64 × Unit) × (((List UInt8) × (Int × Unit)) × Unit)) make_Codes_Word_R) := roundK (some 1) (fit 1 [0, 3, 4] make_Codes_Word_S0) (fit 1 [3] make_Codes_Word_S1) (make_Codes_Word_K N)
theorem make_Codes_Word_s2_b {E : Env} (N : Nat) (hb : Base Tryd.prog (make_Codes_Word_C N) E 1) : Blk Tryd.prog (make_Codes_Word_C N) E [0, 3, 4] make_Codes_Word_S0 (make_Codes_Word_L2.drop 0) (fun y => make_Codes_Word_s2 N y.1.1 y.1.2.1 y.2.1) (make_Codes_Word_K2 N) :=
  Blk.chunkAt hb 4 (X := (make_Codes_Word_K2 N .normal)) (NxOk.end (by kernel_rfl)) rfl (fun x => by kernel_rfl)
theorem make_Codes_Word_3_b {E : Env} (N : Nat) (hb : Base Tryd.prog (make_Codes_Word_C N) E 1) : Blk Tryd.prog (make_Codes_Word_C N) E [3] make_Codes_Word_S1 (make_Codes_Word_L.drop 6) (fun y => make_Codes_Word_3 N y.1.1 y.2.1) (make_Codes_Word_K N) :=
  Blk.chunkAt hb 2 (X := (make_Codes_Word_K N .normal)) (NxOk.end (by kernel_rfl)) rfl (fun x => by kernel_rfl)
theorem make_Codes_Word_1_b {E : Env} (N : Nat) (hb : Base Tryd.prog (make_Codes_Word_C N) E 1) : Blk Tryd.prog (make_Codes_Word_C N) E [0, 3, 4] make_Codes_Word_S0 (make_Codes_Word_L.drop 5) (fun y => make_Codes_Word_1 N y.1.1 y.1.2.1 y.2.1) (make_Codes_Word_K N) :=
  Blk.loopAt (Nf := N) (hns := [0, 3, 4]) (ans := [3]) (hc := make_Codes_Word_S0) (ac := make_Codes_Word_S1) (bid := 1) (step := (fun y => make_Codes_Word_s2 N y.1.1 y.1.2.1 y.2.1)) (J := (fun e => (goK 1 [3] make_Codes_Word_S1 (fun y => make_Codes_Word_3 N y.1.1 y.2.1)) (make_Codes_Word_S1.st [3] e))) hb (by kernel_rfl) (Blk.into (X := (goK 1 [3] make_Codes_Word_S1 (fun y => make_Codes_Word_3 N y.1.1 y.2.1))) (NxOk.go hb (make_Codes_Word_3_b N hb)) (fun x => by kernel_rfl)) (make_Codes_Word_s2_b N hb) (fun x => by kernel_rfl)
theorem make_Codes_Word_b {E : Env} (N : Nat) (hb : Base Tryd.prog (make_Codes_Word_C N) E 1) : Blk Tryd.prog (make_Codes_Word_C N) E (List.range make_Codes_Word_S2.ks.length) make_Codes_Word_S2 (make_Codes_Word_L.drop 0) (fun y => make_Codes_Word N y.2.1) (make_Codes_Word_K N) :=
  Blk.chunkAt hb 5 (X := (goK 1 [0, 3, 4] make_Codes_Word_S0 (fun y => make_Codes_Word_1 N y.1.1 y.1.2.1 y.2.1))) (NxOk.go hb (make_Codes_Word_1_b N hb)) rfl (fun x => by kernel_rfl)
noncomputable def make_Codes_Word_ctr (N : Nat) : Ctr := ⟨make_Codes_Word_S2, make_Codes_Word_S1.un [false], 1, (fun y => make_Codes_Word N y.2.1)⟩
theorem make_Codes_Word_ctrs (N : Nat) : CtrsOk Tryd.prog (make_Codes_Word_C N) := ctrs_of (Γ := make_Codes_Word_C N) (by
  intro p hp
  simp only [make_Codes_Word_C, List.mem_cons, List.not_mem_nil, or_false] at hp
  rcases hp with rfl
  · exact make_Codes_Next_ok N)
theorem make_Codes_Word_ok (N : Nat) : Ctr.ok Tryd.prog G_globs 100 (make_Codes_Word_ctr N) :=
  ctr_fn (Γ := make_Codes_Word_C N) (rfit := make_Codes_Word_S1) (bs := [false]) (res := [2]) (by kernel_rfl) (tys_ok G_tys_ok) (make_Codes_Word_ctrs N) Tryd.func100 (by kernel_rfl) (by kernel_rfl) Tryd.ntmps100 (by kernel_rfl) (by kernel_rfl) (by kernel_rfl) (by kernel_rfl) (fun E hb => make_Codes_Word_b N hb)
end Go.Proofs.YtlamdneheilahaaDoor
namespace Go.Proofs.YtlamdneheilahaaDoor
open Go
set_option maxRecDepth 100000
set_option linter.unusedVariables false
/-! (*ipsecgate/ipsecgatemake.Codes).Secret -/
abbrev make_Codes_Secret_R : Type := ((UInt64 × Unit) × (((List UInt8) × (Int × Unit)) × Unit))
noncomputable def make_Codes_Secret (N : Nat) (c_0 : ((List UInt8) × (Int × Unit))) : Option make_Codes_Secret_R :=
  Option.bind (make_Codes_Word N c_0) fun y1 =>
  some ((((1 : UInt64) + (y1.1.1 % (2305843009213688668 : UInt64))), ()), (y1.2.1, ()))
noncomputable def make_Codes_Secret_C (N : Nat) : Ctx := ⟨7, G_tys, [(100, make_Codes_Word_ctr N)], G_globs⟩
noncomputable def make_Codes_Secret_S0 : Spec := ⟨[.ref 0 (.pair (.sl .u8) (.pair .i64 .unit))], [(.box 100 (.pair (.sl .u8) (.pair .i64 .unit)), .pos 0)]⟩
noncomputable def make_Codes_Secret_S1 : Spec := ⟨[.val .u64], [(.box 100 (.pair (.sl .u8) (.pair .i64 .unit)), .fix 0)]⟩
noncomputable def make_Codes_Secret_K (_N : Nat) : XE → GS → Option make_Codes_Secret_R := retK 1 [2] [false] make_Codes_Secret_S1
noncomputable def make_Codes_Secret_L : List Code := (bodyOf (some Tryd.f66))
theorem make_Codes_Secret_b {E : Env} (N : Nat) (hb : Base Tryd.prog (make_Codes_Secret_C N) E 1) : Blk Tryd.prog (make_Codes_Secret_C N) E (List.range make_Codes_Secret_S0.ks.length) make_Codes_Secret_S0 (make_Codes_Secret_L.drop 0) (fun y => make_Codes_Secret N y.2.1) (make_Codes_Secret_K N) :=
  Blk.chunkAt hb 3 (X := (make_Codes_Secret_K N .normal)) (NxOk.end (by kernel_rfl)) rfl (fun x => by kernel_rfl)
noncomputable def make_Codes_Secret_ctr (N : Nat) : Ctr := ⟨make_Codes_Secret_S0, make_Codes_Secret_S1.un [false], 1, (fun y => make_Codes_Secret N y.2.1)⟩
theorem make_Codes_Secret_ctrs (N : Nat) : CtrsOk Tryd.prog (make_Codes_Secret_C N) := ctrs_of (Γ := make_Codes_Secret_C N) (by
  intro p hp
  simp only [make_Codes_Secret_C, List.mem_cons, List.not_mem_nil, or_false] at hp
  rcases hp with rfl
  · exact make_Codes_Word_ok N)
theorem make_Codes_Secret_ok (N : Nat) : Ctr.ok Tryd.prog G_globs 66 (make_Codes_Secret_ctr N) :=
  ctr_fn (Γ := make_Codes_Secret_C N) (rfit := make_Codes_Secret_S1) (bs := [false]) (res := [2]) (by kernel_rfl) (tys_ok G_tys_ok) (make_Codes_Secret_ctrs N) Tryd.func66 (by kernel_rfl) (by kernel_rfl) Tryd.ntmps66 (by kernel_rfl) (by kernel_rfl) (by kernel_rfl) (by kernel_rfl) (fun E hb => make_Codes_Secret_b N hb)
end Go.Proofs.YtlamdneheilahaaDoor
namespace Go.Proofs.YtlamdneheilahaaDoor
open Go
set_option maxRecDepth 100000
set_option linter.unusedVariables false
/-! ipsecgate/group.valid -/
abbrev group_valid_R : Type := ((Bool × Unit) × (Unit))
noncomputable def group_valid (N : Nat) (secret_0 : UInt64) : Option group_valid_R :=
  bif (decide ((1 : UInt64) ≤ secret_0)) then
    some (((decide (secret_0 < (2305843009213688669 : UInt64))), ()), (()))
  else
    some ((false, ()), (()))
noncomputable def group_valid_C (N : Nat) : Ctx := ⟨9, G_tys, [], G_globs⟩
noncomputable def group_valid_S0 : Spec := ⟨[.val .u64], []⟩
noncomputable def group_valid_S1 : Spec := ⟨[.val .bool], []⟩
noncomputable def group_valid_K (_N : Nat) : XE → GS → Option group_valid_R := retK 0 [2] [false] group_valid_S1
noncomputable def group_valid_L : List Code := (bodyOf (some Tryd.f101))
theorem group_valid_b {E : Env} (N : Nat) (hb : Base Tryd.prog (group_valid_C N) E 0) : Blk Tryd.prog (group_valid_C N) E (List.range group_valid_S0.ks.length) group_valid_S0 (group_valid_L.drop 0) (fun y => group_valid N y.1.1) (group_valid_K N) :=
  Blk.chunkAt hb 3 (X := (group_valid_K N .normal)) (NxOk.end (by kernel_rfl)) rfl (fun x => by kernel_rfl)
noncomputable def group_valid_ctr (N : Nat) : Ctr := ⟨group_valid_S0, group_valid_S1.un [false], 0, (fun y => group_valid N y.1.1)⟩
theorem group_valid_ctrs (N : Nat) : CtrsOk Tryd.prog (group_valid_C N) := ctrs_nil rfl
theorem group_valid_ok (N : Nat) : Ctr.ok Tryd.prog G_globs 101 (group_valid_ctr N) :=
  ctr_fn (Γ := group_valid_C N) (rfit := group_valid_S1) (bs := [false]) (res := [2]) (by kernel_rfl) (tys_ok G_tys_ok) (group_valid_ctrs N) Tryd.func101 (by kernel_rfl) (by kernel_rfl) Tryd.ntmps101 (by kernel_rfl) (by kernel_rfl) (by kernel_rfl) (by kernel_rfl) (fun E hb => group_valid_b N hb)
end Go.Proofs.YtlamdneheilahaaDoor
namespace Go.Proofs.YtlamdneheilahaaDoor
open Go
set_option maxRecDepth 100000
set_option linter.unusedVariables false
/-! math/bits.Mul64 -/
abbrev math_bits_Mul64_R : Type := ((UInt64 × UInt64 × Unit) × (Unit))
noncomputable def math_bits_Mul64 (N : Nat) (x_0 : UInt64) (y_1 : UInt64) : Option math_bits_Mul64_R :=
  let x1 := x_0 &&& (4294967295 : UInt64)
  let x3 := y_1 &&& (4294967295 : UInt64)
  some ((((((shr64 x_0 32) * (shr64 y_1 32)) + (shr64 (((shr64 x_0 32) * x3) + (shr64 (x1 * x3) 32)) 32)) + (shr64 (((((shr64 x_0 32) * x3) + (shr64 (x1 * x3) 32)) &&& (4294967295 : UInt64)) + (x1 * (shr64 y_1 32))) 32)), (x_0 * y_1), ()), (()))
noncomputable def math_bits_Mul64_C (N : Nat) : Ctx := ⟨51, G_tys, [], G_globs⟩
noncomputable def math_bits_Mul64_S0 : Spec := ⟨[.val .u64, .val .u64], []⟩
noncomputable def math_bits_Mul64_K (_N : Nat) : XE → GS → Option math_bits_Mul64_R := retK 0 [4, 5] [false, false] math_bits_Mul64_S0
noncomputable def math_bits_Mul64_L : List Code := (bodyOf (some Tryd.f118))
theorem math_bits_Mul64_b {E : Env} (N : Nat) (hb : Base Tryd.prog (math_bits_Mul64_C N) E 0) : Blk Tryd.prog (math_bits_Mul64_C N) E (List.range math_bits_Mul64_S0.ks.length) math_bits_Mul64_S0 (math_bits_Mul64_L.drop 0) (fun y => math_bits_Mul64 N y.1.1 y.1.2.1) (math_bits_Mul64_K N) :=
  Blk.chunkAt hb 13 (X := (math_bits_Mul64_K N .normal)) (NxOk.end (by kernel_rfl)) rfl (fun x => by kernel_rfl)
noncomputable def math_bits_Mul64_ctr (N : Nat) : Ctr := ⟨math_bits_Mul64_S0, math_bits_Mul64_S0.un [false, false], 0, (fun y => math_bits_Mul64 N y.1.1 y.1.2.1)⟩
theorem math_bits_Mul64_ctrs (N : Nat) : CtrsOk Tryd.prog (math_bits_Mul64_C N) := ctrs_nil rfl
theorem math_bits_Mul64_ok (N : Nat) : Ctr.ok Tryd.prog G_globs 118 (math_bits_Mul64_ctr N) :=
  ctr_fn (Γ := math_bits_Mul64_C N) (rfit := math_bits_Mul64_S0) (bs := [false, false]) (res := [4, 5]) (by kernel_rfl) (tys_ok G_tys_ok) (math_bits_Mul64_ctrs N) Tryd.func118 (by kernel_rfl) (by kernel_rfl) Tryd.ntmps118 (by kernel_rfl) (by kernel_rfl) (by kernel_rfl) (by kernel_rfl) (fun E hb => math_bits_Mul64_b N hb)
end Go.Proofs.YtlamdneheilahaaDoor
namespace Go.Proofs.YtlamdneheilahaaDoor
open Go
set_option maxRecDepth 100000
set_option linter.unusedVariables false
/-! math/bits.Len64 -/
abbrev math_bits_Len64_R : Type := ((Int × Unit) × (Unit))
noncomputable def math_bits_Len64_3 (N : Nat) (x_0 : UInt64) (n_2 : Int) : Option math_bits_Len64_R :=
  bif inR (x_0.toUInt8.toNat : Int) (([0, 1, 2, 2, 3, 3, 3, 3, 4, 4, 4, 4, 4, 4, 4, 4, 5, 5, 5, 5, 5, 5, 5, 5, 5, 5, 5, 5, 5, 5, 5, 5, 6, 6, 6, 6, 6, 6, 6, 6, 6, 6, 6, 6, 6, 6, 6, 6, 6, 6, 6, 6, 6, 6, 6, 6, 6, 6, 6, 6, 6, 6, 6, 6, 7, 7, 7, 7, 7, 7, 7, 7, 7, 7, 7, 7, 7, 7, 7, 7, 7, 7, 7, 7, 7, 7, 7, 7, 7, 7, 7, 7, 7, 7, 7, 7, 7, 7, 7, 7, 7, 7, 7, 7, 7, 7, 7, 7, 7, 7, 7, 7, 7, 7, 7, 7, 7, 7, 7, 7, 7, 7, 7, 7, 7, 7, 7, 7, 8, 8, 8, 8, 8, 8, 8, 8, 8, 8, 8, 8, 8, 8, 8, 8, 8, 8, 8, 8, 8, 8, 8, 8, 8, 8, 8, 8, 8, 8, 8, 8, 8, 8, 8, 8, 8, 8, 8, 8, 8, 8, 8, 8, 8, 8, 8, 8, 8, 8, 8, 8, 8, 8, 8, 8, 8, 8, 8, 8, 8, 8, 8, 8, 8, 8, 8, 8, 8, 8, 8, 8, 8, 8, 8, 8, 8, 8, 8, 8, 8, 8, 8, 8, 8, 8, 8, 8, 8, 8, 8, 8, 8, 8, 8, 8, 8, 8, 8, 8, 8, 8, 8, 8, 8, 8, 8, 8, 8, 8, 8, 8, 8, 8, 8, 8, 8, 8, 8, 8, 8, 8, 8, 8, 8, 8, 8, 8] : List UInt8).length) then
  some (((w64 (n_2 + ((([0, 1, 2, 2, 3, 3, 3, 3, 4, 4, 4, 4, 4, 4, 4, 4, 5, 5, 5, 5, 5, 5, 5, 5, 5, 5, 5, 5, 5, 5, 5, 5, 6, 6, 6, 6, 6, 6, 6, 6, 6, 6, 6, 6, 6, 6, 6, 6, 6, 6, 6, 6, 6, 6, 6, 6, 6, 6, 6, 6, 6, 6, 6, 6, 7, 7, 7, 7, 7, 7, 7, 7, 7, 7, 7, 7, 7, 7, 7, 7, 7, 7, 7, 7, 7, 7, 7, 7, 7, 7, 7, 7, 7, 7, 7, 7, 7, 7, 7, 7, 7, 7, 7, 7, 7, 7, 7, 7, 7, 7, 7, 7, 7, 7, 7, 7, 7, 7, 7, 7, 7, 7, 7, 7, 7, 7, 7, 7, 8, 8, 8, 8, 8, 8, 8, 8, 8, 8, 8, 8, 8, 8, 8, 8, 8, 8, 8, 8, 8, 8, 8, 8, 8, 8, 8, 8, 8, 8, 8, 8, 8, 8, 8, 8, 8, 8, 8, 8, 8, 8, 8, 8, 8, 8, 8, 8, 8, 8, 8, 8, 8, 8, 8, 8, 8, 8, 8, 8, 8, 8, 8, 8, 8, 8, 8, 8, 8, 8, 8, 8, 8, 8, 8, 8, 8, 8, 8, 8, 8, 8, 8, 8, 8, 8, 8, 8, 8, 8, 8, 8, 8, 8, 8, 8, 8, 8, 8, 8, 8, 8, 8, 8, 8, 8, 8, 8, 8, 8, 8, 8, 8, 8, 8, 8, 8, 8, 8, 8, 8, 8, 8, 8, 8, 8, 8, 8] : List UInt8).getD ((x_0.toUInt8.toNat : Int).toNat) 0).toNat : Int))), ()), (()))
  else none
noncomputable def math_bits_Len64_2 (N : Nat) (x_0 : UInt64) (n_2 : Int) : Option math_bits_Len64_R :=
  bif (decide ((256 : UInt64) ≤ x_0)) then
    math_bits_Len64_3 N (shr64 x_0 8) (w64 (n_2 + (8 : Int)))
  else
    math_bits_Len64_3 N x_0 n_2
noncomputable def math_bits_Len64_1 (N : Nat) (x_0 : UInt64) (n_2 : Int) : Option math_bits_Len64_R :=
  bif (decide ((65536 : UInt64) ≤ x_0)) then
    math_bits_Len64_2 N (shr64 x_0 16) (w64 (n_2 + (16 : Int)))
  else
    math_bits_Len64_2 N x_0 n_2
noncomputable def math_bits_Len64 (N : Nat) (x_0 : UInt64) : Option math_bits_Len64_R :=
  bif (decide ((4294967296 : UInt64) ≤ x_0)) then
    math_bits_Len64_1 N (shr64 x_0 32) (32 : Int)
  else
    math_bits_Len64_1 N x_0 (0 : Int)
noncomputable def math_bits_Len64_C (N : Nat) : Ctx := ⟨25, G_tys, [], G_globs⟩
noncomputable def math_bits_Len64_S0 : Spec := ⟨[.val .u64, .val .i64], []⟩
noncomputable def math_bits_Len64_S1 : Spec := ⟨[.val .u64], []⟩
noncomputable def math_bits_Len64_S2 : Spec := ⟨[.val .i64], []⟩
noncomputable def math_bits_Len64_K (_N : Nat) : XE → GS → Option math_bits_Len64_R := retK 0 [2] [false] math_bits_Len64_S2
noncomputable def math_bits_Len64_L : List Code := (bodyOf (some Tryd.f122))
theorem math_bits_Len64_3_b {E : Env} (N : Nat) (hb : Base Tryd.prog (math_bits_Len64_C N) E 0) : Blk Tryd.prog (math_bits_Len64_C N) E [0, 2] math_bits_Len64_S0 (math_bits_Len64_L.drop 7) (fun y => math_bits_Len64_3 N y.1.1 y.1.2.1) (math_bits_Len64_K N) :=
  Blk.chunkAt hb 2 (X := (math_bits_Len64_K N .normal)) (NxOk.end (by kernel_rfl)) rfl (fun x => by kernel_rfl)
theorem math_bits_Len64_2_b {E : Env} (N : Nat) (hb : Base Tryd.prog (math_bits_Len64_C N) E 0) : Blk Tryd.prog (math_bits_Len64_C N) E [0, 2] math_bits_Len64_S0 (math_bits_Len64_L.drop 5) (fun y => math_bits_Len64_2 N y.1.1 y.1.2.1) (math_bits_Len64_K N) :=
  Blk.chunkAt hb 2 (X := (goK 0 [0, 2] math_bits_Len64_S0 (fun y => math_bits_Len64_3 N y.1.1 y.1.2.1))) (NxOk.go hb (math_bits_Len64_3_b N hb)) rfl (fun x => by kernel_rfl)
theorem math_bits_Len64_1_b {E : Env} (N : Nat) (hb : Base Tryd.prog (math_bits_Len64_C N) E 0) : Blk Tryd.prog (math_bits_Len64_C N) E [0, 2] math_bits_Len64_S0 (math_bits_Len64_L.drop 3) (fun y => math_bits_Len64_1 N y.1.1 y.1.2.1) (math_bits_Len64_K N) :=
  Blk.chunkAt hb 2 (X := (goK 0 [0, 2] math_bits_Len64_S0 (fun y => math_bits_Len64_2 N y.1.1 y.1.2.1))) (NxOk.go hb (math_bits_Len64_2_b N hb)) rfl (fun x => by kernel_rfl)
theorem math_bits_Len64_b {E : Env} (N : Nat) (hb : Base Tryd.prog (math_bits_Len64_C N) E 0) : Blk Tryd.prog (math_bits_Len64_C N) E (List.range math_bits_Len64_S1.ks.length) math_bits_Len64_S1 (math_bits_Len64_L.drop 0) (fun y => math_bits_Len64 N y.1.1) (math_bits_Len64_K N) :=
  Blk.chunkAt hb 3 (X := (goK 0 [0, 2] math_bits_Len64_S0 (fun y => math_bits_Len64_1 N y.1.1 y.1.2.1))) (NxOk.go hb (math_bits_Len64_1_b N hb)) rfl (fun x => by kernel_rfl)
noncomputable def math_bits_Len64_ctr (N : Nat) : Ctr := ⟨math_bits_Len64_S1, math_bits_Len64_S2.un [false], 0, (fun y => math_bits_Len64 N y.1.1)⟩
theorem math_bits_Len64_ctrs (N : Nat) : CtrsOk Tryd.prog (math_bits_Len64_C N) := ctrs_nil rfl
theorem math_bits_Len64_ok (N : Nat) : Ctr.ok Tryd.prog G_globs 122 (math_bits_Len64_ctr N) :=
  ctr_fn (Γ := math_bits_Len64_C N) (rfit := math_bits_Len64_S2) (bs := [false]) (res := [2]) (by kernel_rfl) (tys_ok G_tys_ok) (math_bits_Len64_ctrs N) Tryd.func122 (by kernel_rfl) (by kernel_rfl) Tryd.ntmps122 (by kernel_rfl) (by kernel_rfl) (by kernel_rfl) (by kernel_rfl) (fun E hb => math_bits_Len64_b N hb)
end Go.Proofs.YtlamdneheilahaaDoor
namespace Go.Proofs.YtlamdneheilahaaDoor
open Go
set_option maxRecDepth 100000
set_option linter.unusedVariables false
/-! math/bits.LeadingZeros64 -/
abbrev math_bits_LeadingZeros64_R : Type := ((Int × Unit) × (Unit))
noncomputable def math_bits_LeadingZeros64 (N : Nat) (x_0 : UInt64) : Option math_bits_LeadingZeros64_R :=
  Option.bind (math_bits_Len64 N x_0) fun y1 =>
  some (((w64 ((64 : Int) - y1.1.1)), ()), (()))
noncomputable def math_bits_LeadingZeros64_C (N : Nat) : Ctx := ⟨6, G_tys, [(122, math_bits_Len64_ctr N)], G_globs⟩
noncomputable def math_bits_LeadingZeros64_S0 : Spec := ⟨[.val .u64], []⟩
noncomputable def math_bits_LeadingZeros64_S1 : Spec := ⟨[.val .i64], []⟩
noncomputable def math_bits_LeadingZeros64_K (_N : Nat) : XE → GS → Option math_bits_LeadingZeros64_R := retK 0 [2] [false] math_bits_LeadingZeros64_S1
noncomputable def math_bits_LeadingZeros64_L : List Code := (bodyOf (some Tryd.f121))
theorem math_bits_LeadingZeros64_b {E : Env} (N : Nat) (hb : Base Tryd.prog (math_bits_LeadingZeros64_C N) E 0) : Blk Tryd.prog (math_bits_LeadingZeros64_C N) E (List.range math_bits_LeadingZeros64_S0.ks.length) math_bits_LeadingZeros64_S0 (math_bits_LeadingZeros64_L.drop 0) (fun y => math_bits_LeadingZeros64 N y.1.1) (math_bits_LeadingZeros64_K N) :=
  Blk.chunkAt hb 3 (X := (math_bits_LeadingZeros64_K N .normal)) (NxOk.end (by kernel_rfl)) rfl (fun x => by kernel_rfl)
noncomputable def math_bits_LeadingZeros64_ctr (N : Nat) : Ctr := ⟨math_bits_LeadingZeros64_S0, math_bits_LeadingZeros64_S1.un [false], 0, (fun y => math_bits_LeadingZeros64 N y.1.1)⟩
theorem math_bits_LeadingZeros64_ctrs (N : Nat) : CtrsOk Tryd.prog (math_bits_LeadingZeros64_C N) := ctrs_of (Γ := math_bits_LeadingZeros64_C N) (by
  intro p hp
  simp only [math_bits_LeadingZeros64_C, List.mem_cons, List.not_mem_nil, or_false] at hp
  rcases hp with rfl
  · exact math_bits_Len64_ok N)
theorem math_bits_LeadingZeros64_ok (N : Nat) : Ctr.ok Tryd.prog G_globs 121 (math_bits_LeadingZeros64_ctr N) :=
  ctr_fn (Γ := math_bits_LeadingZeros64_C N) (rfit := math_bits_LeadingZeros64_S1) (bs := [false]) (res := [2]) (by kernel_rfl) (tys_ok G_tys_ok) (math_bits_LeadingZeros64_ctrs N) Tryd.func121 (by kernel_rfl) (by kernel_rfl) Tryd.ntmps121 (by kernel_rfl) (by kernel_rfl) (by kernel_rfl) (by kernel_rfl) (fun E hb => math_bits_LeadingZeros64_b N hb)
end Go.Proofs.YtlamdneheilahaaDoor
namespace Go.Proofs.YtlamdneheilahaaDoor
open Go
set_option maxRecDepth 100000
set_option linter.unusedVariables false
/-! math/bits.Div64 -/
abbrev math_bits_Div64_R : Type := ((UInt64 × UInt64 × Unit) × (Unit))
noncomputable def math_bits_Div64_5 (N : Nat) (y_2 : UInt64) (s_8 : UInt64) (yn1_9 : UInt64) (yn0_10 : UInt64) (un32_11 : UInt64) (un1_13 : UInt64) (un0_14 : UInt64) (q1_15 : UInt64) (rhat_16 : UInt64) (t_78 : Bool) : Option (Lo ((UInt64 × UInt64 × UInt64 × UInt64 × UInt64 × UInt64 × UInt64 × UInt64 × UInt64 × Unit) × (Unit)) ((UInt64 × UInt64 × UInt64 × UInt64 × UInt64 × UInt64 × UInt64 × UInt64 × Unit) × (Unit)) math_bits_Div64_R) :=
  bif t_78 then
    let x22 := q1_15 - (1 : UInt64)
    let x23 := rhat_16 + yn1_9
    bif (decide ((4294967296 : UInt64) ≤ x23)) then
      some (.br ((y_2, s_8, yn1_9, yn0_10, un32_11, un1_13, un0_14, x22, ()), (())))
    else
      some (.go ((y_2, s_8, yn1_9, yn0_10, un32_11, un1_13, un0_14, x22, x23, ()), (())))
  else
    some (.br ((y_2, s_8, yn1_9, yn0_10, un32_11, un1_13, un0_14, q1_15, ()), (())))
noncomputable def math_bits_Div64_s4 (N : Nat) (y_2 : UInt64) (s_8 : UInt64) (yn1_9 : UInt64) (yn0_10 : UInt64) (un32_11 : UInt64) (un1_13 : UInt64) (un0_14 : UInt64) (q1_15 : UInt64) (rhat_16 : UInt64) : Option (Lo ((UInt64 × UInt64 × UInt64 × UInt64 × UInt64 × UInt64 × UInt64 × UInt64 × UInt64 × Unit) × (Unit)) ((UInt64 × UInt64 × UInt64 × UInt64 × UInt64 × UInt64 × UInt64 × UInt64 × Unit) × (Unit)) math_bits_Div64_R) :=
  bif (decide ((4294967296 : UInt64) ≤ q1_15)) then
    math_bits_Div64_5 N y_2 s_8 yn1_9 yn0_10 un32_11 un1_13 un0_14 q1_15 rhat_16 true
  else
    math_bits_Div64_5 N y_2 s_8 yn1_9 yn0_10 un32_11 un1_13 un0_14 q1_15 rhat_16 (decide ((((4294967296 : UInt64) * rhat_16) + un1_13) < (q1_15 * yn0_10)))
noncomputable def math_bits_Div64_9 (N : Nat) (y_2 : UInt64) (s_8 : UInt64) (yn1_9 : UInt64) (yn0_10 : UInt64) (un0_14 : UInt64) (q1_15 : UInt64) (rhat_16 : UInt64) (un21_17 : UInt64) (q0_18 : UInt64) (t_113 : Bool) : Option (Lo ((UInt64 × UInt64 × UInt64 × UInt64 × UInt64 × UInt64 × UInt64 × UInt64 × UInt64 × Unit) × (Unit)) ((UInt64 × UInt64 × UInt64 × UInt64 × UInt64 × UInt64 × Unit) × (Unit)) math_bits_Div64_R) :=
  bif t_113 then
    let x37 := q0_18 - (1 : UInt64)
    let x38 := rhat_16 + yn1_9
    bif (decide ((4294967296 : UInt64) ≤ x38)) then
      some (.br ((y_2, s_8, un0_14, q1_15, un21_17, x37, ()), (())))
    else
      some (.go ((y_2, s_8, yn1_9, yn0_10, un0_14, q1_15, x38, un21_17, x37, ()), (())))
  else
    some (.br ((y_2, s_8, un0_14, q1_15, un21_17, q0_18, ()), (())))
noncomputable def math_bits_Div64_s8 (N : Nat) (y_2 : UInt64) (s_8 : UInt64) (yn1_9 : UInt64) (yn0_10 : UInt64) (un0_14 : UInt64) (q1_15 : UInt64) (rhat_16 : UInt64) (un21_17 : UInt64) (q0_18 : UInt64) : Option (Lo ((UInt64 × UInt64 × UInt64 × UInt64 × UInt64 × UInt64 × UInt64 × UInt64 × UInt64 × Unit) × (Unit)) ((UInt64 × UInt64 × UInt64 × UInt64 × UInt64 × UInt64 × Unit) × (Unit)) math_bits_Div64_R) :=
  bif (decide ((4294967296 : UInt64) ≤ q0_18)) then
    math_bits_Div64_9 N y_2 s_8 yn1_9 yn0_10 un0_14 q1_15 rhat_16 un21_17 q0_18 true
  else
    math_bits_Div64_9 N y_2 s_8 yn1_9 yn0_10 un0_14 q1_15 rhat_16 un21_17 q0_18 (decide ((((4294967296 : UInt64) * rhat_16) + un0_14) < (q0_18 * yn0_10)))
noncomputable def math_bits_Div64_10 (N : Nat) (y_2 : UInt64) (s_8 : UInt64) (un0_14 : UInt64) (q1_15 : UInt64) (un21_17 : UInt64) (q0_18 : UInt64) : Option math_bits_Div64_R :=
  some ((((q1_15 * (4294967296 : UInt64)) + q0_18), (shr64 (((un21_17 * (4294967296 : UInt64)) + un0_14) - (q0_18 * y_2)) s_8.toNat), ()), (()))
noncomputable def math_bits_Div64_7 (N : Nat) (y_2 : UInt64) (s_8 : UInt64) (yn1_9 : UInt64) (yn0_10 : UInt64) (un0_14 : UInt64) (q1_15 : UInt64) (rhat_16 : UInt64) (un21_17 : UInt64) (q0_18 : UInt64) : Option math_bits_Div64_R :=
  loopK N (fun y => math_bits_Div64_s8 N y.1.1 y.1.2.1 y.1.2.2.1 y.1.2.2.2.1 y.1.2.2.2.2.1 y.1.2.2.2.2.2.1 y.1.2.2.2.2.2.2.1 y.1.2.2.2.2.2.2.2.1 y.1.2.2.2.2.2.2.2.2.1) (fun (e : ((UInt64 × UInt64 × UInt64 × UInt64 × UInt64 × UInt64 × Unit) × (Unit))) => math_bits_Div64_10 N e.1.1 e.1.2.1 e.1.2.2.1 e.1.2.2.2.1 e.1.2.2.2.2.1 e.1.2.2.2.2.2.1) ((y_2, s_8, yn1_9, yn0_10, un0_14, q1_15, rhat_16, un21_17, q0_18, ()), (()))
noncomputable def math_bits_Div64_6 (N : Nat) (y_2 : UInt64) (s_8 : UInt64) (yn1_9 : UInt64) (yn0_10 : UInt64) (un32_11 : UInt64) (un1_13 : UInt64) (un0_14 : UInt64) (q1_15 : UInt64) : Option math_bits_Div64_R :=
  let x29 := un32_11 * (4294967296 : UInt64)
  bif !(decide (yn1_9 = 0)) then
  math_bits_Div64_7 N y_2 s_8 yn1_9 yn0_10 un0_14 q1_15 (((x29 + un1_13) - (q1_15 * y_2)) - ((((x29 + un1_13) - (q1_15 * y_2)) / yn1_9) * yn1_9)) ((x29 + un1_13) - (q1_15 * y_2)) (((x29 + un1_13) - (q1_15 * y_2)) / yn1_9)
  else none
noncomputable def math_bits_Div64_3 (N : Nat) (y_2 : UInt64) (s_8 : UInt64) (yn1_9 : UInt64) (yn0_10 : UInt64) (un32_11 : UInt64) (un1_13 : UInt64) (un0_14 : UInt64) (q1_15 : UInt64) (rhat_16 : UInt64) : Option math_bits_Div64_R :=
  loopK N (fun y => math_bits_Div64_s4 N y.1.1 y.1.2.1 y.1.2.2.1 y.1.2.2.2.1 y.1.2.2.2.2.1 y.1.2.2.2.2.2.1 y.1.2.2.2.2.2.2.1 y.1.2.2.2.2.2.2.2.1 y.1.2.2.2.2.2.2.2.2.1) (fun (e : ((UInt64 × UInt64 × UInt64 × UInt64 × UInt64 × UInt64 × UInt64 × UInt64 × Unit) × (Unit))) => math_bits_Div64_6 N e.1.1 e.1.2.1 e.1.2.2.1 e.1.2.2.2.1 e.1.2.2.2.2.1 e.1.2.2.2.2.2.1 e.1.2.2.2.2.2.2.1 e.1.2.2.2.2.2.2.2.1) ((y_2, s_8, yn1_9, yn0_10, un32_11, un1_13, un0_14, q1_15, rhat_16, ()), (()))
noncomputable def math_bits_Div64_2 (N : Nat) (hi_0 : UInt64) (lo_1 : UInt64) (y_2 : UInt64) : Option math_bits_Div64_R :=
  bif (decide (hi_0 = (0 : UInt64))) then
    bif !(decide (y_2 = 0)) then
    bif !(decide (y_2 = 0)) then
    some (((lo_1 / y_2), (lo_1 % y_2), ()), (()))
    else none
    else none
  else
    Option.bind (math_bits_LeadingZeros64 N y_2) fun y6 =>
    let x8 := shl64 y_2 (iu64 y6.1.1).toNat
    let x11 := shl64 hi_0 (iu64 y6.1.1).toNat
    let x13 := shr64 lo_1 ((64 : UInt64) - (iu64 y6.1.1)).toNat
    let x15 := shl64 lo_1 (iu64 y6.1.1).toNat
    bif !(decide ((shr64 x8 32) = 0)) then
    math_bits_Div64_3 N x8 (iu64 y6.1.1) (shr64 x8 32) (x8 &&& (4294967295 : UInt64)) (x11 ||| x13) (shr64 x15 32) (x15 &&& (4294967295 : UInt64)) ((x11 ||| x13) / (shr64 x8 32)) ((x11 ||| x13) - (((x11 ||| x13) / (shr64 x8 32)) * (shr64 x8 32)))
    else none
noncomputable def math_bits_Div64_1 (N : Nat) (hi_0 : UInt64) (lo_1 : UInt64) (y_2 : UInt64) : Option math_bits_Div64_R :=
  bif (decide (y_2 ≤ hi_0)) then
    none
  else
    math_bits_Div64_2 N hi_0 lo_1 y_2
noncomputable def math_bits_Div64 (N : Nat) (hi_0 : UInt64) (lo_1 : UInt64) (y_2 : UInt64) : Option math_bits_Div64_R :=
  bif (decide (y_2 = (0 : UInt64))) then
    none
  else
    math_bits_Div64_1 N hi_0 lo_1 y_2
noncomputable def math_bits_Div64_C (N : Nat) : Ctx := ⟨135, G_tys, [(121, math_bits_LeadingZeros64_ctr N)], G_globs⟩
noncomputable def math_bits_Div64_S0 : Spec := ⟨[.val .u64, .val .u64, .val .u64, .val .u64, .val .u64, .val .u64, .val .u64, .val .u64, .val .u64, .val .bool], []⟩
noncomputable def math_bits_Div64_S1 : Spec := ⟨[.val .u64, .val .u64, .val .u64, .val .u64, .val .u64, .val .u64, .val .u64, .val .u64, .val .u64], []⟩
noncomputable def math_bits_Div64_S2 : Spec := ⟨[.val .u64, .val .u64, .val .u64, .val .u64, .val .u64, .val .u64], []⟩
noncomputable def math_bits_Div64_S3 : Spec := ⟨[.val .u64, .val .u64, .val .u64, .val .u64, .val .u64, .val .u64, .val .u64, .val .u64], []⟩
noncomputable def math_bits_Div64_S4 : Spec := ⟨[.val .u64, .val .u64, .val .u64], []⟩
noncomputable def math_bits_Div64_S5 : Spec := ⟨[.val .u64, .val .u64], []⟩
noncomputable def math_bits_Div64_K (_N : Nat) : XE → GS → Option math_bits_Div64_R := retK 0 [6, 7] [false, false] math_bits_Div64_S5
noncomputable def math_bits_Div64_L : List Code := (bodyOf (some Tryd.f119))
noncomputable def math_bits_Div64_L4 : List Code := (loopOf (math_bits_Div64_L[17]?))
noncomputable def math_bits_Div64_L8 : List Code := (loopOf (math_bits_Div64_L[21]?))
noncomputable def math_bits_Div64_K4 (N : Nat) : XE → GS → Option (Lo ((UInt64 × UInt64 × UInt64 × UInt64 × UInt64 × UInt64 × UInt64 × UInt64 × UInt64 × Unit) × (Unit)) ((UInt64 × UInt64 × UInt64 × UInt64 × UInt64 × UInt64 × UInt64 × UInt64 × Unit) × (Unit)) math_bits_Div64_R) := roundK (some 0) (fit 0 [2, 8, 9, 10, 11, 13, 14, 15, 16] math_bits_Div64_S1) (fit 0 [2, 8, 9, 10, 11, 13, 14, 15] math_bits_Div64_S3) (math_bits_Div64_K N)
noncomputable def math_bits_Div64_K8 (N : Nat) : XE → GS → Option (Lo ((UInt64 × UInt64 × UInt64 × UInt64 × UInt64 × UInt64 × UInt64 × UInt64 × UInt64 × Unit) × (Unit)) ((UInt64 × UInt64 × UInt64 × UInt64 × UInt64 × UInt64 × Unit) × (Unit)) math_bits_Div64_R) := roundK (some 2) (fit 0 [2, 8, 9, 10, 14, 15, 16, 17, 18] math_bits_Div64_S1) (fit 0 [2, 8, 14, 15, 17, 18] math_bits_Div64_S2) (math_bits_Div64_K N)
theorem math_bits_Div64_5_b {E : Env} (N : Nat) (hb : Base Tryd.prog (math_bits_Div64_C N) E 0) : Blk Tryd.prog (math_bits_Div64_C N) E [2, 8, 9, 10, 11, 13, 14, 15, 16, 78] math_bits_Div64_S0 (math_bits_Div64_L4.drop 1) (fun y => math_bits_Div64_5 N y.1.1 y.1.2.1 y.1.2.2.1 y.1.2.2.2.1 y.1.2.2.2.2.1 y.1.2.2.2.2.2.1 y.1.2.2.2.2.2.2.1 y.1.2.2.2.2.2.2.2.1 y.1.2.2.2.2.2.2.2.2.1 y.1.2.2.2.2.2.2.2.2.2.1) (math_bits_Div64_K4 N) :=
  Blk.chunkAt hb 2 (X := (math_bits_Div64_K4 N .normal)) (NxOk.end (by kernel_rfl)) rfl (fun x => by kernel_rfl)
theorem math_bits_Div64_s4_b {E : Env} (N : Nat) (hb : Base Tryd.prog (math_bits_Div64_C N) E 0) : Blk Tryd.prog (math_bits_Div64_C N) E [2, 8, 9, 10, 11, 13, 14, 15, 16] math_bits_Div64_S1 (math_bits_Div64_L4.drop 0) (fun y => math_bits_Div64_s4 N y.1.1 y.1.2.1 y.1.2.2.1 y.1.2.2.2.1 y.1.2.2.2.2.1 y.1.2.2.2.2.2.1 y.1.2.2.2.2.2.2.1 y.1.2.2.2.2.2.2.2.1 y.1.2.2.2.2.2.2.2.2.1) (math_bits_Div64_K4 N) :=
  Blk.chunkAt hb 1 (X := (goK 0 [2, 8, 9, 10, 11, 13, 14, 15, 16, 78] math_bits_Div64_S0 (fun y => math_bits_Div64_5 N y.1.1 y.1.2.1 y.1.2.2.1 y.1.2.2.2.1 y.1.2.2.2.2.1 y.1.2.2.2.2.2.1 y.1.2.2.2.2.2.2.1 y.1.2.2.2.2.2.2.2.1 y.1.2.2.2.2.2.2.2.2.1 y.1.2.2.2.2.2.2.2.2.2.1))) (NxOk.go hb (math_bits_Div64_5_b N hb)) rfl (fun x => by kernel_rfl)
theorem math_bits_Div64_9_b {E : Env} (N : Nat) (hb : Base Tryd.prog (math_bits_Div64_C N) E 0) : Blk Tryd.prog (math_bits_Div64_C N) E [2, 8, 9, 10, 14, 15, 16, 17, 18, 113] math_bits_Div64_S0 (math_bits_Div64_L8.drop 1) (fun y => math_bits_Div64_9 N y.1.1 y.1.2.1 y.1.2.2.1 y.1.2.2.2.1 y.1.2.2.2.2.1 y.1.2.2.2.2.2.1 y.1.2.2.2.2.2.2.1 y.1.2.2.2.2.2.2.2.1 y.1.2.2.2.2.2.2.2.2.1 y.1.2.2.2.2.2.2.2.2.2.1) (math_bits_Div64_K8 N) :=
  Blk.chunkAt hb 2 (X := (math_bits_Div64_K8 N .normal)) (NxOk.end (by kernel_rfl)) rfl (fun x => by kernel_rfl)
theorem math_bits_Div64_s8_b {E : Env} (N : Nat) (hb : Base Tryd.prog (math_bits_Div64_C N) E 0) : Blk Tryd.prog (math_bits_Div64_C N) E [2, 8, 9, 10, 14, 15, 16, 17, 18] math_bits_Div64_S1 (math_bits_Div64_L8.drop 0) (fun y => math_bits_Div64_s8 N y.1.1 y.1.2.1 y.1.2.2.1 y.1.2.2.2.1 y.1.2.2.2.2.1 y.1.2.2.2.2.2.1 y.1.2.2.2.2.2.2.1 y.1.2.2.2.2.2.2.2.1 y.1.2.2.2.2.2.2.2.2.1) (math_bits_Div64_K8 N) :=
  Blk.chunkAt hb 1 (X := (goK 0 [2, 8, 9, 10, 14, 15, 16, 17, 18, 113] math_bits_Div64_S0 (fun y => math_bits_Div64_9 N y.1.1 y.1.2.1 y.1.2.2.1 y.1.2.2.2.1 y.1.2.2.2.2.1 y.1.2.2.2.2.2.1 y.1.2.2.2.2.2.2.1 y.1.2.2.2.2.2.2.2.1 y.1.2.2.2.2.2.2.2.2.1 y.1.2.2.2.2.2.2.2.2.2.1))) (NxOk.go hb (math_bits_Div64_9_b N hb)) rfl (fun x => by kernel_rfl)
theorem math_bits_Div64_10_b {E : Env} (N : Nat) (hb : Base Tryd.prog (math_bits_Div64_C N) E 0) : Blk Tryd.prog (math_bits_Div64_C N) E [2, 8, 14, 15, 17, 18] math_bits_Div64_S2 (math_bits_Div64_L.drop 22) (fun y => math_bits_Div64_10 N y.1.1 y.1.2.1 y.1.2.2.1 y.1.2.2.2.1 y.1.2.2.2.2.1 y.1.2.2.2.2.2.1) (math_bits_Div64_K N) :=
  Blk.chunkAt hb 2 (X := (math_bits_Div64_K N .normal)) (NxOk.end (by kernel_rfl)) rfl (fun x => by kernel_rfl)
theorem math_bits_Div64_7_b {E : Env} (N : Nat) (hb : Base Tryd.prog (math_bits_Div64_C N) E 0) : Blk Tryd.prog (math_bits_Div64_C N) E [2, 8, 9, 10, 14, 15, 16, 17, 18] math_bits_Div64_S1 (math_bits_Div64_L.drop 21) (fun y => math_bits_Div64_7 N y.1.1 y.1.2.1 y.1.2.2.1 y.1.2.2.2.1 y.1.2.2.2.2.1 y.1.2.2.2.2.2.1 y.1.2.2.2.2.2.2.1 y.1.2.2.2.2.2.2.2.1 y.1.2.2.2.2.2.2.2.2.1) (math_bits_Div64_K N) :=
  Blk.loopAt (Nf := N) (hns := [2, 8, 9, 10, 14, 15, 16, 17, 18]) (ans := [2, 8, 14, 15, 17, 18]) (hc := math_bits_Div64_S1) (ac := math_bits_Div64_S2) (bid := 2) (step := (fun y => math_bits_Div64_s8 N y.1.1 y.1.2.1 y.1.2.2.1 y.1.2.2.2.1 y.1.2.2.2.2.1 y.1.2.2.2.2.2.1 y.1.2.2.2.2.2.2.1 y.1.2.2.2.2.2.2.2.1 y.1.2.2.2.2.2.2.2.2.1)) (J := (fun e => (goK 0 [2, 8, 14, 15, 17, 18] math_bits_Div64_S2 (fun y => math_bits_Div64_10 N y.1.1 y.1.2.1 y.1.2.2.1 y.1.2.2.2.1 y.1.2.2.2.2.1 y.1.2.2.2.2.2.1)) (math_bits_Div64_S2.st [2, 8, 14, 15, 17, 18] e))) hb (by kernel_rfl) (Blk.into (X := (goK 0 [2, 8, 14, 15, 17, 18] math_bits_Div64_S2 (fun y => math_bits_Div64_10 N y.1.1 y.1.2.1 y.1.2.2.1 y.1.2.2.2.1 y.1.2.2.2.2.1 y.1.2.2.2.2.2.1))) (NxOk.go hb (math_bits_Div64_10_b N hb)) (fun x => by kernel_rfl)) (math_bits_Div64_s8_b N hb) (fun x => by kernel_rfl)
theorem math_bits_Div64_6_b {E : Env} (N : Nat) (hb : Base Tryd.prog (math_bits_Div64_C N) E 0) : Blk Tryd.prog (math_bits_Div64_C N) E [2, 8, 9, 10, 11, 13, 14, 15] math_bits_Div64_S3 (math_bits_Div64_L.drop 18) (fun y => math_bits_Div64_6 N y.1.1 y.1.2.1 y.1.2.2.1 y.1.2.2.2.1 y.1.2.2.2.2.1 y.1.2.2.2.2.2.1 y.1.2.2.2.2.2.2.1 y.1.2.2.2.2.2.2.2.1) (math_bits_Div64_K N) :=
  Blk.chunkAt hb 3 (X := (goK 0 [2, 8, 9, 10, 14, 15, 16, 17, 18] math_bits_Div64_S1 (fun y => math_bits_Div64_7 N y.1.1 y.1.2.1 y.1.2.2.1 y.1.2.2.2.1 y.1.2.2.2.2.1 y.1.2.2.2.2.2.1 y.1.2.2.2.2.2.2.1 y.1.2.2.2.2.2.2.2.1 y.1.2.2.2.2.2.2.2.2.1))) (NxOk.go hb (math_bits_Div64_7_b N hb)) rfl (fun x => by kernel_rfl)
theorem math_bits_Div64_3_b {E : Env} (N : Nat) (hb : Base Tryd.prog (math_bits_Div64_C N) E 0) : Blk Tryd.prog (math_bits_Div64_C N) E [2, 8, 9, 10, 11, 13, 14, 15, 16] math_bits_Div64_S1 (math_bits_Div64_L.drop 17) (fun y => math_bits_Div64_3 N y.1.1 y.1.2.1 y.1.2.2.1 y.1.2.2.2.1 y.1.2.2.2.2.1 y.1.2.2.2.2.2.1 y.1.2.2.2.2.2.2.1 y.1.2.2.2.2.2.2.2.1 y.1.2.2.2.2.2.2.2.2.1) (math_bits_Div64_K N) :=
  Blk.loopAt (Nf := N) (hns := [2, 8, 9, 10, 11, 13, 14, 15, 16]) (ans := [2, 8, 9, 10, 11, 13, 14, 15]) (hc := math_bits_Div64_S1) (ac := math_bits_Div64_S3) (bid := 0) (step := (fun y => math_bits_Div64_s4 N y.1.1 y.1.2.1 y.1.2.2.1 y.1.2.2.2.1 y.1.2.2.2.2.1 y.1.2.2.2.2.2.1 y.1.2.2.2.2.2.2.1 y.1.2.2.2.2.2.2.2.1 y.1.2.2.2.2.2.2.2.2.1)) (J := (fun e => (goK 0 [2, 8, 9, 10, 11, 13, 14, 15] math_bits_Div64_S3 (fun y => math_bits_Div64_6 N y.1.1 y.1.2.1 y.1.2.2.1 y.1.2.2.2.1 y.1.2.2.2.2.1 y.1.2.2.2.2.2.1 y.1.2.2.2.2.2.2.1 y.1.2.2.2.2.2.2.2.1)) (math_bits_Div64_S3.st [2, 8, 9, 10, 11, 13, 14, 15] e))) hb (by kernel_rfl) (Blk.into (X := (goK 0 [2, 8, 9, 10, 11, 13, 14, 15] math_bits_Div64_S3 (fun y => math_bits_Div64_6 N y.1.1 y.1.2.1 y.1.2.2.1 y.1.2.2.2.1 y.1.2.2.2.2.1 y.1.2.2.2.2.2.1 y.1.2.2.2.2.2.2.1 y.1.2.2.2.2.2.2.2.1))) (NxOk.go hb (math_bits_Div64_6_b N hb)) (fun x => by kernel_rfl)) (math_bits_Div64_s4_b N hb) (fun x => by kernel_rfl)
theorem math_bits_Div64_2_b {E : Env} (N : Nat) (hb : Base Tryd.prog (math_bits_Div64_C N) E 0) : Blk Tryd.prog (math_bits_Div64_C N) E [0, 1, 2] math_bits_Div64_S4 (math_bits_Div64_L.drop 5) (fun y => math_bits_Div64_2 N y.1.1 y.1.2.1 y.1.2.2.1) (math_bits_Div64_K N) :=
  Blk.chunkAt hb 12 (X := (goK 0 [2, 8, 9, 10, 11, 13, 14, 15, 16] math_bits_Div64_S1 (fun y => math_bits_Div64_3 N y.1.1 y.1.2.1 y.1.2.2.1 y.1.2.2.2.1 y.1.2.2.2.2.1 y.1.2.2.2.2.2.1 y.1.2.2.2.2.2.2.1 y.1.2.2.2.2.2.2.2.1 y.1.2.2.2.2.2.2.2.2.1))) (NxOk.go hb (math_bits_Div64_3_b N hb)) rfl (fun x => by kernel_rfl)
theorem math_bits_Div64_1_b {E : Env} (N : Nat) (hb : Base Tryd.prog (math_bits_Div64_C N) E 0) : Blk Tryd.prog (math_bits_Div64_C N) E [0, 1, 2] math_bits_Div64_S4 (math_bits_Div64_L.drop 3) (fun y => math_bits_Div64_1 N y.1.1 y.1.2.1 y.1.2.2.1) (math_bits_Div64_K N) :=
  Blk.chunkAt hb 2 (X := (goK 0 [0, 1, 2] math_bits_Div64_S4 (fun y => math_bits_Div64_2 N y.1.1 y.1.2.1 y.1.2.2.1))) (NxOk.go hb (math_bits_Div64_2_b N hb)) rfl (fun x => by kernel_rfl)
theorem math_bits_Div64_b {E : Env} (N : Nat) (hb : Base Tryd.prog (math_bits_Div64_C N) E 0) : Blk Tryd.prog (math_bits_Div64_C N) E (List.range math_bits_Div64_S4.ks.length) math_bits_Div64_S4 (math_bits_Div64_L.drop 0) (fun y => math_bits_Div64 N y.1.1 y.1.2.1 y.1.2.2.1) (math_bits_Div64_K N) :=
  Blk.chunkAt hb 3 (X := (goK 0 [0, 1, 2] math_bits_Div64_S4 (fun y => math_bits_Div64_1 N y.1.1 y.1.2.1 y.1.2.2.1))) (NxOk.go hb (math_bits_Div64_1_b N hb)) rfl (fun x => by kernel_rfl)
noncomputable def math_bits_Div64_ctr (N : Nat) : Ctr := ⟨math_bits_Div64_S4, math_bits_Div64_S5.un [false, false], 0, (fun y => math_bits_Div64 N y.1.1 y.1.2.1 y.1.2.2.1)⟩
theorem math_bits_Div64_ctrs (N : Nat) : CtrsOk Tryd.prog (math_bits_Div64_C N) := ctrs_of (Γ := math_bits_Div64_C N) (by
  intro p hp
  simp only [math_bits_Div64_C, List.mem_cons, List.not_mem_nil, or_false] at hp
  rcases hp with rfl
  · exact math_bits_LeadingZeros64_ok N)
theorem math_bits_Div64_ok (N : Nat) : Ctr.ok Tryd.prog G_globs 119 (math_bits_Div64_ctr N) :=
  ctr_fn (Γ := math_bits_Div64_C N) (rfit := math_bits_Div64_S5) (bs := [false, false]) (res := [6, 7]) (by kernel_rfl) (tys_ok G_tys_ok) (math_bits_Div64_ctrs N) Tryd.func119 (by kernel_rfl) (by kernel_rfl) Tryd.ntmps119 (by kernel_rfl) (by kernel_rfl) (by kernel_rfl) (by kernel_rfl) (fun E hb => math_bits_Div64_b N hb)
end Go.Proofs.YtlamdneheilahaaDoor
namespace Go.Proofs.YtlamdneheilahaaDoor
open Go
set_option maxRecDepth 100000
set_option linter.unusedVariables false
/-! ipsecgate/group.Mul -/
abbrev group_Mul_R : Type := ((UInt64 × Unit) × (Unit))
noncomputable def group_Mul (N : Nat) (a_0 : UInt64) (b_1 : UInt64) : Option group_Mul_R :=
  Option.bind (math_bits_Mul64 N (a_0 % (4611686018427377339 : UInt64)) (b_1 % (4611686018427377339 : UInt64))) fun y3 =>
  Option.bind (math_bits_Div64 N y3.1.1 y3.1.2.1 (4611686018427377339 : UInt64)) fun y4 =>
  some ((y4.1.2.1, ()), (()))
noncomputable def group_Mul_C (N : Nat) : Ctx := ⟨24, G_tys, [(118, math_bits_Mul64_ctr N), (119, math_bits_Div64_ctr N)], G_globs⟩
noncomputable def group_Mul_S0 : Spec := ⟨[.val .u64, .val .u64], []⟩
noncomputable def group_Mul_S1 : Spec := ⟨[.val .u64], []⟩
noncomputable def group_Mul_K (_N : Nat) : XE → GS → Option group_Mul_R := retK 0 [4] [false] group_Mul_S1
noncomputable def group_Mul_L : List Code := (bodyOf (some Tryd.f116))
theorem group_Mul_b {E : Env} (N : Nat) (hb : Base Tryd.prog (group_Mul_C N) E 0) : Blk Tryd.prog (group_Mul_C N) E (List.range group_Mul_S0.ks.length) group_Mul_S0 (group_Mul_L.drop 0) (fun y => group_Mul N y.1.1 y.1.2.1) (group_Mul_K N) :=
  Blk.chunkAt hb 5 (X := (group_Mul_K N .normal)) (NxOk.end (by kernel_rfl)) rfl (fun x => by kernel_rfl)
noncomputable def group_Mul_ctr (N : Nat) : Ctr := ⟨group_Mul_S0, group_Mul_S1.un [false], 0, (fun y => group_Mul N y.1.1 y.1.2.1)⟩
theorem group_Mul_ctrs (N : Nat) : CtrsOk Tryd.prog (group_Mul_C N) := ctrs_of (Γ := group_Mul_C N) (by
  intro p hp
  simp only [group_Mul_C, List.mem_cons, List.not_mem_nil, or_false] at hp
  rcases hp with rfl | rfl
  · exact math_bits_Mul64_ok N
  · exact math_bits_Div64_ok N)
theorem group_Mul_ok (N : Nat) : Ctr.ok Tryd.prog G_globs 116 (group_Mul_ctr N) :=
  ctr_fn (Γ := group_Mul_C N) (rfit := group_Mul_S1) (bs := [false]) (res := [4]) (by kernel_rfl) (tys_ok G_tys_ok) (group_Mul_ctrs N) Tryd.func116 (by kernel_rfl) (by kernel_rfl) Tryd.ntmps116 (by kernel_rfl) (by kernel_rfl) (by kernel_rfl) (by kernel_rfl) (fun E hb => group_Mul_b N hb)
end Go.Proofs.YtlamdneheilahaaDoor
namespace Go.Proofs.YtlamdneheilahaaDoor
open Go
set_option maxRecDepth 100000
set_option linter.unusedVariables false
/-! ipsecgate/group.Power -/
abbrev group_Power_R : Type := ((UInt64 × Unit) × (Unit))
noncomputable def group_Power_s2 (N : Nat) (a_0 : UInt64) (e_1 : UInt64) (r_5 : UInt64) : Option (Lo ((UInt64 × UInt64 × UInt64 × Unit) × (Unit)) ((UInt64 × Unit) × (Unit)) group_Power_R) :=
  bif (decide ((0 : UInt64) < e_1)) then
    bif (decide ((e_1 &&& (1 : UInt64)) = (1 : UInt64))) then
      Option.bind (group_Mul N r_5 a_0) fun y4 =>
      Option.bind (group_Mul N a_0 a_0) fun y5 =>
      some (.go ((y5.1.1, (shr64 e_1 1), y4.1.1, ()), (())))
    else
      Option.bind (group_Mul N a_0 a_0) fun y7 =>
      some (.go ((y7.1.1, (shr64 e_1 1), r_5, ()), (())))
  else
    some (.br ((r_5, ()), (())))
noncomputable def group_Power_3 (N : Nat) (r_5 : UInt64) : Option group_Power_R :=
  some ((r_5, ()), (()))
noncomputable def group_Power_1 (N : Nat) (a_0 : UInt64) (e_1 : UInt64) (r_5 : UInt64) : Option group_Power_R :=
  loopK N (fun y => group_Power_s2 N y.1.1 y.1.2.1 y.1.2.2.1) (fun (e : ((UInt64 × Unit) × (Unit))) => group_Power_3 N e.1.1) ((a_0, e_1, r_5, ()), (()))
noncomputable def group_Power (N : Nat) (a_0 : UInt64) (e_1 : UInt64) : Option group_Power_R :=
  group_Power_1 N a_0 e_1 (1 : UInt64)
noncomputable def group_Power_C (N : Nat) : Ctx := ⟨20, G_tys, [(116, group_Mul_ctr N)], G_globs⟩
noncomputable def group_Power_S0 : Spec := ⟨[.val .u64, .val .u64, .val .u64], []⟩
noncomputable def group_Power_S1 : Spec := ⟨[.val .u64], []⟩
noncomputable def group_Power_S2 : Spec := ⟨[.val .u64, .val .u64], []⟩
noncomputable def group_Power_K (_N : Nat) : XE → GS → Option group_Power_R := retK 0 [4] [false] group_Power_S1
noncomputable def group_Power_L : List Code := (bodyOf (some Tryd.f102))
noncomputable def group_Power_L2 : List Code := (loopOf (group_Power_L[2]?))
noncomputable def group_Power_K2 (N : Nat) : XE → GS → Option (Lo ((UInt64 × UInt64 × UInt64 × Unit) × (Unit)) ((UInt64 × Unit) × (Unit)) group_Power_R) := roundK (some 0) (fit 0 [0, 1, 5] group_Power_S0) (fit 0 [5] group_Power_S1) (group_Power_K N)
theorem group_Power_s2_b {E : Env} (N : Nat) (hb : Base Tryd.prog (group_Power_C N) E 0) : Blk Tryd.prog (group_Power_C N) E [0, 1, 5] group_Power_S0 (group_Power_L2.drop 0) (fun y => group_Power_s2 N y.1.1 y.1.2.1 y.1.2.2.1) (group_Power_K2 N) :=
  Blk.chunkAt hb 4 (X := (group_Power_K2 N .normal)) (NxOk.end (by kernel_rfl)) rfl (fun x => by kernel_rfl)
theorem group_Power_3_b {E : Env} (N : Nat) (hb : Base Tryd.prog (group_Power_C N) E 0) : Blk Tryd.prog (group_Power_C N) E [5] group_Power_S1 (group_Power_L.drop 3) (fun y => group_Power_3 N y.1.1) (group_Power_K N) :=
  Blk.chunkAt hb 2 (X := (group_Power_K N .normal)) (NxOk.end (by kernel_rfl)) rfl (fun x => by kernel_rfl)
theorem group_Power_1_b {E : Env} (N : Nat) (hb : Base Tryd.prog (group_Power_C N) E 0) : Blk Tryd.prog (group_Power_C N) E [0, 1, 5] group_Power_S0 (group_Power_L.drop 2) (fun y => group_Power_1 N y.1.1 y.1.2.1 y.1.2.2.1) (group_Power_K N) :=
  Blk.loopAt (Nf := N) (hns := [0, 1, 5]) (ans := [5]) (hc := group_Power_S0) (ac := group_Power_S1) (bid := 0) (step := (fun y => group_Power_s2 N y.1.1 y.1.2.1 y.1.2.2.1)) (J := (fun e => (goK 0 [5] group_Power_S1 (fun y => group_Power_3 N y.1.1)) (group_Power_S1.st [5] e))) hb (by kernel_rfl) (Blk.into (X := (goK 0 [5] group_Power_S1 (fun y => group_Power_3 N y.1.1))) (NxOk.go hb (group_Power_3_b N hb)) (fun x => by kernel_rfl)) (group_Power_s2_b N hb) (fun x => by kernel_rfl)
theorem group_Power_b {E : Env} (N : Nat) (hb : Base Tryd.prog (group_Power_C N) E 0) : Blk Tryd.prog (group_Power_C N) E (List.range group_Power_S2.ks.length) group_Power_S2 (group_Power_L.drop 0) (fun y => group_Power N y.1.1 y.1.2.1) (group_Power_K N) :=
  Blk.chunkAt hb 2 (X := (goK 0 [0, 1, 5] group_Power_S0 (fun y => group_Power_1 N y.1.1 y.1.2.1 y.1.2.2.1))) (NxOk.go hb (group_Power_1_b N hb)) rfl (fun x => by kernel_rfl)
noncomputable def group_Power_ctr (N : Nat) : Ctr := ⟨group_Power_S2, group_Power_S1.un [false], 0, (fun y => group_Power N y.1.1 y.1.2.1)⟩
theorem group_Power_ctrs (N : Nat) : CtrsOk Tryd.prog (group_Power_C N) := ctrs_of (Γ := group_Power_C N) (by
  intro p hp
  simp only [group_Power_C, List.mem_cons, List.not_mem_nil, or_false] at hp
  rcases hp with rfl
  · exact group_Mul_ok N)
theorem group_Power_ok (N : Nat) : Ctr.ok Tryd.prog G_globs 102 (group_Power_ctr N) :=
  ctr_fn (Γ := group_Power_C N) (rfit := group_Power_S1) (bs := [false]) (res := [4]) (by kernel_rfl) (tys_ok G_tys_ok) (group_Power_ctrs N) Tryd.func102 (by kernel_rfl) (by kernel_rfl) Tryd.ntmps102 (by kernel_rfl) (by kernel_rfl) (by kernel_rfl) (by kernel_rfl) (fun E hb => group_Power_b N hb)
end Go.Proofs.YtlamdneheilahaaDoor
namespace Go.Proofs.YtlamdneheilahaaDoor
open Go
set_option maxRecDepth 100000
set_option linter.unusedVariables false
/-! ipsecgate/group.Public -/
abbrev group_Public_R : Type := ((UInt64 × Int × Unit) × (Unit))
noncomputable def group_Public (N : Nat) (secret_0 : UInt64) : Option group_Public_R :=
  Option.bind (group_valid N secret_0) fun y1 =>
  bif (!y1.1.1) then
    some (((0 : UInt64), (13 : Int), ()), (()))
  else
    Option.bind (group_Power N (4 : UInt64) secret_0) fun y3 =>
    some ((y3.1.1, (0 : Int), ()), (()))
noncomputable def group_Public_C (N : Nat) : Ctx := ⟨9, G_tys, [(101, group_valid_ctr N), (102, group_Power_ctr N)], G_globs⟩
noncomputable def group_Public_S0 : Spec := ⟨[.val .u64], []⟩
noncomputable def group_Public_S1 : Spec := ⟨[.val .u64, .val .i64], []⟩
noncomputable def group_Public_K (_N : Nat) : XE → GS → Option group_Public_R := retK 0 [2, 3] [false, false] group_Public_S1
noncomputable def group_Public_L : List Code := (bodyOf (some Tryd.f67))
theorem group_Public_b {E : Env} (N : Nat) (hb : Base Tryd.prog (group_Public_C N) E 0) : Blk Tryd.prog (group_Public_C N) E (List.range group_Public_S0.ks.length) group_Public_S0 (group_Public_L.drop 0) (fun y => group_Public N y.1.1) (group_Public_K N) :=
  Blk.chunkAt hb 5 (X := (group_Public_K N .normal)) (NxOk.end (by kernel_rfl)) rfl (fun x => by kernel_rfl)
noncomputable def group_Public_ctr (N : Nat) : Ctr := ⟨group_Public_S0, group_Public_S1.un [false, false], 0, (fun y => group_Public N y.1.1)⟩
theorem group_Public_ctrs (N : Nat) : CtrsOk Tryd.prog (group_Public_C N) := ctrs_of (Γ := group_Public_C N) (by
  intro p hp
  simp only [group_Public_C, List.mem_cons, List.not_mem_nil, or_false] at hp
  rcases hp with rfl | rfl
  · exact group_valid_ok N
  · exact group_Power_ok N)
theorem group_Public_ok (N : Nat) : Ctr.ok Tryd.prog G_globs 67 (group_Public_ctr N) :=
  ctr_fn (Γ := group_Public_C N) (rfit := group_Public_S1) (bs := [false, false]) (res := [2, 3]) (by kernel_rfl) (tys_ok G_tys_ok) (group_Public_ctrs N) Tryd.func67 (by kernel_rfl) (by kernel_rfl) Tryd.ntmps67 (by kernel_rfl) (by kernel_rfl) (by kernel_rfl) (by kernel_rfl) (fun E hb => group_Public_b N hb)
end Go.Proofs.YtlamdneheilahaaDoor
namespace Go.Proofs.YtlamdneheilahaaDoor
open Go
set_option maxRecDepth 100000
set_option linter.unusedVariables false
/-! ipsecgate/group.Bytes -/
abbrev group_Bytes_R : Type := ((Unit) × ((List UInt8) × Unit))
noncomputable def group_Bytes (N : Nat) (a_0 : UInt64) : Option group_Bytes_R :=
  Option.bind (wire_Put N a_0 (8 : Int) ([] : List UInt8)) fun y1 =>
  some ((()), (y1.2.1, ()))
noncomputable def group_Bytes_C (N : Nat) : Ctx := ⟨5, G_tys, [(26, wire_Put_ctr N)], G_globs⟩
noncomputable def group_Bytes_S0 : Spec := ⟨[.val .u64], []⟩
noncomputable def group_Bytes_S1 : Spec := ⟨[.row 0], [(.row 5 .u8, .pos 0)]⟩
noncomputable def group_Bytes_K (_N : Nat) : XE → GS → Option group_Bytes_R := retK 0 [2] [false] group_Bytes_S1
noncomputable def group_Bytes_L : List Code := (bodyOf (some Tryd.f104))
theorem group_Bytes_b {E : Env} (N : Nat) (hb : Base Tryd.prog (group_Bytes_C N) E 0) : Blk Tryd.prog (group_Bytes_C N) E (List.range group_Bytes_S0.ks.length) group_Bytes_S0 (group_Bytes_L.drop 0) (fun y => group_Bytes N y.1.1) (group_Bytes_K N) :=
  Blk.chunkAt hb 3 (X := (group_Bytes_K N .normal)) (NxOk.end (by kernel_rfl)) rfl (fun x => by kernel_rfl)
noncomputable def group_Bytes_ctr (N : Nat) : Ctr := ⟨group_Bytes_S0, group_Bytes_S1.un [false], 0, (fun y => group_Bytes N y.1.1)⟩
theorem group_Bytes_ctrs (N : Nat) : CtrsOk Tryd.prog (group_Bytes_C N) := ctrs_of (Γ := group_Bytes_C N) (by
  intro p hp
  simp only [group_Bytes_C, List.mem_cons, List.not_mem_nil, or_false] at hp
  rcases hp with rfl
  · exact wire_Put_ok N)
theorem group_Bytes_ok (N : Nat) : Ctr.ok Tryd.prog G_globs 104 (group_Bytes_ctr N) :=
  ctr_fn (Γ := group_Bytes_C N) (rfit := group_Bytes_S1) (bs := [false]) (res := [2]) (by kernel_rfl) (tys_ok G_tys_ok) (group_Bytes_ctrs N) Tryd.func104 (by kernel_rfl) (by kernel_rfl) Tryd.ntmps104 (by kernel_rfl) (by kernel_rfl) (by kernel_rfl) (by kernel_rfl) (fun E hb => group_Bytes_b N hb)
end Go.Proofs.YtlamdneheilahaaDoor
namespace Go.Proofs.YtlamdneheilahaaDoor
open Go
set_option maxRecDepth 100000
set_option linter.unusedVariables false
/-! ipsecgate/group.Element -/
abbrev group_Element_R : Type := ((Bool × Unit) × (Unit))
noncomputable def group_Element (N : Nat) (a_0 : UInt64) : Option group_Element_R :=
  bif (decide ((2 : UInt64) ≤ a_0)) then
    bif (decide (a_0 < (4611686018427377339 : UInt64))) then
      Option.bind (group_Power N a_0 (2305843009213688669 : UInt64)) fun y3 =>
      some (((decide (y3.1.1 = (1 : UInt64))), ()), (()))
    else
      some ((false, ()), (()))
  else
    some ((false, ()), (()))
noncomputable def group_Element_C (N : Nat) : Ctx := ⟨14, G_tys, [(102, group_Power_ctr N)], G_globs⟩
noncomputable def group_Element_S0 : Spec := ⟨[.val .u64], []⟩
noncomputable def group_Element_S1 : Spec := ⟨[.val .bool], []⟩
noncomputable def group_Element_K (_N : Nat) : XE → GS → Option group_Element_R := retK 0 [2] [false] group_Element_S1
noncomputable def group_Element_L : List Code := (bodyOf (some Tryd.f103))
theorem group_Element_b {E : Env} (N : Nat) (hb : Base Tryd.prog (group_Element_C N) E 0) : Blk Tryd.prog (group_Element_C N) E (List.range group_Element_S0.ks.length) group_Element_S0 (group_Element_L.drop 0) (fun y => group_Element N y.1.1) (group_Element_K N) :=
  Blk.chunkAt hb 3 (X := (group_Element_K N .normal)) (NxOk.end (by kernel_rfl)) rfl (fun x => by kernel_rfl)
noncomputable def group_Element_ctr (N : Nat) : Ctr := ⟨group_Element_S0, group_Element_S1.un [false], 0, (fun y => group_Element N y.1.1)⟩
theorem group_Element_ctrs (N : Nat) : CtrsOk Tryd.prog (group_Element_C N) := ctrs_of (Γ := group_Element_C N) (by
  intro p hp
  simp only [group_Element_C, List.mem_cons, List.not_mem_nil, or_false] at hp
  rcases hp with rfl
  · exact group_Power_ok N)
theorem group_Element_ok (N : Nat) : Ctr.ok Tryd.prog G_globs 103 (group_Element_ctr N) :=
  ctr_fn (Γ := group_Element_C N) (rfit := group_Element_S1) (bs := [false]) (res := [2]) (by kernel_rfl) (tys_ok G_tys_ok) (group_Element_ctrs N) Tryd.func103 (by kernel_rfl) (by kernel_rfl) Tryd.ntmps103 (by kernel_rfl) (by kernel_rfl) (by kernel_rfl) (by kernel_rfl) (fun E hb => group_Element_b N hb)
end Go.Proofs.YtlamdneheilahaaDoor
namespace Go.Proofs.YtlamdneheilahaaDoor
open Go
set_option maxRecDepth 100000
set_option linter.unusedVariables false
/-! ipsecgate/group.Shared -/
abbrev group_Shared_R : Type := ((Int × Unit) × ((List UInt8) × Unit))
noncomputable def group_Shared_1 (N : Nat) (secret_0 : UInt64) (public_1 : UInt64) (t_13 : Bool) : Option group_Shared_R :=
  bif t_13 then
    some (((13 : Int), ()), (([] : List UInt8), ()))
  else
    Option.bind (group_Power N public_1 secret_0) fun y3 =>
    Option.bind (group_Bytes N y3.1.1) fun y4 =>
    some (((0 : Int), ()), (y4.2.1, ()))
noncomputable def group_Shared (N : Nat) (secret_0 : UInt64) (public_1 : UInt64) : Option group_Shared_R :=
  Option.bind (group_valid N secret_0) fun y1 =>
  bif (!y1.1.1) then
    group_Shared_1 N secret_0 public_1 true
  else
    Option.bind (group_Element N public_1) fun y5 =>
    group_Shared_1 N secret_0 public_1 (!y5.1.1)
noncomputable def group_Shared_C (N : Nat) : Ctx := ⟨18, G_tys, [(101, group_valid_ctr N), (102, group_Power_ctr N), (104, group_Bytes_ctr N), (103, group_Element_ctr N)], G_globs⟩
noncomputable def group_Shared_S0 : Spec := ⟨[.val .u64, .val .u64, .val .bool], []⟩
noncomputable def group_Shared_S1 : Spec := ⟨[.val .u64, .val .u64], []⟩
noncomputable def group_Shared_S2 : Spec := ⟨[.row 0, .val .i64], [(.row 5 .u8, .pos 0)]⟩
noncomputable def group_Shared_K (_N : Nat) : XE → GS → Option group_Shared_R := retK 0 [4, 5] [false, false] group_Shared_S2
noncomputable def group_Shared_L : List Code := (bodyOf (some Tryd.f68))
theorem group_Shared_1_b {E : Env} (N : Nat) (hb : Base Tryd.prog (group_Shared_C N) E 0) : Blk Tryd.prog (group_Shared_C N) E [0, 1, 13] group_Shared_S0 (group_Shared_L.drop 2) (fun y => group_Shared_1 N y.1.1 y.1.2.1 y.1.2.2.1) (group_Shared_K N) :=
  Blk.chunkAt hb 3 (X := (group_Shared_K N .normal)) (NxOk.end (by kernel_rfl)) rfl (fun x => by kernel_rfl)
theorem group_Shared_b {E : Env} (N : Nat) (hb : Base Tryd.prog (group_Shared_C N) E 0) : Blk Tryd.prog (group_Shared_C N) E (List.range group_Shared_S1.ks.length) group_Shared_S1 (group_Shared_L.drop 0) (fun y => group_Shared N y.1.1 y.1.2.1) (group_Shared_K N) :=
  Blk.chunkAt hb 2 (X := (goK 0 [0, 1, 13] group_Shared_S0 (fun y => group_Shared_1 N y.1.1 y.1.2.1 y.1.2.2.1))) (NxOk.go hb (group_Shared_1_b N hb)) rfl (fun x => by kernel_rfl)
noncomputable def group_Shared_ctr (N : Nat) : Ctr := ⟨group_Shared_S1, group_Shared_S2.un [false, false], 0, (fun y => group_Shared N y.1.1 y.1.2.1)⟩
theorem group_Shared_ctrs (N : Nat) : CtrsOk Tryd.prog (group_Shared_C N) := ctrs_of (Γ := group_Shared_C N) (by
  intro p hp
  simp only [group_Shared_C, List.mem_cons, List.not_mem_nil, or_false] at hp
  rcases hp with rfl | rfl | rfl | rfl
  · exact group_valid_ok N
  · exact group_Power_ok N
  · exact group_Bytes_ok N
  · exact group_Element_ok N)
theorem group_Shared_ok (N : Nat) : Ctr.ok Tryd.prog G_globs 68 (group_Shared_ctr N) :=
  ctr_fn (Γ := group_Shared_C N) (rfit := group_Shared_S2) (bs := [false, false]) (res := [4, 5]) (by kernel_rfl) (tys_ok G_tys_ok) (group_Shared_ctrs N) Tryd.func68 (by kernel_rfl) (by kernel_rfl) Tryd.ntmps68 (by kernel_rfl) (by kernel_rfl) (by kernel_rfl) (by kernel_rfl) (fun E hb => group_Shared_b N hb)
end Go.Proofs.YtlamdneheilahaaDoor
namespace Go.Proofs.YtlamdneheilahaaDoor
open Go
set_option maxRecDepth 100000
set_option linter.unusedVariables false
/-! (*ipsecgate/ipsecgatemake.Codes).Bytes -/
abbrev make_Codes_Bytes_R : Type := ((Unit) × (((List UInt8) × (Int × Unit)) × (List UInt8) × Unit))
noncomputable def make_Codes_Bytes_s2 (N : Nat) (n_1 : Int) (i_6 : Int) (p0 : ((List UInt8) × (Int × Unit))) (out_5 : (List UInt8)) : Option (Lo ((Int × Int × Unit) × (((List UInt8) × (Int × Unit)) × (List UInt8) × Unit)) ((Unit) × (((List UInt8) × (Int × Unit)) × (List UInt8) × Unit)) make_Codes_Bytes_R) :=
  bif (decide (i_6 < n_1)) then
    Option.bind (make_Codes_Next N (256 : Int) p0) fun y2 =>
    let x4 := w64 (y2.1.1 + (w64 (i_6 * (7 : Int))))
    bif room (out_5.length + ([iu8 x4] : List UInt8).length) 1 then
    some (.go ((n_1, (w64 (i_6 + (1 : Int))), ()), (y2.2.1, (out_5 ++ ([iu8 x4] : List UInt8)), ())))
    else none
  else
    some (.br ((()), (p0, out_5, ())))
noncomputable def make_Codes_Bytes_3 (N : Nat) (p0 : ((List UInt8) × (Int × Unit))) (out_5 : (List UInt8)) : Option make_Codes_Bytes_R :=
  some ((()), (p0, out_5, ()))
noncomputable def make_Codes_Bytes_1 (N : Nat) (n_1 : Int) (i_6 : Int) (p0 : ((List UInt8) × (Int × Unit))) (out_5 : (List UInt8)) : Option make_Codes_Bytes_R :=
  loopK N (fun y => make_Codes_Bytes_s2 N y.1.1 y.1.2.1 y.2.1 y.2.2.1) (fun (e : ((Unit) × (((List UInt8) × (Int × Unit)) × (List UInt8) × Unit))) => make_Codes_Bytes_3 N e.2.1 e.2.2.1) ((n_1, i_6, ()), (p0, out_5, ()))
noncomputable def make_Codes_Bytes (N : Nat) (n_1 : Int) (c_0 : ((List UInt8) × (Int × Unit))) : Option make_Codes_Bytes_R :=
  make_Codes_Bytes_1 N n_1 (0 : Int) c_0 ([] : List UInt8)
noncomputable def make_Codes_Bytes_C (N : Nat) : Ctx := ⟨22, G_tys, [(43, make_Codes_Next_ctr N)], G_globs⟩
noncomputable def make_Codes_Bytes_S0 : Spec := ⟨[.ref 0 (.pair (.sl .u8) (.pair .i64 .unit)), .val .i64, .row 1, .val .i64], [(.box 100 (.pair (.sl .u8) (.pair .i64 .unit)), .fix 0), (.row 5 .u8, .pos 2)]⟩
noncomputable def make_Codes_Bytes_S1 : Spec := ⟨[.row 1], [(.box 100 (.pair (.sl .u8) (.pair .i64 .unit)), .fix 0), (.row 5 .u8, .pos 0)]⟩
noncomputable def make_Codes_Bytes_S2 : Spec := ⟨[.ref 0 (.pair (.sl .u8) (.pair .i64 .unit)), .val .i64], [(.box 100 (.pair (.sl .u8) (.pair .i64 .unit)), .pos 0)]⟩
noncomputable def make_Codes_Bytes_K (_N : Nat) : XE → GS → Option make_Codes_Bytes_R := retK 1 [4] [false] make_Codes_Bytes_S1
noncomputable def make_Codes_Bytes_L : List Code := (bodyOf (some Tryd.f42))
noncomputable def make_Codes_Bytes_L2 : List Code := (loopOf (make_Codes_Bytes_L[3]?))
noncomputable def make_Codes_Bytes_K2 (N : Nat) : XE → GS → Option (Lo ((Int × Int × Unit) × (((List UInt8) × (Int × Unit)) × (List UInt8) × Unit)) ((Unit) × (((List UInt8) × (Int × Unit)) × (List UInt8) × Unit)) make_Codes_Bytes_R) := roundK (some 0) (fit 1 [0, 1, 5, 6] make_Codes_Bytes_S0) (fit 1 [5] make_Codes_Bytes_S1) (make_Codes_Bytes_K N)
theorem make_Codes_Bytes_s2_b {E : Env} (N : Nat) (hb : Base Tryd.prog (make_Codes_Bytes_C N) E 1) : Blk Tryd.prog (make_Codes_Bytes_C N) E [0, 1, 5, 6] make_Codes_Bytes_S0 (make_Codes_Bytes_L2.drop 0) (fun y => make_Codes_Bytes_s2 N y.1.1 y.1.2.1 y.2.1 y.2.2.1) (make_Codes_Bytes_K2 N) :=
  Blk.chunkAt hb 4 (X := (make_Codes_Bytes_K2 N .normal)) (NxOk.end (by kernel_rfl)) rfl (fun x => by kernel_rfl)
theorem make_Codes_Bytes_3_b {E : Env} (N : Nat) (hb : Base Tryd.prog (make_Codes_Bytes_C N) E 1) : Blk Tryd.prog (make_Codes_Bytes_C N) E [5] make_Codes_Bytes_S1 (make_Codes_Bytes_L.drop 4) (fun y => make_Codes_Bytes_3 N y.2.1 y.2.2.1) (make_Codes_Bytes_K N) :=
  Blk.chunkAt hb 2 (X := (make_Codes_Bytes_K N .normal)) (NxOk.end (by kernel_rfl)) rfl (fun x => by kernel_rfl)
theorem make_Codes_Bytes_1_b {E : Env} (N : Nat) (hb : Base Tryd.prog (make_Codes_Bytes_C N) E 1) : Blk Tryd.prog (make_Codes_Bytes_C N) E [0, 1, 5, 6] make_Codes_Bytes_S0 (make_Codes_Bytes_L.drop 3) (fun y => make_Codes_Bytes_1 N y.1.1 y.1.2.1 y.2.1 y.2.2.1) (make_Codes_Bytes_K N) :=
  Blk.loopAt (Nf := N) (hns := [0, 1, 5, 6]) (ans := [5]) (hc := make_Codes_Bytes_S0) (ac := make_Codes_Bytes_S1) (bid := 0) (step := (fun y => make_Codes_Bytes_s2 N y.1.1 y.1.2.1 y.2.1 y.2.2.1)) (J := (fun e => (goK 1 [5] make_Codes_Bytes_S1 (fun y => make_Codes_Bytes_3 N y.2.1 y.2.2.1)) (make_Codes_Bytes_S1.st [5] e))) hb (by kernel_rfl) (Blk.into (X := (goK 1 [5] make_Codes_Bytes_S1 (fun y => make_Codes_Bytes_3 N y.2.1 y.2.2.1))) (NxOk.go hb (make_Codes_Bytes_3_b N hb)) (fun x => by kernel_rfl)) (make_Codes_Bytes_s2_b N hb) (fun x => by kernel_rfl)
theorem make_Codes_Bytes_b {E : Env} (N : Nat) (hb : Base Tryd.prog (make_Codes_Bytes_C N) E 1) : Blk Tryd.prog (make_Codes_Bytes_C N) E (List.range make_Codes_Bytes_S2.ks.length) make_Codes_Bytes_S2 (make_Codes_Bytes_L.drop 0) (fun y => make_Codes_Bytes N y.1.1 y.2.1) (make_Codes_Bytes_K N) :=
  Blk.chunkAt hb 3 (X := (goK 1 [0, 1, 5, 6] make_Codes_Bytes_S0 (fun y => make_Codes_Bytes_1 N y.1.1 y.1.2.1 y.2.1 y.2.2.1))) (NxOk.go hb (make_Codes_Bytes_1_b N hb)) rfl (fun x => by kernel_rfl)
noncomputable def make_Codes_Bytes_ctr (N : Nat) : Ctr := ⟨make_Codes_Bytes_S2, make_Codes_Bytes_S1.un [false], 1, (fun y => make_Codes_Bytes N y.1.1 y.2.1)⟩
theorem make_Codes_Bytes_ctrs (N : Nat) : CtrsOk Tryd.prog (make_Codes_Bytes_C N) := ctrs_of (Γ := make_Codes_Bytes_C N) (by
  intro p hp
  simp only [make_Codes_Bytes_C, List.mem_cons, List.not_mem_nil, or_false] at hp
  rcases hp with rfl
  · exact make_Codes_Next_ok N)
theorem make_Codes_Bytes_ok (N : Nat) : Ctr.ok Tryd.prog G_globs 42 (make_Codes_Bytes_ctr N) :=
  ctr_fn (Γ := make_Codes_Bytes_C N) (rfit := make_Codes_Bytes_S1) (bs := [false]) (res := [4]) (by kernel_rfl) (tys_ok G_tys_ok) (make_Codes_Bytes_ctrs N) Tryd.func42 (by kernel_rfl) (by kernel_rfl) Tryd.ntmps42 (by kernel_rfl) (by kernel_rfl) (by kernel_rfl) (by kernel_rfl) (fun E hb => make_Codes_Bytes_b N hb)
end Go.Proofs.YtlamdneheilahaaDoor
namespace Go.Proofs.YtlamdneheilahaaDoor
open Go
set_option maxRecDepth 100000
set_option linter.unusedVariables false
/-! ipsecgate/prf.Plus -/
abbrev prf_Plus_R : Type := (((List UInt8) × Int × Unit) × (Unit))
noncomputable def prf_Plus_s3 (N : Nat) (key_0 : (List UInt8)) (seed_1 : (List UInt8)) (n_2 : Int) (i_10 : Int) (out_8 : (List UInt8)) (t_9 : (List UInt8)) : Option (Lo (((List UInt8) × (List UInt8) × Int × Int × Unit) × ((List UInt8) × (List UInt8) × Unit)) ((Int × Unit) × ((List UInt8) × Unit)) prf_Plus_R) :=
  bif (decide ((out_8.length : Int) < n_2)) then
    bif room (0 + t_9.length) 1 then
    bif room (t_9.length + seed_1.length) 1 then
    bif room ((t_9 ++ seed_1).length + ([(iu8 i_10)] : List UInt8).length) 1 then
    Option.bind (prf_Hmac N key_0 ((t_9 ++ seed_1) ++ ([(iu8 i_10)] : List UInt8))) fun y7 =>
    bif room (out_8.length + y7.2.1.length) 1 then
    some (.go ((key_0, seed_1, n_2, (w64 (i_10 + (1 : Int))), ()), ((out_8 ++ y7.2.1), y7.2.1, ())))
    else none
    else none
    else none
    else none
  else
    some (.br ((n_2, ()), (out_8, ())))
noncomputable def prf_Plus_4 (N : Nat) (n_2 : Int) (out_8 : (List UInt8)) : Option prf_Plus_R :=
  bif decide (0 ≤ (0 : Int)) && decide ((0 : Int) ≤ n_2) && decide (n_2 ≤ (out_8.length : Int)) && (decide (n_2 ≤ n_2) && decide (n_2 ≤ (out_8.length : Int))) then
  some (((cut out_8 0 n_2.toNat), (0 : Int), ()), (()))
  else none
noncomputable def prf_Plus_2 (N : Nat) (key_0 : (List UInt8)) (seed_1 : (List UInt8)) (n_2 : Int) (i_10 : Int) (out_8 : (List UInt8)) (t_9 : (List UInt8)) : Option prf_Plus_R :=
  loopK N (fun y => prf_Plus_s3 N y.1.1 y.1.2.1 y.1.2.2.1 y.1.2.2.2.1 y.2.1 y.2.2.1) (fun (e : ((Int × Unit) × ((List UInt8) × Unit))) => prf_Plus_4 N e.1.1 e.2.1) ((key_0, seed_1, n_2, i_10, ()), (out_8, t_9, ()))
noncomputable def prf_Plus_1 (N : Nat) (key_0 : (List UInt8)) (seed_1 : (List UInt8)) (n_2 : Int) (t_17 : Bool) : Option prf_Plus_R :=
  bif t_17 then
    some ((([] : List UInt8), (5 : Int), ()), (()))
  else
    prf_Plus_2 N key_0 seed_1 n_2 (1 : Int) ([] : List UInt8) ([] : List UInt8)
noncomputable def prf_Plus (N : Nat) (key_0 : (List UInt8)) (seed_1 : (List UInt8)) (n_2 : Int) : Option prf_Plus_R :=
  bif (decide (n_2 < (0 : Int))) then
    prf_Plus_1 N key_0 seed_1 n_2 true
  else
    prf_Plus_1 N key_0 seed_1 n_2 (decide ((8160 : Int) < n_2))
noncomputable def prf_Plus_C (N : Nat) : Ctx := ⟨42, G_tys, [(29, prf_Hmac_ctr N)], G_globs⟩
noncomputable def prf_Plus_S0 : Spec := ⟨[.val (.sl .u8), .val (.sl .u8), .val .i64, .row 0, .row 1, .val .i64], [(.row 5 .u8, .pos 3), (.row 5 .u8, .pos 4)]⟩
noncomputable def prf_Plus_S1 : Spec := ⟨[.val .i64, .row 0], [(.row 5 .u8, .pos 1)]⟩
noncomputable def prf_Plus_S2 : Spec := ⟨[.val (.sl .u8), .val (.sl .u8), .val .i64, .val .bool], []⟩
noncomputable def prf_Plus_S3 : Spec := ⟨[.val (.sl .u8), .val (.sl .u8), .val .i64], []⟩
noncomputable def prf_Plus_S4 : Spec := ⟨[.val (.sl .u8), .val .i64], []⟩
noncomputable def prf_Plus_K (_N : Nat) : XE → GS → Option prf_Plus_R := retK 0 [6, 7] [false, false] prf_Plus_S4
noncomputable def prf_Plus_L : List Code := (bodyOf (some Tryd.f31))
noncomputable def prf_Plus_L3 : List Code := (loopOf (prf_Plus_L[5]?))
noncomputable def prf_Plus_K3 (N : Nat) : XE → GS → Option (Lo (((List UInt8) × (List UInt8) × Int × Int × Unit) × ((List UInt8) × (List UInt8) × Unit)) ((Int × Unit) × ((List UInt8) × Unit)) prf_Plus_R) := roundK (some 0) (fit 0 [0, 1, 2, 8, 9, 10] prf_Plus_S0) (fit 0 [2, 8] prf_Plus_S1) (prf_Plus_K N)
theorem prf_Plus_s3_b {E : Env} (N : Nat) (hb : Base Tryd.prog (prf_Plus_C N) E 0) : Blk Tryd.prog (prf_Plus_C N) E [0, 1, 2, 8, 9, 10] prf_Plus_S0 (prf_Plus_L3.drop 0) (fun y => prf_Plus_s3 N y.1.1 y.1.2.1 y.1.2.2.1 y.1.2.2.2.1 y.2.1 y.2.2.1) (prf_Plus_K3 N) :=
  Blk.chunkAt hb 4 (X := (prf_Plus_K3 N .normal)) (NxOk.end (by kernel_rfl)) rfl (fun x => by kernel_rfl)
theorem prf_Plus_4_b {E : Env} (N : Nat) (hb : Base Tryd.prog (prf_Plus_C N) E 0) : Blk Tryd.prog (prf_Plus_C N) E [2, 8] prf_Plus_S1 (prf_Plus_L.drop 6) (fun y => prf_Plus_4 N y.1.1 y.2.1) (prf_Plus_K N) :=
  Blk.chunkAt hb 2 (X := (prf_Plus_K N .normal)) (NxOk.end (by kernel_rfl)) rfl (fun x => by kernel_rfl)
theorem prf_Plus_2_b {E : Env} (N : Nat) (hb : Base Tryd.prog (prf_Plus_C N) E 0) : Blk Tryd.prog (prf_Plus_C N) E [0, 1, 2, 8, 9, 10] prf_Plus_S0 (prf_Plus_L.drop 5) (fun y => prf_Plus_2 N y.1.1 y.1.2.1 y.1.2.2.1 y.1.2.2.2.1 y.2.1 y.2.2.1) (prf_Plus_K N) :=
  Blk.loopAt (Nf := N) (hns := [0, 1, 2, 8, 9, 10]) (ans := [2, 8]) (hc := prf_Plus_S0) (ac := prf_Plus_S1) (bid := 0) (step := (fun y => prf_Plus_s3 N y.1.1 y.1.2.1 y.1.2.2.1 y.1.2.2.2.1 y.2.1 y.2.2.1)) (J := (fun e => (goK 0 [2, 8] prf_Plus_S1 (fun y => prf_Plus_4 N y.1.1 y.2.1)) (prf_Plus_S1.st [2, 8] e))) hb (by kernel_rfl) (Blk.into (X := (goK 0 [2, 8] prf_Plus_S1 (fun y => prf_Plus_4 N y.1.1 y.2.1))) (NxOk.go hb (prf_Plus_4_b N hb)) (fun x => by kernel_rfl)) (prf_Plus_s3_b N hb) (fun x => by kernel_rfl)
theorem prf_Plus_1_b {E : Env} (N : Nat) (hb : Base Tryd.prog (prf_Plus_C N) E 0) : Blk Tryd.prog (prf_Plus_C N) E [0, 1, 2, 17] prf_Plus_S2 (prf_Plus_L.drop 2) (fun y => prf_Plus_1 N y.1.1 y.1.2.1 y.1.2.2.1 y.1.2.2.2.1) (prf_Plus_K N) :=
  Blk.chunkAt hb 3 (X := (goK 0 [0, 1, 2, 8, 9, 10] prf_Plus_S0 (fun y => prf_Plus_2 N y.1.1 y.1.2.1 y.1.2.2.1 y.1.2.2.2.1 y.2.1 y.2.2.1))) (NxOk.go hb (prf_Plus_2_b N hb)) rfl (fun x => by kernel_rfl)
theorem prf_Plus_b {E : Env} (N : Nat) (hb : Base Tryd.prog (prf_Plus_C N) E 0) : Blk Tryd.prog (prf_Plus_C N) E (List.range prf_Plus_S3.ks.length) prf_Plus_S3 (prf_Plus_L.drop 0) (fun y => prf_Plus N y.1.1 y.1.2.1 y.1.2.2.1) (prf_Plus_K N) :=
  Blk.chunkAt hb 2 (X := (goK 0 [0, 1, 2, 17] prf_Plus_S2 (fun y => prf_Plus_1 N y.1.1 y.1.2.1 y.1.2.2.1 y.1.2.2.2.1))) (NxOk.go hb (prf_Plus_1_b N hb)) rfl (fun x => by kernel_rfl)
noncomputable def prf_Plus_ctr (N : Nat) : Ctr := ⟨prf_Plus_S3, prf_Plus_S4.un [false, false], 0, (fun y => prf_Plus N y.1.1 y.1.2.1 y.1.2.2.1)⟩
theorem prf_Plus_ctrs (N : Nat) : CtrsOk Tryd.prog (prf_Plus_C N) := ctrs_of (Γ := prf_Plus_C N) (by
  intro p hp
  simp only [prf_Plus_C, List.mem_cons, List.not_mem_nil, or_false] at hp
  rcases hp with rfl
  · exact prf_Hmac_ok N)
theorem prf_Plus_ok (N : Nat) : Ctr.ok Tryd.prog G_globs 31 (prf_Plus_ctr N) :=
  ctr_fn (Γ := prf_Plus_C N) (rfit := prf_Plus_S4) (bs := [false, false]) (res := [6, 7]) (by kernel_rfl) (tys_ok G_tys_ok) (prf_Plus_ctrs N) Tryd.func31 (by kernel_rfl) (by kernel_rfl) Tryd.ntmps31 (by kernel_rfl) (by kernel_rfl) (by kernel_rfl) (by kernel_rfl) (fun E hb => prf_Plus_b N hb)
end Go.Proofs.YtlamdneheilahaaDoor
namespace Go.Proofs.YtlamdneheilahaaDoor
open Go
set_option maxRecDepth 100000
set_option linter.unusedVariables false
/-! ipsecgate/prf.Split -/
abbrev prf_Split_R : Type := ((Bool × Unit) × ((List (List UInt8)) × Unit))
noncomputable def prf_Split_s2 (N : Nat) (b_0 : (List UInt8)) (t_9 : (List Int)) (t_10 : Int) (t_11 : Int) (l_6 : (List (List UInt8))) : Option (Lo (((List UInt8) × (List Int) × Int × Int × Unit) × ((List (List UInt8)) × Unit)) ((Unit) × ((List (List UInt8)) × Unit)) prf_Split_R) :=
  bif (decide (t_11 < t_10)) then
    bif inR t_11 t_9.length then
    let x3 := t_9.getD t_11.toNat (0 : Int)
    bif (decide (x3 < (0 : Int))) then
      some (.rt ((false, ()), (([] : List (List UInt8)), ())))
    else
      bif (decide ((b_0.length : Int) < x3)) then
        some (.rt ((false, ()), (([] : List (List UInt8)), ())))
      else
        bif decide (0 ≤ (0 : Int)) && decide ((0 : Int) ≤ x3) && decide (x3 ≤ (b_0.length : Int)) && (decide (x3 ≤ x3) && decide (x3 ≤ (b_0.length : Int))) then
        let x7 := cut b_0 0 x3.toNat
        bif room (l_6.length + ([x7] : List (List UInt8)).length) 24 then
        bif decide (0 ≤ x3) && decide (x3 ≤ (b_0.length : Int)) && decide ((b_0.length : Int) ≤ (b_0.length : Int)) && true then
        some (.go (((cut b_0 x3.toNat b_0.length), t_9, t_10, (w64 (t_11 + (1 : Int))), ()), ((l_6 ++ ([x7] : List (List UInt8))), ())))
        else none
        else none
        else none
    else none
  else
    some (.br ((()), (l_6, ())))
noncomputable def prf_Split_3 (N : Nat) (l_6 : (List (List UInt8))) : Option prf_Split_R :=
  some ((true, ()), (l_6, ()))
noncomputable def prf_Split_1 (N : Nat) (b_0 : (List UInt8)) (t_9 : (List Int)) (t_10 : Int) (t_11 : Int) (l_6 : (List (List UInt8))) : Option prf_Split_R :=
  loopK N (fun y => prf_Split_s2 N y.1.1 y.1.2.1 y.1.2.2.1 y.1.2.2.2.1 y.2.1) (fun (e : ((Unit) × ((List (List UInt8)) × Unit))) => prf_Split_3 N e.2.1) ((b_0, t_9, t_10, t_11, ()), (l_6, ()))
noncomputable def prf_Split (N : Nat) (b_0 : (List UInt8)) (sizes_1 : (List Int)) : Option prf_Split_R :=
  prf_Split_1 N b_0 sizes_1 (sizes_1.length : Int) (0 : Int) ([] : List (List UInt8))
noncomputable def prf_Split_C (N : Nat) : Ctx := ⟨35, G_tys, [], G_globs⟩
noncomputable def prf_Split_S0 : Spec := ⟨[.val (.sl .u8), .row 0, .val (.sl .i64), .val .i64, .val .i64], [(.row 22 (.sl .u8), .pos 1)]⟩
noncomputable def prf_Split_S1 : Spec := ⟨[.row 0], [(.row 22 (.sl .u8), .pos 0)]⟩
noncomputable def prf_Split_S2 : Spec := ⟨[.val (.sl .u8), .val (.sl .i64)], []⟩
noncomputable def prf_Split_S3 : Spec := ⟨[.row 0, .val .bool], [(.row 22 (.sl .u8), .pos 0)]⟩
noncomputable def prf_Split_K (_N : Nat) : XE → GS → Option prf_Split_R := retK 0 [4, 5] [false, false] prf_Split_S3
noncomputable def prf_Split_L : List Code := (bodyOf (some Tryd.f38))
noncomputable def prf_Split_L2 : List Code := (loopOf (prf_Split_L[3]?))
noncomputable def prf_Split_K2 (N : Nat) : XE → GS → Option (Lo (((List UInt8) × (List Int) × Int × Int × Unit) × ((List (List UInt8)) × Unit)) ((Unit) × ((List (List UInt8)) × Unit)) prf_Split_R) := roundK (some 0) (fit 0 [0, 6, 9, 10, 11] prf_Split_S0) (fit 0 [6] prf_Split_S1) (prf_Split_K N)
theorem prf_Split_s2_b {E : Env} (N : Nat) (hb : Base Tryd.prog (prf_Split_C N) E 0) : Blk Tryd.prog (prf_Split_C N) E [0, 6, 9, 10, 11] prf_Split_S0 (prf_Split_L2.drop 0) (fun y => prf_Split_s2 N y.1.1 y.1.2.1 y.1.2.2.1 y.1.2.2.2.1 y.2.1) (prf_Split_K2 N) :=
  Blk.chunkAt hb 4 (X := (prf_Split_K2 N .normal)) (NxOk.end (by kernel_rfl)) rfl (fun x => by kernel_rfl)
theorem prf_Split_3_b {E : Env} (N : Nat) (hb : Base Tryd.prog (prf_Split_C N) E 0) : Blk Tryd.prog (prf_Split_C N) E [6] prf_Split_S1 (prf_Split_L.drop 4) (fun y => prf_Split_3 N y.2.1) (prf_Split_K N) :=
  Blk.chunkAt hb 2 (X := (prf_Split_K N .normal)) (NxOk.end (by kernel_rfl)) rfl (fun x => by kernel_rfl)
theorem prf_Split_1_b {E : Env} (N : Nat) (hb : Base Tryd.prog (prf_Split_C N) E 0) : Blk Tryd.prog (prf_Split_C N) E [0, 6, 9, 10, 11] prf_Split_S0 (prf_Split_L.drop 3) (fun y => prf_Split_1 N y.1.1 y.1.2.1 y.1.2.2.1 y.1.2.2.2.1 y.2.1) (prf_Split_K N) :=
  Blk.loopAt (Nf := N) (hns := [0, 6, 9, 10, 11]) (ans := [6]) (hc := prf_Split_S0) (ac := prf_Split_S1) (bid := 0) (step := (fun y => prf_Split_s2 N y.1.1 y.1.2.1 y.1.2.2.1 y.1.2.2.2.1 y.2.1)) (J := (fun e => (goK 0 [6] prf_Split_S1 (fun y => prf_Split_3 N y.2.1)) (prf_Split_S1.st [6] e))) hb (by kernel_rfl) (Blk.into (X := (goK 0 [6] prf_Split_S1 (fun y => prf_Split_3 N y.2.1))) (NxOk.go hb (prf_Split_3_b N hb)) (fun x => by kernel_rfl)) (prf_Split_s2_b N hb) (fun x => by kernel_rfl)
theorem prf_Split_b {E : Env} (N : Nat) (hb : Base Tryd.prog (prf_Split_C N) E 0) : Blk Tryd.prog (prf_Split_C N) E (List.range prf_Split_S2.ks.length) prf_Split_S2 (prf_Split_L.drop 0) (fun y => prf_Split N y.1.1 y.1.2.1) (prf_Split_K N) :=
  Blk.chunkAt hb 3 (X := (goK 0 [0, 6, 9, 10, 11] prf_Split_S0 (fun y => prf_Split_1 N y.1.1 y.1.2.1 y.1.2.2.1 y.1.2.2.2.1 y.2.1))) (NxOk.go hb (prf_Split_1_b N hb)) rfl (fun x => by kernel_rfl)
noncomputable def prf_Split_ctr (N : Nat) : Ctr := ⟨prf_Split_S2, prf_Split_S3.un [false, false], 0, (fun y => prf_Split N y.1.1 y.1.2.1)⟩
theorem prf_Split_ctrs (N : Nat) : CtrsOk Tryd.prog (prf_Split_C N) := ctrs_nil rfl
theorem prf_Split_ok (N : Nat) : Ctr.ok Tryd.prog G_globs 38 (prf_Split_ctr N) :=
  ctr_fn (Γ := prf_Split_C N) (rfit := prf_Split_S3) (bs := [false, false]) (res := [4, 5]) (by kernel_rfl) (tys_ok G_tys_ok) (prf_Split_ctrs N) Tryd.func38 (by kernel_rfl) (by kernel_rfl) Tryd.ntmps38 (by kernel_rfl) (by kernel_rfl) (by kernel_rfl) (by kernel_rfl) (fun E hb => prf_Split_b N hb)
end Go.Proofs.YtlamdneheilahaaDoor
namespace Go.Proofs.YtlamdneheilahaaDoor
open Go
set_option maxRecDepth 100000
set_option linter.unusedVariables false
/-! ipsecgate/keys.Derive -/
abbrev keys_Derive_R : Type := ((((List UInt8) × ((List UInt8) × ((List UInt8) × ((List UInt8) × ((List UInt8) × Unit))))) × Int × Unit) × (Unit))
noncomputable def keys_Derive_s2 (N : Nat) (seed_0 : (List UInt8)) (ni_1 : (List UInt8)) (nr_2 : (List UInt8)) (initiator_3 : UInt64) (responder_4 : UInt64) (n_12 : Int) (t_25 : (List Int)) (t_26 : Int) (t_27 : Int) (t_10 : ((List UInt8) × ((List UInt8) × ((List UInt8) × ((List UInt8) × ((List UInt8) × Unit)))))) : Option (Lo (((List UInt8) × (List UInt8) × (List UInt8) × UInt64 × UInt64 × Int × (List Int) × Int × Int × Unit) × (((List UInt8) × ((List UInt8) × ((List UInt8) × ((List UInt8) × ((List UInt8) × Unit))))) × Unit)) (((List UInt8) × (List UInt8) × (List UInt8) × UInt64 × UInt64 × Int × Unit) × (((List UInt8) × ((List UInt8) × ((List UInt8) × ((List UInt8) × ((List UInt8) × Unit))))) × Unit)) keys_Derive_R) :=
  bif (decide (t_27 < t_26)) then
    bif inR t_27 t_25.length then
    some (.go ((seed_0, ni_1, nr_2, initiator_3, responder_4, (w64 (n_12 + (t_25.getD t_27.toNat (0 : Int)))), t_25, t_26, (w64 (t_27 + (1 : Int))), ()), (t_10, ())))
    else none
  else
    some (.br ((seed_0, ni_1, nr_2, initiator_3, responder_4, n_12, ()), (t_10, ())))
noncomputable def keys_Derive_3 (N : Nat) (seed_0 : (List UInt8)) (ni_1 : (List UInt8)) (nr_2 : (List UInt8)) (initiator_3 : UInt64) (responder_4 : UInt64) (n_12 : Int) (t_10 : ((List UInt8) × ((List UInt8) × ((List UInt8) × ((List UInt8) × ((List UInt8) × Unit)))))) : Option keys_Derive_R :=
  Option.bind (wire_Put N initiator_3 (8 : Int) ([] : List UInt8)) fun y8 =>
  Option.bind (wire_Put N responder_4 (8 : Int) y8.2.1) fun y9 =>
  Option.bind (keys_join N ([ni_1, nr_2, y9.2.1] : List (List UInt8))) fun y10 =>
  Option.bind (prf_Plus N seed_0 y10.2.1 n_12) fun y11 =>
  Option.bind (prf_Split N y11.1.1 g_keys_sizes) fun y12 =>
  bif inR (0 : Int) y12.2.1.length then
  bif inR (1 : Int) y12.2.1.length then
  bif inR (2 : Int) y12.2.1.length then
  bif inR (3 : Int) y12.2.1.length then
  bif inR (4 : Int) y12.2.1.length then
  some ((((y12.2.1.getD 0 ([] : List UInt8)), (y12.2.1.getD 1 ([] : List UInt8)), (y12.2.1.getD 2 ([] : List UInt8)), (y12.2.1.getD 3 ([] : List UInt8)), (y12.2.1.getD 4 ([] : List UInt8)), ()), (0 : Int), ()), (()))
  else none
  else none
  else none
  else none
  else none
noncomputable def keys_Derive_1 (N : Nat) (seed_0 : (List UInt8)) (ni_1 : (List UInt8)) (nr_2 : (List UInt8)) (initiator_3 : UInt64) (responder_4 : UInt64) (n_12 : Int) (t_25 : (List Int)) (t_26 : Int) (t_27 : Int) (t_10 : ((List UInt8) × ((List UInt8) × ((List UInt8) × ((List UInt8) × ((List UInt8) × Unit)))))) : Option keys_Derive_R :=
  loopK N (fun y => keys_Derive_s2 N y.1.1 y.1.2.1 y.1.2.2.1 y.1.2.2.2.1 y.1.2.2.2.2.1 y.1.2.2.2.2.2.1 y.1.2.2.2.2.2.2.1 y.1.2.2.2.2.2.2.2.1 y.1.2.2.2.2.2.2.2.2.1 y.2.1) (fun (e : (((List UInt8) × (List UInt8) × (List UInt8) × UInt64 × UInt64 × Int × Unit) × (((List UInt8) × ((List UInt8) × ((List UInt8) × ((List UInt8) × ((List UInt8) × Unit))))) × Unit))) => keys_Derive_3 N e.1.1 e.1.2.1 e.1.2.2.1 e.1.2.2.2.1 e.1.2.2.2.2.1 e.1.2.2.2.2.2.1 e.2.1) ((seed_0, ni_1, nr_2, initiator_3, responder_4, n_12, t_25, t_26, t_27, ()), (t_10, ()))
noncomputable def keys_Derive (N : Nat) (seed_0 : (List UInt8)) (ni_1 : (List UInt8)) (nr_2 : (List UInt8)) (initiator_3 : UInt64) (responder_4 : UInt64) : Option keys_Derive_R :=
  Option.bind (keys_nonces N ([ni_1, nr_2] : List (List UInt8))) fun y1 =>
  bif (!y1.1.1) then
    some (((([] : List UInt8), ([] : List UInt8), ([] : List UInt8), ([] : List UInt8), ([] : List UInt8), ()), (13 : Int), ()), (()))
  else
    keys_Derive_1 N seed_0 ni_1 nr_2 initiator_3 responder_4 (0 : Int) g_keys_sizes (g_keys_sizes.length : Int) (0 : Int) (([] : List UInt8), ([] : List UInt8), ([] : List UInt8), ([] : List UInt8), ([] : List UInt8), ())
noncomputable def keys_Derive_C (N : Nat) : Ctx := ⟨71, G_tys, [(82, keys_nonces_ctr N), (26, wire_Put_ctr N), (80, keys_join_ctr N), (31, prf_Plus_ctr N), (38, prf_Split_ctr N)], G_globs⟩
noncomputable def keys_Derive_S0 : Spec := ⟨[.val (.sl .u8), .val (.sl .u8), .val (.sl .u8), .val .u64, .val .u64, .ref 0 (.pair (.sl .u8) (.pair (.sl .u8) (.pair (.sl .u8) (.pair (.sl .u8) (.pair (.sl .u8) .unit))))), .val .i64, .val (.sl .i64), .val .i64, .val .i64], [(.box 61 (.pair (.sl .u8) (.pair (.sl .u8) (.pair (.sl .u8) (.pair (.sl .u8) (.pair (.sl .u8) .unit))))), .pos 5)]⟩
noncomputable def keys_Derive_S1 : Spec := ⟨[.val (.sl .u8), .val (.sl .u8), .val (.sl .u8), .val .u64, .val .u64, .ref 0 (.pair (.sl .u8) (.pair (.sl .u8) (.pair (.sl .u8) (.pair (.sl .u8) (.pair (.sl .u8) .unit))))), .val .i64], [(.box 61 (.pair (.sl .u8) (.pair (.sl .u8) (.pair (.sl .u8) (.pair (.sl .u8) (.pair (.sl .u8) .unit))))), .pos 5)]⟩
noncomputable def keys_Derive_S2 : Spec := ⟨[.val (.sl .u8), .val (.sl .u8), .val (.sl .u8), .val .u64, .val .u64], []⟩
noncomputable def keys_Derive_S3 : Spec := ⟨[.fp (.pair (.sl .u8) (.pair (.sl .u8) (.pair (.sl .u8) (.pair (.sl .u8) (.pair (.sl .u8) .unit))))), .val .i64], []⟩
noncomputable def keys_Derive_K (_N : Nat) : XE → GS → Option keys_Derive_R := retK 0 [10, 11] [true, false] keys_Derive_S3
noncomputable def keys_Derive_L : List Code := (bodyOf (some Tryd.f45))
noncomputable def keys_Derive_L2 : List Code := (loopOf (keys_Derive_L[5]?))
noncomputable def keys_Derive_K2 (N : Nat) : XE → GS → Option (Lo (((List UInt8) × (List UInt8) × (List UInt8) × UInt64 × UInt64 × Int × (List Int) × Int × Int × Unit) × (((List UInt8) × ((List UInt8) × ((List UInt8) × ((List UInt8) × ((List UInt8) × Unit))))) × Unit)) (((List UInt8) × (List UInt8) × (List UInt8) × UInt64 × UInt64 × Int × Unit) × (((List UInt8) × ((List UInt8) × ((List UInt8) × ((List UInt8) × ((List UInt8) × Unit))))) × Unit)) keys_Derive_R) := roundK (some 0) (fit 0 [0, 1, 2, 3, 4, 10, 12, 25, 26, 27] keys_Derive_S0) (fit 0 [0, 1, 2, 3, 4, 10, 12] keys_Derive_S1) (keys_Derive_K N)
theorem keys_Derive_s2_b {E : Env} (N : Nat) (hb : Base Tryd.prog (keys_Derive_C N) E 0) : Blk Tryd.prog (keys_Derive_C N) E [0, 1, 2, 3, 4, 10, 12, 25, 26, 27] keys_Derive_S0 (keys_Derive_L2.drop 0) (fun y => keys_Derive_s2 N y.1.1 y.1.2.1 y.1.2.2.1 y.1.2.2.2.1 y.1.2.2.2.2.1 y.1.2.2.2.2.2.1 y.1.2.2.2.2.2.2.1 y.1.2.2.2.2.2.2.2.1 y.1.2.2.2.2.2.2.2.2.1 y.2.1) (keys_Derive_K2 N) :=
  Blk.chunkAt hb 4 (X := (keys_Derive_K2 N .normal)) (NxOk.end (by kernel_rfl)) rfl (fun x => by kernel_rfl)
theorem keys_Derive_3_b {E : Env} (N : Nat) (hb : Base Tryd.prog (keys_Derive_C N) E 0) : Blk Tryd.prog (keys_Derive_C N) E [0, 1, 2, 3, 4, 10, 12] keys_Derive_S1 (keys_Derive_L.drop 6) (fun y => keys_Derive_3 N y.1.1 y.1.2.1 y.1.2.2.1 y.1.2.2.2.1 y.1.2.2.2.2.1 y.1.2.2.2.2.2.1 y.2.1) (keys_Derive_K N) :=
  Blk.chunkAt hb 4 (X := (keys_Derive_K N .normal)) (NxOk.end (by kernel_rfl)) rfl (fun x => by kernel_rfl)
theorem keys_Derive_1_b {E : Env} (N : Nat) (hb : Base Tryd.prog (keys_Derive_C N) E 0) : Blk Tryd.prog (keys_Derive_C N) E [0, 1, 2, 3, 4, 10, 12, 25, 26, 27] keys_Derive_S0 (keys_Derive_L.drop 5) (fun y => keys_Derive_1 N y.1.1 y.1.2.1 y.1.2.2.1 y.1.2.2.2.1 y.1.2.2.2.2.1 y.1.2.2.2.2.2.1 y.1.2.2.2.2.2.2.1 y.1.2.2.2.2.2.2.2.1 y.1.2.2.2.2.2.2.2.2.1 y.2.1) (keys_Derive_K N) :=
  Blk.loopAt (Nf := N) (hns := [0, 1, 2, 3, 4, 10, 12, 25, 26, 27]) (ans := [0, 1, 2, 3, 4, 10, 12]) (hc := keys_Derive_S0) (ac := keys_Derive_S1) (bid := 0) (step := (fun y => keys_Derive_s2 N y.1.1 y.1.2.1 y.1.2.2.1 y.1.2.2.2.1 y.1.2.2.2.2.1 y.1.2.2.2.2.2.1 y.1.2.2.2.2.2.2.1 y.1.2.2.2.2.2.2.2.1 y.1.2.2.2.2.2.2.2.2.1 y.2.1)) (J := (fun e => (goK 0 [0, 1, 2, 3, 4, 10, 12] keys_Derive_S1 (fun y => keys_Derive_3 N y.1.1 y.1.2.1 y.1.2.2.1 y.1.2.2.2.1 y.1.2.2.2.2.1 y.1.2.2.2.2.2.1 y.2.1)) (keys_Derive_S1.st [0, 1, 2, 3, 4, 10, 12] e))) hb (by kernel_rfl) (Blk.into (X := (goK 0 [0, 1, 2, 3, 4, 10, 12] keys_Derive_S1 (fun y => keys_Derive_3 N y.1.1 y.1.2.1 y.1.2.2.1 y.1.2.2.2.1 y.1.2.2.2.2.1 y.1.2.2.2.2.2.1 y.2.1))) (NxOk.go hb (keys_Derive_3_b N hb)) (fun x => by kernel_rfl)) (keys_Derive_s2_b N hb) (fun x => by kernel_rfl)
theorem keys_Derive_b {E : Env} (N : Nat) (hb : Base Tryd.prog (keys_Derive_C N) E 0) : Blk Tryd.prog (keys_Derive_C N) E (List.range keys_Derive_S2.ks.length) keys_Derive_S2 (keys_Derive_L.drop 0) (fun y => keys_Derive N y.1.1 y.1.2.1 y.1.2.2.1 y.1.2.2.2.1 y.1.2.2.2.2.1) (keys_Derive_K N) :=
  Blk.chunkAt hb 5 (X := (goK 0 [0, 1, 2, 3, 4, 10, 12, 25, 26, 27] keys_Derive_S0 (fun y => keys_Derive_1 N y.1.1 y.1.2.1 y.1.2.2.1 y.1.2.2.2.1 y.1.2.2.2.2.1 y.1.2.2.2.2.2.1 y.1.2.2.2.2.2.2.1 y.1.2.2.2.2.2.2.2.1 y.1.2.2.2.2.2.2.2.2.1 y.2.1))) (NxOk.go hb (keys_Derive_1_b N hb)) rfl (fun x => by kernel_rfl)
noncomputable def keys_Derive_ctr (N : Nat) : Ctr := ⟨keys_Derive_S2, keys_Derive_S3.un [true, false], 0, (fun y => keys_Derive N y.1.1 y.1.2.1 y.1.2.2.1 y.1.2.2.2.1 y.1.2.2.2.2.1)⟩
theorem keys_Derive_ctrs (N : Nat) : CtrsOk Tryd.prog (keys_Derive_C N) := ctrs_of (Γ := keys_Derive_C N) (by
  intro p hp
  simp only [keys_Derive_C, List.mem_cons, List.not_mem_nil, or_false] at hp
  rcases hp with rfl | rfl | rfl | rfl | rfl
  · exact keys_nonces_ok N
  · exact wire_Put_ok N
  · exact keys_join_ok N
  · exact prf_Plus_ok N
  · exact prf_Split_ok N)
theorem keys_Derive_ok (N : Nat) : Ctr.ok Tryd.prog G_globs 45 (keys_Derive_ctr N) :=
  ctr_fn (Γ := keys_Derive_C N) (rfit := keys_Derive_S3) (bs := [true, false]) (res := [10, 11]) (by kernel_rfl) (tys_ok G_tys_ok) (keys_Derive_ctrs N) Tryd.func45 (by kernel_rfl) (by kernel_rfl) Tryd.ntmps45 (by kernel_rfl) (by kernel_rfl) (by kernel_rfl) (by kernel_rfl) (fun E hb => keys_Derive_b N hb)
end Go.Proofs.YtlamdneheilahaaDoor
namespace Go.Proofs.YtlamdneheilahaaDoor
open Go
set_option maxRecDepth 100000
set_option linter.unusedVariables false
/-! ipsecgate/keys.Child -/
abbrev keys_Child_R : Type := ((((List UInt8) × ((List UInt8) × Unit)) × Int × Unit) × (Unit))
noncomputable def keys_Child (N : Nat) (d_0 : (List UInt8)) (ni_1 : (List UInt8)) (nr_2 : (List UInt8)) (shared_3 : (List UInt8)) : Option keys_Child_R :=
  Option.bind (keys_nonces N ([ni_1, nr_2] : List (List UInt8))) fun y1 =>
  bif (!y1.1.1) then
    some (((([] : List UInt8), ([] : List UInt8), ()), (13 : Int), ()), (()))
  else
    Option.bind (keys_join N ([shared_3, ni_1, nr_2] : List (List UInt8))) fun y3 =>
    Option.bind (prf_Plus N d_0 y3.2.1 (72 : Int)) fun y4 =>
    Option.bind (prf_Split N y4.1.1 ([(36 : Int), (36 : Int)] : List Int)) fun y5 =>
    bif inR (0 : Int) y5.2.1.length then
    bif inR (1 : Int) y5.2.1.length then
    some ((((y5.2.1.getD 0 ([] : List UInt8)), (y5.2.1.getD 1 ([] : List UInt8)), ()), (0 : Int), ()), (()))
    else none
    else none
noncomputable def keys_Child_C (N : Nat) : Ctx := ⟨43, G_tys, [(82, keys_nonces_ctr N), (80, keys_join_ctr N), (31, prf_Plus_ctr N), (38, prf_Split_ctr N)], G_globs⟩
noncomputable def keys_Child_S0 : Spec := ⟨[.val (.sl .u8), .val (.sl .u8), .val (.sl .u8), .val (.sl .u8)], []⟩
noncomputable def keys_Child_S1 : Spec := ⟨[.fp (.pair (.sl .u8) (.pair (.sl .u8) .unit)), .val .i64], []⟩
noncomputable def keys_Child_K (_N : Nat) : XE → GS → Option keys_Child_R := retK 0 [8, 9] [true, false] keys_Child_S1
noncomputable def keys_Child_L : List Code := (bodyOf (some Tryd.f53))
theorem keys_Child_b {E : Env} (N : Nat) (hb : Base Tryd.prog (keys_Child_C N) E 0) : Blk Tryd.prog (keys_Child_C N) E (List.range keys_Child_S0.ks.length) keys_Child_S0 (keys_Child_L.drop 0) (fun y => keys_Child N y.1.1 y.1.2.1 y.1.2.2.1 y.1.2.2.2.1) (keys_Child_K N) :=
  Blk.chunkAt hb 7 (X := (keys_Child_K N .normal)) (NxOk.end (by kernel_rfl)) rfl (fun x => by kernel_rfl)
noncomputable def keys_Child_ctr (N : Nat) : Ctr := ⟨keys_Child_S0, keys_Child_S1.un [true, false], 0, (fun y => keys_Child N y.1.1 y.1.2.1 y.1.2.2.1 y.1.2.2.2.1)⟩
theorem keys_Child_ctrs (N : Nat) : CtrsOk Tryd.prog (keys_Child_C N) := ctrs_of (Γ := keys_Child_C N) (by
  intro p hp
  simp only [keys_Child_C, List.mem_cons, List.not_mem_nil, or_false] at hp
  rcases hp with rfl | rfl | rfl | rfl
  · exact keys_nonces_ok N
  · exact keys_join_ok N
  · exact prf_Plus_ok N
  · exact prf_Split_ok N)
theorem keys_Child_ok (N : Nat) : Ctr.ok Tryd.prog G_globs 53 (keys_Child_ctr N) :=
  ctr_fn (Γ := keys_Child_C N) (rfit := keys_Child_S1) (bs := [true, false]) (res := [8, 9]) (by kernel_rfl) (tys_ok G_tys_ok) (keys_Child_ctrs N) Tryd.func53 (by kernel_rfl) (by kernel_rfl) Tryd.ntmps53 (by kernel_rfl) (by kernel_rfl) (by kernel_rfl) (by kernel_rfl) (fun E hb => keys_Child_b N hb)
end Go.Proofs.YtlamdneheilahaaDoor
namespace Go.Proofs.YtlamdneheilahaaDoor
open Go
set_option maxRecDepth 100000
set_option linter.unusedVariables false
/-! ipsecgate/ipsecgateref01.Compare -/
abbrev ref01_Compare_R : Type := ((Int × Unit) × (Unit))
noncomputable def ref01_Compare_3 (N : Nat) (a_0 : (List UInt8)) (b_1 : (List UInt8)) (i_5 : Int) (t_15 : Bool) : Option (Lo (((List UInt8) × (List UInt8) × Int × Unit) × (Unit)) (((List UInt8) × (List UInt8) × Unit) × (Unit)) ref01_Compare_R) :=
  bif t_15 then
    bif inR i_5 a_0.length then
    bif inR i_5 b_1.length then
    bif (decide ((a_0.getD i_5.toNat (0 : UInt8)) < (b_1.getD i_5.toNat (0 : UInt8)))) then
      some (.rt (((-1 : Int), ()), (())))
    else
      bif inR i_5 a_0.length then
      bif inR i_5 b_1.length then
      bif (decide ((b_1.getD i_5.toNat (0 : UInt8)) < (a_0.getD i_5.toNat (0 : UInt8)))) then
        some (.rt (((1 : Int), ()), (())))
      else
        some (.go ((a_0, b_1, (w64 (i_5 + (1 : Int))), ()), (())))
      else none
      else none
    else none
    else none
  else
    some (.br ((a_0, b_1, ()), (())))
noncomputable def ref01_Compare_s2 (N : Nat) (a_0 : (List UInt8)) (b_1 : (List UInt8)) (i_5 : Int) : Option (Lo (((List UInt8) × (List UInt8) × Int × Unit) × (Unit)) (((List UInt8) × (List UInt8) × Unit) × (Unit)) ref01_Compare_R) :=
  bif (decide (i_5 < (a_0.length : Int))) then
    ref01_Compare_3 N a_0 b_1 i_5 (decide (i_5 < (b_1.length : Int)))
  else
    ref01_Compare_3 N a_0 b_1 i_5 false
noncomputable def ref01_Compare_4 (N : Nat) (a_0 : (List UInt8)) (b_1 : (List UInt8)) : Option ref01_Compare_R :=
  bif (decide ((a_0.length : Int) < (b_1.length : Int))) then
    some (((-1 : Int), ()), (()))
  else
    bif (decide ((b_1.length : Int) < (a_0.length : Int))) then
      some (((1 : Int), ()), (()))
    else
      some (((0 : Int), ()), (()))
noncomputable def ref01_Compare_1 (N : Nat) (a_0 : (List UInt8)) (b_1 : (List UInt8)) (i_5 : Int) : Option ref01_Compare_R :=
  loopK N (fun y => ref01_Compare_s2 N y.1.1 y.1.2.1 y.1.2.2.1) (fun (e : (((List UInt8) × (List UInt8) × Unit) × (Unit))) => ref01_Compare_4 N e.1.1 e.1.2.1) ((a_0, b_1, i_5, ()), (()))
noncomputable def ref01_Compare (N : Nat) (a_0 : (List UInt8)) (b_1 : (List UInt8)) : Option ref01_Compare_R :=
  ref01_Compare_1 N a_0 b_1 (0 : Int)
noncomputable def ref01_Compare_C (N : Nat) : Ctx := ⟨48, G_tys, [], G_globs⟩
noncomputable def ref01_Compare_S0 : Spec := ⟨[.val (.sl .u8), .val (.sl .u8), .val .i64, .val .bool], []⟩
noncomputable def ref01_Compare_S1 : Spec := ⟨[.val (.sl .u8), .val (.sl .u8), .val .i64], []⟩
noncomputable def ref01_Compare_S2 : Spec := ⟨[.val (.sl .u8), .val (.sl .u8)], []⟩
noncomputable def ref01_Compare_S3 : Spec := ⟨[.val .i64], []⟩
noncomputable def ref01_Compare_K (_N : Nat) : XE → GS → Option ref01_Compare_R := retK 0 [4] [false] ref01_Compare_S3
noncomputable def ref01_Compare_L : List Code := (bodyOf (some Tryd.f70))
noncomputable def ref01_Compare_L2 : List Code := (loopOf (ref01_Compare_L[2]?))
noncomputable def ref01_Compare_K2 (N : Nat) : XE → GS → Option (Lo (((List UInt8) × (List UInt8) × Int × Unit) × (Unit)) (((List UInt8) × (List UInt8) × Unit) × (Unit)) ref01_Compare_R) := roundK (some 0) (fit 0 [0, 1, 5] ref01_Compare_S1) (fit 0 [0, 1] ref01_Compare_S2) (ref01_Compare_K N)
theorem ref01_Compare_3_b {E : Env} (N : Nat) (hb : Base Tryd.prog (ref01_Compare_C N) E 0) : Blk Tryd.prog (ref01_Compare_C N) E [0, 1, 5, 15] ref01_Compare_S0 (ref01_Compare_L2.drop 1) (fun y => ref01_Compare_3 N y.1.1 y.1.2.1 y.1.2.2.1 y.1.2.2.2.1) (ref01_Compare_K2 N) :=
  Blk.chunkAt hb 3 (X := (ref01_Compare_K2 N .normal)) (NxOk.end (by kernel_rfl)) rfl (fun x => by kernel_rfl)
theorem ref01_Compare_s2_b {E : Env} (N : Nat) (hb : Base Tryd.prog (ref01_Compare_C N) E 0) : Blk Tryd.prog (ref01_Compare_C N) E [0, 1, 5] ref01_Compare_S1 (ref01_Compare_L2.drop 0) (fun y => ref01_Compare_s2 N y.1.1 y.1.2.1 y.1.2.2.1) (ref01_Compare_K2 N) :=
  Blk.chunkAt hb 1 (X := (goK 0 [0, 1, 5, 15] ref01_Compare_S0 (fun y => ref01_Compare_3 N y.1.1 y.1.2.1 y.1.2.2.1 y.1.2.2.2.1))) (NxOk.go hb (ref01_Compare_3_b N hb)) rfl (fun x => by kernel_rfl)
theorem ref01_Compare_4_b {E : Env} (N : Nat) (hb : Base Tryd.prog (ref01_Compare_C N) E 0) : Blk Tryd.prog (ref01_Compare_C N) E [0, 1] ref01_Compare_S2 (ref01_Compare_L.drop 3) (fun y => ref01_Compare_4 N y.1.1 y.1.2.1) (ref01_Compare_K N) :=
  Blk.chunkAt hb 3 (X := (ref01_Compare_K N .normal)) (NxOk.end (by kernel_rfl)) rfl (fun x => by kernel_rfl)
theorem ref01_Compare_1_b {E : Env} (N : Nat) (hb : Base Tryd.prog (ref01_Compare_C N) E 0) : Blk Tryd.prog (ref01_Compare_C N) E [0, 1, 5] ref01_Compare_S1 (ref01_Compare_L.drop 2) (fun y => ref01_Compare_1 N y.1.1 y.1.2.1 y.1.2.2.1) (ref01_Compare_K N) :=
  Blk.loopAt (Nf := N) (hns := [0, 1, 5]) (ans := [0, 1]) (hc := ref01_Compare_S1) (ac := ref01_Compare_S2) (bid := 0) (step := (fun y => ref01_Compare_s2 N y.1.1 y.1.2.1 y.1.2.2.1)) (J := (fun e => (goK 0 [0, 1] ref01_Compare_S2 (fun y => ref01_Compare_4 N y.1.1 y.1.2.1)) (ref01_Compare_S2.st [0, 1] e))) hb (by kernel_rfl) (Blk.into (X := (goK 0 [0, 1] ref01_Compare_S2 (fun y => ref01_Compare_4 N y.1.1 y.1.2.1))) (NxOk.go hb (ref01_Compare_4_b N hb)) (fun x => by kernel_rfl)) (ref01_Compare_s2_b N hb) (fun x => by kernel_rfl)
theorem ref01_Compare_b {E : Env} (N : Nat) (hb : Base Tryd.prog (ref01_Compare_C N) E 0) : Blk Tryd.prog (ref01_Compare_C N) E (List.range ref01_Compare_S2.ks.length) ref01_Compare_S2 (ref01_Compare_L.drop 0) (fun y => ref01_Compare N y.1.1 y.1.2.1) (ref01_Compare_K N) :=
  Blk.chunkAt hb 2 (X := (goK 0 [0, 1, 5] ref01_Compare_S1 (fun y => ref01_Compare_1 N y.1.1 y.1.2.1 y.1.2.2.1))) (NxOk.go hb (ref01_Compare_1_b N hb)) rfl (fun x => by kernel_rfl)
noncomputable def ref01_Compare_ctr (N : Nat) : Ctr := ⟨ref01_Compare_S2, ref01_Compare_S3.un [false], 0, (fun y => ref01_Compare N y.1.1 y.1.2.1)⟩
theorem ref01_Compare_ctrs (N : Nat) : CtrsOk Tryd.prog (ref01_Compare_C N) := ctrs_nil rfl
theorem ref01_Compare_ok (N : Nat) : Ctr.ok Tryd.prog G_globs 70 (ref01_Compare_ctr N) :=
  ctr_fn (Γ := ref01_Compare_C N) (rfit := ref01_Compare_S3) (bs := [false]) (res := [4]) (by kernel_rfl) (tys_ok G_tys_ok) (ref01_Compare_ctrs N) Tryd.func70 (by kernel_rfl) (by kernel_rfl) Tryd.ntmps70 (by kernel_rfl) (by kernel_rfl) (by kernel_rfl) (by kernel_rfl) (fun E hb => ref01_Compare_b N hb)
end Go.Proofs.YtlamdneheilahaaDoor
namespace Go.Proofs.YtlamdneheilahaaDoor
open Go
set_option maxRecDepth 100000
set_option linter.unusedVariables false
/-! ipsecgate/ipsecgateref01.Equal -/
abbrev ref01_Equal_R : Type := ((Bool × Unit) × (Unit))
noncomputable def ref01_Equal (N : Nat) (a_0 : (List UInt8)) (b_1 : (List UInt8)) : Option ref01_Equal_R :=
  Option.bind (ref01_Compare N a_0 b_1) fun y1 =>
  some (((decide (y1.1.1 = (0 : Int))), ()), (()))
noncomputable def ref01_Equal_C (N : Nat) : Ctx := ⟨9, G_tys, [(70, ref01_Compare_ctr N)], G_globs⟩
noncomputable def ref01_Equal_S0 : Spec := ⟨[.val (.sl .u8), .val (.sl .u8)], []⟩
noncomputable def ref01_Equal_S1 : Spec := ⟨[.val .bool], []⟩
noncomputable def ref01_Equal_K (_N : Nat) : XE → GS → Option ref01_Equal_R := retK 0 [4] [false] ref01_Equal_S1
noncomputable def ref01_Equal_L : List Code := (bodyOf (some Tryd.f19))
theorem ref01_Equal_b {E : Env} (N : Nat) (hb : Base Tryd.prog (ref01_Equal_C N) E 0) : Blk Tryd.prog (ref01_Equal_C N) E (List.range ref01_Equal_S0.ks.length) ref01_Equal_S0 (ref01_Equal_L.drop 0) (fun y => ref01_Equal N y.1.1 y.1.2.1) (ref01_Equal_K N) :=
  Blk.chunkAt hb 3 (X := (ref01_Equal_K N .normal)) (NxOk.end (by kernel_rfl)) rfl (fun x => by kernel_rfl)
noncomputable def ref01_Equal_ctr (N : Nat) : Ctr := ⟨ref01_Equal_S0, ref01_Equal_S1.un [false], 0, (fun y => ref01_Equal N y.1.1 y.1.2.1)⟩
theorem ref01_Equal_ctrs (N : Nat) : CtrsOk Tryd.prog (ref01_Equal_C N) := ctrs_of (Γ := ref01_Equal_C N) (by
  intro p hp
  simp only [ref01_Equal_C, List.mem_cons, List.not_mem_nil, or_false] at hp
  rcases hp with rfl
  · exact ref01_Compare_ok N)
theorem ref01_Equal_ok (N : Nat) : Ctr.ok Tryd.prog G_globs 19 (ref01_Equal_ctr N) :=
  ctr_fn (Γ := ref01_Equal_C N) (rfit := ref01_Equal_S1) (bs := [false]) (res := [4]) (by kernel_rfl) (tys_ok G_tys_ok) (ref01_Equal_ctrs N) Tryd.func19 (by kernel_rfl) (by kernel_rfl) Tryd.ntmps19 (by kernel_rfl) (by kernel_rfl) (by kernel_rfl) (by kernel_rfl) (fun E hb => ref01_Equal_b N hb)
end Go.Proofs.YtlamdneheilahaaDoor
namespace Go.Proofs.YtlamdneheilahaaDoor
open Go
set_option maxRecDepth 100000
set_option linter.unusedVariables false
/-! ipsecgate/ipsecgateref16.Same -/
abbrev ref16_Same_R : Type := ((Bool × Unit) × (Unit))
noncomputable def ref16_Same (N : Nat) (a_0 : ((List UInt8) × ((List UInt8) × ((List UInt8) × ((List UInt8) × ((List UInt8) × Unit)))))) (b_1 : ((List UInt8) × ((List UInt8) × ((List UInt8) × ((List UInt8) × ((List UInt8) × Unit)))))) : Option ref16_Same_R :=
  Option.bind (ref01_Equal N a_0.1 b_1.1) fun y1 =>
  bif y1.1.1 then
    Option.bind (ref01_Equal N a_0.2.1 b_1.2.1) fun y2 =>
    bif y2.1.1 then
      Option.bind (ref01_Equal N a_0.2.2.1 b_1.2.2.1) fun y3 =>
      bif y3.1.1 then
        Option.bind (ref01_Equal N a_0.2.2.2.1 b_1.2.2.2.1) fun y4 =>
        bif y4.1.1 then
          Option.bind (ref01_Equal N a_0.2.2.2.2.1 b_1.2.2.2.2.1) fun y5 =>
          some ((y5.1.1, ()), (()))
        else
          some ((false, ()), (()))
      else
        some ((false, ()), (()))
    else
      some ((false, ()), (()))
  else
    some ((false, ()), (()))
noncomputable def ref16_Same_C (N : Nat) : Ctx := ⟨38, G_tys, [(19, ref01_Equal_ctr N)], G_globs⟩
noncomputable def ref16_Same_S0 : Spec := ⟨[.val (.pair (.sl .u8) (.pair (.sl .u8) (.pair (.sl .u8) (.pair (.sl .u8) (.pair (.sl .u8) .unit))))), .val (.pair (.sl .u8) (.pair (.sl .u8) (.pair (.sl .u8) (.pair (.sl .u8) (.pair (.sl .u8) .unit)))))], []⟩
noncomputable def ref16_Same_S1 : Spec := ⟨[.val .bool], []⟩
noncomputable def ref16_Same_K (_N : Nat) : XE → GS → Option ref16_Same_R := retK 0 [4] [false] ref16_Same_S1
noncomputable def ref16_Same_L : List Code := (bodyOf (some Tryd.f52))
theorem ref16_Same_b {E : Env} (N : Nat) (hb : Base Tryd.prog (ref16_Same_C N) E 0) : Blk Tryd.prog (ref16_Same_C N) E (List.range ref16_Same_S0.ks.length) ref16_Same_S0 (ref16_Same_L.drop 0) (fun y => ref16_Same N y.1.1 y.1.2.1) (ref16_Same_K N) :=
  Blk.chunkAt hb 3 (X := (ref16_Same_K N .normal)) (NxOk.end (by kernel_rfl)) rfl (fun x => by kernel_rfl)
noncomputable def ref16_Same_ctr (N : Nat) : Ctr := ⟨ref16_Same_S0, ref16_Same_S1.un [false], 0, (fun y => ref16_Same N y.1.1 y.1.2.1)⟩
theorem ref16_Same_ctrs (N : Nat) : CtrsOk Tryd.prog (ref16_Same_C N) := ctrs_of (Γ := ref16_Same_C N) (by
  intro p hp
  simp only [ref16_Same_C, List.mem_cons, List.not_mem_nil, or_false] at hp
  rcases hp with rfl
  · exact ref01_Equal_ok N)
theorem ref16_Same_ok (N : Nat) : Ctr.ok Tryd.prog G_globs 52 (ref16_Same_ctr N) :=
  ctr_fn (Γ := ref16_Same_C N) (rfit := ref16_Same_S1) (bs := [false]) (res := [4]) (by kernel_rfl) (tys_ok G_tys_ok) (ref16_Same_ctrs N) Tryd.func52 (by kernel_rfl) (by kernel_rfl) Tryd.ntmps52 (by kernel_rfl) (by kernel_rfl) (by kernel_rfl) (by kernel_rfl) (fun E hb => ref16_Same_b N hb)
end Go.Proofs.YtlamdneheilahaaDoor
namespace Go.Proofs.YtlamdneheilahaaDoor
open Go
set_option maxRecDepth 100000
set_option linter.unusedVariables false
/-! ipsecgate/ipsecgatelaw16.KeysAgree -/
abbrev law16_KeysAgree_R : Type := ((Bool × Unit) × (Unit))
noncomputable def law16_KeysAgree_2 (N : Nat) (ni_18 : (List UInt8)) (nr_19 : (List UInt8)) (t_155 : Bool) (k_24 : ((List UInt8) × ((List UInt8) × ((List UInt8) × ((List UInt8) × ((List UInt8) × Unit)))))) (m_25 : ((List UInt8) × ((List UInt8) × ((List UInt8) × ((List UInt8) × ((List UInt8) × Unit)))))) : Option law16_KeysAgree_R :=
  bif t_155 then
    some ((false, ()), (()))
  else
    Option.bind (keys_Child N k_24.1 ni_18 nr_19 ([] : List UInt8)) fun y22 =>
    Option.bind (keys_Child N m_25.1 ni_18 nr_19 ([] : List UInt8)) fun y23 =>
    bif (decide (y22.1.2.1 = (0 : Int))) then
      bif (decide (y23.1.2.1 = (0 : Int))) then
        bif (decide ((y22.1.1.1.length : Int) = (36 : Int))) then
          bif (decide ((y22.1.1.2.1.length : Int) = (36 : Int))) then
            Option.bind (ref01_Equal N y22.1.1.1 y23.1.1.1) fun y30 =>
            bif y30.1.1 then
              Option.bind (ref01_Equal N y22.1.1.2.1 y23.1.1.2.1) fun y31 =>
              some ((y31.1.1, ()), (()))
            else
              some ((false, ()), (()))
          else
            some ((false, ()), (()))
        else
          some ((false, ()), (()))
      else
        some ((false, ()), (()))
    else
      some ((false, ()), (()))
noncomputable def law16_KeysAgree_1 (N : Nat) (i_1 : UInt64) (r_2 : UInt64) (t_95 : Bool) (ni_18 : (List UInt8)) (nr_19 : (List UInt8)) (s_20 : (List UInt8)) (t_22 : (List UInt8)) : Option law16_KeysAgree_R :=
  bif t_95 then
    some ((false, ()), (()))
  else
    Option.bind (keys_Derive N s_20 ni_18 nr_19 i_1 r_2) fun y19 =>
    Option.bind (keys_Derive N t_22 ni_18 nr_19 i_1 r_2) fun y20 =>
    bif (!(decide (y19.1.2.1 = (0 : Int)))) then
      law16_KeysAgree_2 N ni_18 nr_19 true y19.1.1 y20.1.1
    else
      bif (!(decide (y20.1.2.1 = (0 : Int)))) then
        law16_KeysAgree_2 N ni_18 nr_19 true y19.1.1 y20.1.1
      else
        Option.bind (ref16_Same N y19.1.1 y20.1.1) fun y33 =>
        bif (!y33.1.1) then
          law16_KeysAgree_2 N ni_18 nr_19 true y19.1.1 y20.1.1
        else
          bif (!(decide ((y19.1.1.1.length : Int) = (32 : Int)))) then
            law16_KeysAgree_2 N ni_18 nr_19 true y19.1.1 y20.1.1
          else
            bif (!(decide ((y19.1.1.2.1.length : Int) = (36 : Int)))) then
              law16_KeysAgree_2 N ni_18 nr_19 true y19.1.1 y20.1.1
            else
              bif (!(decide ((y19.1.1.2.2.1.length : Int) = (36 : Int)))) then
                law16_KeysAgree_2 N ni_18 nr_19 true y19.1.1 y20.1.1
              else
                bif (!(decide ((y19.1.1.2.2.2.1.length : Int) = (32 : Int)))) then
                  law16_KeysAgree_2 N ni_18 nr_19 true y19.1.1 y20.1.1
                else
                  law16_KeysAgree_2 N ni_18 nr_19 (!(decide ((y19.1.1.2.2.2.2.1.length : Int) = (32 : Int)))) y19.1.1 y20.1.1
noncomputable def law16_KeysAgree (N : Nat) (codes_0 : (List UInt8)) (i_1 : UInt64) (r_2 : UInt64) : Option law16_KeysAgree_R :=
  Option.bind (law16_awake N) fun y1 =>
  bif (!y1.1.1) then
    some ((false, ()), (()))
  else
    Option.bind (make_New N codes_0 (160 : Int)) fun y3 =>
    Option.bind (make_Codes_Secret N y3.2.1) fun y4 =>
    Option.bind (make_Codes_Secret N y4.2.1) fun y5 =>
    Option.bind (group_Public N y4.1.1) fun y6 =>
    Option.bind (group_Public N y5.1.1) fun y7 =>
    Option.bind (group_Shared N y4.1.1 y7.1.1) fun y8 =>
    Option.bind (group_Shared N y5.1.1 y6.1.1) fun y9 =>
    Option.bind (make_Codes_Next N (20 : Int) y5.2.1) fun y10 =>
    Option.bind (make_Codes_Bytes N (w64 ((16 : Int) + y10.1.1)) y10.2.1) fun y12 =>
    Option.bind (make_Codes_Next N (20 : Int) y12.2.1) fun y13 =>
    Option.bind (make_Codes_Bytes N (w64 ((16 : Int) + y13.1.1)) y13.2.1) fun y15 =>
    Option.bind (keys_Seed N y12.2.2.1 y15.2.2.1 y8.2.1) fun y16 =>
    Option.bind (keys_Seed N y12.2.2.1 y15.2.2.1 y9.2.1) fun y17 =>
    bif (!(decide (y8.1.1 = (0 : Int)))) then
      law16_KeysAgree_1 N i_1 r_2 true y12.2.2.1 y15.2.2.1 y16.2.1 y17.2.1
    else
      bif (!(decide (y9.1.1 = (0 : Int)))) then
        law16_KeysAgree_1 N i_1 r_2 true y12.2.2.1 y15.2.2.1 y16.2.1 y17.2.1
      else
        bif (!(decide (y16.1.1 = (0 : Int)))) then
          law16_KeysAgree_1 N i_1 r_2 true y12.2.2.1 y15.2.2.1 y16.2.1 y17.2.1
        else
          law16_KeysAgree_1 N i_1 r_2 (!(decide (y17.1.1 = (0 : Int)))) y12.2.2.1 y15.2.2.1 y16.2.1 y17.2.1
noncomputable def law16_KeysAgree_C (N : Nat) : Ctx := ⟨204, G_tys, [(32, law16_awake_ctr N), (41, make_New_ctr N), (66, make_Codes_Secret_ctr N), (67, group_Public_ctr N), (68, group_Shared_ctr N), (43, make_Codes_Next_ctr N), (42, make_Codes_Bytes_ctr N), (44, keys_Seed_ctr N), (45, keys_Derive_ctr N), (53, keys_Child_ctr N), (19, ref01_Equal_ctr N), (52, ref16_Same_ctr N)], G_globs⟩
noncomputable def law16_KeysAgree_S0 : Spec := ⟨[.val (.sl .u8), .val (.sl .u8), .ref 0 (.pair (.sl .u8) (.pair (.sl .u8) (.pair (.sl .u8) (.pair (.sl .u8) (.pair (.sl .u8) .unit))))), .ref 1 (.pair (.sl .u8) (.pair (.sl .u8) (.pair (.sl .u8) (.pair (.sl .u8) (.pair (.sl .u8) .unit))))), .val .bool], [(.box 61 (.pair (.sl .u8) (.pair (.sl .u8) (.pair (.sl .u8) (.pair (.sl .u8) (.pair (.sl .u8) .unit))))), .pos 2), (.box 61 (.pair (.sl .u8) (.pair (.sl .u8) (.pair (.sl .u8) (.pair (.sl .u8) (.pair (.sl .u8) .unit))))), .pos 3)]⟩
noncomputable def law16_KeysAgree_S1 : Spec := ⟨[.val .u64, .val .u64, .row 0, .row 1, .row 2, .row 3, .val .bool], [(.row 5 .u8, .pos 2), (.row 5 .u8, .pos 3), (.row 5 .u8, .pos 4), (.row 5 .u8, .pos 5)]⟩
noncomputable def law16_KeysAgree_S2 : Spec := ⟨[.val (.sl .u8), .val .u64, .val .u64], []⟩
noncomputable def law16_KeysAgree_S3 : Spec := ⟨[.val .bool], []⟩
noncomputable def law16_KeysAgree_K (_N : Nat) : XE → GS → Option law16_KeysAgree_R := retK 0 [6] [false] law16_KeysAgree_S3
noncomputable def law16_KeysAgree_L : List Code := (bodyOf (some Tryd.f17))
theorem law16_KeysAgree_2_b {E : Env} (N : Nat) (hb : Base Tryd.prog (law16_KeysAgree_C N) E 0) : Blk Tryd.prog (law16_KeysAgree_C N) E [18, 19, 24, 25, 155] law16_KeysAgree_S0 (law16_KeysAgree_L.drop 17) (fun y => law16_KeysAgree_2 N y.1.1 y.1.2.1 y.1.2.2.1 y.2.1 y.2.2.1) (law16_KeysAgree_K N) :=
  Blk.chunkAt hb 5 (X := (law16_KeysAgree_K N .normal)) (NxOk.end (by kernel_rfl)) rfl (fun x => by kernel_rfl)
theorem law16_KeysAgree_1_b {E : Env} (N : Nat) (hb : Base Tryd.prog (law16_KeysAgree_C N) E 0) : Blk Tryd.prog (law16_KeysAgree_C N) E [1, 2, 18, 19, 20, 22, 95] law16_KeysAgree_S1 (law16_KeysAgree_L.drop 13) (fun y => law16_KeysAgree_1 N y.1.1 y.1.2.1 y.1.2.2.1 y.2.1 y.2.2.1 y.2.2.2.1 y.2.2.2.2.1) (law16_KeysAgree_K N) :=
  Blk.chunkAt hb 4 (X := (goK 0 [18, 19, 24, 25, 155] law16_KeysAgree_S0 (fun y => law16_KeysAgree_2 N y.1.1 y.1.2.1 y.1.2.2.1 y.2.1 y.2.2.1))) (NxOk.go hb (law16_KeysAgree_2_b N hb)) rfl (fun x => by kernel_rfl)
theorem law16_KeysAgree_b {E : Env} (N : Nat) (hb : Base Tryd.prog (law16_KeysAgree_C N) E 0) : Blk Tryd.prog (law16_KeysAgree_C N) E (List.range law16_KeysAgree_S2.ks.length) law16_KeysAgree_S2 (law16_KeysAgree_L.drop 0) (fun y => law16_KeysAgree N y.1.1 y.1.2.1 y.1.2.2.1) (law16_KeysAgree_K N) :=
  Blk.chunkAt hb 13 (X := (goK 0 [1, 2, 18, 19, 20, 22, 95] law16_KeysAgree_S1 (fun y => law16_KeysAgree_1 N y.1.1 y.1.2.1 y.1.2.2.1 y.2.1 y.2.2.1 y.2.2.2.1 y.2.2.2.2.1))) (NxOk.go hb (law16_KeysAgree_1_b N hb)) rfl (fun x => by kernel_rfl)
noncomputable def law16_KeysAgree_ctr (N : Nat) : Ctr := ⟨law16_KeysAgree_S2, law16_KeysAgree_S3.un [false], 0, (fun y => law16_KeysAgree N y.1.1 y.1.2.1 y.1.2.2.1)⟩
theorem law16_KeysAgree_ctrs (N : Nat) : CtrsOk Tryd.prog (law16_KeysAgree_C N) := ctrs_of (Γ := law16_KeysAgree_C N) (by
  intro p hp
  simp only [law16_KeysAgree_C, List.mem_cons, List.not_mem_nil, or_false] at hp
  rcases hp with rfl | rfl | rfl | rfl | rfl | rfl | rfl | rfl | rfl | rfl | rfl | rfl
  · exact law16_awake_ok N
  · exact make_New_ok N
  · exact make_Codes_Secret_ok N
  · exact group_Public_ok N
  · exact group_Shared_ok N
  · exact make_Codes_Next_ok N
  · exact make_Codes_Bytes_ok N
  · exact keys_Seed_ok N
  · exact keys_Derive_ok N
  · exact keys_Child_ok N
  · exact ref01_Equal_ok N
  · exact ref16_Same_ok N)
theorem law16_KeysAgree_ok (N : Nat) : Ctr.ok Tryd.prog G_globs 17 (law16_KeysAgree_ctr N) :=
  ctr_fn (Γ := law16_KeysAgree_C N) (rfit := law16_KeysAgree_S3) (bs := [false]) (res := [6]) (by kernel_rfl) (tys_ok G_tys_ok) (law16_KeysAgree_ctrs N) Tryd.func17 (by kernel_rfl) (by kernel_rfl) Tryd.ntmps17 (by kernel_rfl) (by kernel_rfl) (by kernel_rfl) (by kernel_rfl) (fun E hb => law16_KeysAgree_b N hb)
end Go.Proofs.YtlamdneheilahaaDoor
namespace Go.Proofs.YtlamdneheilahaaDoor
open Go
set_option maxRecDepth 100000
set_option linter.unusedVariables false
/-! ipsecgate/ipsecgateref01.Number -/
abbrev ref01_Number_R : Type := ((UInt64 × Bool × Unit) × (Unit))
noncomputable def ref01_Number_s3 (N : Nat) (b_0 : (List UInt8)) (at_1 : Int) (width_2 : Int) (v_8 : UInt64) (i_9 : Int) : Option (Lo (((List UInt8) × Int × Int × UInt64 × Int × Unit) × (Unit)) ((UInt64 × Unit) × (Unit)) ref01_Number_R) :=
  bif (decide (i_9 < (w64 (at_1 + width_2)))) then
    bif inR i_9 b_0.length then
    some (.go ((b_0, at_1, width_2, ((shl64 v_8 8) ||| (b_0.getD i_9.toNat (0 : UInt8)).toUInt64), (w64 (i_9 + (1 : Int))), ()), (())))
    else none
  else
    some (.br ((v_8, ()), (())))
noncomputable def ref01_Number_4 (N : Nat) (v_8 : UInt64) : Option ref01_Number_R :=
  some ((v_8, true, ()), (()))
noncomputable def ref01_Number_2 (N : Nat) (b_0 : (List UInt8)) (at_1 : Int) (width_2 : Int) (v_8 : UInt64) (i_9 : Int) : Option ref01_Number_R :=
  loopK N (fun y => ref01_Number_s3 N y.1.1 y.1.2.1 y.1.2.2.1 y.1.2.2.2.1 y.1.2.2.2.2.1) (fun (e : ((UInt64 × Unit) × (Unit))) => ref01_Number_4 N e.1.1) ((b_0, at_1, width_2, v_8, i_9, ()), (()))
noncomputable def ref01_Number_1 (N : Nat) (b_0 : (List UInt8)) (at_1 : Int) (width_2 : Int) (t_33 : Bool) : Option ref01_Number_R :=
  bif t_33 then
    some (((0 : UInt64), false, ()), (()))
  else
    ref01_Number_2 N b_0 at_1 width_2 (0 : UInt64) at_1
noncomputable def ref01_Number (N : Nat) (b_0 : (List UInt8)) (at_1 : Int) (width_2 : Int) : Option ref01_Number_R :=
  bif (decide (width_2 < (1 : Int))) then
    ref01_Number_1 N b_0 at_1 width_2 true
  else
    bif (decide ((8 : Int) < width_2)) then
      ref01_Number_1 N b_0 at_1 width_2 true
    else
      bif (decide (at_1 < (0 : Int))) then
        ref01_Number_1 N b_0 at_1 width_2 true
      else
        bif (decide ((b_0.length : Int) < at_1)) then
          ref01_Number_1 N b_0 at_1 width_2 true
        else
          ref01_Number_1 N b_0 at_1 width_2 (decide ((w64 ((b_0.length : Int) - at_1)) < width_2))
noncomputable def ref01_Number_C (N : Nat) : Ctx := ⟨51, G_tys, [], G_globs⟩
noncomputable def ref01_Number_S0 : Spec := ⟨[.val (.sl .u8), .val .i64, .val .i64, .val .u64, .val .i64], []⟩
noncomputable def ref01_Number_S1 : Spec := ⟨[.val .u64], []⟩
noncomputable def ref01_Number_S2 : Spec := ⟨[.val (.sl .u8), .val .i64, .val .i64, .val .bool], []⟩
noncomputable def ref01_Number_S3 : Spec := ⟨[.val (.sl .u8), .val .i64, .val .i64], []⟩
noncomputable def ref01_Number_S4 : Spec := ⟨[.val .u64, .val .bool], []⟩
noncomputable def ref01_Number_K (_N : Nat) : XE → GS → Option ref01_Number_R := retK 0 [6, 7] [false, false] ref01_Number_S4
noncomputable def ref01_Number_L : List Code := (bodyOf (some Tryd.f105))
noncomputable def ref01_Number_L3 : List Code := (loopOf (ref01_Number_L[5]?))
noncomputable def ref01_Number_K3 (N : Nat) : XE → GS → Option (Lo (((List UInt8) × Int × Int × UInt64 × Int × Unit) × (Unit)) ((UInt64 × Unit) × (Unit)) ref01_Number_R) := roundK (some 0) (fit 0 [0, 1, 2, 8, 9] ref01_Number_S0) (fit 0 [8] ref01_Number_S1) (ref01_Number_K N)
theorem ref01_Number_s3_b {E : Env} (N : Nat) (hb : Base Tryd.prog (ref01_Number_C N) E 0) : Blk Tryd.prog (ref01_Number_C N) E [0, 1, 2, 8, 9] ref01_Number_S0 (ref01_Number_L3.drop 0) (fun y => ref01_Number_s3 N y.1.1 y.1.2.1 y.1.2.2.1 y.1.2.2.2.1 y.1.2.2.2.2.1) (ref01_Number_K3 N) :=
  Blk.chunkAt hb 4 (X := (ref01_Number_K3 N .normal)) (NxOk.end (by kernel_rfl)) rfl (fun x => by kernel_rfl)
theorem ref01_Number_4_b {E : Env} (N : Nat) (hb : Base Tryd.prog (ref01_Number_C N) E 0) : Blk Tryd.prog (ref01_Number_C N) E [8] ref01_Number_S1 (ref01_Number_L.drop 6) (fun y => ref01_Number_4 N y.1.1) (ref01_Number_K N) :=
  Blk.chunkAt hb 2 (X := (ref01_Number_K N .normal)) (NxOk.end (by kernel_rfl)) rfl (fun x => by kernel_rfl)
theorem ref01_Number_2_b {E : Env} (N : Nat) (hb : Base Tryd.prog (ref01_Number_C N) E 0) : Blk Tryd.prog (ref01_Number_C N) E [0, 1, 2, 8, 9] ref01_Number_S0 (ref01_Number_L.drop 5) (fun y => ref01_Number_2 N y.1.1 y.1.2.1 y.1.2.2.1 y.1.2.2.2.1 y.1.2.2.2.2.1) (ref01_Number_K N) :=
  Blk.loopAt (Nf := N) (hns := [0, 1, 2, 8, 9]) (ans := [8]) (hc := ref01_Number_S0) (ac := ref01_Number_S1) (bid := 0) (step := (fun y => ref01_Number_s3 N y.1.1 y.1.2.1 y.1.2.2.1 y.1.2.2.2.1 y.1.2.2.2.2.1)) (J := (fun e => (goK 0 [8] ref01_Number_S1 (fun y => ref01_Number_4 N y.1.1)) (ref01_Number_S1.st [8] e))) hb (by kernel_rfl) (Blk.into (X := (goK 0 [8] ref01_Number_S1 (fun y => ref01_Number_4 N y.1.1))) (NxOk.go hb (ref01_Number_4_b N hb)) (fun x => by kernel_rfl)) (ref01_Number_s3_b N hb) (fun x => by kernel_rfl)
theorem ref01_Number_1_b {E : Env} (N : Nat) (hb : Base Tryd.prog (ref01_Number_C N) E 0) : Blk Tryd.prog (ref01_Number_C N) E [0, 1, 2, 33] ref01_Number_S2 (ref01_Number_L.drop 2) (fun y => ref01_Number_1 N y.1.1 y.1.2.1 y.1.2.2.1 y.1.2.2.2.1) (ref01_Number_K N) :=
  Blk.chunkAt hb 3 (X := (goK 0 [0, 1, 2, 8, 9] ref01_Number_S0 (fun y => ref01_Number_2 N y.1.1 y.1.2.1 y.1.2.2.1 y.1.2.2.2.1 y.1.2.2.2.2.1))) (NxOk.go hb (ref01_Number_2_b N hb)) rfl (fun x => by kernel_rfl)
theorem ref01_Number_b {E : Env} (N : Nat) (hb : Base Tryd.prog (ref01_Number_C N) E 0) : Blk Tryd.prog (ref01_Number_C N) E (List.range ref01_Number_S3.ks.length) ref01_Number_S3 (ref01_Number_L.drop 0) (fun y => ref01_Number N y.1.1 y.1.2.1 y.1.2.2.1) (ref01_Number_K N) :=
  Blk.chunkAt hb 2 (X := (goK 0 [0, 1, 2, 33] ref01_Number_S2 (fun y => ref01_Number_1 N y.1.1 y.1.2.1 y.1.2.2.1 y.1.2.2.2.1))) (NxOk.go hb (ref01_Number_1_b N hb)) rfl (fun x => by kernel_rfl)
noncomputable def ref01_Number_ctr (N : Nat) : Ctr := ⟨ref01_Number_S3, ref01_Number_S4.un [false, false], 0, (fun y => ref01_Number N y.1.1 y.1.2.1 y.1.2.2.1)⟩
theorem ref01_Number_ctrs (N : Nat) : CtrsOk Tryd.prog (ref01_Number_C N) := ctrs_nil rfl
theorem ref01_Number_ok (N : Nat) : Ctr.ok Tryd.prog G_globs 105 (ref01_Number_ctr N) :=
  ctr_fn (Γ := ref01_Number_C N) (rfit := ref01_Number_S4) (bs := [false, false]) (res := [6, 7]) (by kernel_rfl) (tys_ok G_tys_ok) (ref01_Number_ctrs N) Tryd.func105 (by kernel_rfl) (by kernel_rfl) Tryd.ntmps105 (by kernel_rfl) (by kernel_rfl) (by kernel_rfl) (by kernel_rfl) (fun E hb => ref01_Number_b N hb)
end Go.Proofs.YtlamdneheilahaaDoor
namespace Go.Proofs.YtlamdneheilahaaDoor
open Go
set_option maxRecDepth 100000
set_option linter.unusedVariables false
/-! ipsecgate/ipsecgateref01.Put -/
abbrev ref01_Put_R : Type := ((Unit) × ((List UInt8) × Unit))
noncomputable def ref01_Put_s3 (N : Nat) (v_1 : UInt64) (i_8 : Int) (out_7 : (List UInt8)) : Option (Lo ((UInt64 × Int × Unit) × ((List UInt8) × Unit)) ((Unit) × ((List UInt8) × Unit)) ref01_Put_R) :=
  bif (decide ((0 : Int) ≤ i_8)) then
    let x6 := shr64 v_1 (iu64 (w64 ((8 : Int) * i_8))).toNat
    bif room (out_7.length + ([x6.toUInt8] : List UInt8).length) 1 then
    some (.go ((v_1, (w64 (i_8 - (1 : Int))), ()), ((out_7 ++ ([x6.toUInt8] : List UInt8)), ())))
    else none
  else
    some (.br ((()), (out_7, ())))
noncomputable def ref01_Put_4 (N : Nat) (out_7 : (List UInt8)) : Option ref01_Put_R :=
  some ((()), (out_7, ()))
noncomputable def ref01_Put_2 (N : Nat) (v_1 : UInt64) (i_8 : Int) (out_7 : (List UInt8)) : Option ref01_Put_R :=
  loopK N (fun y => ref01_Put_s3 N y.1.1 y.1.2.1 y.2.1) (fun (e : ((Unit) × ((List UInt8) × Unit))) => ref01_Put_4 N e.2.1) ((v_1, i_8, ()), (out_7, ()))
noncomputable def ref01_Put_1 (N : Nat) (v_1 : UInt64) (width_2 : Int) (t_16 : Bool) (out_7 : (List UInt8)) : Option ref01_Put_R :=
  bif t_16 then
    some ((()), (out_7, ()))
  else
    ref01_Put_2 N v_1 (w64 (width_2 - (1 : Int))) out_7
noncomputable def ref01_Put (N : Nat) (b_0 : (List UInt8)) (v_1 : UInt64) (width_2 : Int) : Option ref01_Put_R :=
  bif room (0 + b_0.length) 1 then
  bif (decide (width_2 < (1 : Int))) then
    ref01_Put_1 N v_1 width_2 true b_0
  else
    ref01_Put_1 N v_1 width_2 (decide ((8 : Int) < width_2)) b_0
  else none
noncomputable def ref01_Put_C (N : Nat) : Ctx := ⟨34, G_tys, [], G_globs⟩
noncomputable def ref01_Put_S0 : Spec := ⟨[.val .u64, .row 0, .val .i64], [(.row 5 .u8, .pos 1)]⟩
noncomputable def ref01_Put_S1 : Spec := ⟨[.row 0], [(.row 5 .u8, .pos 0)]⟩
noncomputable def ref01_Put_S2 : Spec := ⟨[.val .u64, .val .i64, .row 0, .val .bool], [(.row 5 .u8, .pos 2)]⟩
noncomputable def ref01_Put_S3 : Spec := ⟨[.val (.sl .u8), .val .u64, .val .i64], []⟩
noncomputable def ref01_Put_K (_N : Nat) : XE → GS → Option ref01_Put_R := retK 0 [6] [false] ref01_Put_S1
noncomputable def ref01_Put_L : List Code := (bodyOf (some Tryd.f46))
noncomputable def ref01_Put_L3 : List Code := (loopOf (ref01_Put_L[5]?))
noncomputable def ref01_Put_K3 (N : Nat) : XE → GS → Option (Lo ((UInt64 × Int × Unit) × ((List UInt8) × Unit)) ((Unit) × ((List UInt8) × Unit)) ref01_Put_R) := roundK (some 0) (fit 0 [1, 7, 8] ref01_Put_S0) (fit 0 [7] ref01_Put_S1) (ref01_Put_K N)
theorem ref01_Put_s3_b {E : Env} (N : Nat) (hb : Base Tryd.prog (ref01_Put_C N) E 0) : Blk Tryd.prog (ref01_Put_C N) E [1, 7, 8] ref01_Put_S0 (ref01_Put_L3.drop 0) (fun y => ref01_Put_s3 N y.1.1 y.1.2.1 y.2.1) (ref01_Put_K3 N) :=
  Blk.chunkAt hb 4 (X := (ref01_Put_K3 N .normal)) (NxOk.end (by kernel_rfl)) rfl (fun x => by kernel_rfl)
theorem ref01_Put_4_b {E : Env} (N : Nat) (hb : Base Tryd.prog (ref01_Put_C N) E 0) : Blk Tryd.prog (ref01_Put_C N) E [7] ref01_Put_S1 (ref01_Put_L.drop 6) (fun y => ref01_Put_4 N y.2.1) (ref01_Put_K N) :=
  Blk.chunkAt hb 2 (X := (ref01_Put_K N .normal)) (NxOk.end (by kernel_rfl)) rfl (fun x => by kernel_rfl)
theorem ref01_Put_2_b {E : Env} (N : Nat) (hb : Base Tryd.prog (ref01_Put_C N) E 0) : Blk Tryd.prog (ref01_Put_C N) E [1, 7, 8] ref01_Put_S0 (ref01_Put_L.drop 5) (fun y => ref01_Put_2 N y.1.1 y.1.2.1 y.2.1) (ref01_Put_K N) :=
  Blk.loopAt (Nf := N) (hns := [1, 7, 8]) (ans := [7]) (hc := ref01_Put_S0) (ac := ref01_Put_S1) (bid := 0) (step := (fun y => ref01_Put_s3 N y.1.1 y.1.2.1 y.2.1)) (J := (fun e => (goK 0 [7] ref01_Put_S1 (fun y => ref01_Put_4 N y.2.1)) (ref01_Put_S1.st [7] e))) hb (by kernel_rfl) (Blk.into (X := (goK 0 [7] ref01_Put_S1 (fun y => ref01_Put_4 N y.2.1))) (NxOk.go hb (ref01_Put_4_b N hb)) (fun x => by kernel_rfl)) (ref01_Put_s3_b N hb) (fun x => by kernel_rfl)
theorem ref01_Put_1_b {E : Env} (N : Nat) (hb : Base Tryd.prog (ref01_Put_C N) E 0) : Blk Tryd.prog (ref01_Put_C N) E [1, 2, 7, 16] ref01_Put_S2 (ref01_Put_L.drop 3) (fun y => ref01_Put_1 N y.1.1 y.1.2.1 y.1.2.2.1 y.2.1) (ref01_Put_K N) :=
  Blk.chunkAt hb 2 (X := (goK 0 [1, 7, 8] ref01_Put_S0 (fun y => ref01_Put_2 N y.1.1 y.1.2.1 y.2.1))) (NxOk.go hb (ref01_Put_2_b N hb)) rfl (fun x => by kernel_rfl)
theorem ref01_Put_b {E : Env} (N : Nat) (hb : Base Tryd.prog (ref01_Put_C N) E 0) : Blk Tryd.prog (ref01_Put_C N) E (List.range ref01_Put_S3.ks.length) ref01_Put_S3 (ref01_Put_L.drop 0) (fun y => ref01_Put N y.1.1 y.1.2.1 y.1.2.2.1) (ref01_Put_K N) :=
  Blk.chunkAt hb 3 (X := (goK 0 [1, 2, 7, 16] ref01_Put_S2 (fun y => ref01_Put_1 N y.1.1 y.1.2.1 y.1.2.2.1 y.2.1))) (NxOk.go hb (ref01_Put_1_b N hb)) rfl (fun x => by kernel_rfl)
noncomputable def ref01_Put_ctr (N : Nat) : Ctr := ⟨ref01_Put_S3, ref01_Put_S1.un [false], 0, (fun y => ref01_Put N y.1.1 y.1.2.1 y.1.2.2.1)⟩
theorem ref01_Put_ctrs (N : Nat) : CtrsOk Tryd.prog (ref01_Put_C N) := ctrs_nil rfl
theorem ref01_Put_ok (N : Nat) : Ctr.ok Tryd.prog G_globs 46 (ref01_Put_ctr N) :=
  ctr_fn (Γ := ref01_Put_C N) (rfit := ref01_Put_S1) (bs := [false]) (res := [6]) (by kernel_rfl) (tys_ok G_tys_ok) (ref01_Put_ctrs N) Tryd.func46 (by kernel_rfl) (by kernel_rfl) Tryd.ntmps46 (by kernel_rfl) (by kernel_rfl) (by kernel_rfl) (by kernel_rfl) (fun E hb => ref01_Put_b N hb)
end Go.Proofs.YtlamdneheilahaaDoor
namespace Go.Proofs.YtlamdneheilahaaDoor
open Go
set_option maxRecDepth 100000
set_option linter.unusedVariables false
/-! ipsecgate/ipsecgateref08.Pad -/
abbrev ref08_Pad_R : Type := ((Unit) × ((List UInt8) × Unit))
noncomputable def ref08_Pad_s2 (N : Nat) (length_0 : Int) (out_3 : (List UInt8)) : Option (Lo ((Int × Unit) × ((List UInt8) × Unit)) ((Int × Unit) × ((List UInt8) × Unit)) ref08_Pad_R) :=
  bif (!(decide (((w64 ((length_0.tmod (64 : Int)) + (out_3.length : Int))).tmod (64 : Int)) = (56 : Int)))) then
    bif room (out_3.length + ([(0 : UInt8)] : List UInt8).length) 1 then
    some (.go ((length_0, ()), ((out_3 ++ ([(0 : UInt8)] : List UInt8)), ())))
    else none
  else
    some (.br ((length_0, ()), (out_3, ())))
noncomputable def ref08_Pad_3 (N : Nat) (length_0 : Int) (out_3 : (List UInt8)) : Option ref08_Pad_R :=
  Option.bind (ref01_Put N out_3 ((iu64 length_0) * (8 : UInt64)) (8 : Int)) fun y10 =>
  some ((()), (y10.2.1, ()))
noncomputable def ref08_Pad_1 (N : Nat) (length_0 : Int) (out_3 : (List UInt8)) : Option ref08_Pad_R :=
  loopK N (fun y => ref08_Pad_s2 N y.1.1 y.2.1) (fun (e : ((Int × Unit) × ((List UInt8) × Unit))) => ref08_Pad_3 N e.1.1 e.2.1) ((length_0, ()), (out_3, ()))
noncomputable def ref08_Pad (N : Nat) (length_0 : Int) : Option ref08_Pad_R :=
  bif (decide (length_0 < (0 : Int))) then
    some ((()), (([] : List UInt8), ()))
  else
    ref08_Pad_1 N length_0 ([(128 : UInt8)] : List UInt8)
noncomputable def ref08_Pad_C (N : Nat) : Ctx := ⟨22, G_tys, [(46, ref01_Put_ctr N)], G_globs⟩
noncomputable def ref08_Pad_S0 : Spec := ⟨[.val .i64, .row 0], [(.row 5 .u8, .pos 1)]⟩
noncomputable def ref08_Pad_S1 : Spec := ⟨[.val .i64], []⟩
noncomputable def ref08_Pad_S2 : Spec := ⟨[.row 0], [(.row 5 .u8, .pos 0)]⟩
noncomputable def ref08_Pad_K (_N : Nat) : XE → GS → Option ref08_Pad_R := retK 0 [2] [false] ref08_Pad_S2
noncomputable def ref08_Pad_L : List Code := (bodyOf (some Tryd.f71))
noncomputable def ref08_Pad_L2 : List Code := (loopOf (ref08_Pad_L[4]?))
noncomputable def ref08_Pad_K2 (N : Nat) : XE → GS → Option (Lo ((Int × Unit) × ((List UInt8) × Unit)) ((Int × Unit) × ((List UInt8) × Unit)) ref08_Pad_R) := roundK (some 0) (fit 0 [0, 3] ref08_Pad_S0) (fit 0 [0, 3] ref08_Pad_S0) (ref08_Pad_K N)
theorem ref08_Pad_s2_b {E : Env} (N : Nat) (hb : Base Tryd.prog (ref08_Pad_C N) E 0) : Blk Tryd.prog (ref08_Pad_C N) E [0, 3] ref08_Pad_S0 (ref08_Pad_L2.drop 0) (fun y => ref08_Pad_s2 N y.1.1 y.2.1) (ref08_Pad_K2 N) :=
  Blk.chunkAt hb 3 (X := (ref08_Pad_K2 N .normal)) (NxOk.end (by kernel_rfl)) rfl (fun x => by kernel_rfl)
theorem ref08_Pad_3_b {E : Env} (N : Nat) (hb : Base Tryd.prog (ref08_Pad_C N) E 0) : Blk Tryd.prog (ref08_Pad_C N) E [0, 3] ref08_Pad_S0 (ref08_Pad_L.drop 5) (fun y => ref08_Pad_3 N y.1.1 y.2.1) (ref08_Pad_K N) :=
  Blk.chunkAt hb 2 (X := (ref08_Pad_K N .normal)) (NxOk.end (by kernel_rfl)) rfl (fun x => by kernel_rfl)
theorem ref08_Pad_1_b {E : Env} (N : Nat) (hb : Base Tryd.prog (ref08_Pad_C N) E 0) : Blk Tryd.prog (ref08_Pad_C N) E [0, 3] ref08_Pad_S0 (ref08_Pad_L.drop 4) (fun y => ref08_Pad_1 N y.1.1 y.2.1) (ref08_Pad_K N) :=
  Blk.loopAt (Nf := N) (hns := [0, 3]) (ans := [0, 3]) (hc := ref08_Pad_S0) (ac := ref08_Pad_S0) (bid := 0) (step := (fun y => ref08_Pad_s2 N y.1.1 y.2.1)) (J := (fun e => (goK 0 [0, 3] ref08_Pad_S0 (fun y => ref08_Pad_3 N y.1.1 y.2.1)) (ref08_Pad_S0.st [0, 3] e))) hb (by kernel_rfl) (Blk.into (X := (goK 0 [0, 3] ref08_Pad_S0 (fun y => ref08_Pad_3 N y.1.1 y.2.1))) (NxOk.go hb (ref08_Pad_3_b N hb)) (fun x => by kernel_rfl)) (ref08_Pad_s2_b N hb) (fun x => by kernel_rfl)
theorem ref08_Pad_b {E : Env} (N : Nat) (hb : Base Tryd.prog (ref08_Pad_C N) E 0) : Blk Tryd.prog (ref08_Pad_C N) E (List.range ref08_Pad_S1.ks.length) ref08_Pad_S1 (ref08_Pad_L.drop 0) (fun y => ref08_Pad N y.1.1) (ref08_Pad_K N) :=
  Blk.chunkAt hb 4 (X := (goK 0 [0, 3] ref08_Pad_S0 (fun y => ref08_Pad_1 N y.1.1 y.2.1))) (NxOk.go hb (ref08_Pad_1_b N hb)) rfl (fun x => by kernel_rfl)
noncomputable def ref08_Pad_ctr (N : Nat) : Ctr := ⟨ref08_Pad_S1, ref08_Pad_S2.un [false], 0, (fun y => ref08_Pad N y.1.1)⟩
theorem ref08_Pad_ctrs (N : Nat) : CtrsOk Tryd.prog (ref08_Pad_C N) := ctrs_of (Γ := ref08_Pad_C N) (by
  intro p hp
  simp only [ref08_Pad_C, List.mem_cons, List.not_mem_nil, or_false] at hp
  rcases hp with rfl
  · exact ref01_Put_ok N)
theorem ref08_Pad_ok (N : Nat) : Ctr.ok Tryd.prog G_globs 71 (ref08_Pad_ctr N) :=
  ctr_fn (Γ := ref08_Pad_C N) (rfit := ref08_Pad_S2) (bs := [false]) (res := [2]) (by kernel_rfl) (tys_ok G_tys_ok) (ref08_Pad_ctrs N) Tryd.func71 (by kernel_rfl) (by kernel_rfl) Tryd.ntmps71 (by kernel_rfl) (by kernel_rfl) (by kernel_rfl) (by kernel_rfl) (fun E hb => ref08_Pad_b N hb)
end Go.Proofs.YtlamdneheilahaaDoor
namespace Go.Proofs.YtlamdneheilahaaDoor
open Go
set_option maxRecDepth 100000
set_option linter.unusedVariables false
/-! ipsecgate/ipsecgateref08.turn -/
abbrev ref08_turn_R : Type := ((UInt32 × Unit) × (Unit))
noncomputable def ref08_turn (N : Nat) (x_0 : UInt32) (n_1 : UInt64) : Option ref08_turn_R :=
  some ((((shr32 x_0 n_1.toNat) ||| (shl32 x_0 ((32 : UInt64) - n_1).toNat)), ()), (()))
noncomputable def ref08_turn_C (N : Nat) : Ctx := ⟨13, G_tys, [], G_globs⟩
noncomputable def ref08_turn_S0 : Spec := ⟨[.val .u32, .val .u64], []⟩
noncomputable def ref08_turn_S1 : Spec := ⟨[.val .u32], []⟩
noncomputable def ref08_turn_K (_N : Nat) : XE → GS → Option ref08_turn_R := retK 0 [4] [false] ref08_turn_S1
noncomputable def ref08_turn_L : List Code := (bodyOf (some Tryd.f106))
theorem ref08_turn_b {E : Env} (N : Nat) (hb : Base Tryd.prog (ref08_turn_C N) E 0) : Blk Tryd.prog (ref08_turn_C N) E (List.range ref08_turn_S0.ks.length) ref08_turn_S0 (ref08_turn_L.drop 0) (fun y => ref08_turn N y.1.1 y.1.2.1) (ref08_turn_K N) :=
  Blk.chunkAt hb 3 (X := (ref08_turn_K N .normal)) (NxOk.end (by kernel_rfl)) rfl (fun x => by kernel_rfl)
noncomputable def ref08_turn_ctr (N : Nat) : Ctr := ⟨ref08_turn_S0, ref08_turn_S1.un [false], 0, (fun y => ref08_turn N y.1.1 y.1.2.1)⟩
theorem ref08_turn_ctrs (N : Nat) : CtrsOk Tryd.prog (ref08_turn_C N) := ctrs_nil rfl
theorem ref08_turn_ok (N : Nat) : Ctr.ok Tryd.prog G_globs 106 (ref08_turn_ctr N) :=
  ctr_fn (Γ := ref08_turn_C N) (rfit := ref08_turn_S1) (bs := [false]) (res := [4]) (by kernel_rfl) (tys_ok G_tys_ok) (ref08_turn_ctrs N) Tryd.func106 (by kernel_rfl) (by kernel_rfl) Tryd.ntmps106 (by kernel_rfl) (by kernel_rfl) (by kernel_rfl) (by kernel_rfl) (fun E hb => ref08_turn_b N hb)
end Go.Proofs.YtlamdneheilahaaDoor
namespace Go.Proofs.YtlamdneheilahaaDoor
open Go
set_option maxRecDepth 100000
set_option linter.unusedVariables false
/-! ipsecgate/ipsecgateref08.constants -/
abbrev ref08_constants_R : Type := (((List UInt32) × Unit) × (Unit))
noncomputable def ref08_constants (N : Nat) : Option ref08_constants_R :=
  some ((([(1116352408 : UInt32), (1899447441 : UInt32), (3049323471 : UInt32), (3921009573 : UInt32), (961987163 : UInt32), (1508970993 : UInt32), (2453635748 : UInt32), (2870763221 : UInt32), (3624381080 : UInt32), (310598401 : UInt32), (607225278 : UInt32), (1426881987 : UInt32), (1925078388 : UInt32), (2162078206 : UInt32), (2614888103 : UInt32), (3248222580 : UInt32), (3835390401 : UInt32), (4022224774 : UInt32), (264347078 : UInt32), (604807628 : UInt32), (770255983 : UInt32), (1249150122 : UInt32), (1555081692 : UInt32), (1996064986 : UInt32), (2554220882 : UInt32), (2821834349 : UInt32), (2952996808 : UInt32), (3210313671 : UInt32), (3336571891 : UInt32), (3584528711 : UInt32), (113926993 : UInt32), (338241895 : UInt32), (666307205 : UInt32), (773529912 : UInt32), (1294757372 : UInt32), (1396182291 : UInt32), (1695183700 : UInt32), (1986661051 : UInt32), (2177026350 : UInt32), (2456956037 : UInt32), (2730485921 : UInt32), (2820302411 : UInt32), (3259730800 : UInt32), (3345764771 : UInt32), (3516065817 : UInt32), (3600352804 : UInt32), (4094571909 : UInt32), (275423344 : UInt32), (430227734 : UInt32), (506948616 : UInt32), (659060556 : UInt32), (883997877 : UInt32), (958139571 : UInt32), (1322822218 : UInt32), (1537002063 : UInt32), (1747873779 : UInt32), (1955562222 : UInt32), (2024104815 : UInt32), (2227730452 : UInt32), (2361852424 : UInt32), (2428436474 : UInt32), (2756734187 : UInt32), (3204031479 : UInt32), (3329325298 : UInt32)] : List UInt32), ()), (()))
noncomputable def ref08_constants_C (N : Nat) : Ctx := ⟨2, G_tys, [], G_globs⟩
noncomputable def ref08_constants_S0 : Spec := ⟨[], []⟩
noncomputable def ref08_constants_S1 : Spec := ⟨[.fp (.arr 64 .u32)], []⟩
noncomputable def ref08_constants_K (_N : Nat) : XE → GS → Option ref08_constants_R := retK 0 [0] [true] ref08_constants_S1
noncomputable def ref08_constants_L : List Code := (bodyOf (some Tryd.f107))
theorem ref08_constants_b {E : Env} (N : Nat) (hb : Base Tryd.prog (ref08_constants_C N) E 0) : Blk Tryd.prog (ref08_constants_C N) E (List.range ref08_constants_S0.ks.length) ref08_constants_S0 (ref08_constants_L.drop 0) (fun y => ref08_constants N) (ref08_constants_K N) :=
  Blk.chunkAt hb 3 (X := (ref08_constants_K N .normal)) (NxOk.end (by kernel_rfl)) rfl (fun x => by kernel_rfl)
noncomputable def ref08_constants_ctr (N : Nat) : Ctr := ⟨ref08_constants_S0, ref08_constants_S1.un [true], 0, (fun y => ref08_constants N)⟩
theorem ref08_constants_ctrs (N : Nat) : CtrsOk Tryd.prog (ref08_constants_C N) := ctrs_nil rfl
theorem ref08_constants_ok (N : Nat) : Ctr.ok Tryd.prog G_globs 107 (ref08_constants_ctr N) :=
  ctr_fn (Γ := ref08_constants_C N) (rfit := ref08_constants_S1) (bs := [true]) (res := [0]) (by kernel_rfl) (tys_ok G_tys_ok) (ref08_constants_ctrs N) Tryd.func107 (by kernel_rfl) (by kernel_rfl) Tryd.ntmps107 (by kernel_rfl) (by kernel_rfl) (by kernel_rfl) (by kernel_rfl) (fun E hb => ref08_constants_b N hb)
end Go.Proofs.YtlamdneheilahaaDoor
namespace Go.Proofs.YtlamdneheilahaaDoor
open Go
set_option maxRecDepth 100000
set_option linter.unusedVariables false
/-! ipsecgate/ipsecgateref08.Block -/
abbrev ref08_Block_R : Type := (((List UInt32) × Bool × Unit) × (Unit))
noncomputable def ref08_Block_s2 (N : Nat) (block_1 : (List UInt8)) (t_7 : Int) (state_2 : (List UInt32)) (t_4 : (List UInt32)) (w_6 : (List UInt32)) : Option (Lo (((List UInt8) × Int × Unit) × ((List UInt32) × (List UInt32) × (List UInt32) × Unit)) ((Unit) × ((List UInt32) × (List UInt32) × (List UInt32) × Unit)) ref08_Block_R) :=
  bif (decide (t_7 < (64 : Int))) then
    bif (decide (t_7 < (16 : Int))) then
      Option.bind (ref01_Number N block_1 (w64 ((4 : Int) * t_7)) (4 : Int)) fun y7 =>
      bif inR t_7 64 then
      some (.go ((block_1, (w64 (t_7 + (1 : Int))), ()), (state_2, t_4, (w_6.set t_7.toNat y7.1.1.toUInt32), ())))
      else none
    else
      let x10 := w64 (t_7 - (2 : Int))
      bif inR x10 64 then
      let x11 := (w_6.getD x10.toNat (0 : UInt32))
      let x12 := w64 (t_7 - (15 : Int))
      bif inR x12 64 then
      let x13 := (w_6.getD x12.toNat (0 : UInt32))
      Option.bind (ref08_turn N x11 (17 : UInt64)) fun y14 =>
      Option.bind (ref08_turn N x11 (19 : UInt64)) fun y15 =>
      let x19 := w64 (t_7 - (7 : Int))
      bif inR x19 64 then
      Option.bind (ref08_turn N x13 (7 : UInt64)) fun y22 =>
      Option.bind (ref08_turn N x13 (18 : UInt64)) fun y23 =>
      let x28 := w64 (t_7 - (16 : Int))
      bif inR x28 64 then
      bif inR t_7 64 then
      some (.go ((block_1, (w64 (t_7 + (1 : Int))), ()), (state_2, t_4, (w_6.set t_7.toNat (((((y14.1.1 ^^^ y15.1.1) ^^^ (shr32 x11 10)) + (w_6.getD x19.toNat (0 : UInt32))) + ((y22.1.1 ^^^ y23.1.1) ^^^ (shr32 x13 3))) + (w_6.getD x28.toNat (0 : UInt32)))), ())))
      else none
      else none
      else none
      else none
      else none
  else
    some (.br ((()), (state_2, t_4, w_6, ())))
noncomputable def ref08_Block_s5 (N : Nat) (t_14 : Int) (state_2 : (List UInt32)) (t_4 : (List UInt32)) (w_6 : (List UInt32)) (k_12 : (List UInt32)) (v_13 : (List UInt32)) : Option (Lo ((Int × Unit) × ((List UInt32) × (List UInt32) × (List UInt32) × (List UInt32) × (List UInt32) × Unit)) ((Unit) × ((List UInt32) × (List UInt32) × (List UInt32) × Unit)) ref08_Block_R) :=
  bif (decide (t_14 < (64 : Int))) then
    let x35 := (v_13.getD 0 (0 : UInt32))
    let x36 := (v_13.getD 1 (0 : UInt32))
    let x37 := (v_13.getD 2 (0 : UInt32))
    let x38 := (v_13.getD 4 (0 : UInt32))
    let x39 := (v_13.getD 5 (0 : UInt32))
    let x40 := (v_13.getD 6 (0 : UInt32))
    let x41 := (v_13.getD 7 (0 : UInt32))
    Option.bind (ref08_turn N x38 (6 : UInt64)) fun y42 =>
    Option.bind (ref08_turn N x38 (11 : UInt64)) fun y43 =>
    Option.bind (ref08_turn N x38 (25 : UInt64)) fun y45 =>
    let x46 := (y42.1.1 ^^^ y43.1.1) ^^^ y45.1.1
    bif inR t_14 64 then
    let x53 := (k_12.getD t_14.toNat (0 : UInt32))
    bif inR t_14 64 then
    let x55 := (w_6.getD t_14.toNat (0 : UInt32))
    Option.bind (ref08_turn N x35 (2 : UInt64)) fun y57 =>
    Option.bind (ref08_turn N x35 (13 : UInt64)) fun y58 =>
    Option.bind (ref08_turn N x35 (22 : UInt64)) fun y60 =>
    some (.go (((w64 (t_14 + (1 : Int))), ()), (state_2, t_4, w_6, k_12, ([(((((x41 + x46) + ((x38 &&& x39) ^^^ ((~~~ x38) &&& x40))) + x53) + x55) + (((y57.1.1 ^^^ y58.1.1) ^^^ y60.1.1) + (((x35 &&& x36) ^^^ (x35 &&& x37)) ^^^ (x36 &&& x37)))), x35, x36, x37, ((v_13.getD 3 (0 : UInt32)) + ((((x41 + x46) + ((x38 &&& x39) ^^^ ((~~~ x38) &&& x40))) + x53) + x55)), x38, x39, x40] : List UInt32), ())))
    else none
    else none
  else
    some (.br ((()), (state_2, t_4, v_13, ())))
noncomputable def ref08_Block_s8 (N : Nat) (i_23 : Int) (state_2 : (List UInt32)) (t_4 : (List UInt32)) (v_13 : (List UInt32)) : Option (Lo ((Int × Unit) × ((List UInt32) × (List UInt32) × (List UInt32) × Unit)) ((Unit) × ((List UInt32) × (List UInt32) × Unit)) ref08_Block_R) :=
  bif (decide (i_23 < (8 : Int))) then
    bif inR i_23 8 then
    bif inR i_23 8 then
    bif inR i_23 8 then
    some (.go (((w64 (i_23 + (1 : Int))), ()), (state_2, t_4, (v_13.set i_23.toNat ((v_13.getD i_23.toNat (0 : UInt32)) + (state_2.getD i_23.toNat (0 : UInt32)))), ())))
    else none
    else none
    else none
  else
    some (.br ((()), (t_4, v_13, ())))
noncomputable def ref08_Block_9 (N : Nat) (t_4 : (List UInt32)) (v_13 : (List UInt32)) : Option ref08_Block_R :=
  some ((v_13, true, ()), (()))
noncomputable def ref08_Block_7 (N : Nat) (i_23 : Int) (state_2 : (List UInt32)) (t_4 : (List UInt32)) (v_13 : (List UInt32)) : Option ref08_Block_R :=
  loopK N (fun y => ref08_Block_s8 N y.1.1 y.2.1 y.2.2.1 y.2.2.2.1) (fun (e : ((Unit) × ((List UInt32) × (List UInt32) × Unit))) => ref08_Block_9 N e.2.1 e.2.2.1) ((i_23, ()), (state_2, t_4, v_13, ()))
noncomputable def ref08_Block_6 (N : Nat) (state_2 : (List UInt32)) (t_4 : (List UInt32)) (v_13 : (List UInt32)) : Option ref08_Block_R :=
  ref08_Block_7 N (0 : Int) state_2 t_4 v_13
noncomputable def ref08_Block_4 (N : Nat) (t_14 : Int) (state_2 : (List UInt32)) (t_4 : (List UInt32)) (w_6 : (List UInt32)) (k_12 : (List UInt32)) (v_13 : (List UInt32)) : Option ref08_Block_R :=
  loopK N (fun y => ref08_Block_s5 N y.1.1 y.2.1 y.2.2.1 y.2.2.2.1 y.2.2.2.2.1 y.2.2.2.2.2.1) (fun (e : ((Unit) × ((List UInt32) × (List UInt32) × (List UInt32) × Unit))) => ref08_Block_6 N e.2.1 e.2.2.1 e.2.2.2.1) ((t_14, ()), (state_2, t_4, w_6, k_12, v_13, ()))
noncomputable def ref08_Block_3 (N : Nat) (state_2 : (List UInt32)) (t_4 : (List UInt32)) (w_6 : (List UInt32)) : Option ref08_Block_R :=
  Option.bind (ref08_constants N) fun y33 =>
  ref08_Block_4 N (0 : Int) state_2 t_4 w_6 y33.1.1 state_2
noncomputable def ref08_Block_1 (N : Nat) (block_1 : (List UInt8)) (t_7 : Int) (state_2 : (List UInt32)) (t_4 : (List UInt32)) (w_6 : (List UInt32)) : Option ref08_Block_R :=
  loopK N (fun y => ref08_Block_s2 N y.1.1 y.1.2.1 y.2.1 y.2.2.1 y.2.2.2.1) (fun (e : ((Unit) × ((List UInt32) × (List UInt32) × (List UInt32) × Unit))) => ref08_Block_3 N e.2.1 e.2.2.1 e.2.2.2.1) ((block_1, t_7, ()), (state_2, t_4, w_6, ()))
noncomputable def ref08_Block (N : Nat) (state_0 : (List UInt32)) (block_1 : (List UInt8)) : Option ref08_Block_R :=
  bif (!(decide ((block_1.length : Int) = (64 : Int)))) then
    some (((List.replicate 8 (0 : UInt32)), false, ()), (()))
  else
    ref08_Block_1 N block_1 (0 : Int) state_0 (List.replicate 8 (0 : UInt32)) (List.replicate 64 (0 : UInt32))
noncomputable def ref08_Block_C (N : Nat) : Ctx := ⟨175, G_tys, [(105, ref01_Number_ctr N), (106, ref08_turn_ctr N), (107, ref08_constants_ctr N)], G_globs⟩
noncomputable def ref08_Block_S0 : Spec := ⟨[.val (.sl .u8), .ref 0 (.arr 8 .u32), .ref 1 (.arr 8 .u32), .ref 2 (.arr 64 .u32), .val .i64], [(.box 34 (.arr 8 .u32), .pos 1), (.box 34 (.arr 8 .u32), .pos 2), (.box 92 (.arr 64 .u32), .pos 3)]⟩
noncomputable def ref08_Block_S1 : Spec := ⟨[.ref 0 (.arr 8 .u32), .ref 1 (.arr 8 .u32), .ref 2 (.arr 64 .u32), .ref 3 (.arr 64 .u32), .ref 4 (.arr 8 .u32), .val .i64], [(.box 34 (.arr 8 .u32), .pos 0), (.box 34 (.arr 8 .u32), .pos 1), (.box 92 (.arr 64 .u32), .pos 2), (.box 92 (.arr 64 .u32), .pos 3), (.box 34 (.arr 8 .u32), .pos 4)]⟩
noncomputable def ref08_Block_S2 : Spec := ⟨[.ref 0 (.arr 8 .u32), .ref 1 (.arr 8 .u32), .ref 2 (.arr 8 .u32), .val .i64], [(.box 34 (.arr 8 .u32), .pos 0), (.box 34 (.arr 8 .u32), .pos 1), (.box 34 (.arr 8 .u32), .pos 2)]⟩
noncomputable def ref08_Block_S3 : Spec := ⟨[.ref 0 (.arr 8 .u32), .ref 1 (.arr 8 .u32)], [(.box 34 (.arr 8 .u32), .pos 0), (.box 34 (.arr 8 .u32), .pos 1)]⟩
noncomputable def ref08_Block_S4 : Spec := ⟨[.ref 0 (.arr 8 .u32), .ref 1 (.arr 8 .u32), .ref 2 (.arr 8 .u32)], [(.box 34 (.arr 8 .u32), .pos 0), (.box 34 (.arr 8 .u32), .pos 1), (.box 34 (.arr 8 .u32), .pos 2)]⟩
noncomputable def ref08_Block_S5 : Spec := ⟨[.ref 0 (.arr 8 .u32), .ref 1 (.arr 8 .u32), .ref 2 (.arr 64 .u32)], [(.box 34 (.arr 8 .u32), .pos 0), (.box 34 (.arr 8 .u32), .pos 1), (.box 92 (.arr 64 .u32), .pos 2)]⟩
noncomputable def ref08_Block_S6 : Spec := ⟨[.val (.arr 8 .u32), .val (.sl .u8)], []⟩
noncomputable def ref08_Block_S7 : Spec := ⟨[.fp (.arr 8 .u32), .val .bool], []⟩
noncomputable def ref08_Block_K (_N : Nat) : XE → GS → Option ref08_Block_R := retK 0 [4, 5] [true, false] ref08_Block_S7
noncomputable def ref08_Block_L : List Code := (bodyOf (some Tryd.f72))
noncomputable def ref08_Block_L2 : List Code := (loopOf (ref08_Block_L[5]?))
noncomputable def ref08_Block_L5 : List Code := (loopOf (ref08_Block_L[9]?))
noncomputable def ref08_Block_L8 : List Code := (loopOf (ref08_Block_L[11]?))
noncomputable def ref08_Block_K2 (N : Nat) : XE → GS → Option (Lo (((List UInt8) × Int × Unit) × ((List UInt32) × (List UInt32) × (List UInt32) × Unit)) ((Unit) × ((List UInt32) × (List UInt32) × (List UInt32) × Unit)) ref08_Block_R) := roundK (some 0) (fit 0 [1, 2, 4, 6, 7] ref08_Block_S0) (fit 0 [2, 4, 6] ref08_Block_S5) (ref08_Block_K N)
noncomputable def ref08_Block_K5 (N : Nat) : XE → GS → Option (Lo ((Int × Unit) × ((List UInt32) × (List UInt32) × (List UInt32) × (List UInt32) × (List UInt32) × Unit)) ((Unit) × ((List UInt32) × (List UInt32) × (List UInt32) × Unit)) ref08_Block_R) := roundK (some 2) (fit 0 [2, 4, 6, 12, 13, 14] ref08_Block_S1) (fit 0 [2, 4, 13] ref08_Block_S4) (ref08_Block_K N)
noncomputable def ref08_Block_K8 (N : Nat) : XE → GS → Option (Lo ((Int × Unit) × ((List UInt32) × (List UInt32) × (List UInt32) × Unit)) ((Unit) × ((List UInt32) × (List UInt32) × Unit)) ref08_Block_R) := roundK (some 4) (fit 0 [2, 4, 13, 23] ref08_Block_S2) (fit 0 [4, 13] ref08_Block_S3) (ref08_Block_K N)
theorem ref08_Block_s2_b {E : Env} (N : Nat) (hb : Base Tryd.prog (ref08_Block_C N) E 0) : Blk Tryd.prog (ref08_Block_C N) E [1, 2, 4, 6, 7] ref08_Block_S0 (ref08_Block_L2.drop 0) (fun y => ref08_Block_s2 N y.1.1 y.1.2.1 y.2.1 y.2.2.1 y.2.2.2.1) (ref08_Block_K2 N) :=
  Blk.chunkAt hb 4 (X := (ref08_Block_K2 N .normal)) (NxOk.end (by kernel_rfl)) rfl (fun x => by kernel_rfl)
theorem ref08_Block_s5_b {E : Env} (N : Nat) (hb : Base Tryd.prog (ref08_Block_C N) E 0) : Blk Tryd.prog (ref08_Block_C N) E [2, 4, 6, 12, 13, 14] ref08_Block_S1 (ref08_Block_L5.drop 0) (fun y => ref08_Block_s5 N y.1.1 y.2.1 y.2.2.1 y.2.2.2.1 y.2.2.2.2.1 y.2.2.2.2.2.1) (ref08_Block_K5 N) :=
  Blk.chunkAt hb 4 (X := (ref08_Block_K5 N .normal)) (NxOk.end (by kernel_rfl)) rfl (fun x => by kernel_rfl)
theorem ref08_Block_s8_b {E : Env} (N : Nat) (hb : Base Tryd.prog (ref08_Block_C N) E 0) : Blk Tryd.prog (ref08_Block_C N) E [2, 4, 13, 23] ref08_Block_S2 (ref08_Block_L8.drop 0) (fun y => ref08_Block_s8 N y.1.1 y.2.1 y.2.2.1 y.2.2.2.1) (ref08_Block_K8 N) :=
  Blk.chunkAt hb 4 (X := (ref08_Block_K8 N .normal)) (NxOk.end (by kernel_rfl)) rfl (fun x => by kernel_rfl)
theorem ref08_Block_9_b {E : Env} (N : Nat) (hb : Base Tryd.prog (ref08_Block_C N) E 0) : Blk Tryd.prog (ref08_Block_C N) E [4, 13] ref08_Block_S3 (ref08_Block_L.drop 12) (fun y => ref08_Block_9 N y.2.1 y.2.2.1) (ref08_Block_K N) :=
  Blk.chunkAt hb 2 (X := (ref08_Block_K N .normal)) (NxOk.end (by kernel_rfl)) rfl (fun x => by kernel_rfl)
theorem ref08_Block_7_b {E : Env} (N : Nat) (hb : Base Tryd.prog (ref08_Block_C N) E 0) : Blk Tryd.prog (ref08_Block_C N) E [2, 4, 13, 23] ref08_Block_S2 (ref08_Block_L.drop 11) (fun y => ref08_Block_7 N y.1.1 y.2.1 y.2.2.1 y.2.2.2.1) (ref08_Block_K N) :=
  Blk.loopAt (Nf := N) (hns := [2, 4, 13, 23]) (ans := [4, 13]) (hc := ref08_Block_S2) (ac := ref08_Block_S3) (bid := 4) (step := (fun y => ref08_Block_s8 N y.1.1 y.2.1 y.2.2.1 y.2.2.2.1)) (J := (fun e => (goK 0 [4, 13] ref08_Block_S3 (fun y => ref08_Block_9 N y.2.1 y.2.2.1)) (ref08_Block_S3.st [4, 13] e))) hb (by kernel_rfl) (Blk.into (X := (goK 0 [4, 13] ref08_Block_S3 (fun y => ref08_Block_9 N y.2.1 y.2.2.1))) (NxOk.go hb (ref08_Block_9_b N hb)) (fun x => by kernel_rfl)) (ref08_Block_s8_b N hb) (fun x => by kernel_rfl)
theorem ref08_Block_6_b {E : Env} (N : Nat) (hb : Base Tryd.prog (ref08_Block_C N) E 0) : Blk Tryd.prog (ref08_Block_C N) E [2, 4, 13] ref08_Block_S4 (ref08_Block_L.drop 10) (fun y => ref08_Block_6 N y.2.1 y.2.2.1 y.2.2.2.1) (ref08_Block_K N) :=
  Blk.chunkAt hb 1 (X := (goK 0 [2, 4, 13, 23] ref08_Block_S2 (fun y => ref08_Block_7 N y.1.1 y.2.1 y.2.2.1 y.2.2.2.1))) (NxOk.go hb (ref08_Block_7_b N hb)) rfl (fun x => by kernel_rfl)
theorem ref08_Block_4_b {E : Env} (N : Nat) (hb : Base Tryd.prog (ref08_Block_C N) E 0) : Blk Tryd.prog (ref08_Block_C N) E [2, 4, 6, 12, 13, 14] ref08_Block_S1 (ref08_Block_L.drop 9) (fun y => ref08_Block_4 N y.1.1 y.2.1 y.2.2.1 y.2.2.2.1 y.2.2.2.2.1 y.2.2.2.2.2.1) (ref08_Block_K N) :=
  Blk.loopAt (Nf := N) (hns := [2, 4, 6, 12, 13, 14]) (ans := [2, 4, 13]) (hc := ref08_Block_S1) (ac := ref08_Block_S4) (bid := 2) (step := (fun y => ref08_Block_s5 N y.1.1 y.2.1 y.2.2.1 y.2.2.2.1 y.2.2.2.2.1 y.2.2.2.2.2.1)) (J := (fun e => (goK 0 [2, 4, 13] ref08_Block_S4 (fun y => ref08_Block_6 N y.2.1 y.2.2.1 y.2.2.2.1)) (ref08_Block_S4.st [2, 4, 13] e))) hb (by kernel_rfl) (Blk.into (X := (goK 0 [2, 4, 13] ref08_Block_S4 (fun y => ref08_Block_6 N y.2.1 y.2.2.1 y.2.2.2.1))) (NxOk.go hb (ref08_Block_6_b N hb)) (fun x => by kernel_rfl)) (ref08_Block_s5_b N hb) (fun x => by kernel_rfl)
theorem ref08_Block_3_b {E : Env} (N : Nat) (hb : Base Tryd.prog (ref08_Block_C N) E 0) : Blk Tryd.prog (ref08_Block_C N) E [2, 4, 6] ref08_Block_S5 (ref08_Block_L.drop 6) (fun y => ref08_Block_3 N y.2.1 y.2.2.1 y.2.2.2.1) (ref08_Block_K N) :=
  Blk.chunkAt hb 3 (X := (goK 0 [2, 4, 6, 12, 13, 14] ref08_Block_S1 (fun y => ref08_Block_4 N y.1.1 y.2.1 y.2.2.1 y.2.2.2.1 y.2.2.2.2.1 y.2.2.2.2.2.1))) (NxOk.go hb (ref08_Block_4_b N hb)) rfl (fun x => by kernel_rfl)
theorem ref08_Block_1_b {E : Env} (N : Nat) (hb : Base Tryd.prog (ref08_Block_C N) E 0) : Blk Tryd.prog (ref08_Block_C N) E [1, 2, 4, 6, 7] ref08_Block_S0 (ref08_Block_L.drop 5) (fun y => ref08_Block_1 N y.1.1 y.1.2.1 y.2.1 y.2.2.1 y.2.2.2.1) (ref08_Block_K N) :=
  Blk.loopAt (Nf := N) (hns := [1, 2, 4, 6, 7]) (ans := [2, 4, 6]) (hc := ref08_Block_S0) (ac := ref08_Block_S5) (bid := 0) (step := (fun y => ref08_Block_s2 N y.1.1 y.1.2.1 y.2.1 y.2.2.1 y.2.2.2.1)) (J := (fun e => (goK 0 [2, 4, 6] ref08_Block_S5 (fun y => ref08_Block_3 N y.2.1 y.2.2.1 y.2.2.2.1)) (ref08_Block_S5.st [2, 4, 6] e))) hb (by kernel_rfl) (Blk.into (X := (goK 0 [2, 4, 6] ref08_Block_S5 (fun y => ref08_Block_3 N y.2.1 y.2.2.1 y.2.2.2.1))) (NxOk.go hb (ref08_Block_3_b N hb)) (fun x => by kernel_rfl)) (ref08_Block_s2_b N hb) (fun x => by kernel_rfl)
theorem ref08_Block_b {E : Env} (N : Nat) (hb : Base Tryd.prog (ref08_Block_C N) E 0) : Blk Tryd.prog (ref08_Block_C N) E (List.range ref08_Block_S6.ks.length) ref08_Block_S6 (ref08_Block_L.drop 0) (fun y => ref08_Block N y.1.1 y.1.2.1) (ref08_Block_K N) :=
  Blk.chunkAt hb 5 (X := (goK 0 [1, 2, 4, 6, 7] ref08_Block_S0 (fun y => ref08_Block_1 N y.1.1 y.1.2.1 y.2.1 y.2.2.1 y.2.2.2.1))) (NxOk.go hb (ref08_Block_1_b N hb)) rfl (fun x => by kernel_rfl)
noncomputable def ref08_Block_ctr (N : Nat) : Ctr := ⟨ref08_Block_S6, ref08_Block_S7.un [true, false], 0, (fun y => ref08_Block N y.1.1 y.1.2.1)⟩
theorem ref08_Block_ctrs (N : Nat) : CtrsOk Tryd.prog (ref08_Block_C N) := ctrs_of (Γ := ref08_Block_C N) (by
  intro p hp
  simp only [ref08_Block_C, List.mem_cons, List.not_mem_nil, or_false] at hp
  rcases hp with rfl | rfl | rfl
  · exact ref01_Number_ok N
  · exact ref08_turn_ok N
  · exact ref08_constants_ok N)
theorem ref08_Block_ok (N : Nat) : Ctr.ok Tryd.prog G_globs 72 (ref08_Block_ctr N) :=
  ctr_fn (Γ := ref08_Block_C N) (rfit := ref08_Block_S7) (bs := [true, false]) (res := [4, 5]) (by kernel_rfl) (tys_ok G_tys_ok) (ref08_Block_ctrs N) Tryd.func72 (by kernel_rfl) (by kernel_rfl) Tryd.ntmps72 (by kernel_rfl) (by kernel_rfl) (by kernel_rfl) (by kernel_rfl) (fun E hb => ref08_Block_b N hb)
end Go.Proofs.YtlamdneheilahaaDoor
namespace Go.Proofs.YtlamdneheilahaaDoor
open Go
set_option maxRecDepth 100000
set_option linter.unusedVariables false
/-! ipsecgate/ipsecgateref08.Sum -/
abbrev ref08_Sum_R : Type := ((Unit) × ((List UInt8) × Unit))
noncomputable def ref08_Sum_s2 (N : Nat) (all_3 : (List UInt8)) (i_5 : Int) (v_4 : (List UInt32)) : Option (Lo (((List UInt8) × Int × Unit) × ((List UInt32) × Unit)) ((Unit) × ((List UInt32) × Unit)) ref08_Sum_R) :=
  bif (decide (i_5 < (all_3.length : Int))) then
    let x7 := w64 (i_5 + (64 : Int))
    bif decide (0 ≤ i_5) && decide (i_5 ≤ x7) && decide (x7 ≤ (all_3.length : Int)) && true then
    Option.bind (ref08_Block N v_4 (cut all_3 i_5.toNat x7.toNat)) fun y9 =>
    some (.go ((all_3, (w64 (i_5 + (64 : Int))), ()), (y9.1.1, ())))
    else none
  else
    some (.br ((()), (v_4, ())))
noncomputable def ref08_Sum_s5 (N : Nat) (i_7 : Int) (v_4 : (List UInt32)) (out_6 : (List UInt8)) : Option (Lo ((Int × Unit) × ((List UInt32) × (List UInt8) × Unit)) ((Unit) × ((List UInt8) × Unit)) ref08_Sum_R) :=
  bif (decide (i_7 < (8 : Int))) then
    bif inR i_7 8 then
    Option.bind (ref01_Put N out_6 (v_4.getD i_7.toNat (0 : UInt32)).toUInt64 (4 : Int)) fun y13 =>
    some (.go (((w64 (i_7 + (1 : Int))), ()), (v_4, y13.2.1, ())))
    else none
  else
    some (.br ((()), (out_6, ())))
noncomputable def ref08_Sum_6 (N : Nat) (out_6 : (List UInt8)) : Option ref08_Sum_R :=
  some ((()), (out_6, ()))
noncomputable def ref08_Sum_4 (N : Nat) (i_7 : Int) (v_4 : (List UInt32)) (out_6 : (List UInt8)) : Option ref08_Sum_R :=
  loopK N (fun y => ref08_Sum_s5 N y.1.1 y.2.1 y.2.2.1) (fun (e : ((Unit) × ((List UInt8) × Unit))) => ref08_Sum_6 N e.2.1) ((i_7, ()), (v_4, out_6, ()))
noncomputable def ref08_Sum_3 (N : Nat) (v_4 : (List UInt32)) : Option ref08_Sum_R :=
  ref08_Sum_4 N (0 : Int) v_4 ([] : List UInt8)
noncomputable def ref08_Sum_1 (N : Nat) (i_5 : Int) (all_3 : (List UInt8)) (v_4 : (List UInt32)) : Option ref08_Sum_R :=
  loopK N (fun y => ref08_Sum_s2 N y.1.1 y.1.2.1 y.2.1) (fun (e : ((Unit) × ((List UInt32) × Unit))) => ref08_Sum_3 N e.2.1) ((all_3, i_5, ()), (v_4, ()))
noncomputable def ref08_Sum (N : Nat) (b_0 : (List UInt8)) : Option ref08_Sum_R :=
  bif room (0 + b_0.length) 1 then
  Option.bind (ref08_Pad N (b_0.length : Int)) fun y2 =>
  bif room (b_0.length + y2.2.1.length) 1 then
  ref08_Sum_1 N (0 : Int) (b_0 ++ y2.2.1) ([(1779033703 : UInt32), (3144134277 : UInt32), (1013904242 : UInt32), (2773480762 : UInt32), (1359893119 : UInt32), (2600822924 : UInt32), (528734635 : UInt32), (1541459225 : UInt32)] : List UInt32)
  else none
  else none
noncomputable def ref08_Sum_C (N : Nat) : Ctx := ⟨42, G_tys, [(71, ref08_Pad_ctr N), (72, ref08_Block_ctr N), (46, ref01_Put_ctr N)], G_globs⟩
noncomputable def ref08_Sum_S0 : Spec := ⟨[.val (.sl .u8), .ref 0 (.arr 8 .u32), .val .i64], [(.box 34 (.arr 8 .u32), .pos 1)]⟩
noncomputable def ref08_Sum_S1 : Spec := ⟨[.ref 0 (.arr 8 .u32), .row 1, .val .i64], [(.box 34 (.arr 8 .u32), .pos 0), (.row 5 .u8, .pos 1)]⟩
noncomputable def ref08_Sum_S2 : Spec := ⟨[.row 0], [(.row 5 .u8, .pos 0)]⟩
noncomputable def ref08_Sum_S3 : Spec := ⟨[.ref 0 (.arr 8 .u32)], [(.box 34 (.arr 8 .u32), .pos 0)]⟩
noncomputable def ref08_Sum_S4 : Spec := ⟨[.row 0, .ref 1 (.arr 8 .u32), .val .i64], [(.row 5 .u8, .pos 0), (.box 34 (.arr 8 .u32), .pos 1)]⟩
noncomputable def ref08_Sum_S5 : Spec := ⟨[.val (.sl .u8)], []⟩
noncomputable def ref08_Sum_K (_N : Nat) : XE → GS → Option ref08_Sum_R := retK 0 [2] [false] ref08_Sum_S2
noncomputable def ref08_Sum_L : List Code := (bodyOf (some Tryd.f21))
noncomputable def ref08_Sum_L2 : List Code := (loopOf (ref08_Sum_L[4]?))
noncomputable def ref08_Sum_L5 : List Code := (loopOf (ref08_Sum_L[7]?))
noncomputable def ref08_Sum_K2 (N : Nat) : XE → GS → Option (Lo (((List UInt8) × Int × Unit) × ((List UInt32) × Unit)) ((Unit) × ((List UInt32) × Unit)) ref08_Sum_R) := roundK (some 0) (fit 0 [3, 4, 5] ref08_Sum_S0) (fit 0 [4] ref08_Sum_S3) (ref08_Sum_K N)
noncomputable def ref08_Sum_K5 (N : Nat) : XE → GS → Option (Lo ((Int × Unit) × ((List UInt32) × (List UInt8) × Unit)) ((Unit) × ((List UInt8) × Unit)) ref08_Sum_R) := roundK (some 2) (fit 0 [4, 6, 7] ref08_Sum_S1) (fit 0 [6] ref08_Sum_S2) (ref08_Sum_K N)
theorem ref08_Sum_s2_b {E : Env} (N : Nat) (hb : Base Tryd.prog (ref08_Sum_C N) E 0) : Blk Tryd.prog (ref08_Sum_C N) E [3, 4, 5] ref08_Sum_S0 (ref08_Sum_L2.drop 0) (fun y => ref08_Sum_s2 N y.1.1 y.1.2.1 y.2.1) (ref08_Sum_K2 N) :=
  Blk.chunkAt hb 4 (X := (ref08_Sum_K2 N .normal)) (NxOk.end (by kernel_rfl)) rfl (fun x => by kernel_rfl)
theorem ref08_Sum_s5_b {E : Env} (N : Nat) (hb : Base Tryd.prog (ref08_Sum_C N) E 0) : Blk Tryd.prog (ref08_Sum_C N) E [4, 6, 7] ref08_Sum_S1 (ref08_Sum_L5.drop 0) (fun y => ref08_Sum_s5 N y.1.1 y.2.1 y.2.2.1) (ref08_Sum_K5 N) :=
  Blk.chunkAt hb 4 (X := (ref08_Sum_K5 N .normal)) (NxOk.end (by kernel_rfl)) rfl (fun x => by kernel_rfl)
theorem ref08_Sum_6_b {E : Env} (N : Nat) (hb : Base Tryd.prog (ref08_Sum_C N) E 0) : Blk Tryd.prog (ref08_Sum_C N) E [6] ref08_Sum_S2 (ref08_Sum_L.drop 8) (fun y => ref08_Sum_6 N y.2.1) (ref08_Sum_K N) :=
  Blk.chunkAt hb 2 (X := (ref08_Sum_K N .normal)) (NxOk.end (by kernel_rfl)) rfl (fun x => by kernel_rfl)
theorem ref08_Sum_4_b {E : Env} (N : Nat) (hb : Base Tryd.prog (ref08_Sum_C N) E 0) : Blk Tryd.prog (ref08_Sum_C N) E [4, 6, 7] ref08_Sum_S1 (ref08_Sum_L.drop 7) (fun y => ref08_Sum_4 N y.1.1 y.2.1 y.2.2.1) (ref08_Sum_K N) :=
  Blk.loopAt (Nf := N) (hns := [4, 6, 7]) (ans := [6]) (hc := ref08_Sum_S1) (ac := ref08_Sum_S2) (bid := 2) (step := (fun y => ref08_Sum_s5 N y.1.1 y.2.1 y.2.2.1)) (J := (fun e => (goK 0 [6] ref08_Sum_S2 (fun y => ref08_Sum_6 N y.2.1)) (ref08_Sum_S2.st [6] e))) hb (by kernel_rfl) (Blk.into (X := (goK 0 [6] ref08_Sum_S2 (fun y => ref08_Sum_6 N y.2.1))) (NxOk.go hb (ref08_Sum_6_b N hb)) (fun x => by kernel_rfl)) (ref08_Sum_s5_b N hb) (fun x => by kernel_rfl)
theorem ref08_Sum_3_b {E : Env} (N : Nat) (hb : Base Tryd.prog (ref08_Sum_C N) E 0) : Blk Tryd.prog (ref08_Sum_C N) E [4] ref08_Sum_S3 (ref08_Sum_L.drop 5) (fun y => ref08_Sum_3 N y.2.1) (ref08_Sum_K N) :=
  Blk.chunkAt hb 2 (X := (goK 0 [4, 6, 7] ref08_Sum_S1 (fun y => ref08_Sum_4 N y.1.1 y.2.1 y.2.2.1))) (NxOk.go hb (ref08_Sum_4_b N hb)) rfl (fun x => by kernel_rfl)
theorem ref08_Sum_1_b {E : Env} (N : Nat) (hb : Base Tryd.prog (ref08_Sum_C N) E 0) : Blk Tryd.prog (ref08_Sum_C N) E [3, 4, 5] ref08_Sum_S4 (ref08_Sum_L.drop 4) (fun y => ref08_Sum_1 N y.1.1 y.2.1 y.2.2.1) (ref08_Sum_K N) :=
  Blk.loopAt (Nf := N) (hns := [3, 4, 5]) (ans := [4]) (hc := ref08_Sum_S0) (ac := ref08_Sum_S3) (bid := 0) (step := (fun y => ref08_Sum_s2 N y.1.1 y.1.2.1 y.2.1)) (J := (fun e => (goK 0 [4] ref08_Sum_S3 (fun y => ref08_Sum_3 N y.2.1)) (ref08_Sum_S3.st [4] e))) hb (by kernel_rfl) (Blk.into (X := (goK 0 [4] ref08_Sum_S3 (fun y => ref08_Sum_3 N y.2.1))) (NxOk.go hb (ref08_Sum_3_b N hb)) (fun x => by kernel_rfl)) (ref08_Sum_s2_b N hb) (fun x => by kernel_rfl)
theorem ref08_Sum_b {E : Env} (N : Nat) (hb : Base Tryd.prog (ref08_Sum_C N) E 0) : Blk Tryd.prog (ref08_Sum_C N) E (List.range ref08_Sum_S5.ks.length) ref08_Sum_S5 (ref08_Sum_L.drop 0) (fun y => ref08_Sum N y.1.1) (ref08_Sum_K N) :=
  Blk.chunkAt hb 4 (X := (goK 0 [3, 4, 5] ref08_Sum_S4 (fun y => ref08_Sum_1 N y.1.1 y.2.1 y.2.2.1))) (NxOk.go hb (ref08_Sum_1_b N hb)) rfl (fun x => by kernel_rfl)
noncomputable def ref08_Sum_ctr (N : Nat) : Ctr := ⟨ref08_Sum_S5, ref08_Sum_S2.un [false], 0, (fun y => ref08_Sum N y.1.1)⟩
theorem ref08_Sum_ctrs (N : Nat) : CtrsOk Tryd.prog (ref08_Sum_C N) := ctrs_of (Γ := ref08_Sum_C N) (by
  intro p hp
  simp only [ref08_Sum_C, List.mem_cons, List.not_mem_nil, or_false] at hp
  rcases hp with rfl | rfl | rfl
  · exact ref08_Pad_ok N
  · exact ref08_Block_ok N
  · exact ref01_Put_ok N)
theorem ref08_Sum_ok (N : Nat) : Ctr.ok Tryd.prog G_globs 21 (ref08_Sum_ctr N) :=
  ctr_fn (Γ := ref08_Sum_C N) (rfit := ref08_Sum_S2) (bs := [false]) (res := [2]) (by kernel_rfl) (tys_ok G_tys_ok) (ref08_Sum_ctrs N) Tryd.func21 (by kernel_rfl) (by kernel_rfl) Tryd.ntmps21 (by kernel_rfl) (by kernel_rfl) (by kernel_rfl) (by kernel_rfl) (fun E hb => ref08_Sum_b N hb)
end Go.Proofs.YtlamdneheilahaaDoor