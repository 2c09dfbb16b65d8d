/- Functions of the program as plain functions, each with the proof that the text computes it. -/
import Derived.Test.YtgbkkfpheahdfaaFnsLookupSeesA
set_option linter.unusedVariables false
set_option linter.unusedSimpArgs false
namespace Go.Proofs.Ytgbkkfpheahdfaa
open Go
set_option maxRecDepth 100000
set_option linter.unusedVariables false
/-! ipsecgate/wire.Put -/
abbrev wire_Put_R : Type := ((Unit) × ((List UInt8) × Unit))
noncomputable def wire_Put_s3 (N : Nat) (v_1 : UInt64) (i_7 : Int) (b_0 : (List UInt8)) : Option (Lo ((UInt64 × Int × Unit) × ((List UInt8) × Unit)) ((Unit) × ((List UInt8) × Unit)) wire_Put_R) :=
  bif (decide ((0 : Int) ≤ i_7)) then
    let x4 := w64 ((8 : Int) * i_7)
    bif decide (0 ≤ x4) then
    let x5 := shr64 v_1 x4.toNat
    bif room (b_0.length + ([x5.toUInt8] : List UInt8).length) 1 then
    some (.go ((v_1, (w64 (i_7 - (1 : Int))), ()), ((b_0 ++ ([x5.toUInt8] : List UInt8)), ())))
    else none
    else none
  else
    some (.br ((()), (b_0, ())))
noncomputable def wire_Put_4 (N : Nat) (b_0 : (List UInt8)) : Option wire_Put_R :=
  some ((()), (b_0, ()))
noncomputable def wire_Put_2 (N : Nat) (v_1 : UInt64) (i_7 : Int) (b_0 : (List UInt8)) : Option wire_Put_R :=
  loopK N (fun y => wire_Put_s3 N y.1.1 y.1.2.1 y.2.1) (fun (e : ((Unit) × ((List UInt8) × Unit))) => wire_Put_4 N e.2.1) ((v_1, i_7, ()), (b_0, ()))
noncomputable def wire_Put_1 (N : Nat) (v_1 : UInt64) (width_2 : Int) (t_13 : Bool) (b_0 : (List UInt8)) : Option wire_Put_R :=
  bif t_13 then
    some ((()), (b_0, ()))
  else
    wire_Put_2 N v_1 (w64 (width_2 - (1 : Int))) b_0
noncomputable def wire_Put (N : Nat) (v_1 : UInt64) (width_2 : Int) (b_0 : (List UInt8)) : Option wire_Put_R :=
  bif (decide (width_2 < (1 : Int))) then
    wire_Put_1 N v_1 width_2 true b_0
  else
    wire_Put_1 N v_1 width_2 (decide ((8 : Int) < width_2)) b_0
noncomputable def wire_Put_C (N : Nat) : Ctx := ⟨30, G_tys, [], G_globs, G_ifs⟩
noncomputable def wire_Put_S0 : Spec := ⟨[.row 0, .val .u64, .val .i64], [(.row 5 .u8, .pos 0)]⟩
noncomputable def wire_Put_S1 : Spec := ⟨[.row 0], [(.row 5 .u8, .pos 0)]⟩
noncomputable def wire_Put_S2 : Spec := ⟨[.row 0, .val .u64, .val .i64, .val .bool], [(.row 5 .u8, .pos 0)]⟩
noncomputable def wire_Put_K (_N : Nat) : XE → GS → Option wire_Put_R := retK 0 [6] [false] wire_Put_S1
noncomputable def wire_Put_L : List Code := (bodyOf (some Try.f111))
noncomputable def wire_Put_L3 : List Code := (loopOf (wire_Put_L[4]?))
noncomputable def wire_Put_K3 (N : Nat) : XE → GS → Option (Lo ((UInt64 × Int × Unit) × ((List UInt8) × Unit)) ((Unit) × ((List UInt8) × Unit)) wire_Put_R) := roundK (some 0) (fit 0 [0, 1, 7] wire_Put_S0) (fit 0 [0] wire_Put_S1) (wire_Put_K N)
theorem wire_Put_s3_b {E : Env} (N : Nat) (hb : Base Try.prog (wire_Put_C N) E 0) : Blk Try.prog (wire_Put_C N) E [0, 1, 7] wire_Put_S0 (wire_Put_L3.drop 0) (fun y => wire_Put_s3 N y.1.1 y.1.2.1 y.2.1) (wire_Put_K3 N) :=
  Blk.chunkAt hb 4 (X := (wire_Put_K3 N .normal)) (NxOk.end (by kernel_rfl)) rfl (fun x => by kernel_rfl)
theorem wire_Put_4_b {E : Env} (N : Nat) (hb : Base Try.prog (wire_Put_C N) E 0) : Blk Try.prog (wire_Put_C N) E [0] wire_Put_S1 (wire_Put_L.drop 5) (fun y => wire_Put_4 N y.2.1) (wire_Put_K N) :=
  Blk.chunkAt hb 2 (X := (wire_Put_K N .normal)) (NxOk.end (by kernel_rfl)) rfl (fun x => by kernel_rfl)
theorem wire_Put_2_b {E : Env} (N : Nat) (hb : Base Try.prog (wire_Put_C N) E 0) : Blk Try.prog (wire_Put_C N) E [0, 1, 7] wire_Put_S0 (wire_Put_L.drop 4) (fun y => wire_Put_2 N y.1.1 y.1.2.1 y.2.1) (wire_Put_K N) :=
  Blk.loopAt (Nf := N) (hns := [0, 1, 7]) (ans := [0]) (hc := wire_Put_S0) (ac := wire_Put_S1) (bid := 0) (step := (fun y => wire_Put_s3 N y.1.1 y.1.2.1 y.2.1)) (J := (fun e => (goK 0 [0] wire_Put_S1 (fun y => wire_Put_4 N y.2.1)) (wire_Put_S1.st [0] e))) hb (by kernel_rfl) (Blk.into (X := (goK 0 [0] wire_Put_S1 (fun y => wire_Put_4 N y.2.1))) (NxOk.go hb (wire_Put_4_b N hb)) (fun x => by kernel_rfl)) (wire_Put_s3_b N hb) (fun x => by kernel_rfl)
theorem wire_Put_1_b {E : Env} (N : Nat) (hb : Base Try.prog (wire_Put_C N) E 0) : Blk Try.prog (wire_Put_C N) E [0, 1, 2, 13] wire_Put_S2 (wire_Put_L.drop 2) (fun y => wire_Put_1 N y.1.1 y.1.2.1 y.1.2.2.1 y.2.1) (wire_Put_K N) :=
  Blk.chunkAt hb 2 (X := (goK 0 [0, 1, 7] wire_Put_S0 (fun y => wire_Put_2 N y.1.1 y.1.2.1 y.2.1))) (NxOk.go hb (wire_Put_2_b N hb)) rfl (fun x => by kernel_rfl)
theorem wire_Put_b {E : Env} (N : Nat) (hb : Base Try.prog (wire_Put_C N) E 0) : Blk Try.prog (wire_Put_C N) E (List.range wire_Put_S0.ks.length) wire_Put_S0 (wire_Put_L.drop 0) (fun y => wire_Put N y.1.1 y.1.2.1 y.2.1) (wire_Put_K N) :=
  Blk.chunkAt hb 2 (X := (goK 0 [0, 1, 2, 13] wire_Put_S2 (fun y => wire_Put_1 N y.1.1 y.1.2.1 y.1.2.2.1 y.2.1))) (NxOk.go hb (wire_Put_1_b N hb)) rfl (fun x => by kernel_rfl)
noncomputable def wire_Put_ctr (N : Nat) : Ctr := ⟨wire_Put_S0, wire_Put_S1.un [false], 0, (fun y => wire_Put N y.1.1 y.1.2.1 y.2.1)⟩
theorem wire_Put_ctrs (N : Nat) : CtrsOk Try.prog (wire_Put_C N) := ctrs_nil G_ifs_ok rfl
theorem wire_Put_ok (N : Nat) : Ctr.ok Try.prog G_globs 111 (wire_Put_ctr N) :=
  ctr_fn (Γ := wire_Put_C N) (rfit := wire_Put_S1) (bs := [false]) (res := [6]) (by kernel_rfl) (tys_ok G_tys_ok) (wire_Put_ctrs N) Try.func111 (by kernel_rfl) (by kernel_rfl) Try.ntmps111 (by kernel_rfl) (by kernel_rfl) (by kernel_rfl) (by kernel_rfl) (fun E hb => wire_Put_b N hb)
end Go.Proofs.Ytgbkkfpheahdfaa
namespace Go.Proofs.Ytgbkkfpheahdfaa
open Go
set_option maxRecDepth 100000
set_option linter.unusedVariables false
/-! ipsecgate/selector.Valid -/
abbrev selector_Valid_R : Type := ((Bool × Unit) × (Unit))
noncomputable def selector_Valid (N : Nat) (a_0 : D27) : Option selector_Valid_R :=
  bif (decide (a_0.1 = (6 : Int))) then
    some ((true, ()), (()))
  else
    bif (decide (a_0.1 = (4 : Int))) then
      bif (decide (a_0.2.1 = (0 : UInt64))) then
        some (((decide (a_0.2.2.1 < (4294967296 : UInt64))), ()), (()))
      else
        some ((false, ()), (()))
    else
      some ((false, ()), (()))
noncomputable def selector_Valid_C (N : Nat) : Ctx := ⟨21, G_tys, [], G_globs, G_ifs⟩
noncomputable def selector_Valid_S0 : Spec := ⟨[.val T27], []⟩
noncomputable def selector_Valid_S1 : Spec := ⟨[.val .bool], []⟩
noncomputable def selector_Valid_K (_N : Nat) : XE → GS → Option selector_Valid_R := retK 0 [2] [false] selector_Valid_S1
noncomputable def selector_Valid_L : List Code := (bodyOf (some Try.f108))
theorem selector_Valid_b {E : Env} (N : Nat) (hb : Base Try.prog (selector_Valid_C N) E 0) : Blk Try.prog (selector_Valid_C N) E (List.range selector_Valid_S0.ks.length) selector_Valid_S0 (selector_Valid_L.drop 0) (fun y => selector_Valid N y.1.1) (selector_Valid_K N) :=
  Blk.chunkAt hb 3 (X := (selector_Valid_K N .normal)) (NxOk.end (by kernel_rfl)) rfl (fun x => by kernel_rfl)
noncomputable def selector_Valid_ctr (N : Nat) : Ctr := ⟨selector_Valid_S0, selector_Valid_S1.un [false], 0, (fun y => selector_Valid N y.1.1)⟩
theorem selector_Valid_ctrs (N : Nat) : CtrsOk Try.prog (selector_Valid_C N) := ctrs_nil G_ifs_ok rfl
theorem selector_Valid_ok (N : Nat) : Ctr.ok Try.prog G_globs 108 (selector_Valid_ctr N) :=
  ctr_fn (Γ := selector_Valid_C N) (rfit := selector_Valid_S1) (bs := [false]) (res := [2]) (by kernel_rfl) (tys_ok G_tys_ok) (selector_Valid_ctrs N) Try.func108 (by kernel_rfl) (by kernel_rfl) Try.ntmps108 (by kernel_rfl) (by kernel_rfl) (by kernel_rfl) (by kernel_rfl) (fun E hb => selector_Valid_b N hb)
end Go.Proofs.Ytgbkkfpheahdfaa
namespace Go.Proofs.Ytgbkkfpheahdfaa
open Go
set_option maxRecDepth 100000
set_option linter.unusedVariables false
/-! ipsecgate/lookup.port -/
abbrev lookup_port_R : Type := ((Bool × Unit) × (Unit))
noncomputable def lookup_port (N : Nat) (n_0 : Int) : Option lookup_port_R :=
  bif (decide ((-1 : Int) ≤ n_0)) then
    some (((decide (n_0 ≤ (65535 : Int))), ()), (()))
  else
    some ((false, ()), (()))
noncomputable def lookup_port_C (N : Nat) : Ctx := ⟨9, G_tys, [], G_globs, G_ifs⟩
noncomputable def lookup_port_S0 : Spec := ⟨[.val .i64], []⟩
noncomputable def lookup_port_S1 : Spec := ⟨[.val .bool], []⟩
noncomputable def lookup_port_K (_N : Nat) : XE → GS → Option lookup_port_R := retK 0 [2] [false] lookup_port_S1
noncomputable def lookup_port_L : List Code := (bodyOf (some Try.f109))
theorem lookup_port_b {E : Env} (N : Nat) (hb : Base Try.prog (lookup_port_C N) E 0) : Blk Try.prog (lookup_port_C N) E (List.range lookup_port_S0.ks.length) lookup_port_S0 (lookup_port_L.drop 0) (fun y => lookup_port N y.1.1) (lookup_port_K N) :=
  Blk.chunkAt hb 3 (X := (lookup_port_K N .normal)) (NxOk.end (by kernel_rfl)) rfl (fun x => by kernel_rfl)
noncomputable def lookup_port_ctr (N : Nat) : Ctr := ⟨lookup_port_S0, lookup_port_S1.un [false], 0, (fun y => lookup_port N y.1.1)⟩
theorem lookup_port_ctrs (N : Nat) : CtrsOk Try.prog (lookup_port_C N) := ctrs_nil G_ifs_ok rfl
theorem lookup_port_ok (N : Nat) : Ctr.ok Try.prog G_globs 109 (lookup_port_ctr N) :=
  ctr_fn (Γ := lookup_port_C N) (rfit := lookup_port_S1) (bs := [false]) (res := [2]) (by kernel_rfl) (tys_ok G_tys_ok) (lookup_port_ctrs N) Try.func109 (by kernel_rfl) (by kernel_rfl) Try.ntmps109 (by kernel_rfl) (by kernel_rfl) (by kernel_rfl) (by kernel_rfl) (fun E hb => lookup_port_b N hb)
end Go.Proofs.Ytgbkkfpheahdfaa
namespace Go.Proofs.Ytgbkkfpheahdfaa
open Go
set_option maxRecDepth 100000
set_option linter.unusedVariables false
/-! ipsecgate/lookup.transport -/
abbrev lookup_transport_R : Type := ((Int × Unit) × ((List UInt8) × Unit))
noncomputable def lookup_transport_s3 (N : Nat) (t_25 : Int) (t_26 : Int) (out_6 : (List UInt8)) (t_24 : (List Int)) : Option (Lo ((Int × Int × Unit) × ((List UInt8) × (List Int) × Unit)) ((Unit) × ((List UInt8) × Unit)) lookup_transport_R) :=
  bif (decide (t_26 < t_25)) then
    bif inR t_26 t_24.length then
    let x5 := (t_24.getD t_26.toNat (0 : Int))
    bif (decide (x5 = (-1 : Int))) then
      some (.go ((t_25, (w64 (t_26 + (1 : Int))), ()), (out_6, t_24, ())))
    else
      bif (decide ((out_6.length : Int) < (4 : Int))) then
        some (.rt (((1 : Int), ()), (([] : List UInt8), ())))
      else
        let x10 := w64 ((2 : Int) * t_26)
        let x12 := w64 ((w64 ((2 : Int) * t_26)) + (1 : Int))
        bif inR x10 out_6.length then
        let x15 := (out_6.set x10.toNat (iu8 (shrI x5 8)))
        bif inR x12 x15.length then
        some (.go ((t_25, (w64 (t_26 + (1 : Int))), ()), ((x15.set x12.toNat (iu8 x5)), t_24, ())))
        else none
        else none
    else none
  else
    some (.br ((()), (out_6, ())))
noncomputable def lookup_transport_4 (N : Nat) (out_6 : (List UInt8)) : Option lookup_transport_R :=
  some (((0 : Int), ()), (out_6, ()))
noncomputable def lookup_transport_2 (N : Nat) (t_25 : Int) (t_26 : Int) (out_6 : (List UInt8)) (t_24 : (List Int)) : Option lookup_transport_R :=
  loopK N (fun y => lookup_transport_s3 N y.1.1 y.1.2.1 y.2.1 y.2.2.1) (fun (e : ((Unit) × ((List UInt8) × Unit))) => lookup_transport_4 N e.2.1) ((t_25, t_26, ()), (out_6, t_24, ()))
noncomputable def lookup_transport_1 (N : Nat) (t_18 : Bool) (p_2 : D29) (out_6 : (List UInt8)) : Option lookup_transport_R :=
  bif t_18 then
    some (((0 : Int), ()), (out_6, ()))
  else
    lookup_transport_2 N (([p_2.2.2.2.1, p_2.2.2.2.2.1] : List Int).length : Int) (0 : Int) out_6 ([p_2.2.2.2.1, p_2.2.2.2.2.1] : List Int)
noncomputable def lookup_transport (N : Nat) (p_0 : D29) (data_1 : (List UInt8)) : Option lookup_transport_R :=
  bif room (0 + data_1.length) 1 then
  bif (!(decide (p_0.2.2.1 = (6 : Int)))) then
    lookup_transport_1 N (!(decide (p_0.2.2.1 = (17 : Int)))) p_0 data_1
  else
    lookup_transport_1 N false p_0 data_1
  else none
noncomputable def lookup_transport_C (N : Nat) : Ctx := ⟨52, G_tys, [], G_globs, G_ifs⟩
noncomputable def lookup_transport_S0 : Spec := ⟨[.row 0, .row 1, .val .i64, .val .i64], [(.row 5 .u8, .pos 0), (.row 3 .i64, .pos 1)]⟩
noncomputable def lookup_transport_S1 : Spec := ⟨[.row 0], [(.row 5 .u8, .pos 0)]⟩
noncomputable def lookup_transport_S2 : Spec := ⟨[.ref 0 T29, .row 1, .val .bool], [(.box 30 T29, .pos 0), (.row 5 .u8, .pos 1)]⟩
noncomputable def lookup_transport_S3 : Spec := ⟨[.val T29, .val (.sl .u8)], []⟩
noncomputable def lookup_transport_S4 : Spec := ⟨[.row 0, .val .i64], [(.row 5 .u8, .pos 0)]⟩
noncomputable def lookup_transport_K (_N : Nat) : XE → GS → Option lookup_transport_R := retK 0 [4, 5] [false, false] lookup_transport_S4
noncomputable def lookup_transport_L : List Code := (bodyOf (some Try.f110))
noncomputable def lookup_transport_L3 : List Code := (loopOf (lookup_transport_L[5]?))
noncomputable def lookup_transport_K3 (N : Nat) : XE → GS → Option (Lo ((Int × Int × Unit) × ((List UInt8) × (List Int) × Unit)) ((Unit) × ((List UInt8) × Unit)) lookup_transport_R) := roundK (some 0) (fit 0 [6, 24, 25, 26] lookup_transport_S0) (fit 0 [6] lookup_transport_S1) (lookup_transport_K N)
theorem lookup_transport_s3_b {E : Env} (N : Nat) (hb : Base Try.prog (lookup_transport_C N) E 0) : Blk Try.prog (lookup_transport_C N) E [6, 24, 25, 26] lookup_transport_S0 (lookup_transport_L3.drop 0) (fun y => lookup_transport_s3 N y.1.1 y.1.2.1 y.2.1 y.2.2.1) (lookup_transport_K3 N) :=
  Blk.chunkAt hb 4 (X := (lookup_transport_K3 N .normal)) (NxOk.end (by kernel_rfl)) rfl (fun x => by kernel_rfl)
theorem lookup_transport_4_b {E : Env} (N : Nat) (hb : Base Try.prog (lookup_transport_C N) E 0) : Blk Try.prog (lookup_transport_C N) E [6] lookup_transport_S1 (lookup_transport_L.drop 6) (fun y => lookup_transport_4 N y.2.1) (lookup_transport_K N) :=
  Blk.chunkAt hb 2 (X := (lookup_transport_K N .normal)) (NxOk.end (by kernel_rfl)) rfl (fun x => by kernel_rfl)
theorem lookup_transport_2_b {E : Env} (N : Nat) (hb : Base Try.prog (lookup_transport_C N) E 0) : Blk Try.prog (lookup_transport_C N) E [6, 24, 25, 26] lookup_transport_S0 (lookup_transport_L.drop 5) (fun y => lookup_transport_2 N y.1.1 y.1.2.1 y.2.1 y.2.2.1) (lookup_transport_K N) :=
  Blk.loopAt (Nf := N) (hns := [6, 24, 25, 26]) (ans := [6]) (hc := lookup_transport_S0) (ac := lookup_transport_S1) (bid := 0) (step := (fun y => lookup_transport_s3 N y.1.1 y.1.2.1 y.2.1 y.2.2.1)) (J := (fun e => (goK 0 [6] lookup_transport_S1 (fun y => lookup_transport_4 N y.2.1)) (lookup_transport_S1.st [6] e))) hb (by kernel_rfl) (Blk.into (X := (goK 0 [6] lookup_transport_S1 (fun y => lookup_transport_4 N y.2.1))) (NxOk.go hb (lookup_transport_4_b N hb)) (fun x => by kernel_rfl)) (lookup_transport_s3_b N hb) (fun x => by kernel_rfl)
theorem lookup_transport_1_b {E : Env} (N : Nat) (hb : Base Try.prog (lookup_transport_C N) E 0) : Blk Try.prog (lookup_transport_C N) E [2, 6, 18] lookup_transport_S2 (lookup_transport_L.drop 3) (fun y => lookup_transport_1 N y.1.1 y.2.1 y.2.2.1) (lookup_transport_K N) :=
  Blk.chunkAt hb 2 (X := (goK 0 [6, 24, 25, 26] lookup_transport_S0 (fun y => lookup_transport_2 N y.1.1 y.1.2.1 y.2.1 y.2.2.1))) (NxOk.go hb (lookup_transport_2_b N hb)) rfl (fun x => by kernel_rfl)
theorem lookup_transport_b {E : Env} (N : Nat) (hb : Base Try.prog (lookup_transport_C N) E 0) : Blk Try.prog (lookup_transport_C N) E (List.range lookup_transport_S3.ks.length) lookup_transport_S3 (lookup_transport_L.drop 0) (fun y => lookup_transport N y.1.1 y.1.2.1) (lookup_transport_K N) :=
  Blk.chunkAt hb 3 (X := (goK 0 [2, 6, 18] lookup_transport_S2 (fun y => lookup_transport_1 N y.1.1 y.2.1 y.2.2.1))) (NxOk.go hb (lookup_transport_1_b N hb)) rfl (fun x => by kernel_rfl)
noncomputable def lookup_transport_ctr (N : Nat) : Ctr := ⟨lookup_transport_S3, lookup_transport_S4.un [false, false], 0, (fun y => lookup_transport N y.1.1 y.1.2.1)⟩
theorem lookup_transport_ctrs (N : Nat) : CtrsOk Try.prog (lookup_transport_C N) := ctrs_nil G_ifs_ok rfl
theorem lookup_transport_ok (N : Nat) : Ctr.ok Try.prog G_globs 110 (lookup_transport_ctr N) :=
  ctr_fn (Γ := lookup_transport_C N) (rfit := lookup_transport_S4) (bs := [false, false]) (res := [4, 5]) (by kernel_rfl) (tys_ok G_tys_ok) (lookup_transport_ctrs N) Try.func110 (by kernel_rfl) (by kernel_rfl) Try.ntmps110 (by kernel_rfl) (by kernel_rfl) (by kernel_rfl) (by kernel_rfl) (fun E hb => lookup_transport_b N hb)
end Go.Proofs.Ytgbkkfpheahdfaa
namespace Go.Proofs.Ytgbkkfpheahdfaa
open Go
set_option maxRecDepth 100000
set_option linter.unusedVariables false
/-! ipsecgate/lookup.Build -/
abbrev lookup_Build_R : Type := ((Int × Unit) × ((List UInt8) × Unit))
noncomputable def lookup_Build_s7 (N : Nat) (t_100 : Int) (t_101 : Int) (rest_7 : (List UInt8)) (b_10 : (List UInt8)) (t_99 : (List D27)) : Option (Lo ((Int × Int × Unit) × ((List UInt8) × (List UInt8) × (List D27) × Unit)) ((Unit) × ((List UInt8) × (List UInt8) × Unit)) lookup_Build_R) :=
  bif (decide (t_101 < t_100)) then
    bif inR t_101 t_99.length then
    let x26 := (t_99.getD t_101.toNat ((0 : Int), (0 : UInt64), (0 : UInt64), ()))
    Option.bind (wire_Put N x26.2.1 (8 : Int) b_10) fun y27 =>
    Option.bind (wire_Put N x26.2.2.1 (8 : Int) y27.2.1) fun y28 =>
    some (.go ((t_100, (w64 (t_101 + (1 : Int))), ()), (rest_7, y28.2.1, t_99, ())))
    else none
  else
    some (.br ((()), (rest_7, b_10, ())))
noncomputable def lookup_Build_8 (N : Nat) (rest_7 : (List UInt8)) (b_10 : (List UInt8)) : Option lookup_Build_R :=
  bif room (b_10.length + rest_7.length) 1 then
  some (((0 : Int), ()), ((b_10 ++ rest_7), ()))
  else none
noncomputable def lookup_Build_6 (N : Nat) (t_100 : Int) (t_101 : Int) (rest_7 : (List UInt8)) (b_10 : (List UInt8)) (t_99 : (List D27)) : Option lookup_Build_R :=
  loopK N (fun y => lookup_Build_s7 N y.1.1 y.1.2.1 y.2.1 y.2.2.1 y.2.2.2.1) (fun (e : ((Unit) × ((List UInt8) × (List UInt8) × Unit))) => lookup_Build_8 N e.2.1 e.2.2.1) ((t_100, t_101, ()), (rest_7, b_10, t_99, ()))
noncomputable def lookup_Build_5 (N : Nat) (p_2 : D29) (rest_7 : (List UInt8)) : Option lookup_Build_R :=
  Option.bind (wire_Put N (iu64 (rest_7.length : Int)) (2 : Int) ([(96 : UInt8), (0 : UInt8), (0 : UInt8), (0 : UInt8)] : List UInt8)) fun y21 =>
  bif room (y21.2.1.length + ([(iu8 p_2.2.2.1), (64 : UInt8)] : List UInt8).length) 1 then
  lookup_Build_6 N (([p_2.1, p_2.2.1] : List D27).length : Int) (0 : Int) rest_7 (y21.2.1 ++ ([(iu8 p_2.2.2.1), (64 : UInt8)] : List UInt8)) ([p_2.1, p_2.2.1] : List D27)
  else none
noncomputable def lookup_Build_9 (N : Nat) (size_9 : Int) (p_2 : D29) (rest_7 : (List UInt8)) : Option lookup_Build_R :=
  Option.bind (wire_Put N (iu64 (w64 (size_9 + (rest_7.length : Int)))) (2 : Int) ([(69 : UInt8), (0 : UInt8)] : List UInt8)) fun y34 =>
  bif room (y34.2.1.length + ([(0 : UInt8), (0 : UInt8), (0 : UInt8), (0 : UInt8), (64 : UInt8), (iu8 p_2.2.2.1), (0 : UInt8), (0 : UInt8)] : List UInt8).length) 1 then
  Option.bind (wire_Put N p_2.1.2.2.1 (4 : Int) (y34.2.1 ++ ([(0 : UInt8), (0 : UInt8), (0 : UInt8), (0 : UInt8), (64 : UInt8), (iu8 p_2.2.2.1), (0 : UInt8), (0 : UInt8)] : List UInt8))) fun y37 =>
  Option.bind (wire_Put N p_2.2.1.2.2.1 (4 : Int) y37.2.1) fun y38 =>
  Option.bind (wire_Checksum N y38.2.1) fun y39 =>
  bif inR (10 : Int) y38.2.1.length then
  let x43 := (y38.2.1.set 10 (iu8 (shrI y39.1.1 8)))
  bif inR (11 : Int) x43.length then
  let x44 := (x43.set 11 (iu8 y39.1.1))
  bif room (x44.length + rest_7.length) 1 then
  some (((0 : Int), ()), ((x44 ++ rest_7), ()))
  else none
  else none
  else none
  else none
noncomputable def lookup_Build_3 (N : Nat) (size_9 : Int) (t_83 : Bool) (p_2 : D29) (rest_7 : (List UInt8)) : Option lookup_Build_R :=
  bif t_83 then
    lookup_Build_5 N p_2 rest_7
  else
    lookup_Build_9 N size_9 p_2 rest_7
noncomputable def lookup_Build_2 (N : Nat) (six_6 : Bool) (size_9 : Int) (p_2 : D29) (rest_7 : (List UInt8)) : Option lookup_Build_R :=
  bif (decide ((4096 : Int) < (w64 (size_9 + (rest_7.length : Int))))) then
    some (((11 : Int), ()), (([] : List UInt8), ()))
  else
    lookup_Build_3 N size_9 six_6 p_2 rest_7
noncomputable def lookup_Build_1 (N : Nat) (data_1 : (List UInt8)) (six_6 : Bool) (p_2 : D29) : Option lookup_Build_R :=
  Option.bind (lookup_transport N p_2 data_1) fun y14 =>
  bif (!(decide (y14.1.1 = (0 : Int)))) then
    some ((y14.1.1, ()), (([] : List UInt8), ()))
  else
    bif six_6 then
      lookup_Build_2 N six_6 (40 : Int) p_2 y14.2.1
    else
      lookup_Build_2 N six_6 (20 : Int) p_2 y14.2.1
noncomputable def lookup_Build (N : Nat) (p_0 : D29) (data_1 : (List UInt8)) : Option lookup_Build_R :=
  let x1 := decide (p_0.1.1 = (6 : Int))
  Option.bind (selector_Valid N p_0.1) fun y2 =>
  bif (!y2.1.1) then
    some (((15 : Int), ()), (([] : List UInt8), ()))
  else
    Option.bind (selector_Valid N p_0.2.1) fun y4 =>
    bif (!y4.1.1) then
      some (((15 : Int), ()), (([] : List UInt8), ()))
    else
      bif (!(decide (p_0.1.1 = p_0.2.1.1))) then
        some (((15 : Int), ()), (([] : List UInt8), ()))
      else
        bif (decide (p_0.2.2.1 < (0 : Int))) then
          some (((5 : Int), ()), (([] : List UInt8), ()))
        else
          bif (decide ((255 : Int) < p_0.2.2.1)) then
            some (((5 : Int), ()), (([] : List UInt8), ()))
          else
            bif x1 then
              bif (decide (p_0.2.2.1 = (44 : Int))) then
                some (((5 : Int), ()), (([] : List UInt8), ()))
              else
                Option.bind (lookup_port N p_0.2.2.2.1) fun y10 =>
                bif (!y10.1.1) then
                  some (((5 : Int), ()), (([] : List UInt8), ()))
                else
                  Option.bind (lookup_port N p_0.2.2.2.2.1) fun y12 =>
                  bif (!y12.1.1) then
                    some (((5 : Int), ()), (([] : List UInt8), ()))
                  else
                    lookup_Build_1 N data_1 x1 p_0
            else
              Option.bind (lookup_port N p_0.2.2.2.1) fun y46 =>
              bif (!y46.1.1) then
                some (((5 : Int), ()), (([] : List UInt8), ()))
              else
                Option.bind (lookup_port N p_0.2.2.2.2.1) fun y48 =>
                bif (!y48.1.1) then
                  some (((5 : Int), ()), (([] : List UInt8), ()))
                else
                  lookup_Build_1 N data_1 x1 p_0
noncomputable def lookup_Build_C (N : Nat) : Ctx := ⟨152, G_tys, [(108, selector_Valid_ctr N), (109, lookup_port_ctr N), (110, lookup_transport_ctr N), (111, wire_Put_ctr N), (71, wire_Checksum_ctr N)], G_globs, G_ifs⟩
noncomputable def lookup_Build_S0 : Spec := ⟨[.row 0, .row 1, .row 2, .val .i64, .val .i64], [(.row 5 .u8, .pos 0), (.row 5 .u8, .pos 1), (.row 28 T27, .pos 2)]⟩
noncomputable def lookup_Build_S1 : Spec := ⟨[.row 0, .row 1], [(.row 5 .u8, .pos 0), (.row 5 .u8, .pos 1)]⟩
noncomputable def lookup_Build_S2 : Spec := ⟨[.ref 0 T29, .row 1], [(.box 30 T29, .pos 0), (.row 5 .u8, .pos 1)]⟩
noncomputable def lookup_Build_S3 : Spec := ⟨[.ref 0 T29, .row 1, .val .i64], [(.box 30 T29, .pos 0), (.row 5 .u8, .pos 1)]⟩
noncomputable def lookup_Build_S4 : Spec := ⟨[.ref 0 T29, .row 1, .val .i64, .val .bool], [(.box 30 T29, .pos 0), (.row 5 .u8, .pos 1)]⟩
noncomputable def lookup_Build_S5 : Spec := ⟨[.ref 0 T29, .val .bool, .row 1, .val .i64], [(.box 30 T29, .pos 0), (.row 5 .u8, .pos 2)]⟩
noncomputable def lookup_Build_S6 : Spec := ⟨[.val (.sl .u8), .ref 0 T29, .val .bool], [(.box 30 T29, .pos 1)]⟩
noncomputable def lookup_Build_S7 : Spec := ⟨[.val T29, .val (.sl .u8)], []⟩
noncomputable def lookup_Build_S8 : Spec := ⟨[.row 0, .val .i64], [(.row 5 .u8, .pos 0)]⟩
noncomputable def lookup_Build_K (_N : Nat) : XE → GS → Option lookup_Build_R := retK 0 [4, 5] [false, false] lookup_Build_S8
noncomputable def lookup_Build_L : List Code := (bodyOf (some Try.f57))
noncomputable def lookup_Build_L4t : List Code := (thenOf (lookup_Build_L[12]?))
noncomputable def lookup_Build_L7 : List Code := (loopOf (lookup_Build_L4t[3]?))
noncomputable def lookup_Build_L4e : List Code := (elseOf (lookup_Build_L[12]?))
noncomputable def lookup_Build_K4 (N : Nat) : XE → GS → Option lookup_Build_R := nextK (goK 0 [2, 7, 9] lookup_Build_S3 (fun y => lookup_Build_9 N y.1.1 y.2.1 y.2.2.1)) (lookup_Build_K N)
noncomputable def lookup_Build_K7 (N : Nat) : XE → GS → Option (Lo ((Int × Int × Unit) × ((List UInt8) × (List UInt8) × (List D27) × Unit)) ((Unit) × ((List UInt8) × (List UInt8) × Unit)) lookup_Build_R) := roundK (some 1) (fit 0 [7, 10, 99, 100, 101] lookup_Build_S0) (fit 0 [7, 10] lookup_Build_S1) (lookup_Build_K4 N)
theorem lookup_Build_s7_b {E : Env} (N : Nat) (hb : Base Try.prog (lookup_Build_C N) E 0) : Blk Try.prog (lookup_Build_C N) E [7, 10, 99, 100, 101] lookup_Build_S0 (lookup_Build_L7.drop 0) (fun y => lookup_Build_s7 N y.1.1 y.1.2.1 y.2.1 y.2.2.1 y.2.2.2.1) (lookup_Build_K7 N) :=
  Blk.chunkAt hb 4 (X := (lookup_Build_K7 N .normal)) (NxOk.end (by kernel_rfl)) rfl (fun x => by kernel_rfl)
theorem lookup_Build_8_b {E : Env} (N : Nat) (hb : Base Try.prog (lookup_Build_C N) E 0) : Blk Try.prog (lookup_Build_C N) E [7, 10] lookup_Build_S1 (lookup_Build_L4t.drop 4) (fun y => lookup_Build_8 N y.2.1 y.2.2.1) (lookup_Build_K4 N) :=
  Blk.chunkAt hb 2 (X := (lookup_Build_K4 N .normal)) (NxOk.end (by kernel_rfl)) rfl (fun x => by kernel_rfl)
theorem lookup_Build_6_b {E : Env} (N : Nat) (hb : Base Try.prog (lookup_Build_C N) E 0) : Blk Try.prog (lookup_Build_C N) E [7, 10, 99, 100, 101] lookup_Build_S0 (lookup_Build_L4t.drop 3) (fun y => lookup_Build_6 N y.1.1 y.1.2.1 y.2.1 y.2.2.1 y.2.2.2.1) (lookup_Build_K4 N) :=
  Blk.loopAt (Nf := N) (hns := [7, 10, 99, 100, 101]) (ans := [7, 10]) (hc := lookup_Build_S0) (ac := lookup_Build_S1) (bid := 1) (step := (fun y => lookup_Build_s7 N y.1.1 y.1.2.1 y.2.1 y.2.2.1 y.2.2.2.1)) (J := (fun e => (goK 0 [7, 10] lookup_Build_S1 (fun y => lookup_Build_8 N y.2.1 y.2.2.1)) (lookup_Build_S1.st [7, 10] e))) hb (by kernel_rfl) (Blk.into (X := (goK 0 [7, 10] lookup_Build_S1 (fun y => lookup_Build_8 N y.2.1 y.2.2.1))) (NxOk.go hb (lookup_Build_8_b N hb)) (fun x => by kernel_rfl)) (lookup_Build_s7_b N hb) (fun x => by kernel_rfl)
theorem lookup_Build_5_b {E : Env} (N : Nat) (hb : Base Try.prog (lookup_Build_C N) E 0) : Blk Try.prog (lookup_Build_C N) E [2, 7] lookup_Build_S2 (lookup_Build_L4t.drop 0) (fun y => lookup_Build_5 N y.2.1 y.2.2.1) (lookup_Build_K4 N) :=
  Blk.chunkAt hb 3 (X := (goK 0 [7, 10, 99, 100, 101] lookup_Build_S0 (fun y => lookup_Build_6 N y.1.1 y.1.2.1 y.2.1 y.2.2.1 y.2.2.2.1))) (NxOk.go hb (lookup_Build_6_b N hb)) rfl (fun x => by kernel_rfl)
theorem lookup_Build_9_b {E : Env} (N : Nat) (hb : Base Try.prog (lookup_Build_C N) E 0) : Blk Try.prog (lookup_Build_C N) E [2, 7, 9] lookup_Build_S3 (lookup_Build_L.drop 13) (fun y => lookup_Build_9 N y.1.1 y.2.1 y.2.2.1) (lookup_Build_K N) :=
  Blk.chunkAt hb 7 (X := (lookup_Build_K N .normal)) (NxOk.end (by kernel_rfl)) rfl (fun x => by kernel_rfl)
theorem lookup_Build_3_b {E : Env} (N : Nat) (hb : Base Try.prog (lookup_Build_C N) E 0) : Blk Try.prog (lookup_Build_C N) E [2, 7, 9, 83] lookup_Build_S4 (lookup_Build_L.drop 12) (fun y => lookup_Build_3 N y.1.1 y.1.2.1 y.2.1 y.2.2.1) (lookup_Build_K N) :=
  Blk.condAt (n := 83) (X := (goK 0 [2, 7, 9] lookup_Build_S3 (fun y => lookup_Build_9 N y.1.1 y.2.1 y.2.2.1))) (A := (goK 0 [2, 7] lookup_Build_S2 (fun y => lookup_Build_5 N y.2.1 y.2.2.1))) (B := (lookup_Build_K4 N .normal)) (by kernel_rfl) (NxOk.go hb (lookup_Build_9_b N hb)) (NxOk.go hb (lookup_Build_5_b N hb)) (NxOk.skipAt (by kernel_rfl)) (fun x => by kernel_rfl)
theorem lookup_Build_2_b {E : Env} (N : Nat) (hb : Base Try.prog (lookup_Build_C N) E 0) : Blk Try.prog (lookup_Build_C N) E [2, 6, 7, 9] lookup_Build_S5 (lookup_Build_L.drop 9) (fun y => lookup_Build_2 N y.1.1 y.1.2.1 y.2.1 y.2.2.1) (lookup_Build_K N) :=
  Blk.chunkAt hb 3 (X := (goK 0 [2, 7, 9, 83] lookup_Build_S4 (fun y => lookup_Build_3 N y.1.1 y.1.2.1 y.2.1 y.2.2.1))) (NxOk.go hb (lookup_Build_3_b N hb)) rfl (fun x => by kernel_rfl)
theorem lookup_Build_1_b {E : Env} (N : Nat) (hb : Base Try.prog (lookup_Build_C N) E 0) : Blk Try.prog (lookup_Build_C N) E [1, 2, 6] lookup_Build_S6 (lookup_Build_L.drop 3) (fun y => lookup_Build_1 N y.1.1 y.1.2.1 y.2.1) (lookup_Build_K N) :=
  Blk.chunkAt hb 6 (X := (goK 0 [2, 6, 7, 9] lookup_Build_S5 (fun y => lookup_Build_2 N y.1.1 y.1.2.1 y.2.1 y.2.2.1))) (NxOk.go hb (lookup_Build_2_b N hb)) rfl (fun x => by kernel_rfl)
theorem lookup_Build_b {E : Env} (N : Nat) (hb : Base Try.prog (lookup_Build_C N) E 0) : Blk Try.prog (lookup_Build_C N) E (List.range lookup_Build_S7.ks.length) lookup_Build_S7 (lookup_Build_L.drop 0) (fun y => lookup_Build N y.1.1 y.1.2.1) (lookup_Build_K N) :=
  Blk.chunkAt hb 3 (X := (goK 0 [1, 2, 6] lookup_Build_S6 (fun y => lookup_Build_1 N y.1.1 y.1.2.1 y.2.1))) (NxOk.go hb (lookup_Build_1_b N hb)) rfl (fun x => by kernel_rfl)
noncomputable def lookup_Build_ctr (N : Nat) : Ctr := ⟨lookup_Build_S7, lookup_Build_S8.un [false, false], 0, (fun y => lookup_Build N y.1.1 y.1.2.1)⟩
theorem lookup_Build_ctrs (N : Nat) : CtrsOk Try.prog (lookup_Build_C N) := ctrs_of (Γ := lookup_Build_C N) G_ifs_ok (by
  intro p hp
  simp only [lookup_Build_C, List.mem_cons, List.not_mem_nil, or_false] at hp
  rcases hp with rfl | rfl | rfl | rfl | rfl
  · exact selector_Valid_ok N
  · exact lookup_port_ok N
  · exact lookup_transport_ok N
  · exact wire_Put_ok N
  · exact wire_Checksum_ok N)
theorem lookup_Build_ok (N : Nat) : Ctr.ok Try.prog G_globs 57 (lookup_Build_ctr N) :=
  ctr_fn (Γ := lookup_Build_C N) (rfit := lookup_Build_S8) (bs := [false, false]) (res := [4, 5]) (by kernel_rfl) (tys_ok G_tys_ok) (lookup_Build_ctrs N) Try.func57 (by kernel_rfl) (by kernel_rfl) Try.ntmps57 (by kernel_rfl) (by kernel_rfl) (by kernel_rfl) (by kernel_rfl) (fun E hb => lookup_Build_b N hb)
end Go.Proofs.Ytgbkkfpheahdfaa
namespace Go.Proofs.Ytgbkkfpheahdfaa
open Go
set_option maxRecDepth 100000
set_option linter.unusedVariables false
/-! ipsecgate/ipsecgatelaw22.LookupReturns -/
abbrev law22_LookupReturns_R : Type := ((Bool × Unit) × (Unit))
noncomputable def law22_LookupReturns_4 (N : Nat) (p_4 : D29) (data_5 : (List UInt8)) : Option law22_LookupReturns_R :=
  Option.bind (lookup_Build N p_4 data_5) fun y12 =>
  Option.bind (lookup_See N y12.2.1) fun y13 =>
  bif (decide (y12.1.1 = (0 : Int))) then
    bif (decide (y13.1.2.1 = (0 : Int))) then
      bif (dq T29 y13.1.1.1 p_4) then
        bif (!y13.1.1.2.2.2.1) then
          bif (decide ((y12.2.1.length : Int) = (w64 (y13.1.1.2.2.2.2.1 + (data_5.length : Int))))) then
            bif (!(decide (p_4.1.1 = (4 : Int)))) then
              some ((true, ()), (()))
            else
              bif decide (0 ≤ (0 : Int)) && decide ((0 : Int) ≤ (20 : Int)) && decide ((20 : Int) ≤ (y12.2.1.length : Int)) && true then
              Option.bind (wire_Checksum N (cut y12.2.1 0 20)) fun y24 =>
              some (((decide (y24.1.1 = (0 : Int))), ()), (()))
              else none
          else
            some ((false, ()), (()))
        else
          some ((false, ()), (()))
      else
        some ((false, ()), (()))
    else
      some ((false, ()), (()))
  else
    some ((false, ()), (()))
noncomputable def law22_LookupReturns_3 (N : Nat) (t_46 : Bool) (p_4 : D29) (data_5 : (List UInt8)) : Option law22_LookupReturns_R :=
  bif t_46 then
    law22_LookupReturns_4 N (p_4.1, p_4.2.1, (50 : Int), p_4.2.2.2.1, p_4.2.2.2.2.1, ()) data_5
  else
    law22_LookupReturns_4 N p_4 data_5
noncomputable def law22_LookupReturns_2 (N : Nat) (p_4 : D29) (data_5 : (List UInt8)) : Option law22_LookupReturns_R :=
  bif (decide (p_4.2.2.1 = (1 : Int))) then
    law22_LookupReturns_3 N true p_4 data_5
  else
    law22_LookupReturns_3 N (decide (p_4.2.2.1 = (58 : Int))) p_4 data_5
noncomputable def law22_LookupReturns_1 (N : Nat) (t_28 : Bool) (p_4 : D29) (data_5 : (List UInt8)) : Option law22_LookupReturns_R :=
  bif t_28 then
    law22_LookupReturns_2 N (p_4.1, p_4.2.1, p_4.2.2.1, (bif decide ((0 : Int) < p_4.2.2.2.1) then p_4.2.2.2.1 else (0 : Int)), (bif decide ((0 : Int) < p_4.2.2.2.2.1) then p_4.2.2.2.2.1 else (0 : Int)), ()) data_5
  else
    law22_LookupReturns_2 N (p_4.1, p_4.2.1, p_4.2.2.1, (-1 : Int), (-1 : Int), ()) data_5
noncomputable def law22_LookupReturns (N : Nat) (codes_0 : (List UInt8)) : Option law22_LookupReturns_R :=
  Option.bind (law22_awake N) fun y1 =>
  bif (!y1.1.1) then
    some ((false, ()), (()))
  else
    Option.bind (make_New N codes_0 (120 : Int)) fun y3 =>
    Option.bind (make_Codes_Packet N y3.2.1) fun y4 =>
    Option.bind (make_Codes_Next N (20 : Int) y4.2.1) fun y5 =>
    Option.bind (make_Codes_Bytes N (w64 ((4 : Int) + y5.1.1)) y5.2.1) fun y7 =>
    bif (decide (y4.1.1.2.2.1 = (6 : Int))) then
      law22_LookupReturns_1 N true y4.1.1 y7.2.2.1
    else
      law22_LookupReturns_1 N (decide (y4.1.1.2.2.1 = (17 : Int))) y4.1.1 y7.2.2.1
noncomputable def law22_LookupReturns_C (N : Nat) : Ctx := ⟨98, G_tys, [(33, law22_awake_ctr N), (28, make_New_ctr N), (35, make_Codes_Packet_ctr N), (36, make_Codes_Next_ctr N), (56, make_Codes_Bytes_ctr N), (57, lookup_Build_ctr N), (64, lookup_See_ctr N), (71, wire_Checksum_ctr N)], G_globs, G_ifs⟩
noncomputable def law22_LookupReturns_S0 : Spec := ⟨[.ref 0 T29, .row 1], [(.box 30 T29, .pos 0), (.row 5 .u8, .pos 1)]⟩
noncomputable def law22_LookupReturns_S1 : Spec := ⟨[.ref 0 T29, .row 1, .val .bool], [(.box 30 T29, .pos 0), (.row 5 .u8, .pos 1)]⟩
noncomputable def law22_LookupReturns_S2 : Spec := ⟨[.val (.sl .u8)], []⟩
noncomputable def law22_LookupReturns_S3 : Spec := ⟨[.val .bool], []⟩
noncomputable def law22_LookupReturns_K (_N : Nat) : XE → GS → Option law22_LookupReturns_R := retK 0 [2] [false] law22_LookupReturns_S3
noncomputable def law22_LookupReturns_L : List Code := (bodyOf (some Try.f17))
theorem law22_LookupReturns_4_b {E : Env} (N : Nat) (hb : Base Try.prog (law22_LookupReturns_C N) E 0) : Blk Try.prog (law22_LookupReturns_C N) E [4, 5] law22_LookupReturns_S0 (law22_LookupReturns_L.drop 10) (fun y => law22_LookupReturns_4 N y.2.1 y.2.2.1) (law22_LookupReturns_K N) :=
  Blk.chunkAt hb 4 (X := (law22_LookupReturns_K N .normal)) (NxOk.end (by kernel_rfl)) rfl (fun x => by kernel_rfl)
theorem law22_LookupReturns_3_b {E : Env} (N : Nat) (hb : Base Try.prog (law22_LookupReturns_C N) E 0) : Blk Try.prog (law22_LookupReturns_C N) E [4, 5, 46] law22_LookupReturns_S1 (law22_LookupReturns_L.drop 9) (fun y => law22_LookupReturns_3 N y.1.1 y.2.1 y.2.2.1) (law22_LookupReturns_K N) :=
  Blk.chunkAt hb 1 (X := (goK 0 [4, 5] law22_LookupReturns_S0 (fun y => law22_LookupReturns_4 N y.2.1 y.2.2.1))) (NxOk.go hb (law22_LookupReturns_4_b N hb)) rfl (fun x => by kernel_rfl)
theorem law22_LookupReturns_2_b {E : Env} (N : Nat) (hb : Base Try.prog (law22_LookupReturns_C N) E 0) : Blk Try.prog (law22_LookupReturns_C N) E [4, 5] law22_LookupReturns_S0 (law22_LookupReturns_L.drop 8) (fun y => law22_LookupReturns_2 N y.2.1 y.2.2.1) (law22_LookupReturns_K N) :=
  Blk.chunkAt hb 1 (X := (goK 0 [4, 5, 46] law22_LookupReturns_S1 (fun y => law22_LookupReturns_3 N y.1.1 y.2.1 y.2.2.1))) (NxOk.go hb (law22_LookupReturns_3_b N hb)) rfl (fun x => by kernel_rfl)
theorem law22_LookupReturns_1_b {E : Env} (N : Nat) (hb : Base Try.prog (law22_LookupReturns_C N) E 0) : Blk Try.prog (law22_LookupReturns_C N) E [4, 5, 28] law22_LookupReturns_S1 (law22_LookupReturns_L.drop 7) (fun y => law22_LookupReturns_1 N y.1.1 y.2.1 y.2.2.1) (law22_LookupReturns_K N) :=
  Blk.chunkAt hb 1 (X := (goK 0 [4, 5] law22_LookupReturns_S0 (fun y => law22_LookupReturns_2 N y.2.1 y.2.2.1))) (NxOk.go hb (law22_LookupReturns_2_b N hb)) rfl (fun x => by kernel_rfl)
theorem law22_LookupReturns_b {E : Env} (N : Nat) (hb : Base Try.prog (law22_LookupReturns_C N) E 0) : Blk Try.prog (law22_LookupReturns_C N) E (List.range law22_LookupReturns_S2.ks.length) law22_LookupReturns_S2 (law22_LookupReturns_L.drop 0) (fun y => law22_LookupReturns N y.1.1) (law22_LookupReturns_K N) :=
  Blk.chunkAt hb 7 (X := (goK 0 [4, 5, 28] law22_LookupReturns_S1 (fun y => law22_LookupReturns_1 N y.1.1 y.2.1 y.2.2.1))) (NxOk.go hb (law22_LookupReturns_1_b N hb)) rfl (fun x => by kernel_rfl)
noncomputable def law22_LookupReturns_ctr (N : Nat) : Ctr := ⟨law22_LookupReturns_S2, law22_LookupReturns_S3.un [false], 0, (fun y => law22_LookupReturns N y.1.1)⟩
theorem law22_LookupReturns_ctrs (N : Nat) : CtrsOk Try.prog (law22_LookupReturns_C N) := ctrs_of (Γ := law22_LookupReturns_C N) G_ifs_ok (by
  intro p hp
  simp only [law22_LookupReturns_C, List.mem_cons, List.not_mem_nil, or_false] at hp
  rcases hp with rfl | rfl | rfl | rfl | rfl | rfl | rfl | rfl
  · exact law22_awake_ok N
  · exact make_New_ok N
  · exact make_Codes_Packet_ok N
  · exact make_Codes_Next_ok N
  · exact make_Codes_Bytes_ok N
  · exact lookup_Build_ok N
  · exact lookup_See_ok N
  · exact wire_Checksum_ok N)
theorem law22_LookupReturns_ok (N : Nat) : Ctr.ok Try.prog G_globs 17 (law22_LookupReturns_ctr N) :=
  ctr_fn (Γ := law22_LookupReturns_C N) (rfit := law22_LookupReturns_S3) (bs := [false]) (res := [2]) (by kernel_rfl) (tys_ok G_tys_ok) (law22_LookupReturns_ctrs N) Try.func17 (by kernel_rfl) (by kernel_rfl) Try.ntmps17 (by kernel_rfl) (by kernel_rfl) (by kernel_rfl) (by kernel_rfl) (fun E hb => law22_LookupReturns_b N hb)
end Go.Proofs.Ytgbkkfpheahdfaa