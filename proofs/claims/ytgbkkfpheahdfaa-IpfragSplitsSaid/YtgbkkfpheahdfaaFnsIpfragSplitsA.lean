/- Functions of the program as plain functions, each with the proof that the text computes it. -/
import Derived.Test.YtgbkkfpheahdfaaGmRule
import Derived.Test.YtgbkkfpheahdfaaProg
import Derived.Test.YtgbkkfpheahdfaaGmNil
set_option linter.unusedVariables false
set_option linter.unusedSimpArgs false
namespace Go.Proofs.Ytgbkkfpheahdfaa
open Go
set_option maxRecDepth 100000
set_option linter.unusedVariables false
abbrev D13 : Type := ((List UInt8) × (UInt64 × Unit))
abbrev T13 : Ty := (.pair .str (.pair .u64 .unit))
abbrev D27 : Type := (Int × (UInt64 × (UInt64 × Unit)))
abbrev T27 : Ty := (.pair .i64 (.pair .u64 (.pair .u64 .unit)))
abbrev D7 : Type := (Int × (Int × (Bool × (UInt8 × Unit))))
abbrev T7 : Ty := (.pair .i64 (.pair .i64 (.pair .bool (.pair .u8 .unit))))
abbrev D119 : Type := (D27 × (D27 × Unit))
abbrev T119 : Ty := (.pair T27 (.pair T27 .unit))
abbrev D29 : Type := (D27 × (D27 × (Int × (Int × (Int × Unit)))))
abbrev T29 : Ty := (.pair T27 (.pair T27 (.pair .i64 (.pair .i64 (.pair .i64 .unit)))))
abbrev D97 : Type := (D27 × (D27 × (Int × (Int × (Bool × ((List UInt8) × Unit))))))
abbrev T97 : Ty := (.pair T27 (.pair T27 (.pair .i64 (.pair .i64 (.pair .bool (.pair (.sl .u8) .unit))))))
abbrev D90 : Type := (D29 × (Int × (Bool × (Bool × (Int × Unit)))))
abbrev T90 : Ty := (.pair T29 (.pair .i64 (.pair .bool (.pair .bool (.pair .i64 .unit)))))
abbrev D45 : Type := (D27 × (D27 × (D27 × (D27 × (Int × (Int × ((List Int) × ((List Int) × Unit))))))))
abbrev T45 : Ty := (.pair T27 (.pair T27 (.pair T27 (.pair T27 (.pair .i64 (.pair .i64 (.pair (.arr 2 .i64) (.pair (.arr 2 .i64) .unit))))))))
abbrev D85 : Type := (D45 × (Int × Unit))
abbrev T85 : Ty := (.pair T45 (.pair .i64 .unit))
abbrev D99 : Type := (D27 × (D27 × (Int × ((List D97) × (Int × Unit)))))
abbrev T99 : Ty := (.pair T27 (.pair T27 (.pair .i64 (.pair (.sl T97) (.pair .i64 .unit)))))
abbrev D59 : Type := (Int × ((List UInt8) × ((List D45) × Unit)))
abbrev T59 : Ty := (.pair .i64 (.pair .str (.pair (.sl T45) .unit)))
noncomputable def G_tys : List (Nat × TI) := [(2, ⟨.i64, 8, 0, false⟩), (3, ⟨.i64, 8, 0, false⟩), (4, ⟨.bool, 1, 0, false⟩), (5, ⟨.u8, 1, 0, false⟩), (6, ⟨.u8, 1, 0, false⟩), (7, ⟨T7, 24, 0, false⟩), (8, ⟨T7, 24, 0, false⟩), (9, ⟨.str, 16, 0, false⟩), (10, ⟨.str, 16, 0, false⟩), (11, ⟨.str, 16, 0, false⟩), (12, ⟨.u64, 8, 0, false⟩), (13, ⟨T13, 24, 0, false⟩), (14, ⟨T13, 24, 0, false⟩), (22, ⟨(.sl .u8), 24, 5, false⟩), (26, ⟨.u64, 8, 0, false⟩), (27, ⟨T27, 24, 0, false⟩), (28, ⟨T27, 24, 0, true⟩), (29, ⟨T29, 72, 0, false⟩), (30, ⟨T29, 72, 0, false⟩), (35, ⟨(.sl .i64), 24, 3, false⟩), (36, ⟨(.sl T97), 24, 98, false⟩), (37, ⟨.i64, 8, 0, false⟩), (44, ⟨(.arr 2 .i64), 16, 3, false⟩), (45, ⟨T45, 144, 0, false⟩), (46, ⟨T45, 144, 0, false⟩), (48, ⟨(.sl T45), 24, 46, false⟩), (54, ⟨(.sl T59), 24, 60, false⟩), (59, ⟨T59, 48, 0, false⟩), (60, ⟨T59, 48, 0, false⟩), (65, ⟨(.sl T85), 24, 86, false⟩), (68, ⟨(.sl T29), 24, 30, false⟩), (71, ⟨(.arr 2 T45), 288, 46, false⟩), (72, ⟨(.sl (.arr 2 T45)), 24, 71, false⟩), (81, ⟨(.sl (.sl .u8)), 24, 22, false⟩), (85, ⟨T85, 152, 0, false⟩), (86, ⟨T85, 152, 0, false⟩), (90, ⟨T90, 96, 0, false⟩), (91, ⟨T90, 96, 0, false⟩), (94, ⟨(.sl T99), 24, 100, false⟩), (97, ⟨T97, 96, 0, false⟩), (98, ⟨T97, 96, 0, false⟩), (99, ⟨T99, 88, 0, false⟩), (100, ⟨T99, 88, 0, false⟩), (103, ⟨(.sl (.sl T59)), 24, 54, false⟩), (107, ⟨(.pair (.sl .u8) (.pair .i64 .unit)), 32, 0, false⟩), (108, ⟨(.pair (.sl .u8) (.pair .i64 .unit)), 32, 0, false⟩), (112, ⟨(.pair (.sl .u8) (.pair .i64 .unit)), 32, 0, false⟩), (113, ⟨(.pair (.sl .u8) (.pair .i64 .unit)), 32, 0, false⟩), (117, ⟨T27, 24, 0, false⟩), (118, ⟨T27, 24, 0, false⟩), (119, ⟨T119, 48, 0, false⟩), (120, ⟨T119, 48, 0, false⟩), (121, ⟨(.arr 5 T119), 240, 120, false⟩), (122, ⟨(.arr 5 T119), 240, 120, false⟩), (150, ⟨.u64, 8, 0, false⟩)]
noncomputable def G_globs : List (Nat × Dt) := []
theorem G_tys_ok : tyChk Try.prog G_tys = true := by kernel_rfl
end Go.Proofs.Ytgbkkfpheahdfaa
namespace Go.Proofs.Ytgbkkfpheahdfaa
open Go
set_option maxRecDepth 100000
set_option linter.unusedVariables false
/-! ipsecgate/selector.Valid -/
abbrev selector_Valid_R : Type := ((Bool × Unit) × (Unit))
noncomputable def selector_Valid (N : Nat) (a_0 : D27) : Option selector_Valid_R :=
  bif (decide (a_0.1 = (6 : Int))) then
    some ((true, ()), (()))
  else
    bif (decide (a_0.1 = (4 : Int))) then
      bif (decide (a_0.2.1 = (0 : UInt64))) then
        some (((decide (a_0.2.2.1 < (4294967296 : UInt64))), ()), (()))
      else
        some ((false, ()), (()))
    else
      some ((false, ()), (()))
noncomputable def selector_Valid_C (N : Nat) : Ctx := ⟨21, G_tys, [], G_globs⟩
noncomputable def selector_Valid_S0 : Spec := ⟨[.val T27], []⟩
noncomputable def selector_Valid_S1 : Spec := ⟨[.val .bool], []⟩
noncomputable def selector_Valid_K (_N : Nat) : XE → GS → Option selector_Valid_R := retK 0 [2] [false] selector_Valid_S1
noncomputable def selector_Valid_L : List Code := (bodyOf (some Try.f108))
theorem selector_Valid_b {E : Env} (N : Nat) (hb : Base Try.prog (selector_Valid_C N) E 0) : Blk Try.prog (selector_Valid_C N) E (List.range selector_Valid_S0.ks.length) selector_Valid_S0 (selector_Valid_L.drop 0) (fun y => selector_Valid N y.1.1) (selector_Valid_K N) :=
  Blk.chunkAt hb 3 (X := (selector_Valid_K N .normal)) (NxOk.end (by kernel_rfl)) rfl (fun x => by kernel_rfl)
noncomputable def selector_Valid_ctr (N : Nat) : Ctr := ⟨selector_Valid_S0, selector_Valid_S1.un [false], 0, (fun y => selector_Valid N y.1.1)⟩
theorem selector_Valid_ctrs (N : Nat) : CtrsOk Try.prog (selector_Valid_C N) := ctrs_nil rfl
theorem selector_Valid_ok (N : Nat) : Ctr.ok Try.prog G_globs 108 (selector_Valid_ctr N) :=
  ctr_fn (Γ := selector_Valid_C N) (rfit := selector_Valid_S1) (bs := [false]) (res := [2]) (by kernel_rfl) (tys_ok G_tys_ok) (selector_Valid_ctrs N) Try.func108 (by kernel_rfl) (by kernel_rfl) Try.ntmps108 (by kernel_rfl) (by kernel_rfl) (by kernel_rfl) (by kernel_rfl) (fun E hb => selector_Valid_b N hb)
end Go.Proofs.Ytgbkkfpheahdfaa
namespace Go.Proofs.Ytgbkkfpheahdfaa
open Go
set_option maxRecDepth 100000
set_option linter.unusedVariables false
/-! ipsecgate/ipfrag.family -/
abbrev ipfrag_family_R : Type := ((Bool × Unit) × (Unit))
noncomputable def ipfrag_family (N : Nat) (a_0 : D27) (b_1 : D27) : Option ipfrag_family_R :=
  Option.bind (selector_Valid N a_0) fun y1 =>
  bif y1.1.1 then
    Option.bind (selector_Valid N b_1) fun y2 =>
    bif y2.1.1 then
      some (((decide (a_0.1 = b_1.1)), ()), (()))
    else
      some ((false, ()), (()))
  else
    some ((false, ()), (()))
noncomputable def ipfrag_family_C (N : Nat) : Ctx := ⟨18, G_tys, [(108, selector_Valid_ctr N)], G_globs⟩
noncomputable def ipfrag_family_S0 : Spec := ⟨[.val T27, .val T27], []⟩
noncomputable def ipfrag_family_S1 : Spec := ⟨[.val .bool], []⟩
noncomputable def ipfrag_family_K (_N : Nat) : XE → GS → Option ipfrag_family_R := retK 0 [4] [false] ipfrag_family_S1
noncomputable def ipfrag_family_L : List Code := (bodyOf (some Try.f73))
theorem ipfrag_family_b {E : Env} (N : Nat) (hb : Base Try.prog (ipfrag_family_C N) E 0) : Blk Try.prog (ipfrag_family_C N) E (List.range ipfrag_family_S0.ks.length) ipfrag_family_S0 (ipfrag_family_L.drop 0) (fun y => ipfrag_family N y.1.1 y.1.2.1) (ipfrag_family_K N) :=
  Blk.chunkAt hb 3 (X := (ipfrag_family_K N .normal)) (NxOk.end (by kernel_rfl)) rfl (fun x => by kernel_rfl)
noncomputable def ipfrag_family_ctr (N : Nat) : Ctr := ⟨ipfrag_family_S0, ipfrag_family_S1.un [false], 0, (fun y => ipfrag_family N y.1.1 y.1.2.1)⟩
theorem ipfrag_family_ctrs (N : Nat) : CtrsOk Try.prog (ipfrag_family_C N) := ctrs_of (Γ := ipfrag_family_C N) (by
  intro p hp
  simp only [ipfrag_family_C, List.mem_cons, List.not_mem_nil, or_false] at hp
  rcases hp with rfl
  · exact selector_Valid_ok N)
theorem ipfrag_family_ok (N : Nat) : Ctr.ok Try.prog G_globs 73 (ipfrag_family_ctr N) :=
  ctr_fn (Γ := ipfrag_family_C N) (rfit := ipfrag_family_S1) (bs := [false]) (res := [4]) (by kernel_rfl) (tys_ok G_tys_ok) (ipfrag_family_ctrs N) Try.func73 (by kernel_rfl) (by kernel_rfl) Try.ntmps73 (by kernel_rfl) (by kernel_rfl) (by kernel_rfl) (by kernel_rfl) (fun E hb => ipfrag_family_b N hb)
end Go.Proofs.Ytgbkkfpheahdfaa
namespace Go.Proofs.Ytgbkkfpheahdfaa
open Go
set_option maxRecDepth 100000
set_option linter.unusedVariables false
/-! slices.Clone[[]byte,byte] -/
abbrev slices_Clone___byte_byte__R : Type := ((Unit) × ((List UInt8) × Unit))
noncomputable def slices_Clone___byte_byte_ (N : Nat) (s_0 : (List UInt8)) : Option slices_Clone___byte_byte__R :=
  bif room (([] : List UInt8).length + s_0.length) 1 then
  some ((()), ((([] : List UInt8) ++ s_0), ()))
  else none
noncomputable def slices_Clone___byte_byte__C (N : Nat) : Ctx := ⟨8, G_tys, [], G_globs⟩
noncomputable def slices_Clone___byte_byte__S0 : Spec := ⟨[.val (.sl .u8)], []⟩
noncomputable def slices_Clone___byte_byte__S1 : Spec := ⟨[.row 0], [(.row 5 .u8, .pos 0)]⟩
noncomputable def slices_Clone___byte_byte__K (_N : Nat) : XE → GS → Option slices_Clone___byte_byte__R := retK 0 [2] [false] slices_Clone___byte_byte__S1
noncomputable def slices_Clone___byte_byte__L : List Code := (bodyOf (some Try.f74))
theorem slices_Clone___byte_byte__b1 {E : Env} (N : Nat) (hb : Base Try.prog (slices_Clone___byte_byte__C N) E 0) : Blk Try.prog (slices_Clone___byte_byte__C N) E [0] slices_Clone___byte_byte__S0 (slices_Clone___byte_byte__L.drop 1) (fun y => slices_Clone___byte_byte_ N y.1.1) (slices_Clone___byte_byte__K N) :=
  Blk.isNil (l := slices_Clone___byte_byte__L) (i := 1) (m := 0) (d := 3) (d' := 4) (hl := (by kernel_rfl : slices_Clone___byte_byte__L[1]? = some (.region 1 #[⟨some 3, .move (.tmp 0), 22, "slices.go:357", #[], none⟩, ⟨some 4, .binOp .eql 22 (.tmp 3) (.const (.slice none 0 0)) 22, 4, "slices.go:357", #[⟨0, .data⟩], none⟩] false))) hb (e := 5) (by kernel_rfl) (by kernel_rfl) (by kernel_rfl) (fun z => z.1.1) (fun z => rfl) (by rintro ⟨⟨x, u⟩, v⟩ h; obtain rfl : x = [] := h; kernel_rfl) (fun z => by kernel_rfl)
theorem slices_Clone___byte_byte__b {E : Env} (N : Nat) (hb : Base Try.prog (slices_Clone___byte_byte__C N) E 0) : Blk Try.prog (slices_Clone___byte_byte__C N) E (List.range slices_Clone___byte_byte__S0.ks.length) slices_Clone___byte_byte__S0 (slices_Clone___byte_byte__L.drop 0) (fun y => slices_Clone___byte_byte_ N y.1.1) (slices_Clone___byte_byte__K N) :=
  Blk.chunkAt hb 1 (X := (goK 0 [0] slices_Clone___byte_byte__S0 (fun y => slices_Clone___byte_byte_ N y.1.1))) (NxOk.go hb (slices_Clone___byte_byte__b1 N hb)) rfl (fun x => by kernel_rfl)
noncomputable def slices_Clone___byte_byte__ctr (N : Nat) : Ctr := ⟨slices_Clone___byte_byte__S0, slices_Clone___byte_byte__S1.un [false], 0, (fun y => slices_Clone___byte_byte_ N y.1.1)⟩
theorem slices_Clone___byte_byte__ctrs (N : Nat) : CtrsOk Try.prog (slices_Clone___byte_byte__C N) := ctrs_nil rfl
theorem slices_Clone___byte_byte__ok (N : Nat) : Ctr.ok Try.prog G_globs 74 (slices_Clone___byte_byte__ctr N) :=
  ctr_fn (Γ := slices_Clone___byte_byte__C N) (rfit := slices_Clone___byte_byte__S1) (bs := [false]) (res := [2]) (by kernel_rfl) (tys_ok G_tys_ok) (slices_Clone___byte_byte__ctrs N) Try.func74 (by kernel_rfl) (by kernel_rfl) Try.ntmps74 (by kernel_rfl) (by kernel_rfl) (by kernel_rfl) (by kernel_rfl) (fun E hb => slices_Clone___byte_byte__b N hb)
end Go.Proofs.Ytgbkkfpheahdfaa
namespace Go.Proofs.Ytgbkkfpheahdfaa
open Go
set_option maxRecDepth 100000
set_option linter.unusedVariables false
/-! ipsecgate/ipfrag.Split -/
abbrev ipfrag_Split_R : Type := ((Int × Unit) × ((List D97) × Unit))
noncomputable def ipfrag_Split_4 (N : Nat) (id_2 : Int) (data_3 : (List UInt8)) (size_4 : Int) (at_13 : Int) (t_53 : Bool) (from_5 : D27) (to_6 : D27) (l_12 : (List D97)) : Option (Lo ((Int × (List UInt8) × Int × Int × Unit) × (D27 × D27 × (List D97) × Unit)) ((Unit) × ((List D97) × Unit)) ipfrag_Split_R) :=
  bif t_53 then
    let x14 := w64 (at_13 + size_4)
    let x15 := (data_3.length : Int)
    let x16 := bif decide (x15 < x14) then x15 else x14
    let x18 := decide (x16 < (data_3.length : Int))
    bif decide (0 ≤ at_13) && decide (at_13 ≤ x16) && decide (x16 ≤ (data_3.length : Int)) && true then
    Option.bind (slices_Clone___byte_byte_ N (cut data_3 at_13.toNat x16.toNat)) fun y20 =>
    bif room (l_12.length + ([(from_5, to_6, id_2, at_13, x18, y20.2.1, ())] : List D97).length) 96 then
    some (.go ((id_2, data_3, size_4, (w64 (at_13 + size_4)), ()), (from_5, to_6, (l_12 ++ ([(from_5, to_6, id_2, at_13, x18, y20.2.1, ())] : List D97)), ())))
    else none
    else none
  else
    some (.br ((()), (l_12, ())))
noncomputable def ipfrag_Split_s3 (N : Nat) (id_2 : Int) (data_3 : (List UInt8)) (size_4 : Int) (at_13 : Int) (from_5 : D27) (to_6 : D27) (l_12 : (List D97)) : Option (Lo ((Int × (List UInt8) × Int × Int × Unit) × (D27 × D27 × (List D97) × Unit)) ((Unit) × ((List D97) × Unit)) ipfrag_Split_R) :=
  bif (decide (at_13 = (0 : Int))) then
    ipfrag_Split_4 N id_2 data_3 size_4 at_13 true from_5 to_6 l_12
  else
    ipfrag_Split_4 N id_2 data_3 size_4 at_13 (decide (at_13 < (data_3.length : Int))) from_5 to_6 l_12
noncomputable def ipfrag_Split_5 (N : Nat) (l_12 : (List D97)) : Option ipfrag_Split_R :=
  some (((0 : Int), ()), (l_12, ()))
noncomputable def ipfrag_Split_2 (N : Nat) (id_2 : Int) (data_3 : (List UInt8)) (size_4 : Int) (at_13 : Int) (from_5 : D27) (to_6 : D27) (l_12 : (List D97)) : Option ipfrag_Split_R :=
  loopK N (fun y => ipfrag_Split_s3 N y.1.1 y.1.2.1 y.1.2.2.1 y.1.2.2.2.1 y.2.1 y.2.2.1 y.2.2.2.1) (fun (e : ((Unit) × ((List D97) × Unit))) => ipfrag_Split_5 N e.2.1) ((id_2, data_3, size_4, at_13, ()), (from_5, to_6, l_12, ()))
noncomputable def ipfrag_Split_1 (N : Nat) (id_2 : Int) (data_3 : (List UInt8)) (size_4 : Int) (from_5 : D27) (to_6 : D27) : Option ipfrag_Split_R :=
  ipfrag_Split_2 N id_2 data_3 size_4 (0 : Int) from_5 to_6 ([] : List D97)
noncomputable def ipfrag_Split (N : Nat) (from_0 : D27) (to_1 : D27) (id_2 : Int) (data_3 : (List UInt8)) (size_4 : Int) : Option ipfrag_Split_R :=
  Option.bind (ipfrag_family N from_0 to_1) fun y1 =>
  bif (!y1.1.1) then
    some (((15 : Int), ()), (([] : List D97), ()))
  else
    bif (decide (size_4 < (8 : Int))) then
      some (((5 : Int), ()), (([] : List D97), ()))
    else
      bif (decide ((2048 : Int) < size_4)) then
        some (((5 : Int), ()), (([] : List D97), ()))
      else
        bif (!(decide ((size_4.tmod (8 : Int)) = (0 : Int)))) then
          some (((5 : Int), ()), (([] : List D97), ()))
        else
          bif (decide (id_2 < (0 : Int))) then
            some (((5 : Int), ()), (([] : List D97), ()))
          else
            bif (decide ((4096 : Int) < (data_3.length : Int))) then
              some (((11 : Int), ()), (([] : List D97), ()))
            else
              bif (decide ((w64 ((16 : Int) * size_4)) < (data_3.length : Int))) then
                some (((10 : Int), ()), (([] : List D97), ()))
              else
                ipfrag_Split_1 N id_2 data_3 size_4 from_0 to_1
noncomputable def ipfrag_Split_C (N : Nat) : Ctx := ⟨81, G_tys, [(73, ipfrag_family_ctr N), (74, slices_Clone___byte_byte__ctr N)], G_globs⟩
noncomputable def ipfrag_Split_S0 : Spec := ⟨[.val .i64, .val (.sl .u8), .val .i64, .ref 0 T27, .ref 1 T27, .row 2, .val .i64, .val .bool], [(.box 28 T27, .pos 3), (.box 28 T27, .pos 4), (.row 98 T97, .pos 5)]⟩
noncomputable def ipfrag_Split_S1 : Spec := ⟨[.val .i64, .val (.sl .u8), .val .i64, .ref 0 T27, .ref 1 T27, .row 2, .val .i64], [(.box 28 T27, .pos 3), (.box 28 T27, .pos 4), (.row 98 T97, .pos 5)]⟩
noncomputable def ipfrag_Split_S2 : Spec := ⟨[.row 0], [(.row 98 T97, .pos 0)]⟩
noncomputable def ipfrag_Split_S3 : Spec := ⟨[.val .i64, .val (.sl .u8), .val .i64, .ref 0 T27, .ref 1 T27], [(.box 28 T27, .pos 3), (.box 28 T27, .pos 4)]⟩
noncomputable def ipfrag_Split_S4 : Spec := ⟨[.val T27, .val T27, .val .i64, .val (.sl .u8), .val .i64], []⟩
noncomputable def ipfrag_Split_S5 : Spec := ⟨[.row 0, .val .i64], [(.row 98 T97, .pos 0)]⟩
noncomputable def ipfrag_Split_K (_N : Nat) : XE → GS → Option ipfrag_Split_R := retK 0 [10, 11] [false, false] ipfrag_Split_S5
noncomputable def ipfrag_Split_L : List Code := (bodyOf (some Try.f24))
noncomputable def ipfrag_Split_L3 : List Code := (loopOf (ipfrag_Split_L[4]?))
noncomputable def ipfrag_Split_K3 (N : Nat) : XE → GS → Option (Lo ((Int × (List UInt8) × Int × Int × Unit) × (D27 × D27 × (List D97) × Unit)) ((Unit) × ((List D97) × Unit)) ipfrag_Split_R) := roundK (some 1) (fit 0 [2, 3, 4, 5, 6, 12, 13] ipfrag_Split_S1) (fit 0 [12] ipfrag_Split_S2) (ipfrag_Split_K N)
theorem ipfrag_Split_4_b {E : Env} (N : Nat) (hb : Base Try.prog (ipfrag_Split_C N) E 0) : Blk Try.prog (ipfrag_Split_C N) E [2, 3, 4, 5, 6, 12, 13, 53] ipfrag_Split_S0 (ipfrag_Split_L3.drop 1) (fun y => ipfrag_Split_4 N y.1.1 y.1.2.1 y.1.2.2.1 y.1.2.2.2.1 y.1.2.2.2.2.1 y.2.1 y.2.2.1 y.2.2.2.1) (ipfrag_Split_K3 N) :=
  Blk.chunkAt hb 3 (X := (ipfrag_Split_K3 N .normal)) (NxOk.end (by kernel_rfl)) rfl (fun x => by kernel_rfl)
theorem ipfrag_Split_s3_b {E : Env} (N : Nat) (hb : Base Try.prog (ipfrag_Split_C N) E 0) : Blk Try.prog (ipfrag_Split_C N) E [2, 3, 4, 5, 6, 12, 13] ipfrag_Split_S1 (ipfrag_Split_L3.drop 0) (fun y => ipfrag_Split_s3 N y.1.1 y.1.2.1 y.1.2.2.1 y.1.2.2.2.1 y.2.1 y.2.2.1 y.2.2.2.1) (ipfrag_Split_K3 N) :=
  Blk.chunkAt hb 1 (X := (goK 0 [2, 3, 4, 5, 6, 12, 13, 53] ipfrag_Split_S0 (fun y => ipfrag_Split_4 N y.1.1 y.1.2.1 y.1.2.2.1 y.1.2.2.2.1 y.1.2.2.2.2.1 y.2.1 y.2.2.1 y.2.2.2.1))) (NxOk.go hb (ipfrag_Split_4_b N hb)) rfl (fun x => by kernel_rfl)
theorem ipfrag_Split_5_b {E : Env} (N : Nat) (hb : Base Try.prog (ipfrag_Split_C N) E 0) : Blk Try.prog (ipfrag_Split_C N) E [12] ipfrag_Split_S2 (ipfrag_Split_L.drop 5) (fun y => ipfrag_Split_5 N y.2.1) (ipfrag_Split_K N) :=
  Blk.chunkAt hb 2 (X := (ipfrag_Split_K N .normal)) (NxOk.end (by kernel_rfl)) rfl (fun x => by kernel_rfl)
theorem ipfrag_Split_2_b {E : Env} (N : Nat) (hb : Base Try.prog (ipfrag_Split_C N) E 0) : Blk Try.prog (ipfrag_Split_C N) E [2, 3, 4, 5, 6, 12, 13] ipfrag_Split_S1 (ipfrag_Split_L.drop 4) (fun y => ipfrag_Split_2 N y.1.1 y.1.2.1 y.1.2.2.1 y.1.2.2.2.1 y.2.1 y.2.2.1 y.2.2.2.1) (ipfrag_Split_K N) :=
  Blk.loopAt (Nf := N) (hns := [2, 3, 4, 5, 6, 12, 13]) (ans := [12]) (hc := ipfrag_Split_S1) (ac := ipfrag_Split_S2) (bid := 1) (step := (fun y => ipfrag_Split_s3 N y.1.1 y.1.2.1 y.1.2.2.1 y.1.2.2.2.1 y.2.1 y.2.2.1 y.2.2.2.1)) (J := (fun e => (goK 0 [12] ipfrag_Split_S2 (fun y => ipfrag_Split_5 N y.2.1)) (ipfrag_Split_S2.st [12] e))) hb (by kernel_rfl) (Blk.into (X := (goK 0 [12] ipfrag_Split_S2 (fun y => ipfrag_Split_5 N y.2.1))) (NxOk.go hb (ipfrag_Split_5_b N hb)) (fun x => by kernel_rfl)) (ipfrag_Split_s3_b N hb) (fun x => by kernel_rfl)
theorem ipfrag_Split_1_b {E : Env} (N : Nat) (hb : Base Try.prog (ipfrag_Split_C N) E 0) : Blk Try.prog (ipfrag_Split_C N) E [2, 3, 4, 5, 6] ipfrag_Split_S3 (ipfrag_Split_L.drop 2) (fun y => ipfrag_Split_1 N y.1.1 y.1.2.1 y.1.2.2.1 y.2.1 y.2.2.1) (ipfrag_Split_K N) :=
  Blk.chunkAt hb 2 (X := (goK 0 [2, 3, 4, 5, 6, 12, 13] ipfrag_Split_S1 (fun y => ipfrag_Split_2 N y.1.1 y.1.2.1 y.1.2.2.1 y.1.2.2.2.1 y.2.1 y.2.2.1 y.2.2.2.1))) (NxOk.go hb (ipfrag_Split_2_b N hb)) rfl (fun x => by kernel_rfl)
theorem ipfrag_Split_b {E : Env} (N : Nat) (hb : Base Try.prog (ipfrag_Split_C N) E 0) : Blk Try.prog (ipfrag_Split_C N) E (List.range ipfrag_Split_S4.ks.length) ipfrag_Split_S4 (ipfrag_Split_L.drop 0) (fun y => ipfrag_Split N y.1.1 y.1.2.1 y.1.2.2.1 y.1.2.2.2.1 y.1.2.2.2.2.1) (ipfrag_Split_K N) :=
  Blk.chunkAt hb 2 (X := (goK 0 [2, 3, 4, 5, 6] ipfrag_Split_S3 (fun y => ipfrag_Split_1 N y.1.1 y.1.2.1 y.1.2.2.1 y.2.1 y.2.2.1))) (NxOk.go hb (ipfrag_Split_1_b N hb)) rfl (fun x => by kernel_rfl)
noncomputable def ipfrag_Split_ctr (N : Nat) : Ctr := ⟨ipfrag_Split_S4, ipfrag_Split_S5.un [false, false], 0, (fun y => ipfrag_Split N y.1.1 y.1.2.1 y.1.2.2.1 y.1.2.2.2.1 y.1.2.2.2.2.1)⟩
theorem ipfrag_Split_ctrs (N : Nat) : CtrsOk Try.prog (ipfrag_Split_C N) := ctrs_of (Γ := ipfrag_Split_C N) (by
  intro p hp
  simp only [ipfrag_Split_C, List.mem_cons, List.not_mem_nil, or_false] at hp
  rcases hp with rfl | rfl
  · exact ipfrag_family_ok N
  · exact slices_Clone___byte_byte__ok N)
theorem ipfrag_Split_ok (N : Nat) : Ctr.ok Try.prog G_globs 24 (ipfrag_Split_ctr N) :=
  ctr_fn (Γ := ipfrag_Split_C N) (rfit := ipfrag_Split_S5) (bs := [false, false]) (res := [10, 11]) (by kernel_rfl) (tys_ok G_tys_ok) (ipfrag_Split_ctrs N) Try.func24 (by kernel_rfl) (by kernel_rfl) Try.ntmps24 (by kernel_rfl) (by kernel_rfl) (by kernel_rfl) (by kernel_rfl) (fun E hb => ipfrag_Split_b N hb)
end Go.Proofs.Ytgbkkfpheahdfaa
namespace Go.Proofs.Ytgbkkfpheahdfaa
open Go
set_option maxRecDepth 100000
set_option linter.unusedVariables false
/-! ipsecgate/ipsecgatelaw25.awake -/
abbrev law25_awake_R : Type := ((Bool × Unit) × (Unit))
noncomputable def law25_awake (N : Nat) : Option law25_awake_R :=
  Option.bind (ipfrag_Split N ((4 : Int), (0 : UInt64), (1 : UInt64), ()) ((4 : Int), (0 : UInt64), (1 : UInt64), ()) (0 : Int) (List.replicate 20 (0 : UInt8)) (8 : Int)) fun y1 =>
  bif (decide (y1.1.1 = (0 : Int))) then
    bif (decide ((y1.2.1.length : Int) = (3 : Int))) then
      bif inR (2 : Int) y1.2.1.length then
      bif (decide (((y1.2.1.getD 2 (((0 : Int), (0 : UInt64), (0 : UInt64), ()), ((0 : Int), (0 : UInt64), (0 : UInt64), ()), (0 : Int), (0 : Int), false, ([] : List UInt8), ())).2.2.2.1) = (16 : Int))) then
        bif inR (2 : Int) y1.2.1.length then
        bif (decide ((((y1.2.1.getD 2 (((0 : Int), (0 : UInt64), (0 : UInt64), ()), ((0 : Int), (0 : UInt64), (0 : UInt64), ()), (0 : Int), (0 : Int), false, ([] : List UInt8), ())).2.2.2.2.2.1).length : Int) = (4 : Int))) then
          bif inR (2 : Int) y1.2.1.length then
          some ((!((y1.2.1.getD 2 (((0 : Int), (0 : UInt64), (0 : UInt64), ()), ((0 : Int), (0 : UInt64), (0 : UInt64), ()), (0 : Int), (0 : Int), false, ([] : List UInt8), ())).2.2.2.2.1), ()), (()))
          else none
        else
          some ((false, ()), (()))
        else none
      else
        some ((false, ()), (()))
      else none
    else
      some ((false, ()), (()))
  else
    some ((false, ()), (()))
noncomputable def law25_awake_C (N : Nat) : Ctx := ⟨41, G_tys, [(24, ipfrag_Split_ctr N)], G_globs⟩
noncomputable def law25_awake_S0 : Spec := ⟨[], []⟩
noncomputable def law25_awake_S1 : Spec := ⟨[.val .bool], []⟩
noncomputable def law25_awake_K (_N : Nat) : XE → GS → Option law25_awake_R := retK 0 [0] [false] law25_awake_S1
noncomputable def law25_awake_L : List Code := (bodyOf (some Try.f18))
theorem law25_awake_b {E : Env} (N : Nat) (hb : Base Try.prog (law25_awake_C N) E 0) : Blk Try.prog (law25_awake_C N) E (List.range law25_awake_S0.ks.length) law25_awake_S0 (law25_awake_L.drop 0) (fun y => law25_awake N) (law25_awake_K N) :=
  Blk.chunkAt hb 5 (X := (law25_awake_K N .normal)) (NxOk.end (by kernel_rfl)) rfl (fun x => by kernel_rfl)
noncomputable def law25_awake_ctr (N : Nat) : Ctr := ⟨law25_awake_S0, law25_awake_S1.un [false], 0, (fun y => law25_awake N)⟩
theorem law25_awake_ctrs (N : Nat) : CtrsOk Try.prog (law25_awake_C N) := ctrs_of (Γ := law25_awake_C N) (by
  intro p hp
  simp only [law25_awake_C, List.mem_cons, List.not_mem_nil, or_false] at hp
  rcases hp with rfl
  · exact ipfrag_Split_ok N)
theorem law25_awake_ok (N : Nat) : Ctr.ok Try.prog G_globs 18 (law25_awake_ctr N) :=
  ctr_fn (Γ := law25_awake_C N) (rfit := law25_awake_S1) (bs := [false]) (res := [0]) (by kernel_rfl) (tys_ok G_tys_ok) (law25_awake_ctrs N) Try.func18 (by kernel_rfl) (by kernel_rfl) Try.ntmps18 (by kernel_rfl) (by kernel_rfl) (by kernel_rfl) (by kernel_rfl) (fun E hb => law25_awake_b N hb)
end Go.Proofs.Ytgbkkfpheahdfaa
namespace Go.Proofs.Ytgbkkfpheahdfaa
open Go
set_option maxRecDepth 100000
set_option linter.unusedVariables false
/-! ipsecgate/ipsecgatedraw.New -/
abbrev draw_New_R : Type := ((Unit) × (((List UInt8) × (Int × Unit)) × Unit))
noncomputable def draw_New (N : Nat) (list_0 : (List UInt8)) (most_1 : Int) : Option draw_New_R :=
  let x1 := (list_0.length : Int)
  let x2 := bif decide (most_1 < x1) then most_1 else x1
  bif decide (0 ≤ (0 : Int)) && decide ((0 : Int) ≤ x2) && decide (x2 ≤ (list_0.length : Int)) && true then
  let x3 := cut list_0 0 x2.toNat
  bif room (0 + x3.length) 1 then
  some ((()), ((x3, (0 : Int), ()), ()))
  else none
  else none
noncomputable def draw_New_C (N : Nat) : Ctx := ⟨14, G_tys, [], G_globs⟩
noncomputable def draw_New_S0 : Spec := ⟨[.val (.sl .u8), .val .i64], []⟩
noncomputable def draw_New_S1 : Spec := ⟨[.ref 0 (.pair (.sl .u8) (.pair .i64 .unit))], [(.box 108 (.pair (.sl .u8) (.pair .i64 .unit)), .pos 0)]⟩
noncomputable def draw_New_K (_N : Nat) : XE → GS → Option draw_New_R := retK 0 [4] [false] draw_New_S1
noncomputable def draw_New_L : List Code := (bodyOf (some Try.f19))
theorem draw_New_b {E : Env} (N : Nat) (hb : Base Try.prog (draw_New_C N) E 0) : Blk Try.prog (draw_New_C N) E (List.range draw_New_S0.ks.length) draw_New_S0 (draw_New_L.drop 0) (fun y => draw_New N y.1.1 y.1.2.1) (draw_New_K N) :=
  Blk.chunkAt hb 3 (X := (draw_New_K N .normal)) (NxOk.end (by kernel_rfl)) rfl (fun x => by kernel_rfl)
noncomputable def draw_New_ctr (N : Nat) : Ctr := ⟨draw_New_S0, draw_New_S1.un [false], 0, (fun y => draw_New N y.1.1 y.1.2.1)⟩
theorem draw_New_ctrs (N : Nat) : CtrsOk Try.prog (draw_New_C N) := ctrs_nil rfl
theorem draw_New_ok (N : Nat) : Ctr.ok Try.prog G_globs 19 (draw_New_ctr N) :=
  ctr_fn (Γ := draw_New_C N) (rfit := draw_New_S1) (bs := [false]) (res := [4]) (by kernel_rfl) (tys_ok G_tys_ok) (draw_New_ctrs N) Try.func19 (by kernel_rfl) (by kernel_rfl) Try.ntmps19 (by kernel_rfl) (by kernel_rfl) (by kernel_rfl) (by kernel_rfl) (fun E hb => draw_New_b N hb)
end Go.Proofs.Ytgbkkfpheahdfaa
namespace Go.Proofs.Ytgbkkfpheahdfaa
open Go
set_option maxRecDepth 100000
set_option linter.unusedVariables false
/-! (*ipsecgate/ipsecgatedraw.Codes).Next -/
abbrev draw_Codes_Next_R : Type := ((Int × Unit) × (((List UInt8) × (Int × Unit)) × Unit))
noncomputable def draw_Codes_Next (N : Nat) (n_1 : Int) (c_0 : ((List UInt8) × (Int × Unit))) : Option draw_Codes_Next_R :=
  bif (decide ((c_0.1.length : Int) ≤ c_0.2.1)) then
    some (((0 : Int), ()), (c_0, ()))
  else
    let x3 := w64 (c_0.2.1 + (1 : Int))
    let x4 := w64 (x3 - (1 : Int))
    bif inR x4 c_0.1.length then
    some (((w64 ((w64 (((c_0.1.getD x4.toNat (0 : UInt8)).toNat : Int) * n_1)).tdiv (256 : Int))), ()), ((c_0.1, x3, ()), ()))
    else none
noncomputable def draw_Codes_Next_C (N : Nat) : Ctx := ⟨37, G_tys, [], G_globs⟩
noncomputable def draw_Codes_Next_S0 : Spec := ⟨[.ref 0 (.pair (.sl .u8) (.pair .i64 .unit)), .val .i64], [(.box 108 (.pair (.sl .u8) (.pair .i64 .unit)), .pos 0)]⟩
noncomputable def draw_Codes_Next_S1 : Spec := ⟨[.val .i64], [(.box 108 (.pair (.sl .u8) (.pair .i64 .unit)), .fix 0)]⟩
noncomputable def draw_Codes_Next_K (_N : Nat) : XE → GS → Option draw_Codes_Next_R := retK 1 [4] [false] draw_Codes_Next_S1
noncomputable def draw_Codes_Next_L : List Code := (bodyOf (some Try.f23))
theorem draw_Codes_Next_b {E : Env} (N : Nat) (hb : Base Try.prog (draw_Codes_Next_C N) E 1) : Blk Try.prog (draw_Codes_Next_C N) E (List.range draw_Codes_Next_S0.ks.length) draw_Codes_Next_S0 (draw_Codes_Next_L.drop 0) (fun y => draw_Codes_Next N y.1.1 y.2.1) (draw_Codes_Next_K N) :=
  Blk.chunkAt hb 6 (X := (draw_Codes_Next_K N .normal)) (NxOk.end (by kernel_rfl)) rfl (fun x => by kernel_rfl)
noncomputable def draw_Codes_Next_ctr (N : Nat) : Ctr := ⟨draw_Codes_Next_S0, draw_Codes_Next_S1.un [false], 1, (fun y => draw_Codes_Next N y.1.1 y.2.1)⟩
theorem draw_Codes_Next_ctrs (N : Nat) : CtrsOk Try.prog (draw_Codes_Next_C N) := ctrs_nil rfl
theorem draw_Codes_Next_ok (N : Nat) : Ctr.ok Try.prog G_globs 23 (draw_Codes_Next_ctr N) :=
  ctr_fn (Γ := draw_Codes_Next_C N) (rfit := draw_Codes_Next_S1) (bs := [false]) (res := [4]) (by kernel_rfl) (tys_ok G_tys_ok) (draw_Codes_Next_ctrs N) Try.func23 (by kernel_rfl) (by kernel_rfl) Try.ntmps23 (by kernel_rfl) (by kernel_rfl) (by kernel_rfl) (by kernel_rfl) (fun E hb => draw_Codes_Next_b N hb)
end Go.Proofs.Ytgbkkfpheahdfaa
namespace Go.Proofs.Ytgbkkfpheahdfaa
open Go
set_option maxRecDepth 100000
set_option linter.unusedVariables false
/-! ipsecgate/ipsecgatedraw.address -/
abbrev draw_address_R : Type := ((D27 × Unit) × (Unit))
noncomputable def draw_address (N : Nat) (side_0 : Int) (low_1 : Int) (six_2 : Bool) : Option draw_address_R :=
  bif six_2 then
    some ((((6 : Int), (2305843009213693952 : UInt64), (iu64 (w64 ((shlI side_0 8) + low_1))), ()), ()), (()))
  else
    some ((((4 : Int), (0 : UInt64), (iu64 (w64 ((w64 ((167772160 : Int) + (shlI side_0 8))) + low_1))), ()), ()), (()))
noncomputable def draw_address_C (N : Nat) : Ctx := ⟨21, G_tys, [], G_globs⟩
noncomputable def draw_address_S0 : Spec := ⟨[.val .i64, .val .i64, .val .bool], []⟩
noncomputable def draw_address_S1 : Spec := ⟨[.fp T27], []⟩
noncomputable def draw_address_K (_N : Nat) : XE → GS → Option draw_address_R := retK 0 [6] [true] draw_address_S1
noncomputable def draw_address_L : List Code := (bodyOf (some Try.f72))
theorem draw_address_b {E : Env} (N : Nat) (hb : Base Try.prog (draw_address_C N) E 0) : Blk Try.prog (draw_address_C N) E (List.range draw_address_S0.ks.length) draw_address_S0 (draw_address_L.drop 0) (fun y => draw_address N y.1.1 y.1.2.1 y.1.2.2.1) (draw_address_K N) :=
  Blk.chunkAt hb 5 (X := (draw_address_K N .normal)) (NxOk.end (by kernel_rfl)) rfl (fun x => by kernel_rfl)
noncomputable def draw_address_ctr (N : Nat) : Ctr := ⟨draw_address_S0, draw_address_S1.un [true], 0, (fun y => draw_address N y.1.1 y.1.2.1 y.1.2.2.1)⟩
theorem draw_address_ctrs (N : Nat) : CtrsOk Try.prog (draw_address_C N) := ctrs_nil rfl
theorem draw_address_ok (N : Nat) : Ctr.ok Try.prog G_globs 72 (draw_address_ctr N) :=
  ctr_fn (Γ := draw_address_C N) (rfit := draw_address_S1) (bs := [true]) (res := [6]) (by kernel_rfl) (tys_ok G_tys_ok) (draw_address_ctrs N) Try.func72 (by kernel_rfl) (by kernel_rfl) Try.ntmps72 (by kernel_rfl) (by kernel_rfl) (by kernel_rfl) (by kernel_rfl) (fun E hb => draw_address_b N hb)
end Go.Proofs.Ytgbkkfpheahdfaa
namespace Go.Proofs.Ytgbkkfpheahdfaa
open Go
set_option maxRecDepth 100000
set_option linter.unusedVariables false
/-! (*ipsecgate/ipsecgatedraw.Codes).Packet -/
abbrev draw_Codes_Packet_R : Type := ((D29 × Unit) × (((List UInt8) × (Int × Unit)) × Unit))
noncomputable def draw_Codes_Packet_2 (N : Nat) (t_50 : Bool) (p0 : ((List UInt8) × (Int × Unit))) (t_4 : D29) (p_7 : D29) : Option draw_Codes_Packet_R :=
  bif t_50 then
    some (((p_7.1, p_7.2.1, p_7.2.2.1, (-1 : Int), (-1 : Int), ()), ()), (p0, ()))
  else
    some ((p_7, ()), (p0, ()))
noncomputable def draw_Codes_Packet_1 (N : Nat) (side_1 : Int) (six_5 : Bool) (to_6 : Int) (p0 : ((List UInt8) × (Int × Unit))) (t_4 : D29) : Option draw_Codes_Packet_R :=
  Option.bind (draw_Codes_Next N (256 : Int) p0) fun y6 =>
  Option.bind (draw_address N side_1 y6.1.1 six_5) fun y7 =>
  Option.bind (draw_Codes_Next N (256 : Int) y6.2.1) fun y8 =>
  Option.bind (draw_address N to_6 y8.1.1 six_5) fun y9 =>
  Option.bind (draw_Codes_Next N (4 : Int) y8.2.1) fun y10 =>
  bif inR y10.1.1 (([(6 : Int), (17 : Int), (1 : Int), (50 : Int)] : List Int).length) then
  let x11 := (([(6 : Int), (17 : Int), (1 : Int), (50 : Int)] : List Int).getD y10.1.1.toNat (0 : Int))
  Option.bind (draw_Codes_Next N (6 : Int) y10.2.1) fun y12 =>
  let x13 := w64 (y12.1.1 * (20 : Int))
  Option.bind (draw_Codes_Next N (6 : Int) y12.2.1) fun y14 =>
  let x15 := w64 (y14.1.1 * (20 : Int))
  Option.bind (draw_Codes_Next N (4 : Int) y14.2.1) fun y16 =>
  bif (decide (y16.1.1 = (3 : Int))) then
    draw_Codes_Packet_2 N true y16.2.1 t_4 (y7.1.1, y9.1.1, x11, x13, x15, ())
  else
    bif (decide (x11 = (1 : Int))) then
      draw_Codes_Packet_2 N true y16.2.1 t_4 (y7.1.1, y9.1.1, x11, x13, x15, ())
    else
      draw_Codes_Packet_2 N (decide (x11 = (50 : Int))) y16.2.1 t_4 (y7.1.1, y9.1.1, x11, x13, x15, ())
  else none
noncomputable def draw_Codes_Packet (N : Nat) (side_1 : Int) (c_0 : ((List UInt8) × (Int × Unit))) : Option draw_Codes_Packet_R :=
  Option.bind (draw_Codes_Next N (10 : Int) c_0) fun y1 =>
  let x2 := decide (y1.1.1 = (9 : Int))
  Option.bind (draw_Codes_Next N (8 : Int) y1.2.1) fun y4 =>
  bif (decide (y4.1.1 = (7 : Int))) then
    draw_Codes_Packet_1 N side_1 x2 (3 : Int) y4.2.1 (((0 : Int), (0 : UInt64), (0 : UInt64), ()), ((0 : Int), (0 : UInt64), (0 : UInt64), ()), (0 : Int), (0 : Int), (0 : Int), ())
  else
    draw_Codes_Packet_1 N side_1 x2 (w64 ((1 : Int) - side_1)) y4.2.1 (((0 : Int), (0 : UInt64), (0 : UInt64), ()), ((0 : Int), (0 : UInt64), (0 : UInt64), ()), (0 : Int), (0 : Int), (0 : Int), ())
noncomputable def draw_Codes_Packet_C (N : Nat) : Ctx := ⟨54, G_tys, [(23, draw_Codes_Next_ctr N), (72, draw_address_ctr N)], G_globs⟩
noncomputable def draw_Codes_Packet_S0 : Spec := ⟨[.ref 1 T29, .ref 2 T29, .val .bool], [(.box 108 (.pair (.sl .u8) (.pair .i64 .unit)), .fix 0), (.box 30 T29, .pos 0), (.box 30 T29, .pos 1)]⟩
noncomputable def draw_Codes_Packet_S1 : Spec := ⟨[.ref 0 (.pair (.sl .u8) (.pair .i64 .unit)), .val .i64, .ref 1 T29, .val .bool, .val .i64], [(.box 108 (.pair (.sl .u8) (.pair .i64 .unit)), .fix 0), (.box 30 T29, .pos 2)]⟩
noncomputable def draw_Codes_Packet_S2 : Spec := ⟨[.ref 0 (.pair (.sl .u8) (.pair .i64 .unit)), .val .i64], [(.box 108 (.pair (.sl .u8) (.pair .i64 .unit)), .pos 0)]⟩
noncomputable def draw_Codes_Packet_S3 : Spec := ⟨[.fp T29], [(.box 108 (.pair (.sl .u8) (.pair .i64 .unit)), .fix 0)]⟩
noncomputable def draw_Codes_Packet_K (_N : Nat) : XE → GS → Option draw_Codes_Packet_R := retK 1 [4] [true] draw_Codes_Packet_S3
noncomputable def draw_Codes_Packet_L : List Code := (bodyOf (some Try.f20))
theorem draw_Codes_Packet_2_b {E : Env} (N : Nat) (hb : Base Try.prog (draw_Codes_Packet_C N) E 1) : Blk Try.prog (draw_Codes_Packet_C N) E [4, 7, 50] draw_Codes_Packet_S0 (draw_Codes_Packet_L.drop 7) (fun y => draw_Codes_Packet_2 N y.1.1 y.2.1 y.2.2.1 y.2.2.2.1) (draw_Codes_Packet_K N) :=
  Blk.chunkAt hb 3 (X := (draw_Codes_Packet_K N .normal)) (NxOk.end (by kernel_rfl)) rfl (fun x => by kernel_rfl)
theorem draw_Codes_Packet_1_b {E : Env} (N : Nat) (hb : Base Try.prog (draw_Codes_Packet_C N) E 1) : Blk Try.prog (draw_Codes_Packet_C N) E [0, 1, 4, 5, 6] draw_Codes_Packet_S1 (draw_Codes_Packet_L.drop 5) (fun y => draw_Codes_Packet_1 N y.1.1 y.1.2.1 y.1.2.2.1 y.2.1 y.2.2.1) (draw_Codes_Packet_K N) :=
  Blk.chunkAt hb 2 (X := (goK 1 [4, 7, 50] draw_Codes_Packet_S0 (fun y => draw_Codes_Packet_2 N y.1.1 y.2.1 y.2.2.1 y.2.2.2.1))) (NxOk.go hb (draw_Codes_Packet_2_b N hb)) rfl (fun x => by kernel_rfl)
theorem draw_Codes_Packet_b {E : Env} (N : Nat) (hb : Base Try.prog (draw_Codes_Packet_C N) E 1) : Blk Try.prog (draw_Codes_Packet_C N) E (List.range draw_Codes_Packet_S2.ks.length) draw_Codes_Packet_S2 (draw_Codes_Packet_L.drop 0) (fun y => draw_Codes_Packet N y.1.1 y.2.1) (draw_Codes_Packet_K N) :=
  Blk.chunkAt hb 5 (X := (goK 1 [0, 1, 4, 5, 6] draw_Codes_Packet_S1 (fun y => draw_Codes_Packet_1 N y.1.1 y.1.2.1 y.1.2.2.1 y.2.1 y.2.2.1))) (NxOk.go hb (draw_Codes_Packet_1_b N hb)) rfl (fun x => by kernel_rfl)
noncomputable def draw_Codes_Packet_ctr (N : Nat) : Ctr := ⟨draw_Codes_Packet_S2, draw_Codes_Packet_S3.un [true], 1, (fun y => draw_Codes_Packet N y.1.1 y.2.1)⟩
theorem draw_Codes_Packet_ctrs (N : Nat) : CtrsOk Try.prog (draw_Codes_Packet_C N) := ctrs_of (Γ := draw_Codes_Packet_C N) (by
  intro p hp
  simp only [draw_Codes_Packet_C, List.mem_cons, List.not_mem_nil, or_false] at hp
  rcases hp with rfl | rfl
  · exact draw_Codes_Next_ok N
  · exact draw_address_ok N)
theorem draw_Codes_Packet_ok (N : Nat) : Ctr.ok Try.prog G_globs 20 (draw_Codes_Packet_ctr N) :=
  ctr_fn (Γ := draw_Codes_Packet_C N) (rfit := draw_Codes_Packet_S3) (bs := [true]) (res := [4]) (by kernel_rfl) (tys_ok G_tys_ok) (draw_Codes_Packet_ctrs N) Try.func20 (by kernel_rfl) (by kernel_rfl) Try.ntmps20 (by kernel_rfl) (by kernel_rfl) (by kernel_rfl) (by kernel_rfl) (fun E hb => draw_Codes_Packet_b N hb)
end Go.Proofs.Ytgbkkfpheahdfaa
namespace Go.Proofs.Ytgbkkfpheahdfaa
open Go
set_option maxRecDepth 100000
set_option linter.unusedVariables false
/-! ipsecgate/ipsecgatedraw.Mod -/
abbrev draw_Mod_R : Type := ((Int × Unit) × (Unit))
noncomputable def draw_Mod (N : Nat) (x_0 : Int) (n_1 : Int) : Option draw_Mod_R :=
  bif !(decide (n_1 = 0)) then
  bif (decide ((x_0.tmod n_1) < (0 : Int))) then
    some (((w64 ((x_0.tmod n_1) + n_1)), ()), (()))
  else
    some (((x_0.tmod n_1), ()), (()))
  else none
noncomputable def draw_Mod_C (N : Nat) : Ctx := ⟨14, G_tys, [], G_globs⟩
noncomputable def draw_Mod_S0 : Spec := ⟨[.val .i64, .val .i64], []⟩
noncomputable def draw_Mod_S1 : Spec := ⟨[.val .i64], []⟩
noncomputable def draw_Mod_K (_N : Nat) : XE → GS → Option draw_Mod_R := retK 0 [4] [false] draw_Mod_S1
noncomputable def draw_Mod_L : List Code := (bodyOf (some Try.f22))
theorem draw_Mod_b {E : Env} (N : Nat) (hb : Base Try.prog (draw_Mod_C N) E 0) : Blk Try.prog (draw_Mod_C N) E (List.range draw_Mod_S0.ks.length) draw_Mod_S0 (draw_Mod_L.drop 0) (fun y => draw_Mod N y.1.1 y.1.2.1) (draw_Mod_K N) :=
  Blk.chunkAt hb 6 (X := (draw_Mod_K N .normal)) (NxOk.end (by kernel_rfl)) rfl (fun x => by kernel_rfl)
noncomputable def draw_Mod_ctr (N : Nat) : Ctr := ⟨draw_Mod_S0, draw_Mod_S1.un [false], 0, (fun y => draw_Mod N y.1.1 y.1.2.1)⟩
theorem draw_Mod_ctrs (N : Nat) : CtrsOk Try.prog (draw_Mod_C N) := ctrs_nil rfl
theorem draw_Mod_ok (N : Nat) : Ctr.ok Try.prog G_globs 22 (draw_Mod_ctr N) :=
  ctr_fn (Γ := draw_Mod_C N) (rfit := draw_Mod_S1) (bs := [false]) (res := [4]) (by kernel_rfl) (tys_ok G_tys_ok) (draw_Mod_ctrs N) Try.func22 (by kernel_rfl) (by kernel_rfl) Try.ntmps22 (by kernel_rfl) (by kernel_rfl) (by kernel_rfl) (by kernel_rfl) (fun E hb => draw_Mod_b N hb)
end Go.Proofs.Ytgbkkfpheahdfaa
namespace Go.Proofs.Ytgbkkfpheahdfaa
open Go
set_option maxRecDepth 100000
set_option linter.unusedVariables false
/-! ipsecgate/ipsecgatelaw25.bytes -/
abbrev law25_bytes_R : Type := ((Unit) × ((List UInt8) × Unit))
noncomputable def law25_bytes_s2 (N : Nat) (n_0 : Int) (by_1 : Int) (i_6 : Int) (b_5 : (List UInt8)) : Option (Lo ((Int × Int × Int × Unit) × ((List UInt8) × Unit)) ((Unit) × ((List UInt8) × Unit)) law25_bytes_R) :=
  bif (decide (i_6 < n_0)) then
    bif inR i_6 b_5.length then
    some (.go ((n_0, by_1, (w64 (i_6 + (1 : Int))), ()), ((b_5.set i_6.toNat (iu8 (w64 ((w64 (i_6 * by_1)) + (w64 (i_6.tdiv (7 : Int))))))), ())))
    else none
  else
    some (.br ((()), (b_5, ())))
noncomputable def law25_bytes_3 (N : Nat) (b_5 : (List UInt8)) : Option law25_bytes_R :=
  some ((()), (b_5, ()))
noncomputable def law25_bytes_1 (N : Nat) (n_0 : Int) (by_1 : Int) (i_6 : Int) (b_5 : (List UInt8)) : Option law25_bytes_R :=
  loopK N (fun y => law25_bytes_s2 N y.1.1 y.1.2.1 y.1.2.2.1 y.2.1) (fun (e : ((Unit) × ((List UInt8) × Unit))) => law25_bytes_3 N e.2.1) ((n_0, by_1, i_6, ()), (b_5, ()))
noncomputable def law25_bytes (N : Nat) (n_0 : Int) (by_1 : Int) : Option law25_bytes_R :=
  bif decide (0 ≤ n_0) && decide (n_0 ≤ n_0) && room n_0.toNat 1 then
  law25_bytes_1 N n_0 by_1 (0 : Int) (List.replicate n_0.toNat (0 : UInt8))
  else none
noncomputable def law25_bytes_C (N : Nat) : Ctx := ⟨25, G_tys, [], G_globs⟩
noncomputable def law25_bytes_S0 : Spec := ⟨[.val .i64, .val .i64, .row 0, .val .i64], [(.row 5 .u8, .pos 2)]⟩
noncomputable def law25_bytes_S1 : Spec := ⟨[.row 0], [(.row 5 .u8, .pos 0)]⟩
noncomputable def law25_bytes_S2 : Spec := ⟨[.val .i64, .val .i64], []⟩
noncomputable def law25_bytes_K (_N : Nat) : XE → GS → Option law25_bytes_R := retK 0 [4] [false] law25_bytes_S1
noncomputable def law25_bytes_L : List Code := (bodyOf (some Try.f21))
noncomputable def law25_bytes_L2 : List Code := (loopOf (law25_bytes_L[3]?))
noncomputable def law25_bytes_K2 (N : Nat) : XE → GS → Option (Lo ((Int × Int × Int × Unit) × ((List UInt8) × Unit)) ((Unit) × ((List UInt8) × Unit)) law25_bytes_R) := roundK (some 0) (fit 0 [0, 1, 5, 6] law25_bytes_S0) (fit 0 [5] law25_bytes_S1) (law25_bytes_K N)
theorem law25_bytes_s2_b {E : Env} (N : Nat) (hb : Base Try.prog (law25_bytes_C N) E 0) : Blk Try.prog (law25_bytes_C N) E [0, 1, 5, 6] law25_bytes_S0 (law25_bytes_L2.drop 0) (fun y => law25_bytes_s2 N y.1.1 y.1.2.1 y.1.2.2.1 y.2.1) (law25_bytes_K2 N) :=
  Blk.chunkAt hb 4 (X := (law25_bytes_K2 N .normal)) (NxOk.end (by kernel_rfl)) rfl (fun x => by kernel_rfl)
theorem law25_bytes_3_b {E : Env} (N : Nat) (hb : Base Try.prog (law25_bytes_C N) E 0) : Blk Try.prog (law25_bytes_C N) E [5] law25_bytes_S1 (law25_bytes_L.drop 4) (fun y => law25_bytes_3 N y.2.1) (law25_bytes_K N) :=
  Blk.chunkAt hb 2 (X := (law25_bytes_K N .normal)) (NxOk.end (by kernel_rfl)) rfl (fun x => by kernel_rfl)
theorem law25_bytes_1_b {E : Env} (N : Nat) (hb : Base Try.prog (law25_bytes_C N) E 0) : Blk Try.prog (law25_bytes_C N) E [0, 1, 5, 6] law25_bytes_S0 (law25_bytes_L.drop 3) (fun y => law25_bytes_1 N y.1.1 y.1.2.1 y.1.2.2.1 y.2.1) (law25_bytes_K N) :=
  Blk.loopAt (Nf := N) (hns := [0, 1, 5, 6]) (ans := [5]) (hc := law25_bytes_S0) (ac := law25_bytes_S1) (bid := 0) (step := (fun y => law25_bytes_s2 N y.1.1 y.1.2.1 y.1.2.2.1 y.2.1)) (J := (fun e => (goK 0 [5] law25_bytes_S1 (fun y => law25_bytes_3 N y.2.1)) (law25_bytes_S1.st [5] e))) hb (by kernel_rfl) (Blk.into (X := (goK 0 [5] law25_bytes_S1 (fun y => law25_bytes_3 N y.2.1))) (NxOk.go hb (law25_bytes_3_b N hb)) (fun x => by kernel_rfl)) (law25_bytes_s2_b N hb) (fun x => by kernel_rfl)
theorem law25_bytes_b {E : Env} (N : Nat) (hb : Base Try.prog (law25_bytes_C N) E 0) : Blk Try.prog (law25_bytes_C N) E (List.range law25_bytes_S2.ks.length) law25_bytes_S2 (law25_bytes_L.drop 0) (fun y => law25_bytes N y.1.1 y.1.2.1) (law25_bytes_K N) :=
  Blk.chunkAt hb 3 (X := (goK 0 [0, 1, 5, 6] law25_bytes_S0 (fun y => law25_bytes_1 N y.1.1 y.1.2.1 y.1.2.2.1 y.2.1))) (NxOk.go hb (law25_bytes_1_b N hb)) rfl (fun x => by kernel_rfl)
noncomputable def law25_bytes_ctr (N : Nat) : Ctr := ⟨law25_bytes_S2, law25_bytes_S1.un [false], 0, (fun y => law25_bytes N y.1.1 y.1.2.1)⟩
theorem law25_bytes_ctrs (N : Nat) : CtrsOk Try.prog (law25_bytes_C N) := ctrs_nil rfl
theorem law25_bytes_ok (N : Nat) : Ctr.ok Try.prog G_globs 21 (law25_bytes_ctr N) :=
  ctr_fn (Γ := law25_bytes_C N) (rfit := law25_bytes_S1) (bs := [false]) (res := [4]) (by kernel_rfl) (tys_ok G_tys_ok) (law25_bytes_ctrs N) Try.func21 (by kernel_rfl) (by kernel_rfl) Try.ntmps21 (by kernel_rfl) (by kernel_rfl) (by kernel_rfl) (by kernel_rfl) (fun E hb => law25_bytes_b N hb)
end Go.Proofs.Ytgbkkfpheahdfaa
namespace Go.Proofs.Ytgbkkfpheahdfaa
open Go
set_option maxRecDepth 100000
set_option linter.unusedVariables false
/-! ipsecgate/ipsecgateref05.Valid -/
abbrev ref05_Valid_R : Type := ((Bool × Unit) × (Unit))
noncomputable def ref05_Valid (N : Nat) (a_0 : D27) : Option ref05_Valid_R :=
  bif (decide (a_0.1 = (4 : Int))) then
    bif (decide (a_0.2.1 = (0 : UInt64))) then
      bif (decide (a_0.2.2.1 < (4294967296 : UInt64))) then
        some ((true, ()), (()))
      else
        some (((decide (a_0.1 = (6 : Int))), ()), (()))
    else
      some (((decide (a_0.1 = (6 : Int))), ()), (()))
  else
    some (((decide (a_0.1 = (6 : Int))), ()), (()))
noncomputable def ref05_Valid_C (N : Nat) : Ctx := ⟨21, G_tys, [], G_globs⟩
noncomputable def ref05_Valid_S0 : Spec := ⟨[.val T27], []⟩
noncomputable def ref05_Valid_S1 : Spec := ⟨[.val .bool], []⟩
noncomputable def ref05_Valid_K (_N : Nat) : XE → GS → Option ref05_Valid_R := retK 0 [2] [false] ref05_Valid_S1
noncomputable def ref05_Valid_L : List Code := (bodyOf (some Try.f99))
theorem ref05_Valid_b {E : Env} (N : Nat) (hb : Base Try.prog (ref05_Valid_C N) E 0) : Blk Try.prog (ref05_Valid_C N) E (List.range ref05_Valid_S0.ks.length) ref05_Valid_S0 (ref05_Valid_L.drop 0) (fun y => ref05_Valid N y.1.1) (ref05_Valid_K N) :=
  Blk.chunkAt hb 3 (X := (ref05_Valid_K N .normal)) (NxOk.end (by kernel_rfl)) rfl (fun x => by kernel_rfl)
noncomputable def ref05_Valid_ctr (N : Nat) : Ctr := ⟨ref05_Valid_S0, ref05_Valid_S1.un [false], 0, (fun y => ref05_Valid N y.1.1)⟩
theorem ref05_Valid_ctrs (N : Nat) : CtrsOk Try.prog (ref05_Valid_C N) := ctrs_nil rfl
theorem ref05_Valid_ok (N : Nat) : Ctr.ok Try.prog G_globs 99 (ref05_Valid_ctr N) :=
  ctr_fn (Γ := ref05_Valid_C N) (rfit := ref05_Valid_S1) (bs := [false]) (res := [2]) (by kernel_rfl) (tys_ok G_tys_ok) (ref05_Valid_ctrs N) Try.func99 (by kernel_rfl) (by kernel_rfl) Try.ntmps99 (by kernel_rfl) (by kernel_rfl) (by kernel_rfl) (by kernel_rfl) (fun E hb => ref05_Valid_b N hb)
end Go.Proofs.Ytgbkkfpheahdfaa
namespace Go.Proofs.Ytgbkkfpheahdfaa
open Go
set_option maxRecDepth 100000
set_option linter.unusedVariables false
/-! ipsecgate/ipsecgateref25.family -/
abbrev ref25_family_R : Type := ((Bool × Unit) × (Unit))
noncomputable def ref25_family (N : Nat) (a_0 : D27) (b_1 : D27) : Option ref25_family_R :=
  Option.bind (ref05_Valid N a_0) fun y1 =>
  bif y1.1.1 then
    Option.bind (ref05_Valid N b_1) fun y2 =>
    bif y2.1.1 then
      some (((decide (a_0.1 = b_1.1)), ()), (()))
    else
      some ((false, ()), (()))
  else
    some ((false, ()), (()))
noncomputable def ref25_family_C (N : Nat) : Ctx := ⟨18, G_tys, [(99, ref05_Valid_ctr N)], G_globs⟩
noncomputable def ref25_family_S0 : Spec := ⟨[.val T27, .val T27], []⟩
noncomputable def ref25_family_S1 : Spec := ⟨[.val .bool], []⟩
noncomputable def ref25_family_K (_N : Nat) : XE → GS → Option ref25_family_R := retK 0 [4] [false] ref25_family_S1
noncomputable def ref25_family_L : List Code := (bodyOf (some Try.f75))
theorem ref25_family_b {E : Env} (N : Nat) (hb : Base Try.prog (ref25_family_C N) E 0) : Blk Try.prog (ref25_family_C N) E (List.range ref25_family_S0.ks.length) ref25_family_S0 (ref25_family_L.drop 0) (fun y => ref25_family N y.1.1 y.1.2.1) (ref25_family_K N) :=
  Blk.chunkAt hb 3 (X := (ref25_family_K N .normal)) (NxOk.end (by kernel_rfl)) rfl (fun x => by kernel_rfl)
noncomputable def ref25_family_ctr (N : Nat) : Ctr := ⟨ref25_family_S0, ref25_family_S1.un [false], 0, (fun y => ref25_family N y.1.1 y.1.2.1)⟩
theorem ref25_family_ctrs (N : Nat) : CtrsOk Try.prog (ref25_family_C N) := ctrs_of (Γ := ref25_family_C N) (by
  intro p hp
  simp only [ref25_family_C, List.mem_cons, List.not_mem_nil, or_false] at hp
  rcases hp with rfl
  · exact ref05_Valid_ok N)
theorem ref25_family_ok (N : Nat) : Ctr.ok Try.prog G_globs 75 (ref25_family_ctr N) :=
  ctr_fn (Γ := ref25_family_C N) (rfit := ref25_family_S1) (bs := [false]) (res := [4]) (by kernel_rfl) (tys_ok G_tys_ok) (ref25_family_ctrs N) Try.func75 (by kernel_rfl) (by kernel_rfl) Try.ntmps75 (by kernel_rfl) (by kernel_rfl) (by kernel_rfl) (by kernel_rfl) (fun E hb => ref25_family_b N hb)
end Go.Proofs.Ytgbkkfpheahdfaa
namespace Go.Proofs.Ytgbkkfpheahdfaa
open Go
set_option maxRecDepth 100000
set_option linter.unusedVariables false
/-! ipsecgate/ipsecgateref25.Split -/
abbrev ref25_Split_R : Type := ((Int × Unit) × ((List D97) × Unit))
noncomputable def ref25_Split_4 (N : Nat) (id_2 : Int) (data_3 : (List UInt8)) (size_4 : Int) (at_13 : Int) (t_49 : Bool) (from_5 : D27) (to_6 : D27) (out_12 : (List D97)) : Option (Lo ((Int × (List UInt8) × Int × Int × Unit) × (D27 × D27 × (List D97) × Unit)) ((Unit) × ((List D97) × Unit)) ref25_Split_R) :=
  bif t_49 then
    let x10 := w64 (at_13 + size_4)
    let x11 := (data_3.length : Int)
    let x12 := bif decide (x11 < x10) then x11 else x10
    let x14 := decide (x12 < (data_3.length : Int))
    bif decide (0 ≤ at_13) && decide (at_13 ≤ x12) && decide (x12 ≤ (data_3.length : Int)) && true then
    let x15 := cut data_3 at_13.toNat x12.toNat
    bif room (0 + x15.length) 1 then
    bif room (out_12.length + ([(from_5, to_6, id_2, at_13, x14, x15, ())] : List D97).length) 96 then
    some (.go ((id_2, data_3, size_4, (w64 (at_13 + size_4)), ()), (from_5, to_6, (out_12 ++ ([(from_5, to_6, id_2, at_13, x14, x15, ())] : List D97)), ())))
    else none
    else none
    else none
  else
    some (.br ((()), (out_12, ())))
noncomputable def ref25_Split_s3 (N : Nat) (id_2 : Int) (data_3 : (List UInt8)) (size_4 : Int) (at_13 : Int) (from_5 : D27) (to_6 : D27) (out_12 : (List D97)) : Option (Lo ((Int × (List UInt8) × Int × Int × Unit) × (D27 × D27 × (List D97) × Unit)) ((Unit) × ((List D97) × Unit)) ref25_Split_R) :=
  bif (decide (at_13 = (0 : Int))) then
    ref25_Split_4 N id_2 data_3 size_4 at_13 true from_5 to_6 out_12
  else
    ref25_Split_4 N id_2 data_3 size_4 at_13 (decide (at_13 < (data_3.length : Int))) from_5 to_6 out_12
noncomputable def ref25_Split_5 (N : Nat) (out_12 : (List D97)) : Option ref25_Split_R :=
  some (((0 : Int), ()), (out_12, ()))
noncomputable def ref25_Split_2 (N : Nat) (id_2 : Int) (data_3 : (List UInt8)) (size_4 : Int) (at_13 : Int) (from_5 : D27) (to_6 : D27) (out_12 : (List D97)) : Option ref25_Split_R :=
  loopK N (fun y => ref25_Split_s3 N y.1.1 y.1.2.1 y.1.2.2.1 y.1.2.2.2.1 y.2.1 y.2.2.1 y.2.2.2.1) (fun (e : ((Unit) × ((List D97) × Unit))) => ref25_Split_5 N e.2.1) ((id_2, data_3, size_4, at_13, ()), (from_5, to_6, out_12, ()))
noncomputable def ref25_Split_1 (N : Nat) (id_2 : Int) (data_3 : (List UInt8)) (size_4 : Int) (t_33 : Bool) (from_5 : D27) (to_6 : D27) : Option ref25_Split_R :=
  bif t_33 then
    some (((5 : Int), ()), (([] : List D97), ()))
  else
    bif (decide ((4096 : Int) < (data_3.length : Int))) then
      some (((11 : Int), ()), (([] : List D97), ()))
    else
      bif (decide ((w64 ((16 : Int) * size_4)) < (data_3.length : Int))) then
        some (((10 : Int), ()), (([] : List D97), ()))
      else
        ref25_Split_2 N id_2 data_3 size_4 (0 : Int) from_5 to_6 ([] : List D97)
noncomputable def ref25_Split (N : Nat) (from_0 : D27) (to_1 : D27) (id_2 : Int) (data_3 : (List UInt8)) (size_4 : Int) : Option ref25_Split_R :=
  Option.bind (ref25_family N from_0 to_1) fun y1 =>
  bif (!y1.1.1) then
    some (((15 : Int), ()), (([] : List D97), ()))
  else
    bif (decide (size_4 < (8 : Int))) then
      ref25_Split_1 N id_2 data_3 size_4 true from_0 to_1
    else
      bif (decide ((2048 : Int) < size_4)) then
        ref25_Split_1 N id_2 data_3 size_4 true from_0 to_1
      else
        bif (!(decide ((size_4.tmod (8 : Int)) = (0 : Int)))) then
          ref25_Split_1 N id_2 data_3 size_4 true from_0 to_1
        else
          ref25_Split_1 N id_2 data_3 size_4 (decide (id_2 < (0 : Int))) from_0 to_1
noncomputable def ref25_Split_C (N : Nat) : Ctx := ⟨77, G_tys, [(75, ref25_family_ctr N)], G_globs⟩
noncomputable def ref25_Split_S0 : Spec := ⟨[.val .i64, .val (.sl .u8), .val .i64, .ref 0 T27, .ref 1 T27, .row 2, .val .i64, .val .bool], [(.box 28 T27, .pos 3), (.box 28 T27, .pos 4), (.row 98 T97, .pos 5)]⟩
noncomputable def ref25_Split_S1 : Spec := ⟨[.val .i64, .val (.sl .u8), .val .i64, .ref 0 T27, .ref 1 T27, .row 2, .val .i64], [(.box 28 T27, .pos 3), (.box 28 T27, .pos 4), (.row 98 T97, .pos 5)]⟩
noncomputable def ref25_Split_S2 : Spec := ⟨[.row 0], [(.row 98 T97, .pos 0)]⟩
noncomputable def ref25_Split_S3 : Spec := ⟨[.val .i64, .val (.sl .u8), .val .i64, .ref 0 T27, .ref 1 T27, .val .bool], [(.box 28 T27, .pos 3), (.box 28 T27, .pos 4)]⟩
noncomputable def ref25_Split_S4 : Spec := ⟨[.val T27, .val T27, .val .i64, .val (.sl .u8), .val .i64], []⟩
noncomputable def ref25_Split_S5 : Spec := ⟨[.row 0, .val .i64], [(.row 98 T97, .pos 0)]⟩
noncomputable def ref25_Split_K (_N : Nat) : XE → GS → Option ref25_Split_R := retK 0 [10, 11] [false, false] ref25_Split_S5
noncomputable def ref25_Split_L : List Code := (bodyOf (some Try.f25))
noncomputable def ref25_Split_L3 : List Code := (loopOf (ref25_Split_L[11]?))
noncomputable def ref25_Split_K3 (N : Nat) : XE → GS → Option (Lo ((Int × (List UInt8) × Int × Int × Unit) × (D27 × D27 × (List D97) × Unit)) ((Unit) × ((List D97) × Unit)) ref25_Split_R) := roundK (some 0) (fit 0 [2, 3, 4, 5, 6, 12, 13] ref25_Split_S1) (fit 0 [12] ref25_Split_S2) (ref25_Split_K N)
theorem ref25_Split_4_b {E : Env} (N : Nat) (hb : Base Try.prog (ref25_Split_C N) E 0) : Blk Try.prog (ref25_Split_C N) E [2, 3, 4, 5, 6, 12, 13, 49] ref25_Split_S0 (ref25_Split_L3.drop 1) (fun y => ref25_Split_4 N y.1.1 y.1.2.1 y.1.2.2.1 y.1.2.2.2.1 y.1.2.2.2.2.1 y.2.1 y.2.2.1 y.2.2.2.1) (ref25_Split_K3 N) :=
  Blk.chunkAt hb 3 (X := (ref25_Split_K3 N .normal)) (NxOk.end (by kernel_rfl)) rfl (fun x => by kernel_rfl)
theorem ref25_Split_s3_b {E : Env} (N : Nat) (hb : Base Try.prog (ref25_Split_C N) E 0) : Blk Try.prog (ref25_Split_C N) E [2, 3, 4, 5, 6, 12, 13] ref25_Split_S1 (ref25_Split_L3.drop 0) (fun y => ref25_Split_s3 N y.1.1 y.1.2.1 y.1.2.2.1 y.1.2.2.2.1 y.2.1 y.2.2.1 y.2.2.2.1) (ref25_Split_K3 N) :=
  Blk.chunkAt hb 1 (X := (goK 0 [2, 3, 4, 5, 6, 12, 13, 49] ref25_Split_S0 (fun y => ref25_Split_4 N y.1.1 y.1.2.1 y.1.2.2.1 y.1.2.2.2.1 y.1.2.2.2.2.1 y.2.1 y.2.2.1 y.2.2.2.1))) (NxOk.go hb (ref25_Split_4_b N hb)) rfl (fun x => by kernel_rfl)
theorem ref25_Split_5_b {E : Env} (N : Nat) (hb : Base Try.prog (ref25_Split_C N) E 0) : Blk Try.prog (ref25_Split_C N) E [12] ref25_Split_S2 (ref25_Split_L.drop 12) (fun y => ref25_Split_5 N y.2.1) (ref25_Split_K N) :=
  Blk.chunkAt hb 2 (X := (ref25_Split_K N .normal)) (NxOk.end (by kernel_rfl)) rfl (fun x => by kernel_rfl)
theorem ref25_Split_2_b {E : Env} (N : Nat) (hb : Base Try.prog (ref25_Split_C N) E 0) : Blk Try.prog (ref25_Split_C N) E [2, 3, 4, 5, 6, 12, 13] ref25_Split_S1 (ref25_Split_L.drop 11) (fun y => ref25_Split_2 N y.1.1 y.1.2.1 y.1.2.2.1 y.1.2.2.2.1 y.2.1 y.2.2.1 y.2.2.2.1) (ref25_Split_K N) :=
  Blk.loopAt (Nf := N) (hns := [2, 3, 4, 5, 6, 12, 13]) (ans := [12]) (hc := ref25_Split_S1) (ac := ref25_Split_S2) (bid := 0) (step := (fun y => ref25_Split_s3 N y.1.1 y.1.2.1 y.1.2.2.1 y.1.2.2.2.1 y.2.1 y.2.2.1 y.2.2.2.1)) (J := (fun e => (goK 0 [12] ref25_Split_S2 (fun y => ref25_Split_5 N y.2.1)) (ref25_Split_S2.st [12] e))) hb (by kernel_rfl) (Blk.into (X := (goK 0 [12] ref25_Split_S2 (fun y => ref25_Split_5 N y.2.1))) (NxOk.go hb (ref25_Split_5_b N hb)) (fun x => by kernel_rfl)) (ref25_Split_s3_b N hb) (fun x => by kernel_rfl)
theorem ref25_Split_1_b {E : Env} (N : Nat) (hb : Base Try.prog (ref25_Split_C N) E 0) : Blk Try.prog (ref25_Split_C N) E [2, 3, 4, 5, 6, 33] ref25_Split_S3 (ref25_Split_L.drop 4) (fun y => ref25_Split_1 N y.1.1 y.1.2.1 y.1.2.2.1 y.1.2.2.2.1 y.2.1 y.2.2.1) (ref25_Split_K N) :=
  Blk.chunkAt hb 7 (X := (goK 0 [2, 3, 4, 5, 6, 12, 13] ref25_Split_S1 (fun y => ref25_Split_2 N y.1.1 y.1.2.1 y.1.2.2.1 y.1.2.2.2.1 y.2.1 y.2.2.1 y.2.2.2.1))) (NxOk.go hb (ref25_Split_2_b N hb)) rfl (fun x => by kernel_rfl)
theorem ref25_Split_b {E : Env} (N : Nat) (hb : Base Try.prog (ref25_Split_C N) E 0) : Blk Try.prog (ref25_Split_C N) E (List.range ref25_Split_S4.ks.length) ref25_Split_S4 (ref25_Split_L.drop 0) (fun y => ref25_Split N y.1.1 y.1.2.1 y.1.2.2.1 y.1.2.2.2.1 y.1.2.2.2.2.1) (ref25_Split_K N) :=
  Blk.chunkAt hb 4 (X := (goK 0 [2, 3, 4, 5, 6, 33] ref25_Split_S3 (fun y => ref25_Split_1 N y.1.1 y.1.2.1 y.1.2.2.1 y.1.2.2.2.1 y.2.1 y.2.2.1))) (NxOk.go hb (ref25_Split_1_b N hb)) rfl (fun x => by kernel_rfl)
noncomputable def ref25_Split_ctr (N : Nat) : Ctr := ⟨ref25_Split_S4, ref25_Split_S5.un [false, false], 0, (fun y => ref25_Split N y.1.1 y.1.2.1 y.1.2.2.1 y.1.2.2.2.1 y.1.2.2.2.2.1)⟩
theorem ref25_Split_ctrs (N : Nat) : CtrsOk Try.prog (ref25_Split_C N) := ctrs_of (Γ := ref25_Split_C N) (by
  intro p hp
  simp only [ref25_Split_C, List.mem_cons, List.not_mem_nil, or_false] at hp
  rcases hp with rfl
  · exact ref25_family_ok N)
theorem ref25_Split_ok (N : Nat) : Ctr.ok Try.prog G_globs 25 (ref25_Split_ctr N) :=
  ctr_fn (Γ := ref25_Split_C N) (rfit := ref25_Split_S5) (bs := [false, false]) (res := [10, 11]) (by kernel_rfl) (tys_ok G_tys_ok) (ref25_Split_ctrs N) Try.func25 (by kernel_rfl) (by kernel_rfl) Try.ntmps25 (by kernel_rfl) (by kernel_rfl) (by kernel_rfl) (by kernel_rfl) (fun E hb => ref25_Split_b N hb)
end Go.Proofs.Ytgbkkfpheahdfaa
namespace Go.Proofs.Ytgbkkfpheahdfaa
open Go
set_option maxRecDepth 100000
set_option linter.unusedVariables false
/-! ipsecgate/ipsecgateref24.SameBytes -/
abbrev ref24_SameBytes_R : Type := ((Bool × Unit) × (Unit))
noncomputable def ref24_SameBytes_s2 (N : Nat) (a_0 : (List UInt8)) (b_1 : (List UInt8)) (i_5 : Int) : Option (Lo (((List UInt8) × (List UInt8) × Int × Unit) × (Unit)) ((Unit) × (Unit)) ref24_SameBytes_R) :=
  bif (decide (i_5 < (a_0.length : Int))) then
    bif inR i_5 a_0.length then
    bif inR i_5 b_1.length then
    bif (!(decide ((a_0.getD i_5.toNat (0 : UInt8)) = (b_1.getD i_5.toNat (0 : UInt8))))) then
      some (.rt ((false, ()), (())))
    else
      some (.go ((a_0, b_1, (w64 (i_5 + (1 : Int))), ()), (())))
    else none
    else none
  else
    some (.br ((()), (())))
noncomputable def ref24_SameBytes_3 (N : Nat) : Option ref24_SameBytes_R :=
  some ((true, ()), (()))
noncomputable def ref24_SameBytes_1 (N : Nat) (a_0 : (List UInt8)) (b_1 : (List UInt8)) (i_5 : Int) : Option ref24_SameBytes_R :=
  loopK N (fun y => ref24_SameBytes_s2 N y.1.1 y.1.2.1 y.1.2.2.1) (fun (e : ((Unit) × (Unit))) => ref24_SameBytes_3 N) ((a_0, b_1, i_5, ()), (()))
noncomputable def ref24_SameBytes (N : Nat) (a_0 : (List UInt8)) (b_1 : (List UInt8)) : Option ref24_SameBytes_R :=
  bif (!(decide ((a_0.length : Int) = (b_1.length : Int)))) then
    some ((false, ()), (()))
  else
    ref24_SameBytes_1 N a_0 b_1 (0 : Int)
noncomputable def ref24_SameBytes_C (N : Nat) : Ctx := ⟨26, G_tys, [], G_globs⟩
noncomputable def ref24_SameBytes_S0 : Spec := ⟨[.val (.sl .u8), .val (.sl .u8), .val .i64], []⟩
noncomputable def ref24_SameBytes_S1 : Spec := ⟨[], []⟩
noncomputable def ref24_SameBytes_S2 : Spec := ⟨[.val (.sl .u8), .val (.sl .u8)], []⟩
noncomputable def ref24_SameBytes_S3 : Spec := ⟨[.val .bool], []⟩
noncomputable def ref24_SameBytes_K (_N : Nat) : XE → GS → Option ref24_SameBytes_R := retK 0 [4] [false] ref24_SameBytes_S3
noncomputable def ref24_SameBytes_L : List Code := (bodyOf (some Try.f141))
noncomputable def ref24_SameBytes_L2 : List Code := (loopOf (ref24_SameBytes_L[4]?))
noncomputable def ref24_SameBytes_K2 (N : Nat) : XE → GS → Option (Lo (((List UInt8) × (List UInt8) × Int × Unit) × (Unit)) ((Unit) × (Unit)) ref24_SameBytes_R) := roundK (some 0) (fit 0 [0, 1, 5] ref24_SameBytes_S0) (fit 0 [] ref24_SameBytes_S1) (ref24_SameBytes_K N)
theorem ref24_SameBytes_s2_b {E : Env} (N : Nat) (hb : Base Try.prog (ref24_SameBytes_C N) E 0) : Blk Try.prog (ref24_SameBytes_C N) E [0, 1, 5] ref24_SameBytes_S0 (ref24_SameBytes_L2.drop 0) (fun y => ref24_SameBytes_s2 N y.1.1 y.1.2.1 y.1.2.2.1) (ref24_SameBytes_K2 N) :=
  Blk.chunkAt hb 4 (X := (ref24_SameBytes_K2 N .normal)) (NxOk.end (by kernel_rfl)) rfl (fun x => by kernel_rfl)
theorem ref24_SameBytes_3_b {E : Env} (N : Nat) (hb : Base Try.prog (ref24_SameBytes_C N) E 0) : Blk Try.prog (ref24_SameBytes_C N) E [] ref24_SameBytes_S1 (ref24_SameBytes_L.drop 5) (fun y => ref24_SameBytes_3 N) (ref24_SameBytes_K N) :=
  Blk.chunkAt hb 2 (X := (ref24_SameBytes_K N .normal)) (NxOk.end (by kernel_rfl)) rfl (fun x => by kernel_rfl)
theorem ref24_SameBytes_1_b {E : Env} (N : Nat) (hb : Base Try.prog (ref24_SameBytes_C N) E 0) : Blk Try.prog (ref24_SameBytes_C N) E [0, 1, 5] ref24_SameBytes_S0 (ref24_SameBytes_L.drop 4) (fun y => ref24_SameBytes_1 N y.1.1 y.1.2.1 y.1.2.2.1) (ref24_SameBytes_K N) :=
  Blk.loopAt (Nf := N) (hns := [0, 1, 5]) (ans := []) (hc := ref24_SameBytes_S0) (ac := ref24_SameBytes_S1) (bid := 0) (step := (fun y => ref24_SameBytes_s2 N y.1.1 y.1.2.1 y.1.2.2.1)) (J := (fun e => (goK 0 [] ref24_SameBytes_S1 (fun y => ref24_SameBytes_3 N)) (ref24_SameBytes_S1.st [] e))) hb (by kernel_rfl) (Blk.into (X := (goK 0 [] ref24_SameBytes_S1 (fun y => ref24_SameBytes_3 N))) (NxOk.go hb (ref24_SameBytes_3_b N hb)) (fun x => by kernel_rfl)) (ref24_SameBytes_s2_b N hb) (fun x => by kernel_rfl)
theorem ref24_SameBytes_b {E : Env} (N : Nat) (hb : Base Try.prog (ref24_SameBytes_C N) E 0) : Blk Try.prog (ref24_SameBytes_C N) E (List.range ref24_SameBytes_S2.ks.length) ref24_SameBytes_S2 (ref24_SameBytes_L.drop 0) (fun y => ref24_SameBytes N y.1.1 y.1.2.1) (ref24_SameBytes_K N) :=
  Blk.chunkAt hb 4 (X := (goK 0 [0, 1, 5] ref24_SameBytes_S0 (fun y => ref24_SameBytes_1 N y.1.1 y.1.2.1 y.1.2.2.1))) (NxOk.go hb (ref24_SameBytes_1_b N hb)) rfl (fun x => by kernel_rfl)
noncomputable def ref24_SameBytes_ctr (N : Nat) : Ctr := ⟨ref24_SameBytes_S2, ref24_SameBytes_S3.un [false], 0, (fun y => ref24_SameBytes N y.1.1 y.1.2.1)⟩
theorem ref24_SameBytes_ctrs (N : Nat) : CtrsOk Try.prog (ref24_SameBytes_C N) := ctrs_nil rfl
theorem ref24_SameBytes_ok (N : Nat) : Ctr.ok Try.prog G_globs 141 (ref24_SameBytes_ctr N) :=
  ctr_fn (Γ := ref24_SameBytes_C N) (rfit := ref24_SameBytes_S3) (bs := [false]) (res := [4]) (by kernel_rfl) (tys_ok G_tys_ok) (ref24_SameBytes_ctrs N) Try.func141 (by kernel_rfl) (by kernel_rfl) Try.ntmps141 (by kernel_rfl) (by kernel_rfl) (by kernel_rfl) (by kernel_rfl) (fun E hb => ref24_SameBytes_b N hb)
end Go.Proofs.Ytgbkkfpheahdfaa
namespace Go.Proofs.Ytgbkkfpheahdfaa
open Go
set_option maxRecDepth 100000
set_option linter.unusedVariables false
/-! ipsecgate/ipsecgateref25.same -/
abbrev ref25_same_R : Type := ((Bool × Unit) × (Unit))
noncomputable def ref25_same (N : Nat) (a_0 : D97) (b_1 : D97) : Option ref25_same_R :=
  bif (dq T27 a_0.1 b_1.1) then
    bif (dq T27 a_0.2.1 b_1.2.1) then
      bif (decide (a_0.2.2.1 = b_1.2.2.1)) then
        bif (decide (a_0.2.2.2.1 = b_1.2.2.2.1)) then
          bif (decide (a_0.2.2.2.2.1 = b_1.2.2.2.2.1)) then
            Option.bind (ref24_SameBytes N a_0.2.2.2.2.2.1 b_1.2.2.2.2.2.1) fun y6 =>
            some ((y6.1.1, ()), (()))
          else
            some ((false, ()), (()))
        else
          some ((false, ()), (()))
      else
        some ((false, ()), (()))
    else
      some ((false, ()), (()))
  else
    some ((false, ()), (()))
noncomputable def ref25_same_C (N : Nat) : Ctx := ⟨45, G_tys, [(141, ref24_SameBytes_ctr N)], G_globs⟩
noncomputable def ref25_same_S0 : Spec := ⟨[.val T97, .val T97], []⟩
noncomputable def ref25_same_S1 : Spec := ⟨[.val .bool], []⟩
noncomputable def ref25_same_K (_N : Nat) : XE → GS → Option ref25_same_R := retK 0 [4] [false] ref25_same_S1
noncomputable def ref25_same_L : List Code := (bodyOf (some Try.f76))
theorem ref25_same_b {E : Env} (N : Nat) (hb : Base Try.prog (ref25_same_C N) E 0) : Blk Try.prog (ref25_same_C N) E (List.range ref25_same_S0.ks.length) ref25_same_S0 (ref25_same_L.drop 0) (fun y => ref25_same N y.1.1 y.1.2.1) (ref25_same_K N) :=
  Blk.chunkAt hb 3 (X := (ref25_same_K N .normal)) (NxOk.end (by kernel_rfl)) rfl (fun x => by kernel_rfl)
noncomputable def ref25_same_ctr (N : Nat) : Ctr := ⟨ref25_same_S0, ref25_same_S1.un [false], 0, (fun y => ref25_same N y.1.1 y.1.2.1)⟩
theorem ref25_same_ctrs (N : Nat) : CtrsOk Try.prog (ref25_same_C N) := ctrs_of (Γ := ref25_same_C N) (by
  intro p hp
  simp only [ref25_same_C, List.mem_cons, List.not_mem_nil, or_false] at hp
  rcases hp with rfl
  · exact ref24_SameBytes_ok N)
theorem ref25_same_ok (N : Nat) : Ctr.ok Try.prog G_globs 76 (ref25_same_ctr N) :=
  ctr_fn (Γ := ref25_same_C N) (rfit := ref25_same_S1) (bs := [false]) (res := [4]) (by kernel_rfl) (tys_ok G_tys_ok) (ref25_same_ctrs N) Try.func76 (by kernel_rfl) (by kernel_rfl) Try.ntmps76 (by kernel_rfl) (by kernel_rfl) (by kernel_rfl) (by kernel_rfl) (fun E hb => ref25_same_b N hb)
end Go.Proofs.Ytgbkkfpheahdfaa
namespace Go.Proofs.Ytgbkkfpheahdfaa
open Go
set_option maxRecDepth 100000
set_option linter.unusedVariables false
/-! ipsecgate/ipsecgateref25.SamePieces -/
abbrev ref25_SamePieces_R : Type := ((Bool × Unit) × (Unit))
noncomputable def ref25_SamePieces_s2 (N : Nat) (a_0 : (List D97)) (b_1 : (List D97)) (i_5 : Int) : Option (Lo (((List D97) × (List D97) × Int × Unit) × (Unit)) ((Unit) × (Unit)) ref25_SamePieces_R) :=
  bif (decide (i_5 < (a_0.length : Int))) then
    bif inR i_5 a_0.length then
    bif inR i_5 b_1.length then
    Option.bind (ref25_same N (a_0.getD i_5.toNat (((0 : Int), (0 : UInt64), (0 : UInt64), ()), ((0 : Int), (0 : UInt64), (0 : UInt64), ()), (0 : Int), (0 : Int), false, ([] : List UInt8), ())) (b_1.getD i_5.toNat (((0 : Int), (0 : UInt64), (0 : UInt64), ()), ((0 : Int), (0 : UInt64), (0 : UInt64), ()), (0 : Int), (0 : Int), false, ([] : List UInt8), ()))) fun y8 =>
    bif (!y8.1.1) then
      some (.rt ((false, ()), (())))
    else
      some (.go ((a_0, b_1, (w64 (i_5 + (1 : Int))), ()), (())))
    else none
    else none
  else
    some (.br ((()), (())))
noncomputable def ref25_SamePieces_3 (N : Nat) : Option ref25_SamePieces_R :=
  some ((true, ()), (()))
noncomputable def ref25_SamePieces_1 (N : Nat) (a_0 : (List D97)) (b_1 : (List D97)) (i_5 : Int) : Option ref25_SamePieces_R :=
  loopK N (fun y => ref25_SamePieces_s2 N y.1.1 y.1.2.1 y.1.2.2.1) (fun (e : ((Unit) × (Unit))) => ref25_SamePieces_3 N) ((a_0, b_1, i_5, ()), (()))
noncomputable def ref25_SamePieces (N : Nat) (a_0 : (List D97)) (b_1 : (List D97)) : Option ref25_SamePieces_R :=
  bif (!(decide ((a_0.length : Int) = (b_1.length : Int)))) then
    some ((false, ()), (()))
  else
    ref25_SamePieces_1 N a_0 b_1 (0 : Int)
noncomputable def ref25_SamePieces_C (N : Nat) : Ctx := ⟨27, G_tys, [(76, ref25_same_ctr N)], G_globs⟩
noncomputable def ref25_SamePieces_S0 : Spec := ⟨[.val (.sl T97), .val (.sl T97), .val .i64], []⟩
noncomputable def ref25_SamePieces_S1 : Spec := ⟨[], []⟩
noncomputable def ref25_SamePieces_S2 : Spec := ⟨[.val (.sl T97), .val (.sl T97)], []⟩
noncomputable def ref25_SamePieces_S3 : Spec := ⟨[.val .bool], []⟩
noncomputable def ref25_SamePieces_K (_N : Nat) : XE → GS → Option ref25_SamePieces_R := retK 0 [4] [false] ref25_SamePieces_S3
noncomputable def ref25_SamePieces_L : List Code := (bodyOf (some Try.f26))
noncomputable def ref25_SamePieces_L2 : List Code := (loopOf (ref25_SamePieces_L[4]?))
noncomputable def ref25_SamePieces_K2 (N : Nat) : XE → GS → Option (Lo (((List D97) × (List D97) × Int × Unit) × (Unit)) ((Unit) × (Unit)) ref25_SamePieces_R) := roundK (some 0) (fit 0 [0, 1, 5] ref25_SamePieces_S0) (fit 0 [] ref25_SamePieces_S1) (ref25_SamePieces_K N)
theorem ref25_SamePieces_s2_b {E : Env} (N : Nat) (hb : Base Try.prog (ref25_SamePieces_C N) E 0) : Blk Try.prog (ref25_SamePieces_C N) E [0, 1, 5] ref25_SamePieces_S0 (ref25_SamePieces_L2.drop 0) (fun y => ref25_SamePieces_s2 N y.1.1 y.1.2.1 y.1.2.2.1) (ref25_SamePieces_K2 N) :=
  Blk.chunkAt hb 4 (X := (ref25_SamePieces_K2 N .normal)) (NxOk.end (by kernel_rfl)) rfl (fun x => by kernel_rfl)
theorem ref25_SamePieces_3_b {E : Env} (N : Nat) (hb : Base Try.prog (ref25_SamePieces_C N) E 0) : Blk Try.prog (ref25_SamePieces_C N) E [] ref25_SamePieces_S1 (ref25_SamePieces_L.drop 5) (fun y => ref25_SamePieces_3 N) (ref25_SamePieces_K N) :=
  Blk.chunkAt hb 2 (X := (ref25_SamePieces_K N .normal)) (NxOk.end (by kernel_rfl)) rfl (fun x => by kernel_rfl)
theorem ref25_SamePieces_1_b {E : Env} (N : Nat) (hb : Base Try.prog (ref25_SamePieces_C N) E 0) : Blk Try.prog (ref25_SamePieces_C N) E [0, 1, 5] ref25_SamePieces_S0 (ref25_SamePieces_L.drop 4) (fun y => ref25_SamePieces_1 N y.1.1 y.1.2.1 y.1.2.2.1) (ref25_SamePieces_K N) :=
  Blk.loopAt (Nf := N) (hns := [0, 1, 5]) (ans := []) (hc := ref25_SamePieces_S0) (ac := ref25_SamePieces_S1) (bid := 0) (step := (fun y => ref25_SamePieces_s2 N y.1.1 y.1.2.1 y.1.2.2.1)) (J := (fun e => (goK 0 [] ref25_SamePieces_S1 (fun y => ref25_SamePieces_3 N)) (ref25_SamePieces_S1.st [] e))) hb (by kernel_rfl) (Blk.into (X := (goK 0 [] ref25_SamePieces_S1 (fun y => ref25_SamePieces_3 N))) (NxOk.go hb (ref25_SamePieces_3_b N hb)) (fun x => by kernel_rfl)) (ref25_SamePieces_s2_b N hb) (fun x => by kernel_rfl)
theorem ref25_SamePieces_b {E : Env} (N : Nat) (hb : Base Try.prog (ref25_SamePieces_C N) E 0) : Blk Try.prog (ref25_SamePieces_C N) E (List.range ref25_SamePieces_S2.ks.length) ref25_SamePieces_S2 (ref25_SamePieces_L.drop 0) (fun y => ref25_SamePieces N y.1.1 y.1.2.1) (ref25_SamePieces_K N) :=
  Blk.chunkAt hb 4 (X := (goK 0 [0, 1, 5] ref25_SamePieces_S0 (fun y => ref25_SamePieces_1 N y.1.1 y.1.2.1 y.1.2.2.1))) (NxOk.go hb (ref25_SamePieces_1_b N hb)) rfl (fun x => by kernel_rfl)
noncomputable def ref25_SamePieces_ctr (N : Nat) : Ctr := ⟨ref25_SamePieces_S2, ref25_SamePieces_S3.un [false], 0, (fun y => ref25_SamePieces N y.1.1 y.1.2.1)⟩
theorem ref25_SamePieces_ctrs (N : Nat) : CtrsOk Try.prog (ref25_SamePieces_C N) := ctrs_of (Γ := ref25_SamePieces_C N) (by
  intro p hp
  simp only [ref25_SamePieces_C, List.mem_cons, List.not_mem_nil, or_false] at hp
  rcases hp with rfl
  · exact ref25_same_ok N)
theorem ref25_SamePieces_ok (N : Nat) : Ctr.ok Try.prog G_globs 26 (ref25_SamePieces_ctr N) :=
  ctr_fn (Γ := ref25_SamePieces_C N) (rfit := ref25_SamePieces_S3) (bs := [false]) (res := [4]) (by kernel_rfl) (tys_ok G_tys_ok) (ref25_SamePieces_ctrs N) Try.func26 (by kernel_rfl) (by kernel_rfl) Try.ntmps26 (by kernel_rfl) (by kernel_rfl) (by kernel_rfl) (by kernel_rfl) (fun E hb => ref25_SamePieces_b N hb)
end Go.Proofs.Ytgbkkfpheahdfaa
namespace Go.Proofs.Ytgbkkfpheahdfaa
open Go
set_option maxRecDepth 100000
set_option linter.unusedVariables false
/-! ipsecgate/ipsecgatelaw25.IpfragSplits -/
abbrev law25_IpfragSplits_R : Type := ((Bool × Unit) × (Unit))
noncomputable def law25_IpfragSplits_s4 (N : Nat) (id_3 : Int) (data_11 : (List UInt8)) (t_58 : Int) (t_59 : Int) (p_10 : D29) (t_57 : (List Int)) : Option (Lo ((Int × (List UInt8) × Int × Int × Unit) × (D29 × (List Int) × Unit)) ((Unit) × (Unit)) law25_IpfragSplits_R) :=
  bif (decide (t_59 < t_58)) then
    bif inR t_59 t_57.length then
    let x23 := (t_57.getD t_59.toNat (0 : Int))
    Option.bind (ipfrag_Split N p_10.1 p_10.2.1 id_3 data_11 x23) fun y24 =>
    Option.bind (ref25_Split N p_10.1 p_10.2.1 id_3 data_11 x23) fun y25 =>
    Option.bind (draw_Mod N id_3 (9 : Int)) fun y26 =>
    Option.bind (ipfrag_Split N p_10.1 p_10.2.1 y26.1.1 data_11 x23) fun y27 =>
    Option.bind (draw_Mod N id_3 (9 : Int)) fun y28 =>
    Option.bind (ref25_Split N p_10.1 p_10.2.1 y28.1.1 data_11 x23) fun y29 =>
    bif (!(decide (y24.1.1 = y25.1.1))) then
      some (.rt ((false, ()), (())))
    else
      bif (!(decide (y27.1.1 = y29.1.1))) then
        some (.rt ((false, ()), (())))
      else
        Option.bind (ref25_SamePieces N y24.2.1 y25.2.1) fun y32 =>
        bif (!y32.1.1) then
          some (.rt ((false, ()), (())))
        else
          Option.bind (ref25_SamePieces N y27.2.1 y29.2.1) fun y34 =>
          bif (!y34.1.1) then
            some (.rt ((false, ()), (())))
          else
            some (.go ((id_3, data_11, t_58, (w64 (t_59 + (1 : Int))), ()), (p_10, t_57, ())))
    else none
  else
    some (.br ((()), (())))
noncomputable def law25_IpfragSplits_5 (N : Nat) : Option law25_IpfragSplits_R :=
  some ((true, ()), (()))
noncomputable def law25_IpfragSplits_3 (N : Nat) (id_3 : Int) (t_58 : Int) (t_59 : Int) (p_10 : D29) (data_11 : (List UInt8)) (t_57 : (List Int)) : Option law25_IpfragSplits_R :=
  loopK N (fun y => law25_IpfragSplits_s4 N y.1.1 y.1.2.1 y.1.2.2.1 y.1.2.2.2.1 y.2.1 y.2.2.1) (fun (e : ((Unit) × (Unit))) => law25_IpfragSplits_5 N) ((id_3, data_11, t_58, t_59, ()), (p_10, t_57, ()))
noncomputable def law25_IpfragSplits_2 (N : Nat) (size_2 : Int) (id_3 : Int) (p_10 : D29) (data_11 : (List UInt8)) : Option law25_IpfragSplits_R :=
  Option.bind (draw_Mod N size_2 (10 : Int)) fun y16 =>
  let x18 := w64 ((8 : Int) * (w64 ((1 : Int) + y16.1.1)))
  Option.bind (draw_Mod N size_2 (260 : Int)) fun y19 =>
  let x20 := w64 ((8 : Int) * y19.1.1)
  law25_IpfragSplits_3 N id_3 (([size_2, x18, x20] : List Int).length : Int) (0 : Int) p_10 data_11 ([size_2, x18, x20] : List Int)
noncomputable def law25_IpfragSplits_1 (N : Nat) (size_2 : Int) (id_3 : Int) (c_9 : ((List UInt8) × (Int × Unit))) (p_10 : D29) (data_11 : (List UInt8)) : Option law25_IpfragSplits_R :=
  Option.bind (draw_Codes_Next N (10 : Int) c_9) fun y12 =>
  bif (decide (y12.1.1 = (9 : Int))) then
    Option.bind (draw_Codes_Packet N (1 : Int) y12.2.1) fun y14 =>
    Option.bind (draw_Codes_Next N (8 : Int) y14.2.1) fun y15 =>
    law25_IpfragSplits_2 N size_2 id_3 ((y15.1.1, y14.1.1.1.2.1, y14.1.1.1.2.2.1, ()), p_10.2.1, p_10.2.2.1, p_10.2.2.2.1, p_10.2.2.2.2.1, ()) data_11
  else
    law25_IpfragSplits_2 N size_2 id_3 p_10 data_11
noncomputable def law25_IpfragSplits (N : Nat) (codes_0 : (List UInt8)) (n_1 : Int) (size_2 : Int) (id_3 : Int) : Option law25_IpfragSplits_R :=
  Option.bind (law25_awake N) fun y1 =>
  bif (!y1.1.1) then
    some ((false, ()), (()))
  else
    Option.bind (draw_New N codes_0 (30 : Int)) fun y3 =>
    Option.bind (draw_Codes_Packet N (0 : Int) y3.2.1) fun y4 =>
    Option.bind (draw_Mod N n_1 (400 : Int)) fun y5 =>
    Option.bind (law25_bytes N y5.1.1 (5 : Int)) fun y6 =>
    Option.bind (draw_Codes_Next N (20 : Int) y4.2.1) fun y7 =>
    bif (decide (y7.1.1 = (19 : Int))) then
      Option.bind (draw_Codes_Next N (3 : Int) y7.2.1) fun y9 =>
      Option.bind (law25_bytes N (w64 ((4095 : Int) + y9.1.1)) (1 : Int)) fun y11 =>
      law25_IpfragSplits_1 N size_2 id_3 y9.2.1 y4.1.1 y11.2.1
    else
      law25_IpfragSplits_1 N size_2 id_3 y7.2.1 y4.1.1 y6.2.1
noncomputable def law25_IpfragSplits_C (N : Nat) : Ctx := ⟨130, G_tys, [(18, law25_awake_ctr N), (19, draw_New_ctr N), (20, draw_Codes_Packet_ctr N), (22, draw_Mod_ctr N), (21, law25_bytes_ctr N), (23, draw_Codes_Next_ctr N), (24, ipfrag_Split_ctr N), (25, ref25_Split_ctr N), (26, ref25_SamePieces_ctr N)], G_globs⟩
noncomputable def law25_IpfragSplits_S0 : Spec := ⟨[.val .i64, .ref 0 T29, .val (.sl .u8), .row 1, .val .i64, .val .i64], [(.box 30 T29, .pos 1), (.row 3 .i64, .pos 3)]⟩
noncomputable def law25_IpfragSplits_S1 : Spec := ⟨[], []⟩
noncomputable def law25_IpfragSplits_S2 : Spec := ⟨[.val .i64, .ref 0 T29, .row 1, .row 2, .val .i64, .val .i64], [(.box 30 T29, .pos 1), (.row 5 .u8, .pos 2), (.row 3 .i64, .pos 3)]⟩
noncomputable def law25_IpfragSplits_S3 : Spec := ⟨[.val .i64, .val .i64, .ref 0 T29, .row 1], [(.box 30 T29, .pos 2), (.row 5 .u8, .pos 3)]⟩
noncomputable def law25_IpfragSplits_S4 : Spec := ⟨[.val .i64, .val .i64, .ref 0 (.pair (.sl .u8) (.pair .i64 .unit)), .ref 1 T29, .row 2], [(.box 108 (.pair (.sl .u8) (.pair .i64 .unit)), .pos 2), (.box 30 T29, .pos 3), (.row 5 .u8, .pos 4)]⟩
noncomputable def law25_IpfragSplits_S5 : Spec := ⟨[.val (.sl .u8), .val .i64, .val .i64, .val .i64], []⟩
noncomputable def law25_IpfragSplits_S6 : Spec := ⟨[.val .bool], []⟩
noncomputable def law25_IpfragSplits_K (_N : Nat) : XE → GS → Option law25_IpfragSplits_R := retK 0 [8] [false] law25_IpfragSplits_S6
noncomputable def law25_IpfragSplits_L : List Code := (bodyOf (some Try.f3))
noncomputable def law25_IpfragSplits_L4 : List Code := (loopOf (law25_IpfragSplits_L[11]?))
noncomputable def law25_IpfragSplits_K4 (N : Nat) : XE → GS → Option (Lo ((Int × (List UInt8) × Int × Int × Unit) × (D29 × (List Int) × Unit)) ((Unit) × (Unit)) law25_IpfragSplits_R) := roundK (some 0) (fit 0 [3, 10, 11, 57, 58, 59] law25_IpfragSplits_S0) (fit 0 [] law25_IpfragSplits_S1) (law25_IpfragSplits_K N)
theorem law25_IpfragSplits_s4_b {E : Env} (N : Nat) (hb : Base Try.prog (law25_IpfragSplits_C N) E 0) : Blk Try.prog (law25_IpfragSplits_C N) E [3, 10, 11, 57, 58, 59] law25_IpfragSplits_S0 (law25_IpfragSplits_L4.drop 0) (fun y => law25_IpfragSplits_s4 N y.1.1 y.1.2.1 y.1.2.2.1 y.1.2.2.2.1 y.2.1 y.2.2.1) (law25_IpfragSplits_K4 N) :=
  Blk.chunkAt hb 4 (X := (law25_IpfragSplits_K4 N .normal)) (NxOk.end (by kernel_rfl)) rfl (fun x => by kernel_rfl)
theorem law25_IpfragSplits_5_b {E : Env} (N : Nat) (hb : Base Try.prog (law25_IpfragSplits_C N) E 0) : Blk Try.prog (law25_IpfragSplits_C N) E [] law25_IpfragSplits_S1 (law25_IpfragSplits_L.drop 12) (fun y => law25_IpfragSplits_5 N) (law25_IpfragSplits_K N) :=
  Blk.chunkAt hb 2 (X := (law25_IpfragSplits_K N .normal)) (NxOk.end (by kernel_rfl)) rfl (fun x => by kernel_rfl)
theorem law25_IpfragSplits_3_b {E : Env} (N : Nat) (hb : Base Try.prog (law25_IpfragSplits_C N) E 0) : Blk Try.prog (law25_IpfragSplits_C N) E [3, 10, 11, 57, 58, 59] law25_IpfragSplits_S2 (law25_IpfragSplits_L.drop 11) (fun y => law25_IpfragSplits_3 N y.1.1 y.1.2.1 y.1.2.2.1 y.2.1 y.2.2.1 y.2.2.2.1) (law25_IpfragSplits_K N) :=
  Blk.loopAt (Nf := N) (hns := [3, 10, 11, 57, 58, 59]) (ans := []) (hc := law25_IpfragSplits_S0) (ac := law25_IpfragSplits_S1) (bid := 0) (step := (fun y => law25_IpfragSplits_s4 N y.1.1 y.1.2.1 y.1.2.2.1 y.1.2.2.2.1 y.2.1 y.2.2.1)) (J := (fun e => (goK 0 [] law25_IpfragSplits_S1 (fun y => law25_IpfragSplits_5 N)) (law25_IpfragSplits_S1.st [] e))) hb (by kernel_rfl) (Blk.into (X := (goK 0 [] law25_IpfragSplits_S1 (fun y => law25_IpfragSplits_5 N))) (NxOk.go hb (law25_IpfragSplits_5_b N hb)) (fun x => by kernel_rfl)) (law25_IpfragSplits_s4_b N hb) (fun x => by kernel_rfl)
theorem law25_IpfragSplits_2_b {E : Env} (N : Nat) (hb : Base Try.prog (law25_IpfragSplits_C N) E 0) : Blk Try.prog (law25_IpfragSplits_C N) E [2, 3, 10, 11] law25_IpfragSplits_S3 (law25_IpfragSplits_L.drop 10) (fun y => law25_IpfragSplits_2 N y.1.1 y.1.2.1 y.2.1 y.2.2.1) (law25_IpfragSplits_K N) :=
  Blk.chunkAt hb 1 (X := (goK 0 [3, 10, 11, 57, 58, 59] law25_IpfragSplits_S2 (fun y => law25_IpfragSplits_3 N y.1.1 y.1.2.1 y.1.2.2.1 y.2.1 y.2.2.1 y.2.2.2.1))) (NxOk.go hb (law25_IpfragSplits_3_b N hb)) rfl (fun x => by kernel_rfl)
theorem law25_IpfragSplits_1_b {E : Env} (N : Nat) (hb : Base Try.prog (law25_IpfragSplits_C N) E 0) : Blk Try.prog (law25_IpfragSplits_C N) E [2, 3, 9, 10, 11] law25_IpfragSplits_S4 (law25_IpfragSplits_L.drop 8) (fun y => law25_IpfragSplits_1 N y.1.1 y.1.2.1 y.2.1 y.2.2.1 y.2.2.2.1) (law25_IpfragSplits_K N) :=
  Blk.chunkAt hb 2 (X := (goK 0 [2, 3, 10, 11] law25_IpfragSplits_S3 (fun y => law25_IpfragSplits_2 N y.1.1 y.1.2.1 y.2.1 y.2.2.1))) (NxOk.go hb (law25_IpfragSplits_2_b N hb)) rfl (fun x => by kernel_rfl)
theorem law25_IpfragSplits_b {E : Env} (N : Nat) (hb : Base Try.prog (law25_IpfragSplits_C N) E 0) : Blk Try.prog (law25_IpfragSplits_C N) E (List.range law25_IpfragSplits_S5.ks.length) law25_IpfragSplits_S5 (law25_IpfragSplits_L.drop 0) (fun y => law25_IpfragSplits N y.1.1 y.1.2.1 y.1.2.2.1 y.1.2.2.2.1) (law25_IpfragSplits_K N) :=
  Blk.chunkAt hb 8 (X := (goK 0 [2, 3, 9, 10, 11] law25_IpfragSplits_S4 (fun y => law25_IpfragSplits_1 N y.1.1 y.1.2.1 y.2.1 y.2.2.1 y.2.2.2.1))) (NxOk.go hb (law25_IpfragSplits_1_b N hb)) rfl (fun x => by kernel_rfl)
noncomputable def law25_IpfragSplits_ctr (N : Nat) : Ctr := ⟨law25_IpfragSplits_S5, law25_IpfragSplits_S6.un [false], 0, (fun y => law25_IpfragSplits N y.1.1 y.1.2.1 y.1.2.2.1 y.1.2.2.2.1)⟩
theorem law25_IpfragSplits_ctrs (N : Nat) : CtrsOk Try.prog (law25_IpfragSplits_C N) := ctrs_of (Γ := law25_IpfragSplits_C N) (by
  intro p hp
  simp only [law25_IpfragSplits_C, List.mem_cons, List.not_mem_nil, or_false] at hp
  rcases hp with rfl | rfl | rfl | rfl | rfl | rfl | rfl | rfl | rfl
  · exact law25_awake_ok N
  · exact draw_New_ok N
  · exact draw_Codes_Packet_ok N
  · exact draw_Mod_ok N
  · exact law25_bytes_ok N
  · exact draw_Codes_Next_ok N
  · exact ipfrag_Split_ok N
  · exact ref25_Split_ok N
  · exact ref25_SamePieces_ok N)
theorem law25_IpfragSplits_ok (N : Nat) : Ctr.ok Try.prog G_globs 3 (law25_IpfragSplits_ctr N) :=
  ctr_fn (Γ := law25_IpfragSplits_C N) (rfit := law25_IpfragSplits_S6) (bs := [false]) (res := [8]) (by kernel_rfl) (tys_ok G_tys_ok) (law25_IpfragSplits_ctrs N) Try.func3 (by kernel_rfl) (by kernel_rfl) Try.ntmps3 (by kernel_rfl) (by kernel_rfl) (by kernel_rfl) (by kernel_rfl) (fun E hb => law25_IpfragSplits_b N hb)
end Go.Proofs.Ytgbkkfpheahdfaa