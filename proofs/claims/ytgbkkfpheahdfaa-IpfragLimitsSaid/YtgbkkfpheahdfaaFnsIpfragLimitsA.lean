/- Functions of the program as plain functions, each with the proof that the text computes it. -/
import Derived.Test.YtgbkkfpheahdfaaGmRule
import Derived.Test.YtgbkkfpheahdfaaProg
import Derived.Test.YtgbkkfpheahdfaaGmNil
set_option linter.unusedVariables false
set_option linter.unusedSimpArgs false
namespace Go.Proofs.Ytgbkkfpheahdfaa
open Go
set_option maxRecDepth 100000
set_option linter.unusedVariables false
noncomputable section
abbrev D13 : Type := ((List UInt8) × (UInt64 × Unit))
abbrev T13 : Ty := (.pair .str (.pair .u64 .unit))
abbrev D27 : Type := (Int × (UInt64 × (UInt64 × Unit)))
abbrev T27 : Ty := (.pair .i64 (.pair .u64 (.pair .u64 .unit)))
abbrev D7 : Type := (Int × (Int × (Bool × (UInt8 × Unit))))
abbrev T7 : Ty := (.pair .i64 (.pair .i64 (.pair .bool (.pair .u8 .unit))))
abbrev D119 : Type := (D27 × (D27 × Unit))
abbrev T119 : Ty := (.pair T27 (.pair T27 .unit))
abbrev D29 : Type := (D27 × (D27 × (Int × (Int × (Int × Unit)))))
abbrev T29 : Ty := (.pair T27 (.pair T27 (.pair .i64 (.pair .i64 (.pair .i64 .unit)))))
abbrev D97 : Type := (D27 × (D27 × (Int × (Int × (Bool × ((List UInt8) × Unit))))))
abbrev T97 : Ty := (.pair T27 (.pair T27 (.pair .i64 (.pair .i64 (.pair .bool (.pair (.sl .u8) .unit))))))
abbrev D90 : Type := (D29 × (Int × (Bool × (Bool × (Int × Unit)))))
abbrev T90 : Ty := (.pair T29 (.pair .i64 (.pair .bool (.pair .bool (.pair .i64 .unit)))))
abbrev D45 : Type := (D27 × (D27 × (D27 × (D27 × (Int × (Int × ((List Int) × ((List Int) × Unit))))))))
abbrev T45 : Ty := (.pair T27 (.pair T27 (.pair T27 (.pair T27 (.pair .i64 (.pair .i64 (.pair (.arr 2 .i64) (.pair (.arr 2 .i64) .unit))))))))
abbrev D85 : Type := (D45 × (Int × Unit))
abbrev T85 : Ty := (.pair T45 (.pair .i64 .unit))
abbrev D99 : Type := (D27 × (D27 × (Int × ((List D97) × (Int × Unit)))))
abbrev T99 : Ty := (.pair T27 (.pair T27 (.pair .i64 (.pair (.sl T97) (.pair .i64 .unit)))))
abbrev D59 : Type := (Int × ((List UInt8) × ((List D45) × Unit)))
abbrev T59 : Ty := (.pair .i64 (.pair .str (.pair (.sl T45) .unit)))
def G_tys : List (Nat × TI) := [(2, ⟨.i64, 8, 0, false⟩), (3, ⟨.i64, 8, 0, false⟩), (4, ⟨.bool, 1, 0, false⟩), (5, ⟨.u8, 1, 0, false⟩), (6, ⟨.u8, 1, 0, false⟩), (7, ⟨T7, 24, 0, false⟩), (8, ⟨T7, 24, 0, false⟩), (9, ⟨.str, 16, 0, false⟩), (10, ⟨.str, 16, 0, false⟩), (11, ⟨.str, 16, 0, false⟩), (12, ⟨.u64, 8, 0, false⟩), (13, ⟨T13, 24, 0, false⟩), (14, ⟨T13, 24, 0, false⟩), (22, ⟨(.sl .u8), 24, 5, false⟩), (26, ⟨.u64, 8, 0, false⟩), (27, ⟨T27, 24, 0, false⟩), (28, ⟨T27, 24, 0, true⟩), (29, ⟨T29, 72, 0, false⟩), (30, ⟨T29, 72, 0, false⟩), (35, ⟨(.sl .i64), 24, 3, false⟩), (36, ⟨(.sl T97), 24, 98, false⟩), (37, ⟨.i64, 8, 0, false⟩), (44, ⟨(.arr 2 .i64), 16, 3, false⟩), (45, ⟨T45, 144, 0, false⟩), (46, ⟨T45, 144, 0, false⟩), (48, ⟨(.sl T45), 24, 46, false⟩), (54, ⟨(.sl T59), 24, 60, false⟩), (59, ⟨T59, 48, 0, false⟩), (60, ⟨T59, 48, 0, false⟩), (65, ⟨(.sl T85), 24, 86, false⟩), (68, ⟨(.sl T29), 24, 30, false⟩), (71, ⟨(.arr 2 T45), 288, 46, false⟩), (72, ⟨(.sl (.arr 2 T45)), 24, 71, false⟩), (81, ⟨(.sl (.sl .u8)), 24, 22, false⟩), (85, ⟨T85, 152, 0, false⟩), (86, ⟨T85, 152, 0, false⟩), (90, ⟨T90, 96, 0, false⟩), (91, ⟨T90, 96, 0, false⟩), (94, ⟨(.sl T99), 24, 100, false⟩), (97, ⟨T97, 96, 0, false⟩), (98, ⟨T97, 96, 0, false⟩), (99, ⟨T99, 88, 0, false⟩), (100, ⟨T99, 88, 4, false⟩), (103, ⟨(.sl (.sl T59)), 24, 54, false⟩), (107, ⟨(.pair (.sl .u8) (.pair .i64 .unit)), 32, 0, false⟩), (108, ⟨(.pair (.sl .u8) (.pair .i64 .unit)), 32, 0, false⟩), (112, ⟨(.pair (.sl .u8) (.pair .i64 .unit)), 32, 0, false⟩), (113, ⟨(.pair (.sl .u8) (.pair .i64 .unit)), 32, 0, false⟩), (117, ⟨T27, 24, 0, false⟩), (118, ⟨T27, 24, 0, false⟩), (119, ⟨T119, 48, 0, false⟩), (120, ⟨T119, 48, 0, false⟩), (121, ⟨(.arr 5 T119), 240, 120, false⟩), (122, ⟨(.arr 5 T119), 240, 120, false⟩), (132, ⟨(.sl T27), 24, 28, false⟩), (150, ⟨.u64, 8, 0, false⟩), (159, ⟨(.pair (.sl .u8) .unit), 24, 0, false⟩), (160, ⟨(.pair (.sl .u8) .unit), 24, 0, false⟩)]
def G_globs : List (Nat × Dt) := []
def G_ifs : IfT := ⟨[], [], [], []⟩
theorem G_ifs_ok : ifChk Try.prog G_ifs = true := by kernel_rfl
theorem G_tys_ok : tyChk Try.prog G_tys = true := by kernel_rfl
/-! ipsecgate/selector.Valid -/
abbrev selector_Valid_R : Type := ((Bool × Unit) × (Unit))
def selector_Valid (N : Nat) (a_0 : D27) : Option selector_Valid_R :=
 bif (decide (a_0.1 = (6 : Int))) then
 some ((true, ()), (()))
 else
 bif (decide (a_0.1 = (4 : Int))) then
 bif (decide (a_0.2.1 = (0 : UInt64))) then
 some (((decide (a_0.2.2.1 < (4294967296 : UInt64))), ()), (()))
 else
 some ((false, ()), (()))
 else
 some ((false, ()), (()))
def selector_Valid_C (N : Nat) : Ctx := ⟨21, G_tys, [], G_globs, G_ifs⟩
def selector_Valid_S0 : Spec := ⟨[.val T27], []⟩
def selector_Valid_S1 : Spec := ⟨[.val .bool], []⟩
def selector_Valid_K (_N : Nat) : XE → GS → Option selector_Valid_R := retK 0 [2] [false] selector_Valid_S1
def selector_Valid_L : List Code := (bodyOf (some Try.f108))
theorem selector_Valid_b {E : Env} (N : Nat) (hb : Base Try.prog (selector_Valid_C N) E 0) : Blk Try.prog (selector_Valid_C N) E (List.range selector_Valid_S0.ks.length) selector_Valid_S0 (selector_Valid_L.drop 0) (fun y => selector_Valid N y.1.1) (selector_Valid_K N) :=
 Blk.chunkAt hb 3 (X := (selector_Valid_K N .normal)) (NxOk.end (by kernel_rfl)) rfl (fun x => by kernel_rfl)
def selector_Valid_ctr (N : Nat) : Ctr := ⟨selector_Valid_S0, selector_Valid_S1.un [false], 0, (fun y => selector_Valid N y.1.1)⟩
theorem selector_Valid_ctrs (N : Nat) : CtrsOk Try.prog (selector_Valid_C N) := ctrs_nil G_ifs_ok rfl
theorem selector_Valid_ok (N : Nat) : Ctr.ok Try.prog G_globs 108 (selector_Valid_ctr N) :=
 ctr_fn (Γ := selector_Valid_C N) (rfit := selector_Valid_S1) (bs := [false]) (res := [2]) (by kernel_rfl) (tys_ok G_tys_ok) (selector_Valid_ctrs N) Try.func108 (by kernel_rfl) (by kernel_rfl) Try.ntmps108 (by kernel_rfl) (by kernel_rfl) (by kernel_rfl) (by kernel_rfl) (fun E hb => selector_Valid_b N hb)
/-! ipsecgate/ipfrag.family -/
abbrev ipfrag_family_R : Type := ((Bool × Unit) × (Unit))
def ipfrag_family (N : Nat) (a_0 : D27) (b_1 : D27) : Option ipfrag_family_R :=
 Option.bind (selector_Valid N a_0) fun y1 =>
 bif y1.1.1 then
 Option.bind (selector_Valid N b_1) fun y2 =>
 bif y2.1.1 then
 some (((decide (a_0.1 = b_1.1)), ()), (()))
 else
 some ((false, ()), (()))
 else
 some ((false, ()), (()))
def ipfrag_family_C (N : Nat) : Ctx := ⟨18, G_tys, [(108, selector_Valid_ctr N)], G_globs, G_ifs⟩
def ipfrag_family_S0 : Spec := ⟨[.val T27, .val T27], []⟩
def ipfrag_family_S1 : Spec := ⟨[.val .bool], []⟩
def ipfrag_family_K (_N : Nat) : XE → GS → Option ipfrag_family_R := retK 0 [4] [false] ipfrag_family_S1
def ipfrag_family_L : List Code := (bodyOf (some Try.f73))
theorem ipfrag_family_b {E : Env} (N : Nat) (hb : Base Try.prog (ipfrag_family_C N) E 0) : Blk Try.prog (ipfrag_family_C N) E (List.range ipfrag_family_S0.ks.length) ipfrag_family_S0 (ipfrag_family_L.drop 0) (fun y => ipfrag_family N y.1.1 y.1.2.1) (ipfrag_family_K N) :=
 Blk.chunkAt hb 3 (X := (ipfrag_family_K N .normal)) (NxOk.end (by kernel_rfl)) rfl (fun x => by kernel_rfl)
def ipfrag_family_ctr (N : Nat) : Ctr := ⟨ipfrag_family_S0, ipfrag_family_S1.un [false], 0, (fun y => ipfrag_family N y.1.1 y.1.2.1)⟩
theorem ipfrag_family_ctrs (N : Nat) : CtrsOk Try.prog (ipfrag_family_C N) := ctrs_of (Γ := ipfrag_family_C N) G_ifs_ok (by
 intro p hp
 simp only [ipfrag_family_C, List.mem_cons, List.not_mem_nil, or_false] at hp
 rcases hp with rfl
 · exact selector_Valid_ok N)
theorem ipfrag_family_ok (N : Nat) : Ctr.ok Try.prog G_globs 73 (ipfrag_family_ctr N) :=
 ctr_fn (Γ := ipfrag_family_C N) (rfit := ipfrag_family_S1) (bs := [false]) (res := [4]) (by kernel_rfl) (tys_ok G_tys_ok) (ipfrag_family_ctrs N) Try.func73 (by kernel_rfl) (by kernel_rfl) Try.ntmps73 (by kernel_rfl) (by kernel_rfl) (by kernel_rfl) (by kernel_rfl) (fun E hb => ipfrag_family_b N hb)
/-! slices.Clone[[]byte,byte] -/
abbrev slices_Clone___byte_byte__R : Type := ((Unit) × ((List UInt8) × Unit))
def slices_Clone___byte_byte_ (N : Nat) (s_0 : (List UInt8)) : Option slices_Clone___byte_byte__R :=
 bif room (([] : List UInt8).length + s_0.length) 1 then
 some ((()), ((([] : List UInt8) ++ s_0), ()))
 else none
def slices_Clone___byte_byte__C (N : Nat) : Ctx := ⟨8, G_tys, [], G_globs, G_ifs⟩
def slices_Clone___byte_byte__S0 : Spec := ⟨[.val (.sl .u8)], []⟩
def slices_Clone___byte_byte__S1 : Spec := ⟨[.row 0], [(.row 5 .u8, .pos 0)]⟩
def slices_Clone___byte_byte__K (_N : Nat) : XE → GS → Option slices_Clone___byte_byte__R := retK 0 [2] [false] slices_Clone___byte_byte__S1
def slices_Clone___byte_byte__L : List Code := (bodyOf (some Try.f74))
theorem slices_Clone___byte_byte__b1 {E : Env} (N : Nat) (hb : Base Try.prog (slices_Clone___byte_byte__C N) E 0) : Blk Try.prog (slices_Clone___byte_byte__C N) E [0] slices_Clone___byte_byte__S0 (slices_Clone___byte_byte__L.drop 1) (fun y => slices_Clone___byte_byte_ N y.1.1) (slices_Clone___byte_byte__K N) :=
 Blk.isNil (t := .u8) (l := slices_Clone___byte_byte__L) (i := 1) (m := 0) (d := 3) (d' := 4) (hl := (by kernel_rfl : slices_Clone___byte_byte__L[1]? = some (.region 1 #[⟨some 3, .move (.tmp 0), 22, "slices.go:357", #[], none⟩, ⟨some 4, .binOp .eql 22 (.tmp 3) (.const (.slice none 0 0)) 22, 4, "slices.go:357", #[⟨0, .data⟩], none⟩] false))) hb (e := 5) (by kernel_rfl) (by kernel_rfl) (by kernel_rfl) (fun z => z.1.1) (fun z => rfl) (by rintro ⟨⟨x, u⟩, v⟩ h; obtain rfl : x = [] := h; kernel_rfl) (fun z => by kernel_rfl)
theorem slices_Clone___byte_byte__b {E : Env} (N : Nat) (hb : Base Try.prog (slices_Clone___byte_byte__C N) E 0) : Blk Try.prog (slices_Clone___byte_byte__C N) E (List.range slices_Clone___byte_byte__S0.ks.length) slices_Clone___byte_byte__S0 (slices_Clone___byte_byte__L.drop 0) (fun y => slices_Clone___byte_byte_ N y.1.1) (slices_Clone___byte_byte__K N) :=
 Blk.chunkAt hb 1 (X := (goK 0 [0] slices_Clone___byte_byte__S0 (fun y => slices_Clone___byte_byte_ N y.1.1))) (NxOk.go hb (slices_Clone___byte_byte__b1 N hb)) rfl (fun x => by kernel_rfl)
def slices_Clone___byte_byte__ctr (N : Nat) : Ctr := ⟨slices_Clone___byte_byte__S0, slices_Clone___byte_byte__S1.un [false], 0, (fun y => slices_Clone___byte_byte_ N y.1.1)⟩
theorem slices_Clone___byte_byte__ctrs (N : Nat) : CtrsOk Try.prog (slices_Clone___byte_byte__C N) := ctrs_nil G_ifs_ok rfl
theorem slices_Clone___byte_byte__ok (N : Nat) : Ctr.ok Try.prog G_globs 74 (slices_Clone___byte_byte__ctr N) :=
 ctr_fn (Γ := slices_Clone___byte_byte__C N) (rfit := slices_Clone___byte_byte__S1) (bs := [false]) (res := [2]) (by kernel_rfl) (tys_ok G_tys_ok) (slices_Clone___byte_byte__ctrs N) Try.func74 (by kernel_rfl) (by kernel_rfl) Try.ntmps74 (by kernel_rfl) (by kernel_rfl) (by kernel_rfl) (by kernel_rfl) (fun E hb => slices_Clone___byte_byte__b N hb)
/-! ipsecgate/ipfrag.Split -/
abbrev ipfrag_Split_R : Type := ((Int × Unit) × ((List D97) × Unit))
def ipfrag_Split_4 (N : Nat) (id_2 : Int) (data_3 : (List UInt8)) (size_4 : Int) (at_13 : Int) (t_53 : Bool) (from_5 : D27) (to_6 : D27) (l_12 : (List D97)) : Option (Lo ((Int × (List UInt8) × Int × Int × Unit) × (D27 × D27 × (List D97) × Unit)) ((Unit) × ((List D97) × Unit)) ipfrag_Split_R) :=
 bif t_53 then
 let x14 := w64 (at_13 + size_4)
 let x15 := (data_3.length : Int)
 let x16 := bif decide (x15 < x14) then x15 else x14
 let x18 := decide (x16 < (data_3.length : Int))
 bif decide (0 ≤ at_13) && decide (at_13 ≤ x16) && decide (x16 ≤ (data_3.length : Int)) && true then
 Option.bind (slices_Clone___byte_byte_ N (cut data_3 at_13.toNat x16.toNat)) fun y20 =>
 bif room (l_12.length + ([(from_5, to_6, id_2, at_13, x18, y20.2.1, ())] : List D97).length) 96 then
 some (.go ((id_2, data_3, size_4, (w64 (at_13 + size_4)), ()), (from_5, to_6, (l_12 ++ ([(from_5, to_6, id_2, at_13, x18, y20.2.1, ())] : List D97)), ())))
 else none
 else none
 else
 some (.br ((()), (l_12, ())))
def ipfrag_Split_s3 (N : Nat) (id_2 : Int) (data_3 : (List UInt8)) (size_4 : Int) (at_13 : Int) (from_5 : D27) (to_6 : D27) (l_12 : (List D97)) : Option (Lo ((Int × (List UInt8) × Int × Int × Unit) × (D27 × D27 × (List D97) × Unit)) ((Unit) × ((List D97) × Unit)) ipfrag_Split_R) :=
 bif (decide (at_13 = (0 : Int))) then
 ipfrag_Split_4 N id_2 data_3 size_4 at_13 true from_5 to_6 l_12
 else
 ipfrag_Split_4 N id_2 data_3 size_4 at_13 (decide (at_13 < (data_3.length : Int))) from_5 to_6 l_12
def ipfrag_Split_5 (N : Nat) (l_12 : (List D97)) : Option ipfrag_Split_R :=
 some (((0 : Int), ()), (l_12, ()))
def ipfrag_Split_2 (N : Nat) (id_2 : Int) (data_3 : (List UInt8)) (size_4 : Int) (at_13 : Int) (from_5 : D27) (to_6 : D27) (l_12 : (List D97)) : Option ipfrag_Split_R :=
 loopK N (fun y => ipfrag_Split_s3 N y.1.1 y.1.2.1 y.1.2.2.1 y.1.2.2.2.1 y.2.1 y.2.2.1 y.2.2.2.1) (fun (e : ((Unit) × ((List D97) × Unit))) => ipfrag_Split_5 N e.2.1) ((id_2, data_3, size_4, at_13, ()), (from_5, to_6, l_12, ()))
def ipfrag_Split_1 (N : Nat) (id_2 : Int) (data_3 : (List UInt8)) (size_4 : Int) (from_5 : D27) (to_6 : D27) : Option ipfrag_Split_R :=
 ipfrag_Split_2 N id_2 data_3 size_4 (0 : Int) from_5 to_6 ([] : List D97)
def ipfrag_Split (N : Nat) (from_0 : D27) (to_1 : D27) (id_2 : Int) (data_3 : (List UInt8)) (size_4 : Int) : Option ipfrag_Split_R :=
 Option.bind (ipfrag_family N from_0 to_1) fun y1 =>
 bif (!y1.1.1) then
 some (((15 : Int), ()), (([] : List D97), ()))
 else
 bif (decide (size_4 < (8 : Int))) then
 some (((5 : Int), ()), (([] : List D97), ()))
 else
 bif (decide ((2048 : Int) < size_4)) then
 some (((5 : Int), ()), (([] : List D97), ()))
 else
 bif (!(decide ((size_4.tmod (8 : Int)) = (0 : Int)))) then
 some (((5 : Int), ()), (([] : List D97), ()))
 else
 bif (decide (id_2 < (0 : Int))) then
 some (((5 : Int), ()), (([] : List D97), ()))
 else
 bif (decide ((4096 : Int) < (data_3.length : Int))) then
 some (((11 : Int), ()), (([] : List D97), ()))
 else
 bif (decide ((w64 ((16 : Int) * size_4)) < (data_3.length : Int))) then
 some (((10 : Int), ()), (([] : List D97), ()))
 else
 ipfrag_Split_1 N id_2 data_3 size_4 from_0 to_1
def ipfrag_Split_C (N : Nat) : Ctx := ⟨81, G_tys, [(73, ipfrag_family_ctr N), (74, slices_Clone___byte_byte__ctr N)], G_globs, G_ifs⟩
def ipfrag_Split_S0 : Spec := ⟨[.val .i64, .val (.sl .u8), .val .i64, .ref 0 T27, .ref 1 T27, .row 2, .val .i64, .val .bool], [(.box 28 T27, .pos 3), (.box 28 T27, .pos 4), (.row 98 T97, .pos 5)]⟩
def ipfrag_Split_S1 : Spec := ⟨[.val .i64, .val (.sl .u8), .val .i64, .ref 0 T27, .ref 1 T27, .row 2, .val .i64], [(.box 28 T27, .pos 3), (.box 28 T27, .pos 4), (.row 98 T97, .pos 5)]⟩
def ipfrag_Split_S2 : Spec := ⟨[.row 0], [(.row 98 T97, .pos 0)]⟩
def ipfrag_Split_S3 : Spec := ⟨[.val .i64, .val (.sl .u8), .val .i64, .ref 0 T27, .ref 1 T27], [(.box 28 T27, .pos 3), (.box 28 T27, .pos 4)]⟩
def ipfrag_Split_S4 : Spec := ⟨[.val T27, .val T27, .val .i64, .val (.sl .u8), .val .i64], []⟩
def ipfrag_Split_S5 : Spec := ⟨[.row 0, .val .i64], [(.row 98 T97, .pos 0)]⟩
def ipfrag_Split_K (_N : Nat) : XE → GS → Option ipfrag_Split_R := retK 0 [10, 11] [false, false] ipfrag_Split_S5
def ipfrag_Split_L : List Code := (bodyOf (some Try.f24))
def ipfrag_Split_L3 : List Code := (loopOf (ipfrag_Split_L[4]?))
def ipfrag_Split_K3 (N : Nat) : XE → GS → Option (Lo ((Int × (List UInt8) × Int × Int × Unit) × (D27 × D27 × (List D97) × Unit)) ((Unit) × ((List D97) × Unit)) ipfrag_Split_R) := roundK (some 1) (fit 0 [2, 3, 4, 5, 6, 12, 13] ipfrag_Split_S1) (fit 0 [12] ipfrag_Split_S2) (ipfrag_Split_K N)
theorem ipfrag_Split_4_b {E : Env} (N : Nat) (hb : Base Try.prog (ipfrag_Split_C N) E 0) : Blk Try.prog (ipfrag_Split_C N) E [2, 3, 4, 5, 6, 12, 13, 53] ipfrag_Split_S0 (ipfrag_Split_L3.drop 1) (fun y => ipfrag_Split_4 N y.1.1 y.1.2.1 y.1.2.2.1 y.1.2.2.2.1 y.1.2.2.2.2.1 y.2.1 y.2.2.1 y.2.2.2.1) (ipfrag_Split_K3 N) :=
 Blk.chunkAt hb 3 (X := (ipfrag_Split_K3 N .normal)) (NxOk.end (by kernel_rfl)) rfl (fun x => by kernel_rfl)
theorem ipfrag_Split_s3_b {E : Env} (N : Nat) (hb : Base Try.prog (ipfrag_Split_C N) E 0) : Blk Try.prog (ipfrag_Split_C N) E [2, 3, 4, 5, 6, 12, 13] ipfrag_Split_S1 (ipfrag_Split_L3.drop 0) (fun y => ipfrag_Split_s3 N y.1.1 y.1.2.1 y.1.2.2.1 y.1.2.2.2.1 y.2.1 y.2.2.1 y.2.2.2.1) (ipfrag_Split_K3 N) :=
 Blk.chunkAt hb 1 (X := (goK 0 [2, 3, 4, 5, 6, 12, 13, 53] ipfrag_Split_S0 (fun y => ipfrag_Split_4 N y.1.1 y.1.2.1 y.1.2.2.1 y.1.2.2.2.1 y.1.2.2.2.2.1 y.2.1 y.2.2.1 y.2.2.2.1))) (NxOk.go hb (ipfrag_Split_4_b N hb)) rfl (fun x => by kernel_rfl)
theorem ipfrag_Split_5_b {E : Env} (N : Nat) (hb : Base Try.prog (ipfrag_Split_C N) E 0) : Blk Try.prog (ipfrag_Split_C N) E [12] ipfrag_Split_S2 (ipfrag_Split_L.drop 5) (fun y => ipfrag_Split_5 N y.2.1) (ipfrag_Split_K N) :=
 Blk.chunkAt hb 2 (X := (ipfrag_Split_K N .normal)) (NxOk.end (by kernel_rfl)) rfl (fun x => by kernel_rfl)
theorem ipfrag_Split_2_b {E : Env} (N : Nat) (hb : Base Try.prog (ipfrag_Split_C N) E 0) : Blk Try.prog (ipfrag_Split_C N) E [2, 3, 4, 5, 6, 12, 13] ipfrag_Split_S1 (ipfrag_Split_L.drop 4) (fun y => ipfrag_Split_2 N y.1.1 y.1.2.1 y.1.2.2.1 y.1.2.2.2.1 y.2.1 y.2.2.1 y.2.2.2.1) (ipfrag_Split_K N) :=
 Blk.loopAt (Nf := N) (hns := [2, 3, 4, 5, 6, 12, 13]) (ans := [12]) (hc := ipfrag_Split_S1) (ac := ipfrag_Split_S2) (bid := 1) (step := (fun y => ipfrag_Split_s3 N y.1.1 y.1.2.1 y.1.2.2.1 y.1.2.2.2.1 y.2.1 y.2.2.1 y.2.2.2.1)) (J := (fun e => (goK 0 [12] ipfrag_Split_S2 (fun y => ipfrag_Split_5 N y.2.1)) (ipfrag_Split_S2.st [12] e))) hb (by kernel_rfl) (Blk.into (X := (goK 0 [12] ipfrag_Split_S2 (fun y => ipfrag_Split_5 N y.2.1))) (NxOk.go hb (ipfrag_Split_5_b N hb)) (fun x => by kernel_rfl)) (ipfrag_Split_s3_b N hb) (fun x => by kernel_rfl)
theorem ipfrag_Split_1_b {E : Env} (N : Nat) (hb : Base Try.prog (ipfrag_Split_C N) E 0) : Blk Try.prog (ipfrag_Split_C N) E [2, 3, 4, 5, 6] ipfrag_Split_S3 (ipfrag_Split_L.drop 2) (fun y => ipfrag_Split_1 N y.1.1 y.1.2.1 y.1.2.2.1 y.2.1 y.2.2.1) (ipfrag_Split_K N) :=
 Blk.chunkAt hb 2 (X := (goK 0 [2, 3, 4, 5, 6, 12, 13] ipfrag_Split_S1 (fun y => ipfrag_Split_2 N y.1.1 y.1.2.1 y.1.2.2.1 y.1.2.2.2.1 y.2.1 y.2.2.1 y.2.2.2.1))) (NxOk.go hb (ipfrag_Split_2_b N hb)) rfl (fun x => by kernel_rfl)
theorem ipfrag_Split_b {E : Env} (N : Nat) (hb : Base Try.prog (ipfrag_Split_C N) E 0) : Blk Try.prog (ipfrag_Split_C N) E (List.range ipfrag_Split_S4.ks.length) ipfrag_Split_S4 (ipfrag_Split_L.drop 0) (fun y => ipfrag_Split N y.1.1 y.1.2.1 y.1.2.2.1 y.1.2.2.2.1 y.1.2.2.2.2.1) (ipfrag_Split_K N) :=
 Blk.chunkAt hb 2 (X := (goK 0 [2, 3, 4, 5, 6] ipfrag_Split_S3 (fun y => ipfrag_Split_1 N y.1.1 y.1.2.1 y.1.2.2.1 y.2.1 y.2.2.1))) (NxOk.go hb (ipfrag_Split_1_b N hb)) rfl (fun x => by kernel_rfl)
def ipfrag_Split_ctr (N : Nat) : Ctr := ⟨ipfrag_Split_S4, ipfrag_Split_S5.un [false, false], 0, (fun y => ipfrag_Split N y.1.1 y.1.2.1 y.1.2.2.1 y.1.2.2.2.1 y.1.2.2.2.2.1)⟩
theorem ipfrag_Split_ctrs (N : Nat) : CtrsOk Try.prog (ipfrag_Split_C N) := ctrs_of (Γ := ipfrag_Split_C N) G_ifs_ok (by
 intro p hp
 simp only [ipfrag_Split_C, List.mem_cons, List.not_mem_nil, or_false] at hp
 rcases hp with rfl | rfl
 · exact ipfrag_family_ok N
 · exact slices_Clone___byte_byte__ok N)
theorem ipfrag_Split_ok (N : Nat) : Ctr.ok Try.prog G_globs 24 (ipfrag_Split_ctr N) :=
 ctr_fn (Γ := ipfrag_Split_C N) (rfit := ipfrag_Split_S5) (bs := [false, false]) (res := [10, 11]) (by kernel_rfl) (tys_ok G_tys_ok) (ipfrag_Split_ctrs N) Try.func24 (by kernel_rfl) (by kernel_rfl) Try.ntmps24 (by kernel_rfl) (by kernel_rfl) (by kernel_rfl) (by kernel_rfl) (fun E hb => ipfrag_Split_b N hb)
/-! ipsecgate/ipsecgatelaw25.awake -/
abbrev law25_awake_R : Type := ((Bool × Unit) × (Unit))
def law25_awake (N : Nat) : Option law25_awake_R :=
 Option.bind (ipfrag_Split N ((4 : Int), (0 : UInt64), (1 : UInt64), ()) ((4 : Int), (0 : UInt64), (1 : UInt64), ()) (0 : Int) (List.replicate 20 (0 : UInt8)) (8 : Int)) fun y1 =>
 bif (decide (y1.1.1 = (0 : Int))) then
 bif (decide ((y1.2.1.length : Int) = (3 : Int))) then
 bif inR (2 : Int) y1.2.1.length then
 bif (decide (((y1.2.1.getD 2 (((0 : Int), (0 : UInt64), (0 : UInt64), ()), ((0 : Int), (0 : UInt64), (0 : UInt64), ()), (0 : Int), (0 : Int), false, ([] : List UInt8), ())).2.2.2.1) = (16 : Int))) then
 bif inR (2 : Int) y1.2.1.length then
 bif (decide ((((y1.2.1.getD 2 (((0 : Int), (0 : UInt64), (0 : UInt64), ()), ((0 : Int), (0 : UInt64), (0 : UInt64), ()), (0 : Int), (0 : Int), false, ([] : List UInt8), ())).2.2.2.2.2.1).length : Int) = (4 : Int))) then
 bif inR (2 : Int) y1.2.1.length then
 some ((!((y1.2.1.getD 2 (((0 : Int), (0 : UInt64), (0 : UInt64), ()), ((0 : Int), (0 : UInt64), (0 : UInt64), ()), (0 : Int), (0 : Int), false, ([] : List UInt8), ())).2.2.2.2.1), ()), (()))
 else none
 else
 some ((false, ()), (()))
 else none
 else
 some ((false, ()), (()))
 else none
 else
 some ((false, ()), (()))
 else
 some ((false, ()), (()))
def law25_awake_C (N : Nat) : Ctx := ⟨41, G_tys, [(24, ipfrag_Split_ctr N)], G_globs, G_ifs⟩
def law25_awake_S0 : Spec := ⟨[], []⟩
def law25_awake_S1 : Spec := ⟨[.val .bool], []⟩
def law25_awake_K (_N : Nat) : XE → GS → Option law25_awake_R := retK 0 [0] [false] law25_awake_S1
def law25_awake_L : List Code := (bodyOf (some Try.f18))
theorem law25_awake_b {E : Env} (N : Nat) (hb : Base Try.prog (law25_awake_C N) E 0) : Blk Try.prog (law25_awake_C N) E (List.range law25_awake_S0.ks.length) law25_awake_S0 (law25_awake_L.drop 0) (fun y => law25_awake N) (law25_awake_K N) :=
 Blk.chunkAt hb 5 (X := (law25_awake_K N .normal)) (NxOk.end (by kernel_rfl)) rfl (fun x => by kernel_rfl)
def law25_awake_ctr (N : Nat) : Ctr := ⟨law25_awake_S0, law25_awake_S1.un [false], 0, (fun y => law25_awake N)⟩
theorem law25_awake_ctrs (N : Nat) : CtrsOk Try.prog (law25_awake_C N) := ctrs_of (Γ := law25_awake_C N) G_ifs_ok (by
 intro p hp
 simp only [law25_awake_C, List.mem_cons, List.not_mem_nil, or_false] at hp
 rcases hp with rfl
 · exact ipfrag_Split_ok N)
theorem law25_awake_ok (N : Nat) : Ctr.ok Try.prog G_globs 18 (law25_awake_ctr N) :=
 ctr_fn (Γ := law25_awake_C N) (rfit := law25_awake_S1) (bs := [false]) (res := [0]) (by kernel_rfl) (tys_ok G_tys_ok) (law25_awake_ctrs N) Try.func18 (by kernel_rfl) (by kernel_rfl) Try.ntmps18 (by kernel_rfl) (by kernel_rfl) (by kernel_rfl) (by kernel_rfl) (fun E hb => law25_awake_b N hb)
/-! ipsecgate/ipsecgatedraw.New -/
abbrev draw_New_R : Type := ((Unit) × (((List UInt8) × (Int × Unit)) × Unit))
def draw_New (N : Nat) (list_0 : (List UInt8)) (most_1 : Int) : Option draw_New_R :=
 let x1 := (list_0.length : Int)
 let x2 := bif decide (most_1 < x1) then most_1 else x1
 bif decide (0 ≤ (0 : Int)) && decide ((0 : Int) ≤ x2) && decide (x2 ≤ (list_0.length : Int)) && true then
 let x3 := cut list_0 0 x2.toNat
 bif room (0 + x3.length) 1 then
 some ((()), ((x3, (0 : Int), ()), ()))
 else none
 else none
def draw_New_C (N : Nat) : Ctx := ⟨14, G_tys, [], G_globs, G_ifs⟩
def draw_New_S0 : Spec := ⟨[.val (.sl .u8), .val .i64], []⟩
def draw_New_S1 : Spec := ⟨[.ref 0 (.pair (.sl .u8) (.pair .i64 .unit))], [(.box 108 (.pair (.sl .u8) (.pair .i64 .unit)), .pos 0)]⟩
def draw_New_K (_N : Nat) : XE → GS → Option draw_New_R := retK 0 [4] [false] draw_New_S1
def draw_New_L : List Code := (bodyOf (some Try.f19))
theorem draw_New_b {E : Env} (N : Nat) (hb : Base Try.prog (draw_New_C N) E 0) : Blk Try.prog (draw_New_C N) E (List.range draw_New_S0.ks.length) draw_New_S0 (draw_New_L.drop 0) (fun y => draw_New N y.1.1 y.1.2.1) (draw_New_K N) :=
 Blk.chunkAt hb 3 (X := (draw_New_K N .normal)) (NxOk.end (by kernel_rfl)) rfl (fun x => by kernel_rfl)
def draw_New_ctr (N : Nat) : Ctr := ⟨draw_New_S0, draw_New_S1.un [false], 0, (fun y => draw_New N y.1.1 y.1.2.1)⟩
theorem draw_New_ctrs (N : Nat) : CtrsOk Try.prog (draw_New_C N) := ctrs_nil G_ifs_ok rfl
theorem draw_New_ok (N : Nat) : Ctr.ok Try.prog G_globs 19 (draw_New_ctr N) :=
 ctr_fn (Γ := draw_New_C N) (rfit := draw_New_S1) (bs := [false]) (res := [4]) (by kernel_rfl) (tys_ok G_tys_ok) (draw_New_ctrs N) Try.func19 (by kernel_rfl) (by kernel_rfl) Try.ntmps19 (by kernel_rfl) (by kernel_rfl) (by kernel_rfl) (by kernel_rfl) (fun E hb => draw_New_b N hb)
/-! (*ipsecgate/ipsecgatedraw.Codes).Next -/
abbrev draw_Codes_Next_R : Type := ((Int × Unit) × (((List UInt8) × (Int × Unit)) × Unit))
def draw_Codes_Next (N : Nat) (n_1 : Int) (c_0 : ((List UInt8) × (Int × Unit))) : Option draw_Codes_Next_R :=
 bif (decide ((c_0.1.length : Int) ≤ c_0.2.1)) then
 some (((0 : Int), ()), (c_0, ()))
 else
 let x3 := w64 (c_0.2.1 + (1 : Int))
 let x4 := w64 (x3 - (1 : Int))
 bif inR x4 c_0.1.length then
 some (((w64 ((w64 (((c_0.1.getD x4.toNat (0 : UInt8)).toNat : Int) * n_1)).tdiv (256 : Int))), ()), ((c_0.1, x3, ()), ()))
 else none
def draw_Codes_Next_C (N : Nat) : Ctx := ⟨37, G_tys, [], G_globs, G_ifs⟩
def draw_Codes_Next_S0 : Spec := ⟨[.ref 0 (.pair (.sl .u8) (.pair .i64 .unit)), .val .i64], [(.box 108 (.pair (.sl .u8) (.pair .i64 .unit)), .pos 0)]⟩
def draw_Codes_Next_S1 : Spec := ⟨[.val .i64], [(.box 108 (.pair (.sl .u8) (.pair .i64 .unit)), .fix 0)]⟩
def draw_Codes_Next_K (_N : Nat) : XE → GS → Option draw_Codes_Next_R := retK 1 [4] [false] draw_Codes_Next_S1
def draw_Codes_Next_L : List Code := (bodyOf (some Try.f23))
theorem draw_Codes_Next_b {E : Env} (N : Nat) (hb : Base Try.prog (draw_Codes_Next_C N) E 1) : Blk Try.prog (draw_Codes_Next_C N) E (List.range draw_Codes_Next_S0.ks.length) draw_Codes_Next_S0 (draw_Codes_Next_L.drop 0) (fun y => draw_Codes_Next N y.1.1 y.2.1) (draw_Codes_Next_K N) :=
 Blk.chunkAt hb 6 (X := (draw_Codes_Next_K N .normal)) (NxOk.end (by kernel_rfl)) rfl (fun x => by kernel_rfl)
def draw_Codes_Next_ctr (N : Nat) : Ctr := ⟨draw_Codes_Next_S0, draw_Codes_Next_S1.un [false], 1, (fun y => draw_Codes_Next N y.1.1 y.2.1)⟩
theorem draw_Codes_Next_ctrs (N : Nat) : CtrsOk Try.prog (draw_Codes_Next_C N) := ctrs_nil G_ifs_ok rfl
theorem draw_Codes_Next_ok (N : Nat) : Ctr.ok Try.prog G_globs 23 (draw_Codes_Next_ctr N) :=
 ctr_fn (Γ := draw_Codes_Next_C N) (rfit := draw_Codes_Next_S1) (bs := [false]) (res := [4]) (by kernel_rfl) (tys_ok G_tys_ok) (draw_Codes_Next_ctrs N) Try.func23 (by kernel_rfl) (by kernel_rfl) Try.ntmps23 (by kernel_rfl) (by kernel_rfl) (by kernel_rfl) (by kernel_rfl) (fun E hb => draw_Codes_Next_b N hb)
/-! ipsecgate/ipsecgatedraw.address -/
abbrev draw_address_R : Type := ((D27 × Unit) × (Unit))
def draw_address (N : Nat) (side_0 : Int) (low_1 : Int) (six_2 : Bool) : Option draw_address_R :=
 bif six_2 then
 some ((((6 : Int), (2305843009213693952 : UInt64), (iu64 (w64 ((shlI side_0 8) + low_1))), ()), ()), (()))
 else
 some ((((4 : Int), (0 : UInt64), (iu64 (w64 ((w64 ((167772160 : Int) + (shlI side_0 8))) + low_1))), ()), ()), (()))
def draw_address_C (N : Nat) : Ctx := ⟨21, G_tys, [], G_globs, G_ifs⟩
def draw_address_S0 : Spec := ⟨[.val .i64, .val .i64, .val .bool], []⟩
def draw_address_S1 : Spec := ⟨[.fp T27], []⟩
def draw_address_K (_N : Nat) : XE → GS → Option draw_address_R := retK 0 [6] [true] draw_address_S1
def draw_address_L : List Code := (bodyOf (some Try.f72))
theorem draw_address_b {E : Env} (N : Nat) (hb : Base Try.prog (draw_address_C N) E 0) : Blk Try.prog (draw_address_C N) E (List.range draw_address_S0.ks.length) draw_address_S0 (draw_address_L.drop 0) (fun y => draw_address N y.1.1 y.1.2.1 y.1.2.2.1) (draw_address_K N) :=
 Blk.chunkAt hb 5 (X := (draw_address_K N .normal)) (NxOk.end (by kernel_rfl)) rfl (fun x => by kernel_rfl)
def draw_address_ctr (N : Nat) : Ctr := ⟨draw_address_S0, draw_address_S1.un [true], 0, (fun y => draw_address N y.1.1 y.1.2.1 y.1.2.2.1)⟩
theorem draw_address_ctrs (N : Nat) : CtrsOk Try.prog (draw_address_C N) := ctrs_nil G_ifs_ok rfl
theorem draw_address_ok (N : Nat) : Ctr.ok Try.prog G_globs 72 (draw_address_ctr N) :=
 ctr_fn (Γ := draw_address_C N) (rfit := draw_address_S1) (bs := [true]) (res := [6]) (by kernel_rfl) (tys_ok G_tys_ok) (draw_address_ctrs N) Try.func72 (by kernel_rfl) (by kernel_rfl) Try.ntmps72 (by kernel_rfl) (by kernel_rfl) (by kernel_rfl) (by kernel_rfl) (fun E hb => draw_address_b N hb)
/-! (*ipsecgate/ipsecgatedraw.Codes).Packet -/
abbrev draw_Codes_Packet_R : Type := ((D29 × Unit) × (((List UInt8) × (Int × Unit)) × Unit))
def draw_Codes_Packet_2 (N : Nat) (t_50 : Bool) (p0 : ((List UInt8) × (Int × Unit))) (t_4 : D29) (p_7 : D29) : Option draw_Codes_Packet_R :=
 bif t_50 then
 some (((p_7.1, p_7.2.1, p_7.2.2.1, (-1 : Int), (-1 : Int), ()), ()), (p0, ()))
 else
 some ((p_7, ()), (p0, ()))
def draw_Codes_Packet_1 (N : Nat) (side_1 : Int) (six_5 : Bool) (to_6 : Int) (p0 : ((List UInt8) × (Int × Unit))) (t_4 : D29) : Option draw_Codes_Packet_R :=
 Option.bind (draw_Codes_Next N (256 : Int) p0) fun y6 =>
 Option.bind (draw_address N side_1 y6.1.1 six_5) fun y7 =>
 Option.bind (draw_Codes_Next N (256 : Int) y6.2.1) fun y8 =>
 Option.bind (draw_address N to_6 y8.1.1 six_5) fun y9 =>
 Option.bind (draw_Codes_Next N (4 : Int) y8.2.1) fun y10 =>
 bif inR y10.1.1 (([(6 : Int), (17 : Int), (1 : Int), (50 : Int)] : List Int).length) then
 let x11 := (([(6 : Int), (17 : Int), (1 : Int), (50 : Int)] : List Int).getD y10.1.1.toNat (0 : Int))
 Option.bind (draw_Codes_Next N (6 : Int) y10.2.1) fun y12 =>
 let x13 := w64 (y12.1.1 * (20 : Int))
 Option.bind (draw_Codes_Next N (6 : Int) y12.2.1) fun y14 =>
 let x15 := w64 (y14.1.1 * (20 : Int))
 Option.bind (draw_Codes_Next N (4 : Int) y14.2.1) fun y16 =>
 bif (decide (y16.1.1 = (3 : Int))) then
 draw_Codes_Packet_2 N true y16.2.1 t_4 (y7.1.1, y9.1.1, x11, x13, x15, ())
 else
 bif (decide (x11 = (1 : Int))) then
 draw_Codes_Packet_2 N true y16.2.1 t_4 (y7.1.1, y9.1.1, x11, x13, x15, ())
 else
 draw_Codes_Packet_2 N (decide (x11 = (50 : Int))) y16.2.1 t_4 (y7.1.1, y9.1.1, x11, x13, x15, ())
 else none
def draw_Codes_Packet (N : Nat) (side_1 : Int) (c_0 : ((List UInt8) × (Int × Unit))) : Option draw_Codes_Packet_R :=
 Option.bind (draw_Codes_Next N (10 : Int) c_0) fun y1 =>
 let x2 := decide (y1.1.1 = (9 : Int))
 Option.bind (draw_Codes_Next N (8 : Int) y1.2.1) fun y4 =>
 bif (decide (y4.1.1 = (7 : Int))) then
 draw_Codes_Packet_1 N side_1 x2 (3 : Int) y4.2.1 (((0 : Int), (0 : UInt64), (0 : UInt64), ()), ((0 : Int), (0 : UInt64), (0 : UInt64), ()), (0 : Int), (0 : Int), (0 : Int), ())
 else
 draw_Codes_Packet_1 N side_1 x2 (w64 ((1 : Int) - side_1)) y4.2.1 (((0 : Int), (0 : UInt64), (0 : UInt64), ()), ((0 : Int), (0 : UInt64), (0 : UInt64), ()), (0 : Int), (0 : Int), (0 : Int), ())
def draw_Codes_Packet_C (N : Nat) : Ctx := ⟨54, G_tys, [(23, draw_Codes_Next_ctr N), (72, draw_address_ctr N)], G_globs, G_ifs⟩
def draw_Codes_Packet_S0 : Spec := ⟨[.ref 1 T29, .ref 2 T29, .val .bool], [(.box 108 (.pair (.sl .u8) (.pair .i64 .unit)), .fix 0), (.box 30 T29, .pos 0), (.box 30 T29, .pos 1)]⟩
def draw_Codes_Packet_S1 : Spec := ⟨[.ref 0 (.pair (.sl .u8) (.pair .i64 .unit)), .val .i64, .ref 1 T29, .val .bool, .val .i64], [(.box 108 (.pair (.sl .u8) (.pair .i64 .unit)), .fix 0), (.box 30 T29, .pos 2)]⟩
def draw_Codes_Packet_S2 : Spec := ⟨[.ref 0 (.pair (.sl .u8) (.pair .i64 .unit)), .val .i64], [(.box 108 (.pair (.sl .u8) (.pair .i64 .unit)), .pos 0)]⟩
def draw_Codes_Packet_S3 : Spec := ⟨[.fp T29], [(.box 108 (.pair (.sl .u8) (.pair .i64 .unit)), .fix 0)]⟩
def draw_Codes_Packet_K (_N : Nat) : XE → GS → Option draw_Codes_Packet_R := retK 1 [4] [true] draw_Codes_Packet_S3
def draw_Codes_Packet_L : List Code := (bodyOf (some Try.f20))
theorem draw_Codes_Packet_2_b {E : Env} (N : Nat) (hb : Base Try.prog (draw_Codes_Packet_C N) E 1) : Blk Try.prog (draw_Codes_Packet_C N) E [4, 7, 50] draw_Codes_Packet_S0 (draw_Codes_Packet_L.drop 7) (fun y => draw_Codes_Packet_2 N y.1.1 y.2.1 y.2.2.1 y.2.2.2.1) (draw_Codes_Packet_K N) :=
 Blk.chunkAt hb 3 (X := (draw_Codes_Packet_K N .normal)) (NxOk.end (by kernel_rfl)) rfl (fun x => by kernel_rfl)
theorem draw_Codes_Packet_1_b {E : Env} (N : Nat) (hb : Base Try.prog (draw_Codes_Packet_C N) E 1) : Blk Try.prog (draw_Codes_Packet_C N) E [0, 1, 4, 5, 6] draw_Codes_Packet_S1 (draw_Codes_Packet_L.drop 5) (fun y => draw_Codes_Packet_1 N y.1.1 y.1.2.1 y.1.2.2.1 y.2.1 y.2.2.1) (draw_Codes_Packet_K N) :=
 Blk.chunkAt hb 2 (X := (goK 1 [4, 7, 50] draw_Codes_Packet_S0 (fun y => draw_Codes_Packet_2 N y.1.1 y.2.1 y.2.2.1 y.2.2.2.1))) (NxOk.go hb (draw_Codes_Packet_2_b N hb)) rfl (fun x => by kernel_rfl)
theorem draw_Codes_Packet_b {E : Env} (N : Nat) (hb : Base Try.prog (draw_Codes_Packet_C N) E 1) : Blk Try.prog (draw_Codes_Packet_C N) E (List.range draw_Codes_Packet_S2.ks.length) draw_Codes_Packet_S2 (draw_Codes_Packet_L.drop 0) (fun y => draw_Codes_Packet N y.1.1 y.2.1) (draw_Codes_Packet_K N) :=
 Blk.chunkAt hb 5 (X := (goK 1 [0, 1, 4, 5, 6] draw_Codes_Packet_S1 (fun y => draw_Codes_Packet_1 N y.1.1 y.1.2.1 y.1.2.2.1 y.2.1 y.2.2.1))) (NxOk.go hb (draw_Codes_Packet_1_b N hb)) rfl (fun x => by kernel_rfl)
def draw_Codes_Packet_ctr (N : Nat) : Ctr := ⟨draw_Codes_Packet_S2, draw_Codes_Packet_S3.un [true], 1, (fun y => draw_Codes_Packet N y.1.1 y.2.1)⟩
theorem draw_Codes_Packet_ctrs (N : Nat) : CtrsOk Try.prog (draw_Codes_Packet_C N) := ctrs_of (Γ := draw_Codes_Packet_C N) G_ifs_ok (by
 intro p hp
 simp only [draw_Codes_Packet_C, List.mem_cons, List.not_mem_nil, or_false] at hp
 rcases hp with rfl | rfl
 · exact draw_Codes_Next_ok N
 · exact draw_address_ok N)
theorem draw_Codes_Packet_ok (N : Nat) : Ctr.ok Try.prog G_globs 20 (draw_Codes_Packet_ctr N) :=
 ctr_fn (Γ := draw_Codes_Packet_C N) (rfit := draw_Codes_Packet_S3) (bs := [true]) (res := [4]) (by kernel_rfl) (tys_ok G_tys_ok) (draw_Codes_Packet_ctrs N) Try.func20 (by kernel_rfl) (by kernel_rfl) Try.ntmps20 (by kernel_rfl) (by kernel_rfl) (by kernel_rfl) (by kernel_rfl) (fun E hb => draw_Codes_Packet_b N hb)
/-! ipsecgate/ipsecgatelaw25.bytes -/
abbrev law25_bytes_R : Type := ((Unit) × ((List UInt8) × Unit))
def law25_bytes_s2 (N : Nat) (n_0 : Int) (by_1 : Int) (i_6 : Int) (b_5 : (List UInt8)) : Option (Lo ((Int × Int × Int × Unit) × ((List UInt8) × Unit)) ((Unit) × ((List UInt8) × Unit)) law25_bytes_R) :=
 bif (decide (i_6 < n_0)) then
 bif inR i_6 b_5.length then
 some (.go ((n_0, by_1, (w64 (i_6 + (1 : Int))), ()), ((b_5.set i_6.toNat (iu8 (w64 ((w64 (i_6 * by_1)) + (w64 (i_6.tdiv (7 : Int))))))), ())))
 else none
 else
 some (.br ((()), (b_5, ())))
def law25_bytes_3 (N : Nat) (b_5 : (List UInt8)) : Option law25_bytes_R :=
 some ((()), (b_5, ()))
def law25_bytes_1 (N : Nat) (n_0 : Int) (by_1 : Int) (i_6 : Int) (b_5 : (List UInt8)) : Option law25_bytes_R :=
 loopK N (fun y => law25_bytes_s2 N y.1.1 y.1.2.1 y.1.2.2.1 y.2.1) (fun (e : ((Unit) × ((List UInt8) × Unit))) => law25_bytes_3 N e.2.1) ((n_0, by_1, i_6, ()), (b_5, ()))
def law25_bytes (N : Nat) (n_0 : Int) (by_1 : Int) : Option law25_bytes_R :=
 bif decide (0 ≤ n_0) && decide (n_0 ≤ n_0) && room n_0.toNat 1 then
 law25_bytes_1 N n_0 by_1 (0 : Int) (List.replicate n_0.toNat (0 : UInt8))
 else none
def law25_bytes_C (N : Nat) : Ctx := ⟨25, G_tys, [], G_globs, G_ifs⟩
def law25_bytes_S0 : Spec := ⟨[.val .i64, .val .i64, .row 0, .val .i64], [(.row 5 .u8, .pos 2)]⟩
def law25_bytes_S1 : Spec := ⟨[.row 0], [(.row 5 .u8, .pos 0)]⟩
def law25_bytes_S2 : Spec := ⟨[.val .i64, .val .i64], []⟩
def law25_bytes_K (_N : Nat) : XE → GS → Option law25_bytes_R := retK 0 [4] [false] law25_bytes_S1
def law25_bytes_L : List Code := (bodyOf (some Try.f21))
def law25_bytes_L2 : List Code := (loopOf (law25_bytes_L[3]?))
def law25_bytes_K2 (N : Nat) : XE → GS → Option (Lo ((Int × Int × Int × Unit) × ((List UInt8) × Unit)) ((Unit) × ((List UInt8) × Unit)) law25_bytes_R) := roundK (some 0) (fit 0 [0, 1, 5, 6] law25_bytes_S0) (fit 0 [5] law25_bytes_S1) (law25_bytes_K N)
theorem law25_bytes_s2_b {E : Env} (N : Nat) (hb : Base Try.prog (law25_bytes_C N) E 0) : Blk Try.prog (law25_bytes_C N) E [0, 1, 5, 6] law25_bytes_S0 (law25_bytes_L2.drop 0) (fun y => law25_bytes_s2 N y.1.1 y.1.2.1 y.1.2.2.1 y.2.1) (law25_bytes_K2 N) :=
 Blk.chunkAt hb 4 (X := (law25_bytes_K2 N .normal)) (NxOk.end (by kernel_rfl)) rfl (fun x => by kernel_rfl)
theorem law25_bytes_3_b {E : Env} (N : Nat) (hb : Base Try.prog (law25_bytes_C N) E 0) : Blk Try.prog (law25_bytes_C N) E [5] law25_bytes_S1 (law25_bytes_L.drop 4) (fun y => law25_bytes_3 N y.2.1) (law25_bytes_K N) :=
 Blk.chunkAt hb 2 (X := (law25_bytes_K N .normal)) (NxOk.end (by kernel_rfl)) rfl (fun x => by kernel_rfl)
theorem law25_bytes_1_b {E : Env} (N : Nat) (hb : Base Try.prog (law25_bytes_C N) E 0) : Blk Try.prog (law25_bytes_C N) E [0, 1, 5, 6] law25_bytes_S0 (law25_bytes_L.drop 3) (fun y => law25_bytes_1 N y.1.1 y.1.2.1 y.1.2.2.1 y.2.1) (law25_bytes_K N) :=
 Blk.loopAt (Nf := N) (hns := [0, 1, 5, 6]) (ans := [5]) (hc := law25_bytes_S0) (ac := law25_bytes_S1) (bid := 0) (step := (fun y => law25_bytes_s2 N y.1.1 y.1.2.1 y.1.2.2.1 y.2.1)) (J := (fun e => (goK 0 [5] law25_bytes_S1 (fun y => law25_bytes_3 N y.2.1)) (law25_bytes_S1.st [5] e))) hb (by kernel_rfl) (Blk.into (X := (goK 0 [5] law25_bytes_S1 (fun y => law25_bytes_3 N y.2.1))) (NxOk.go hb (law25_bytes_3_b N hb)) (fun x => by kernel_rfl)) (law25_bytes_s2_b N hb) (fun x => by kernel_rfl)
theorem law25_bytes_b {E : Env} (N : Nat) (hb : Base Try.prog (law25_bytes_C N) E 0) : Blk Try.prog (law25_bytes_C N) E (List.range law25_bytes_S2.ks.length) law25_bytes_S2 (law25_bytes_L.drop 0) (fun y => law25_bytes N y.1.1 y.1.2.1) (law25_bytes_K N) :=
 Blk.chunkAt hb 3 (X := (goK 0 [0, 1, 5, 6] law25_bytes_S0 (fun y => law25_bytes_1 N y.1.1 y.1.2.1 y.1.2.2.1 y.2.1))) (NxOk.go hb (law25_bytes_1_b N hb)) rfl (fun x => by kernel_rfl)
def law25_bytes_ctr (N : Nat) : Ctr := ⟨law25_bytes_S2, law25_bytes_S1.un [false], 0, (fun y => law25_bytes N y.1.1 y.1.2.1)⟩
theorem law25_bytes_ctrs (N : Nat) : CtrsOk Try.prog (law25_bytes_C N) := ctrs_nil G_ifs_ok rfl
theorem law25_bytes_ok (N : Nat) : Ctr.ok Try.prog G_globs 21 (law25_bytes_ctr N) :=
 ctr_fn (Γ := law25_bytes_C N) (rfit := law25_bytes_S1) (bs := [false]) (res := [4]) (by kernel_rfl) (tys_ok G_tys_ok) (law25_bytes_ctrs N) Try.func21 (by kernel_rfl) (by kernel_rfl) Try.ntmps21 (by kernel_rfl) (by kernel_rfl) (by kernel_rfl) (by kernel_rfl) (fun E hb => law25_bytes_b N hb)
/-! slices.Equal[[]byte,byte] -/
abbrev slices_Equal___byte_byte__R : Type := ((Bool × Unit) × (Unit))
def slices_Equal___byte_byte__s2 (N : Nat) (s1_0 : (List UInt8)) (s2_1 : (List UInt8)) (t_12 : Int) (t_13 : Int) : Option (Lo (((List UInt8) × (List UInt8) × Int × Int × Unit) × (Unit)) ((Unit) × (Unit)) slices_Equal___byte_byte__R) :=
 bif (decide (t_13 < t_12)) then
 bif inR t_13 s1_0.length then
 bif inR t_13 s2_1.length then
 bif (!(decide ((s1_0.getD t_13.toNat (0 : UInt8)) = (s2_1.getD t_13.toNat (0 : UInt8))))) then
 some (.rt ((false, ()), (())))
 else
 some (.go ((s1_0, s2_1, t_12, (w64 (t_13 + (1 : Int))), ()), (())))
 else none
 else none
 else
 some (.br ((()), (())))
def slices_Equal___byte_byte__3 (N : Nat) : Option slices_Equal___byte_byte__R :=
 some ((true, ()), (()))
def slices_Equal___byte_byte__1 (N : Nat) (s1_0 : (List UInt8)) (s2_1 : (List UInt8)) (t_12 : Int) (t_13 : Int) : Option slices_Equal___byte_byte__R :=
 loopK N (fun y => slices_Equal___byte_byte__s2 N y.1.1 y.1.2.1 y.1.2.2.1 y.1.2.2.2.1) (fun (e : ((Unit) × (Unit))) => slices_Equal___byte_byte__3 N) ((s1_0, s2_1, t_12, t_13, ()), (()))
def slices_Equal___byte_byte_ (N : Nat) (s1_0 : (List UInt8)) (s2_1 : (List UInt8)) : Option slices_Equal___byte_byte__R :=
 bif (!(decide ((s1_0.length : Int) = (s2_1.length : Int)))) then
 some ((false, ()), (()))
 else
 slices_Equal___byte_byte__1 N s1_0 s2_1 (s1_0.length : Int) (0 : Int)
def slices_Equal___byte_byte__C (N : Nat) : Ctx := ⟨26, G_tys, [], G_globs, G_ifs⟩
def slices_Equal___byte_byte__S0 : Spec := ⟨[.val (.sl .u8), .val (.sl .u8), .val .i64, .val .i64], []⟩
def slices_Equal___byte_byte__S1 : Spec := ⟨[], []⟩
def slices_Equal___byte_byte__S2 : Spec := ⟨[.val (.sl .u8), .val (.sl .u8)], []⟩
def slices_Equal___byte_byte__S3 : Spec := ⟨[.val .bool], []⟩
def slices_Equal___byte_byte__K (_N : Nat) : XE → GS → Option slices_Equal___byte_byte__R := retK 0 [4] [false] slices_Equal___byte_byte__S3
def slices_Equal___byte_byte__L : List Code := (bodyOf (some Try.f159))
def slices_Equal___byte_byte__L2 : List Code := (loopOf (slices_Equal___byte_byte__L[4]?))
def slices_Equal___byte_byte__K2 (N : Nat) : XE → GS → Option (Lo (((List UInt8) × (List UInt8) × Int × Int × Unit) × (Unit)) ((Unit) × (Unit)) slices_Equal___byte_byte__R) := roundK (some 0) (fit 0 [0, 1, 12, 13] slices_Equal___byte_byte__S0) (fit 0 [] slices_Equal___byte_byte__S1) (slices_Equal___byte_byte__K N)
theorem slices_Equal___byte_byte__s2_b {E : Env} (N : Nat) (hb : Base Try.prog (slices_Equal___byte_byte__C N) E 0) : Blk Try.prog (slices_Equal___byte_byte__C N) E [0, 1, 12, 13] slices_Equal___byte_byte__S0 (slices_Equal___byte_byte__L2.drop 0) (fun y => slices_Equal___byte_byte__s2 N y.1.1 y.1.2.1 y.1.2.2.1 y.1.2.2.2.1) (slices_Equal___byte_byte__K2 N) :=
 Blk.chunkAt hb 4 (X := (slices_Equal___byte_byte__K2 N .normal)) (NxOk.end (by kernel_rfl)) rfl (fun x => by kernel_rfl)
theorem slices_Equal___byte_byte__3_b {E : Env} (N : Nat) (hb : Base Try.prog (slices_Equal___byte_byte__C N) E 0) : Blk Try.prog (slices_Equal___byte_byte__C N) E [] slices_Equal___byte_byte__S1 (slices_Equal___byte_byte__L.drop 5) (fun y => slices_Equal___byte_byte__3 N) (slices_Equal___byte_byte__K N) :=
 Blk.chunkAt hb 2 (X := (slices_Equal___byte_byte__K N .normal)) (NxOk.end (by kernel_rfl)) rfl (fun x => by kernel_rfl)
theorem slices_Equal___byte_byte__1_b {E : Env} (N : Nat) (hb : Base Try.prog (slices_Equal___byte_byte__C N) E 0) : Blk Try.prog (slices_Equal___byte_byte__C N) E [0, 1, 12, 13] slices_Equal___byte_byte__S0 (slices_Equal___byte_byte__L.drop 4) (fun y => slices_Equal___byte_byte__1 N y.1.1 y.1.2.1 y.1.2.2.1 y.1.2.2.2.1) (slices_Equal___byte_byte__K N) :=
 Blk.loopAt (Nf := N) (hns := [0, 1, 12, 13]) (ans := []) (hc := slices_Equal___byte_byte__S0) (ac := slices_Equal___byte_byte__S1) (bid := 0) (step := (fun y => slices_Equal___byte_byte__s2 N y.1.1 y.1.2.1 y.1.2.2.1 y.1.2.2.2.1)) (J := (fun e => (goK 0 [] slices_Equal___byte_byte__S1 (fun y => slices_Equal___byte_byte__3 N)) (slices_Equal___byte_byte__S1.st [] e))) hb (by kernel_rfl) (Blk.into (X := (goK 0 [] slices_Equal___byte_byte__S1 (fun y => slices_Equal___byte_byte__3 N))) (NxOk.go hb (slices_Equal___byte_byte__3_b N hb)) (fun x => by kernel_rfl)) (slices_Equal___byte_byte__s2_b N hb) (fun x => by kernel_rfl)
theorem slices_Equal___byte_byte__b {E : Env} (N : Nat) (hb : Base Try.prog (slices_Equal___byte_byte__C N) E 0) : Blk Try.prog (slices_Equal___byte_byte__C N) E (List.range slices_Equal___byte_byte__S2.ks.length) slices_Equal___byte_byte__S2 (slices_Equal___byte_byte__L.drop 0) (fun y => slices_Equal___byte_byte_ N y.1.1 y.1.2.1) (slices_Equal___byte_byte__K N) :=
 Blk.chunkAt hb 4 (X := (goK 0 [0, 1, 12, 13] slices_Equal___byte_byte__S0 (fun y => slices_Equal___byte_byte__1 N y.1.1 y.1.2.1 y.1.2.2.1 y.1.2.2.2.1))) (NxOk.go hb (slices_Equal___byte_byte__1_b N hb)) rfl (fun x => by kernel_rfl)
def slices_Equal___byte_byte__ctr (N : Nat) : Ctr := ⟨slices_Equal___byte_byte__S2, slices_Equal___byte_byte__S3.un [false], 0, (fun y => slices_Equal___byte_byte_ N y.1.1 y.1.2.1)⟩
theorem slices_Equal___byte_byte__ctrs (N : Nat) : CtrsOk Try.prog (slices_Equal___byte_byte__C N) := ctrs_nil G_ifs_ok rfl
theorem slices_Equal___byte_byte__ok (N : Nat) : Ctr.ok Try.prog G_globs 159 (slices_Equal___byte_byte__ctr N) :=
 ctr_fn (Γ := slices_Equal___byte_byte__C N) (rfit := slices_Equal___byte_byte__S3) (bs := [false]) (res := [4]) (by kernel_rfl) (tys_ok G_tys_ok) (slices_Equal___byte_byte__ctrs N) Try.func159 (by kernel_rfl) (by kernel_rfl) Try.ntmps159 (by kernel_rfl) (by kernel_rfl) (by kernel_rfl) (by kernel_rfl) (fun E hb => slices_Equal___byte_byte__b N hb)
/-! ipsecgate/ipfrag.equal -/
abbrev ipfrag_equal_R : Type := ((Bool × Unit) × (Unit))
def ipfrag_equal (N : Nat) (a_0 : D97) (b_1 : D97) : Option ipfrag_equal_R :=
 bif (decide (a_0.2.2.2.1 = b_1.2.2.2.1)) then
 bif (decide (a_0.2.2.2.2.1 = b_1.2.2.2.2.1)) then
 Option.bind (slices_Equal___byte_byte_ N a_0.2.2.2.2.2.1 b_1.2.2.2.2.2.1) fun y3 =>
 some ((y3.1.1, ()), (()))
 else
 some ((false, ()), (()))
 else
 some ((false, ()), (()))
def ipfrag_equal_C (N : Nat) : Ctx := ⟨24, G_tys, [(159, slices_Equal___byte_byte__ctr N)], G_globs, G_ifs⟩
def ipfrag_equal_S0 : Spec := ⟨[.val T97, .val T97], []⟩
def ipfrag_equal_S1 : Spec := ⟨[.val .bool], []⟩
def ipfrag_equal_K (_N : Nat) : XE → GS → Option ipfrag_equal_R := retK 0 [4] [false] ipfrag_equal_S1
def ipfrag_equal_L : List Code := (bodyOf (some Try.f130))
theorem ipfrag_equal_b {E : Env} (N : Nat) (hb : Base Try.prog (ipfrag_equal_C N) E 0) : Blk Try.prog (ipfrag_equal_C N) E (List.range ipfrag_equal_S0.ks.length) ipfrag_equal_S0 (ipfrag_equal_L.drop 0) (fun y => ipfrag_equal N y.1.1 y.1.2.1) (ipfrag_equal_K N) :=
 Blk.chunkAt hb 3 (X := (ipfrag_equal_K N .normal)) (NxOk.end (by kernel_rfl)) rfl (fun x => by kernel_rfl)
def ipfrag_equal_ctr (N : Nat) : Ctr := ⟨ipfrag_equal_S0, ipfrag_equal_S1.un [false], 0, (fun y => ipfrag_equal N y.1.1 y.1.2.1)⟩
theorem ipfrag_equal_ctrs (N : Nat) : CtrsOk Try.prog (ipfrag_equal_C N) := ctrs_of (Γ := ipfrag_equal_C N) G_ifs_ok (by
 intro p hp
 simp only [ipfrag_equal_C, List.mem_cons, List.not_mem_nil, or_false] at hp
 rcases hp with rfl
 · exact slices_Equal___byte_byte__ok N)
theorem ipfrag_equal_ok (N : Nat) : Ctr.ok Try.prog G_globs 130 (ipfrag_equal_ctr N) :=
 ctr_fn (Γ := ipfrag_equal_C N) (rfit := ipfrag_equal_S1) (bs := [false]) (res := [4]) (by kernel_rfl) (tys_ok G_tys_ok) (ipfrag_equal_ctrs N) Try.func130 (by kernel_rfl) (by kernel_rfl) Try.ntmps130 (by kernel_rfl) (by kernel_rfl) (by kernel_rfl) (by kernel_rfl) (fun E hb => ipfrag_equal_b N hb)
/-! ipsecgate/ipfrag.end -/
abbrev ipfrag_end_R : Type := ((Int × Unit) × (Unit))
def ipfrag_end (N : Nat) (p_0 : D97) : Option ipfrag_end_R :=
 some (((w64 (p_0.2.2.2.1 + (p_0.2.2.2.2.2.1.length : Int))), ()), (()))
def ipfrag_end_C (N : Nat) : Ctx := ⟨9, G_tys, [], G_globs, G_ifs⟩
def ipfrag_end_S0 : Spec := ⟨[.val T97], []⟩
def ipfrag_end_S1 : Spec := ⟨[.val .i64], []⟩
def ipfrag_end_K (_N : Nat) : XE → GS → Option ipfrag_end_R := retK 0 [2] [false] ipfrag_end_S1
def ipfrag_end_L : List Code := (bodyOf (some Try.f160))
theorem ipfrag_end_b {E : Env} (N : Nat) (hb : Base Try.prog (ipfrag_end_C N) E 0) : Blk Try.prog (ipfrag_end_C N) E (List.range ipfrag_end_S0.ks.length) ipfrag_end_S0 (ipfrag_end_L.drop 0) (fun y => ipfrag_end N y.1.1) (ipfrag_end_K N) :=
 Blk.chunkAt hb 3 (X := (ipfrag_end_K N .normal)) (NxOk.end (by kernel_rfl)) rfl (fun x => by kernel_rfl)
def ipfrag_end_ctr (N : Nat) : Ctr := ⟨ipfrag_end_S0, ipfrag_end_S1.un [false], 0, (fun y => ipfrag_end N y.1.1)⟩
theorem ipfrag_end_ctrs (N : Nat) : CtrsOk Try.prog (ipfrag_end_C N) := ctrs_nil G_ifs_ok rfl
theorem ipfrag_end_ok (N : Nat) : Ctr.ok Try.prog G_globs 160 (ipfrag_end_ctr N) :=
 ctr_fn (Γ := ipfrag_end_C N) (rfit := ipfrag_end_S1) (bs := [false]) (res := [2]) (by kernel_rfl) (tys_ok G_tys_ok) (ipfrag_end_ctrs N) Try.func160 (by kernel_rfl) (by kernel_rfl) Try.ntmps160 (by kernel_rfl) (by kernel_rfl) (by kernel_rfl) (by kernel_rfl) (fun E hb => ipfrag_end_b N hb)
/-! ipsecgate/ipfrag.inside -/
abbrev ipfrag_inside_R : Type := ((Bool × Unit) × (Unit))
def ipfrag_inside (N : Nat) (a_0 : D97) (b_1 : D97) : Option ipfrag_inside_R :=
 bif (decide ((a_0.2.2.2.2.2.1.length : Int) = (0 : Int))) then
 bif (decide (b_1.2.2.2.1 < a_0.2.2.2.1)) then
 Option.bind (ipfrag_end N b_1) fun y4 =>
 some (((decide (a_0.2.2.2.1 < y4.1.1)), ()), (()))
 else
 some ((false, ()), (()))
 else
 some ((false, ()), (()))
def ipfrag_inside_C (N : Nat) : Ctx := ⟨23, G_tys, [(160, ipfrag_end_ctr N)], G_globs, G_ifs⟩
def ipfrag_inside_S0 : Spec := ⟨[.val T97, .val T97], []⟩
def ipfrag_inside_S1 : Spec := ⟨[.val .bool], []⟩
def ipfrag_inside_K (_N : Nat) : XE → GS → Option ipfrag_inside_R := retK 0 [4] [false] ipfrag_inside_S1
def ipfrag_inside_L : List Code := (bodyOf (some Try.f161))
theorem ipfrag_inside_b {E : Env} (N : Nat) (hb : Base Try.prog (ipfrag_inside_C N) E 0) : Blk Try.prog (ipfrag_inside_C N) E (List.range ipfrag_inside_S0.ks.length) ipfrag_inside_S0 (ipfrag_inside_L.drop 0) (fun y => ipfrag_inside N y.1.1 y.1.2.1) (ipfrag_inside_K N) :=
 Blk.chunkAt hb 3 (X := (ipfrag_inside_K N .normal)) (NxOk.end (by kernel_rfl)) rfl (fun x => by kernel_rfl)
def ipfrag_inside_ctr (N : Nat) : Ctr := ⟨ipfrag_inside_S0, ipfrag_inside_S1.un [false], 0, (fun y => ipfrag_inside N y.1.1 y.1.2.1)⟩
theorem ipfrag_inside_ctrs (N : Nat) : CtrsOk Try.prog (ipfrag_inside_C N) := ctrs_of (Γ := ipfrag_inside_C N) G_ifs_ok (by
 intro p hp
 simp only [ipfrag_inside_C, List.mem_cons, List.not_mem_nil, or_false] at hp
 rcases hp with rfl
 · exact ipfrag_end_ok N)
theorem ipfrag_inside_ok (N : Nat) : Ctr.ok Try.prog G_globs 161 (ipfrag_inside_ctr N) :=
 ctr_fn (Γ := ipfrag_inside_C N) (rfit := ipfrag_inside_S1) (bs := [false]) (res := [4]) (by kernel_rfl) (tys_ok G_tys_ok) (ipfrag_inside_ctrs N) Try.func161 (by kernel_rfl) (by kernel_rfl) Try.ntmps161 (by kernel_rfl) (by kernel_rfl) (by kernel_rfl) (by kernel_rfl) (fun E hb => ipfrag_inside_b N hb)
/-! ipsecgate/ipfrag.overlap -/
abbrev ipfrag_overlap_R : Type := ((Bool × Unit) × (Unit))
def ipfrag_overlap (N : Nat) (a_0 : D97) (b_1 : D97) : Option ipfrag_overlap_R :=
 Option.bind (ipfrag_end N a_0) fun y2 =>
 Option.bind (ipfrag_end N b_1) fun y3 =>
 bif (decide ((bif decide (a_0.2.2.2.1 < b_1.2.2.2.1) then b_1.2.2.2.1 else a_0.2.2.2.1) < (bif decide (y3.1.1 < y2.1.1) then y3.1.1 else y2.1.1))) then
 some ((true, ()), (()))
 else
 Option.bind (ipfrag_inside N a_0 b_1) fun y6 =>
 bif y6.1.1 then
 some ((true, ()), (()))
 else
 Option.bind (ipfrag_inside N b_1 a_0) fun y7 =>
 some ((y7.1.1, ()), (()))
def ipfrag_overlap_C (N : Nat) : Ctx := ⟨26, G_tys, [(160, ipfrag_end_ctr N), (161, ipfrag_inside_ctr N)], G_globs, G_ifs⟩
def ipfrag_overlap_S0 : Spec := ⟨[.val T97, .val T97], []⟩
def ipfrag_overlap_S1 : Spec := ⟨[.val .bool], []⟩
def ipfrag_overlap_K (_N : Nat) : XE → GS → Option ipfrag_overlap_R := retK 0 [4] [false] ipfrag_overlap_S1
def ipfrag_overlap_L : List Code := (bodyOf (some Try.f131))
theorem ipfrag_overlap_b {E : Env} (N : Nat) (hb : Base Try.prog (ipfrag_overlap_C N) E 0) : Blk Try.prog (ipfrag_overlap_C N) E (List.range ipfrag_overlap_S0.ks.length) ipfrag_overlap_S0 (ipfrag_overlap_L.drop 0) (fun y => ipfrag_overlap N y.1.1 y.1.2.1) (ipfrag_overlap_K N) :=
 Blk.chunkAt hb 3 (X := (ipfrag_overlap_K N .normal)) (NxOk.end (by kernel_rfl)) rfl (fun x => by kernel_rfl)
def ipfrag_overlap_ctr (N : Nat) : Ctr := ⟨ipfrag_overlap_S0, ipfrag_overlap_S1.un [false], 0, (fun y => ipfrag_overlap N y.1.1 y.1.2.1)⟩
theorem ipfrag_overlap_ctrs (N : Nat) : CtrsOk Try.prog (ipfrag_overlap_C N) := ctrs_of (Γ := ipfrag_overlap_C N) G_ifs_ok (by
 intro p hp
 simp only [ipfrag_overlap_C, List.mem_cons, List.not_mem_nil, or_false] at hp
 rcases hp with rfl | rfl
 · exact ipfrag_end_ok N
 · exact ipfrag_inside_ok N)
theorem ipfrag_overlap_ok (N : Nat) : Ctr.ok Try.prog G_globs 131 (ipfrag_overlap_ctr N) :=
 ctr_fn (Γ := ipfrag_overlap_C N) (rfit := ipfrag_overlap_S1) (bs := [false]) (res := [4]) (by kernel_rfl) (tys_ok G_tys_ok) (ipfrag_overlap_ctrs N) Try.func131 (by kernel_rfl) (by kernel_rfl) Try.ntmps131 (by kernel_rfl) (by kernel_rfl) (by kernel_rfl) (by kernel_rfl) (fun E hb => ipfrag_overlap_b N hb)
/-! ipsecgate/ipfrag.beyond -/
abbrev ipfrag_beyond_R : Type := ((Bool × Unit) × (Unit))
def ipfrag_beyond (N : Nat) (a_0 : D97) (b_1 : D97) : Option ipfrag_beyond_R :=
 bif (!a_0.2.2.2.2.1) then
 bif (!b_1.2.2.2.2.1) then
 some ((true, ()), (()))
 else
 Option.bind (ipfrag_end N b_1) fun y3 =>
 Option.bind (ipfrag_end N a_0) fun y4 =>
 bif (decide (y4.1.1 < y3.1.1)) then
 some ((true, ()), (()))
 else
 bif (!b_1.2.2.2.2.1) then
 Option.bind (ipfrag_end N a_0) fun y7 =>
 Option.bind (ipfrag_end N b_1) fun y8 =>
 some (((decide (y8.1.1 < y7.1.1)), ()), (()))
 else
 some ((false, ()), (()))
 else
 bif (!b_1.2.2.2.2.1) then
 Option.bind (ipfrag_end N a_0) fun y11 =>
 Option.bind (ipfrag_end N b_1) fun y12 =>
 some (((decide (y12.1.1 < y11.1.1)), ()), (()))
 else
 some ((false, ()), (()))
def ipfrag_beyond_C (N : Nat) : Ctx := ⟨32, G_tys, [(160, ipfrag_end_ctr N)], G_globs, G_ifs⟩
def ipfrag_beyond_S0 : Spec := ⟨[.val T97, .val T97], []⟩
def ipfrag_beyond_S1 : Spec := ⟨[.val .bool], []⟩
def ipfrag_beyond_K (_N : Nat) : XE → GS → Option ipfrag_beyond_R := retK 0 [4] [false] ipfrag_beyond_S1
def ipfrag_beyond_L : List Code := (bodyOf (some Try.f133))
theorem ipfrag_beyond_b {E : Env} (N : Nat) (hb : Base Try.prog (ipfrag_beyond_C N) E 0) : Blk Try.prog (ipfrag_beyond_C N) E (List.range ipfrag_beyond_S0.ks.length) ipfrag_beyond_S0 (ipfrag_beyond_L.drop 0) (fun y => ipfrag_beyond N y.1.1 y.1.2.1) (ipfrag_beyond_K N) :=
 Blk.chunkAt hb 3 (X := (ipfrag_beyond_K N .normal)) (NxOk.end (by kernel_rfl)) rfl (fun x => by kernel_rfl)
def ipfrag_beyond_ctr (N : Nat) : Ctr := ⟨ipfrag_beyond_S0, ipfrag_beyond_S1.un [false], 0, (fun y => ipfrag_beyond N y.1.1 y.1.2.1)⟩
theorem ipfrag_beyond_ctrs (N : Nat) : CtrsOk Try.prog (ipfrag_beyond_C N) := ctrs_of (Γ := ipfrag_beyond_C N) G_ifs_ok (by
 intro p hp
 simp only [ipfrag_beyond_C, List.mem_cons, List.not_mem_nil, or_false] at hp
 rcases hp with rfl
 · exact ipfrag_end_ok N)
theorem ipfrag_beyond_ok (N : Nat) : Ctr.ok Try.prog G_globs 133 (ipfrag_beyond_ctr N) :=
 ctr_fn (Γ := ipfrag_beyond_C N) (rfit := ipfrag_beyond_S1) (bs := [false]) (res := [4]) (by kernel_rfl) (tys_ok G_tys_ok) (ipfrag_beyond_ctrs N) Try.func133 (by kernel_rfl) (by kernel_rfl) Try.ntmps133 (by kernel_rfl) (by kernel_rfl) (by kernel_rfl) (by kernel_rfl) (fun E hb => ipfrag_beyond_b N hb)
/-! ipsecgate/ipfrag.right -/
abbrev ipfrag_right_R : Type := ((Bool × Unit) × (Unit))
def ipfrag_right (N : Nat) (p_0 : D97) : Option ipfrag_right_R :=
 let x1 := (p_0.2.2.2.2.2.1.length : Int)
 Option.bind (ipfrag_family N p_0.1 p_0.2.1) fun y2 =>
 bif y2.1.1 then
 bif (decide ((0 : Int) ≤ p_0.2.2.1)) then
 bif (decide ((0 : Int) ≤ p_0.2.2.2.1)) then
 bif (decide (p_0.2.2.2.1 ≤ (4096 : Int))) then
 bif (decide ((p_0.2.2.2.1.tmod (8 : Int)) = (0 : Int))) then
 bif (decide ((w64 (p_0.2.2.2.1 + x1)) ≤ (4096 : Int))) then
 bif (!p_0.2.2.2.2.1) then
 some ((true, ()), (()))
 else
 bif (decide ((0 : Int) < x1)) then
 some (((decide ((x1.tmod (8 : Int)) = (0 : Int))), ()), (()))
 else
 some ((false, ()), (()))
 else
 some ((false, ()), (()))
 else
 some ((false, ()), (()))
 else
 some ((false, ()), (()))
 else
 some ((false, ()), (()))
 else
 some ((false, ()), (()))
 else
 some ((false, ()), (()))
def ipfrag_right_C (N : Nat) : Ctx := ⟨54, G_tys, [(73, ipfrag_family_ctr N)], G_globs, G_ifs⟩
def ipfrag_right_S0 : Spec := ⟨[.val T97], []⟩
def ipfrag_right_S1 : Spec := ⟨[.val .bool], []⟩
def ipfrag_right_K (_N : Nat) : XE → GS → Option ipfrag_right_R := retK 0 [2] [false] ipfrag_right_S1
def ipfrag_right_L : List Code := (bodyOf (some Try.f124))
theorem ipfrag_right_b {E : Env} (N : Nat) (hb : Base Try.prog (ipfrag_right_C N) E 0) : Blk Try.prog (ipfrag_right_C N) E (List.range ipfrag_right_S0.ks.length) ipfrag_right_S0 (ipfrag_right_L.drop 0) (fun y => ipfrag_right N y.1.1) (ipfrag_right_K N) :=
 Blk.chunkAt hb 4 (X := (ipfrag_right_K N .normal)) (NxOk.end (by kernel_rfl)) rfl (fun x => by kernel_rfl)
def ipfrag_right_ctr (N : Nat) : Ctr := ⟨ipfrag_right_S0, ipfrag_right_S1.un [false], 0, (fun y => ipfrag_right N y.1.1)⟩
theorem ipfrag_right_ctrs (N : Nat) : CtrsOk Try.prog (ipfrag_right_C N) := ctrs_of (Γ := ipfrag_right_C N) G_ifs_ok (by
 intro p hp
 simp only [ipfrag_right_C, List.mem_cons, List.not_mem_nil, or_false] at hp
 rcases hp with rfl
 · exact ipfrag_family_ok N)
theorem ipfrag_right_ok (N : Nat) : Ctr.ok Try.prog G_globs 124 (ipfrag_right_ctr N) :=
 ctr_fn (Γ := ipfrag_right_C N) (rfit := ipfrag_right_S1) (bs := [false]) (res := [2]) (by kernel_rfl) (tys_ok G_tys_ok) (ipfrag_right_ctrs N) Try.func124 (by kernel_rfl) (by kernel_rfl) Try.ntmps124 (by kernel_rfl) (by kernel_rfl) (by kernel_rfl) (by kernel_rfl) (fun E hb => ipfrag_right_b N hb)
/-! ipsecgate/ipfrag.complete -/
abbrev ipfrag_complete_R : Type := ((Bool × Unit) × ((List UInt8) × Unit))
def ipfrag_complete_s2 (N : Nat) (t_8 : (List D97)) (t_9 : Int) (t_10 : Int) (data_4 : (List UInt8)) : Option (Lo (((List D97) × Int × Int × Unit) × ((List UInt8) × Unit)) ((Unit) × (Unit)) ipfrag_complete_R) :=
 bif (decide (t_10 < t_9)) then
 bif inR t_10 t_8.length then
 let x3 := t_8.getD t_10.toNat (((0 : Int), (0 : UInt64), (0 : UInt64), ()), ((0 : Int), (0 : UInt64), (0 : UInt64), ()), (0 : Int), (0 : Int), false, ([] : List UInt8), ())
 bif (!(decide (x3.2.2.2.1 = (data_4.length : Int)))) then
 some (.rt ((false, ()), (([] : List UInt8), ())))
 else
 bif room (data_4.length + x3.2.2.2.2.2.1.length) 1 then
 let x6 := data_4 ++ x3.2.2.2.2.2.1
 bif (!x3.2.2.2.2.1) then
 some (.rt ((true, ()), (x6, ())))
 else
 some (.go ((t_8, t_9, (w64 (t_10 + (1 : Int))), ()), (x6, ())))
 else none
 else none
 else
 some (.br ((()), (())))
def ipfrag_complete_3 (N : Nat) : Option ipfrag_complete_R :=
 some ((false, ()), (([] : List UInt8), ()))
def ipfrag_complete_1 (N : Nat) (t_8 : (List D97)) (t_9 : Int) (t_10 : Int) (data_4 : (List UInt8)) : Option ipfrag_complete_R :=
 loopK N (fun y => ipfrag_complete_s2 N y.1.1 y.1.2.1 y.1.2.2.1 y.2.1) (fun (e : ((Unit) × (Unit))) => ipfrag_complete_3 N) ((t_8, t_9, t_10, ()), (data_4, ()))
def ipfrag_complete (N : Nat) (l_0 : (List D97)) : Option ipfrag_complete_R :=
 ipfrag_complete_1 N l_0 (l_0.length : Int) (0 : Int) ([] : List UInt8)
def ipfrag_complete_C (N : Nat) : Ctx := ⟨28, G_tys, [], G_globs, G_ifs⟩
def ipfrag_complete_S0 : Spec := ⟨[.row 0, .val (.sl T97), .val .i64, .val .i64], [(.row 5 .u8, .pos 0)]⟩
def ipfrag_complete_S1 : Spec := ⟨[], []⟩
def ipfrag_complete_S2 : Spec := ⟨[.val (.sl T97)], []⟩
def ipfrag_complete_S3 : Spec := ⟨[.row 0, .val .bool], [(.row 5 .u8, .pos 0)]⟩
def ipfrag_complete_K (_N : Nat) : XE → GS → Option ipfrag_complete_R := retK 0 [2, 3] [false, false] ipfrag_complete_S3
def ipfrag_complete_L : List Code := (bodyOf (some Try.f137))
def ipfrag_complete_L2 : List Code := (loopOf (ipfrag_complete_L[3]?))
def ipfrag_complete_K2 (N : Nat) : XE → GS → Option (Lo (((List D97) × Int × Int × Unit) × ((List UInt8) × Unit)) ((Unit) × (Unit)) ipfrag_complete_R) := roundK (some 0) (fit 0 [4, 8, 9, 10] ipfrag_complete_S0) (fit 0 [] ipfrag_complete_S1) (ipfrag_complete_K N)
theorem ipfrag_complete_s2_b {E : Env} (N : Nat) (hb : Base Try.prog (ipfrag_complete_C N) E 0) : Blk Try.prog (ipfrag_complete_C N) E [4, 8, 9, 10] ipfrag_complete_S0 (ipfrag_complete_L2.drop 0) (fun y => ipfrag_complete_s2 N y.1.1 y.1.2.1 y.1.2.2.1 y.2.1) (ipfrag_complete_K2 N) :=
 Blk.chunkAt hb 4 (X := (ipfrag_complete_K2 N .normal)) (NxOk.end (by kernel_rfl)) rfl (fun x => by kernel_rfl)
theorem ipfrag_complete_3_b {E : Env} (N : Nat) (hb : Base Try.prog (ipfrag_complete_C N) E 0) : Blk Try.prog (ipfrag_complete_C N) E [] ipfrag_complete_S1 (ipfrag_complete_L.drop 4) (fun y => ipfrag_complete_3 N) (ipfrag_complete_K N) :=
 Blk.chunkAt hb 2 (X := (ipfrag_complete_K N .normal)) (NxOk.end (by kernel_rfl)) rfl (fun x => by kernel_rfl)
theorem ipfrag_complete_1_b {E : Env} (N : Nat) (hb : Base Try.prog (ipfrag_complete_C N) E 0) : Blk Try.prog (ipfrag_complete_C N) E [4, 8, 9, 10] ipfrag_complete_S0 (ipfrag_complete_L.drop 3) (fun y => ipfrag_complete_1 N y.1.1 y.1.2.1 y.1.2.2.1 y.2.1) (ipfrag_complete_K N) :=
 Blk.loopAt (Nf := N) (hns := [4, 8, 9, 10]) (ans := []) (hc := ipfrag_complete_S0) (ac := ipfrag_complete_S1) (bid := 0) (step := (fun y => ipfrag_complete_s2 N y.1.1 y.1.2.1 y.1.2.2.1 y.2.1)) (J := (fun e => (goK 0 [] ipfrag_complete_S1 (fun y => ipfrag_complete_3 N)) (ipfrag_complete_S1.st [] e))) hb (by kernel_rfl) (Blk.into (X := (goK 0 [] ipfrag_complete_S1 (fun y => ipfrag_complete_3 N))) (NxOk.go hb (ipfrag_complete_3_b N hb)) (fun x => by kernel_rfl)) (ipfrag_complete_s2_b N hb) (fun x => by kernel_rfl)
theorem ipfrag_complete_b {E : Env} (N : Nat) (hb : Base Try.prog (ipfrag_complete_C N) E 0) : Blk Try.prog (ipfrag_complete_C N) E (List.range ipfrag_complete_S2.ks.length) ipfrag_complete_S2 (ipfrag_complete_L.drop 0) (fun y => ipfrag_complete N y.1.1) (ipfrag_complete_K N) :=
 Blk.chunkAt hb 3 (X := (goK 0 [4, 8, 9, 10] ipfrag_complete_S0 (fun y => ipfrag_complete_1 N y.1.1 y.1.2.1 y.1.2.2.1 y.2.1))) (NxOk.go hb (ipfrag_complete_1_b N hb)) rfl (fun x => by kernel_rfl)
def ipfrag_complete_ctr (N : Nat) : Ctr := ⟨ipfrag_complete_S2, ipfrag_complete_S3.un [false, false], 0, (fun y => ipfrag_complete N y.1.1)⟩
theorem ipfrag_complete_ctrs (N : Nat) : CtrsOk Try.prog (ipfrag_complete_C N) := ctrs_nil G_ifs_ok rfl
theorem ipfrag_complete_ok (N : Nat) : Ctr.ok Try.prog G_globs 137 (ipfrag_complete_ctr N) :=
 ctr_fn (Γ := ipfrag_complete_C N) (rfit := ipfrag_complete_S3) (bs := [false, false]) (res := [2, 3]) (by kernel_rfl) (tys_ok G_tys_ok) (ipfrag_complete_ctrs N) Try.func137 (by kernel_rfl) (by kernel_rfl) Try.ntmps137 (by kernel_rfl) (by kernel_rfl) (by kernel_rfl) (by kernel_rfl) (fun E hb => ipfrag_complete_b N hb)
/-! ipsecgate/ipfrag.Add$1 -/
abbrev ipfrag_Add_f1_R : Type := ((Bool × Unit) × (Unit))
def ipfrag_Add_f1 (N : Nat) (a_0 : D99) (t_1 : D97) : Option ipfrag_Add_f1_R :=
 bif (dq T27 a_0.1 t_1.1) then
 bif (dq T27 a_0.2.1 t_1.2.1) then
 some (((decide (a_0.2.2.1 = t_1.2.2.1)), ()), (()))
 else
 some ((false, ()), (()))
 else
 some ((false, ()), (()))
def ipfrag_Add_f1_C (N : Nat) : Ctx := ⟨23, G_tys, [], G_globs, G_ifs⟩
def ipfrag_Add_f1_S0 : Spec := ⟨[.val T99, .fp T97], []⟩
def ipfrag_Add_f1_S1 : Spec := ⟨[.val .bool], []⟩
def ipfrag_Add_f1_K (_N : Nat) : XE → GS → Option ipfrag_Add_f1_R := retK 0 [3] [false] ipfrag_Add_f1_S1
def ipfrag_Add_f1_L : List Code := (bodyOf (some Try.f126))
theorem ipfrag_Add_f1_b {E : Env} (N : Nat) (hb : Base Try.prog (ipfrag_Add_f1_C N) E 0) : Blk Try.prog (ipfrag_Add_f1_C N) E (List.range ipfrag_Add_f1_S0.ks.length) ipfrag_Add_f1_S0 (ipfrag_Add_f1_L.drop 0) (fun y => ipfrag_Add_f1 N y.1.1 y.1.2.1) (ipfrag_Add_f1_K N) :=
 Blk.chunkAt hb 3 (X := (ipfrag_Add_f1_K N .normal)) (NxOk.end (by kernel_rfl)) rfl (fun x => by kernel_rfl)
def ipfrag_Add_f1_ctr (N : Nat) : Ctr := ⟨ipfrag_Add_f1_S0, ipfrag_Add_f1_S1.un [false], 0, (fun y => ipfrag_Add_f1 N y.1.1 y.1.2.1)⟩
theorem ipfrag_Add_f1_ctrs (N : Nat) : CtrsOk Try.prog (ipfrag_Add_f1_C N) := ctrs_nil G_ifs_ok rfl
theorem ipfrag_Add_f1_ok (N : Nat) : Ctr.ok Try.prog G_globs 126 (ipfrag_Add_f1_ctr N) :=
 ctr_fn (Γ := ipfrag_Add_f1_C N) (rfit := ipfrag_Add_f1_S1) (bs := [false]) (res := [3]) (by kernel_rfl) (tys_ok G_tys_ok) (ipfrag_Add_f1_ctrs N) Try.func126 (by kernel_rfl) (by kernel_rfl) Try.ntmps126 (by kernel_rfl) (by kernel_rfl) (by kernel_rfl) (by kernel_rfl) (fun E hb => ipfrag_Add_f1_b N hb)
/-! slices.IndexFunc[[]ipsecgate/api.Assembly,ipsecgate/api.Assembly]_ipfrag.Add$1 -/
abbrev slices_IndexFunc___api_Assembly_api_Assembly__ipfrag_Add_f1_R : Type := ((Int × Unit) × (D97 × Unit))
def slices_IndexFunc___api_Assembly_api_Assembly__ipfrag_Add_f1_s2 (N : Nat) (s_0 : (List D99)) (t_7 : Int) (t_8 : Int) (p0 : D97) : Option (Lo (((List D99) × Int × Int × Unit) × (D97 × Unit)) ((Unit) × (D97 × Unit)) slices_IndexFunc___api_Assembly_api_Assembly__ipfrag_Add_f1_R) :=
 bif (decide (t_8 < t_7)) then
 bif inR t_8 s_0.length then
 Option.bind (ipfrag_Add_f1 N (s_0.getD t_8.toNat (((0 : Int), (0 : UInt64), (0 : UInt64), ()), ((0 : Int), (0 : UInt64), (0 : UInt64), ()), (0 : Int), ([] : List D97), (0 : Int), ())) p0) fun y4 =>
 bif y4.1.1 then
 some (.rt ((t_8, ()), (p0, ())))
 else
 some (.go ((s_0, t_7, (w64 (t_8 + (1 : Int))), ()), (p0, ())))
 else none
 else
 some (.br ((()), (p0, ())))
def slices_IndexFunc___api_Assembly_api_Assembly__ipfrag_Add_f1_3 (N : Nat) (p0 : D97) : Option slices_IndexFunc___api_Assembly_api_Assembly__ipfrag_Add_f1_R :=
 some (((-1 : Int), ()), (p0, ()))
def slices_IndexFunc___api_Assembly_api_Assembly__ipfrag_Add_f1_1 (N : Nat) (s_0 : (List D99)) (t_7 : Int) (t_8 : Int) (p0 : D97) : Option slices_IndexFunc___api_Assembly_api_Assembly__ipfrag_Add_f1_R :=
 loopK N (fun y => slices_IndexFunc___api_Assembly_api_Assembly__ipfrag_Add_f1_s2 N y.1.1 y.1.2.1 y.1.2.2.1 y.2.1) (fun (e : ((Unit) × (D97 × Unit))) => slices_IndexFunc___api_Assembly_api_Assembly__ipfrag_Add_f1_3 N e.2.1) ((s_0, t_7, t_8, ()), (p0, ()))
def slices_IndexFunc___api_Assembly_api_Assembly__ipfrag_Add_f1 (N : Nat) (s_0 : (List D99)) (f_1_0 : D97) : Option slices_IndexFunc___api_Assembly_api_Assembly__ipfrag_Add_f1_R :=
 slices_IndexFunc___api_Assembly_api_Assembly__ipfrag_Add_f1_1 N s_0 (s_0.length : Int) (0 : Int) f_1_0
def slices_IndexFunc___api_Assembly_api_Assembly__ipfrag_Add_f1_C (N : Nat) : Ctx := ⟨19, G_tys, [(126, ipfrag_Add_f1_ctr N)], G_globs, G_ifs⟩
def slices_IndexFunc___api_Assembly_api_Assembly__ipfrag_Add_f1_S0 : Spec := ⟨[.val (.sl T99), .clo 126 [(0, T97)], .val .i64, .val .i64], [(.box 98 T97, .fix 0)]⟩
def slices_IndexFunc___api_Assembly_api_Assembly__ipfrag_Add_f1_S1 : Spec := ⟨[], [(.box 98 T97, .fix 0)]⟩
def slices_IndexFunc___api_Assembly_api_Assembly__ipfrag_Add_f1_S2 : Spec := ⟨[.val (.sl T99), .clo 126 [(0, T97)]], [(.box 98 T97, .cap 1 0)]⟩
def slices_IndexFunc___api_Assembly_api_Assembly__ipfrag_Add_f1_S3 : Spec := ⟨[.val .i64], [(.box 98 T97, .fix 0)]⟩
def slices_IndexFunc___api_Assembly_api_Assembly__ipfrag_Add_f1_K (_N : Nat) : XE → GS → Option slices_IndexFunc___api_Assembly_api_Assembly__ipfrag_Add_f1_R := retK 1 [4] [false] slices_IndexFunc___api_Assembly_api_Assembly__ipfrag_Add_f1_S3
def slices_IndexFunc___api_Assembly_api_Assembly__ipfrag_Add_f1_L : List Code := (bodyOf (some Try.f125))
def slices_IndexFunc___api_Assembly_api_Assembly__ipfrag_Add_f1_L2 : List Code := (loopOf (slices_IndexFunc___api_Assembly_api_Assembly__ipfrag_Add_f1_L[2]?))
def slices_IndexFunc___api_Assembly_api_Assembly__ipfrag_Add_f1_K2 (N : Nat) : XE → GS → Option (Lo (((List D99) × Int × Int × Unit) × (D97 × Unit)) ((Unit) × (D97 × Unit)) slices_IndexFunc___api_Assembly_api_Assembly__ipfrag_Add_f1_R) := roundK (some 0) (fit 1 [0, 1, 7, 8] slices_IndexFunc___api_Assembly_api_Assembly__ipfrag_Add_f1_S0) (fit 1 [] slices_IndexFunc___api_Assembly_api_Assembly__ipfrag_Add_f1_S1) (slices_IndexFunc___api_Assembly_api_Assembly__ipfrag_Add_f1_K N)
theorem slices_IndexFunc___api_Assembly_api_Assembly__ipfrag_Add_f1_s2_b {E : Env} (N : Nat) (hb : Base Try.prog (slices_IndexFunc___api_Assembly_api_Assembly__ipfrag_Add_f1_C N) E 1) : Blk Try.prog (slices_IndexFunc___api_Assembly_api_Assembly__ipfrag_Add_f1_C N) E [0, 1, 7, 8] slices_IndexFunc___api_Assembly_api_Assembly__ipfrag_Add_f1_S0 (slices_IndexFunc___api_Assembly_api_Assembly__ipfrag_Add_f1_L2.drop 0) (fun y => slices_IndexFunc___api_Assembly_api_Assembly__ipfrag_Add_f1_s2 N y.1.1 y.1.2.1 y.1.2.2.1 y.2.1) (slices_IndexFunc___api_Assembly_api_Assembly__ipfrag_Add_f1_K2 N) :=
 Blk.chunkAt hb 4 (X := (slices_IndexFunc___api_Assembly_api_Assembly__ipfrag_Add_f1_K2 N .normal)) (NxOk.end (by kernel_rfl)) rfl (fun x => by kernel_rfl)
theorem slices_IndexFunc___api_Assembly_api_Assembly__ipfrag_Add_f1_3_b {E : Env} (N : Nat) (hb : Base Try.prog (slices_IndexFunc___api_Assembly_api_Assembly__ipfrag_Add_f1_C N) E 1) : Blk Try.prog (slices_IndexFunc___api_Assembly_api_Assembly__ipfrag_Add_f1_C N) E [] slices_IndexFunc___api_Assembly_api_Assembly__ipfrag_Add_f1_S1 (slices_IndexFunc___api_Assembly_api_Assembly__ipfrag_Add_f1_L.drop 3) (fun y => slices_IndexFunc___api_Assembly_api_Assembly__ipfrag_Add_f1_3 N y.2.1) (slices_IndexFunc___api_Assembly_api_Assembly__ipfrag_Add_f1_K N) :=
 Blk.chunkAt hb 2 (X := (slices_IndexFunc___api_Assembly_api_Assembly__ipfrag_Add_f1_K N .normal)) (NxOk.end (by kernel_rfl)) rfl (fun x => by kernel_rfl)
theorem slices_IndexFunc___api_Assembly_api_Assembly__ipfrag_Add_f1_1_b {E : Env} (N : Nat) (hb : Base Try.prog (slices_IndexFunc___api_Assembly_api_Assembly__ipfrag_Add_f1_C N) E 1) : Blk Try.prog (slices_IndexFunc___api_Assembly_api_Assembly__ipfrag_Add_f1_C N) E [0, 1, 7, 8] slices_IndexFunc___api_Assembly_api_Assembly__ipfrag_Add_f1_S0 (slices_IndexFunc___api_Assembly_api_Assembly__ipfrag_Add_f1_L.drop 2) (fun y => slices_IndexFunc___api_Assembly_api_Assembly__ipfrag_Add_f1_1 N y.1.1 y.1.2.1 y.1.2.2.1 y.2.1) (slices_IndexFunc___api_Assembly_api_Assembly__ipfrag_Add_f1_K N) :=
 Blk.loopAt (Nf := N) (hns := [0, 1, 7, 8]) (ans := []) (hc := slices_IndexFunc___api_Assembly_api_Assembly__ipfrag_Add_f1_S0) (ac := slices_IndexFunc___api_Assembly_api_Assembly__ipfrag_Add_f1_S1) (bid := 0) (step := (fun y => slices_IndexFunc___api_Assembly_api_Assembly__ipfrag_Add_f1_s2 N y.1.1 y.1.2.1 y.1.2.2.1 y.2.1)) (J := (fun e => (goK 1 [] slices_IndexFunc___api_Assembly_api_Assembly__ipfrag_Add_f1_S1 (fun y => slices_IndexFunc___api_Assembly_api_Assembly__ipfrag_Add_f1_3 N y.2.1)) (slices_IndexFunc___api_Assembly_api_Assembly__ipfrag_Add_f1_S1.st [] e))) hb (by kernel_rfl) (Blk.into (X := (goK 1 [] slices_IndexFunc___api_Assembly_api_Assembly__ipfrag_Add_f1_S1 (fun y => slices_IndexFunc___api_Assembly_api_Assembly__ipfrag_Add_f1_3 N y.2.1))) (NxOk.go hb (slices_IndexFunc___api_Assembly_api_Assembly__ipfrag_Add_f1_3_b N hb)) (fun x => by kernel_rfl)) (slices_IndexFunc___api_Assembly_api_Assembly__ipfrag_Add_f1_s2_b N hb) (fun x => by kernel_rfl)
theorem slices_IndexFunc___api_Assembly_api_Assembly__ipfrag_Add_f1_b {E : Env} (N : Nat) (hb : Base Try.prog (slices_IndexFunc___api_Assembly_api_Assembly__ipfrag_Add_f1_C N) E 1) : Blk Try.prog (slices_IndexFunc___api_Assembly_api_Assembly__ipfrag_Add_f1_C N) E (List.range slices_IndexFunc___api_Assembly_api_Assembly__ipfrag_Add_f1_S2.ks.length) slices_IndexFunc___api_Assembly_api_Assembly__ipfrag_Add_f1_S2 (slices_IndexFunc___api_Assembly_api_Assembly__ipfrag_Add_f1_L.drop 0) (fun y => slices_IndexFunc___api_Assembly_api_Assembly__ipfrag_Add_f1 N y.1.1 y.2.1) (slices_IndexFunc___api_Assembly_api_Assembly__ipfrag_Add_f1_K N) :=
 Blk.chunkAt hb 2 (X := (goK 1 [0, 1, 7, 8] slices_IndexFunc___api_Assembly_api_Assembly__ipfrag_Add_f1_S0 (fun y => slices_IndexFunc___api_Assembly_api_Assembly__ipfrag_Add_f1_1 N y.1.1 y.1.2.1 y.1.2.2.1 y.2.1))) (NxOk.go hb (slices_IndexFunc___api_Assembly_api_Assembly__ipfrag_Add_f1_1_b N hb)) rfl (fun x => by kernel_rfl)
def slices_IndexFunc___api_Assembly_api_Assembly__ipfrag_Add_f1_ctr (N : Nat) : Ctr := ⟨slices_IndexFunc___api_Assembly_api_Assembly__ipfrag_Add_f1_S2, slices_IndexFunc___api_Assembly_api_Assembly__ipfrag_Add_f1_S3.un [false], 1, (fun y => slices_IndexFunc___api_Assembly_api_Assembly__ipfrag_Add_f1 N y.1.1 y.2.1)⟩
theorem slices_IndexFunc___api_Assembly_api_Assembly__ipfrag_Add_f1_ctrs (N : Nat) : CtrsOk Try.prog (slices_IndexFunc___api_Assembly_api_Assembly__ipfrag_Add_f1_C N) := ctrs_of (Γ := slices_IndexFunc___api_Assembly_api_Assembly__ipfrag_Add_f1_C N) G_ifs_ok (by
 intro p hp
 simp only [slices_IndexFunc___api_Assembly_api_Assembly__ipfrag_Add_f1_C, List.mem_cons, List.not_mem_nil, or_false] at hp
 rcases hp with rfl
 · exact ipfrag_Add_f1_ok N)
theorem slices_IndexFunc___api_Assembly_api_Assembly__ipfrag_Add_f1_ok (N : Nat) : Ctr.ok Try.prog G_globs 125 (slices_IndexFunc___api_Assembly_api_Assembly__ipfrag_Add_f1_ctr N) :=
 ctr_fn (Γ := slices_IndexFunc___api_Assembly_api_Assembly__ipfrag_Add_f1_C N) (rfit := slices_IndexFunc___api_Assembly_api_Assembly__ipfrag_Add_f1_S3) (bs := [false]) (res := [4]) (by kernel_rfl) (tys_ok G_tys_ok) (slices_IndexFunc___api_Assembly_api_Assembly__ipfrag_Add_f1_ctrs N) Try.func125 (by kernel_rfl) (by kernel_rfl) Try.ntmps125 (by kernel_rfl) (by kernel_rfl) (by kernel_rfl) (by kernel_rfl) (fun E hb => slices_IndexFunc___api_Assembly_api_Assembly__ipfrag_Add_f1_b N hb)
/-! ipsecgate/ipfrag.Add$3 -/
abbrev ipfrag_Add_f3_R : Type := ((Int × Unit) × (Unit))
def ipfrag_Add_f3 (N : Nat) (q_0 : D97) (offset_1 : Int) : Option ipfrag_Add_f3_R :=
 some (((w64 (q_0.2.2.2.1 - offset_1)), ()), (()))
def ipfrag_Add_f3_C (N : Nat) : Ctx := ⟨9, G_tys, [], G_globs, G_ifs⟩
def ipfrag_Add_f3_S0 : Spec := ⟨[.val T97, .val .i64], []⟩
def ipfrag_Add_f3_S1 : Spec := ⟨[.val .i64], []⟩
def ipfrag_Add_f3_K (_N : Nat) : XE → GS → Option ipfrag_Add_f3_R := retK 0 [4] [false] ipfrag_Add_f3_S1
def ipfrag_Add_f3_L : List Code := (bodyOf (some Try.f135))
theorem ipfrag_Add_f3_b {E : Env} (N : Nat) (hb : Base Try.prog (ipfrag_Add_f3_C N) E 0) : Blk Try.prog (ipfrag_Add_f3_C N) E (List.range ipfrag_Add_f3_S0.ks.length) ipfrag_Add_f3_S0 (ipfrag_Add_f3_L.drop 0) (fun y => ipfrag_Add_f3 N y.1.1 y.1.2.1) (ipfrag_Add_f3_K N) :=
 Blk.chunkAt hb 3 (X := (ipfrag_Add_f3_K N .normal)) (NxOk.end (by kernel_rfl)) rfl (fun x => by kernel_rfl)
def ipfrag_Add_f3_ctr (N : Nat) : Ctr := ⟨ipfrag_Add_f3_S0, ipfrag_Add_f3_S1.un [false], 0, (fun y => ipfrag_Add_f3 N y.1.1 y.1.2.1)⟩
theorem ipfrag_Add_f3_ctrs (N : Nat) : CtrsOk Try.prog (ipfrag_Add_f3_C N) := ctrs_nil G_ifs_ok rfl
theorem ipfrag_Add_f3_ok (N : Nat) : Ctr.ok Try.prog G_globs 135 (ipfrag_Add_f3_ctr N) :=
 ctr_fn (Γ := ipfrag_Add_f3_C N) (rfit := ipfrag_Add_f3_S1) (bs := [false]) (res := [4]) (by kernel_rfl) (tys_ok G_tys_ok) (ipfrag_Add_f3_ctrs N) Try.func135 (by kernel_rfl) (by kernel_rfl) Try.ntmps135 (by kernel_rfl) (by kernel_rfl) (by kernel_rfl) (by kernel_rfl) (fun E hb => ipfrag_Add_f3_b N hb)
/-! slices.BinarySearchFunc[[]ipsecgate/api.Piece,ipsecgate/api.Piece,int]_ipfrag.Add$3 -/
abbrev slices_BinarySearchFunc___api_Piece_api_Piece_int__ipfrag_Add_f3_R : Type := ((Int × Bool × Unit) × (Unit))
def slices_BinarySearchFunc___api_Piece_api_Piece_int__ipfrag_Add_f3_s2 (N : Nat) (x_0 : (List D97)) (target_1 : Int) (n_8 : Int) (i_9 : Int) (j_10 : Int) : Option (Lo (((List D97) × Int × Int × Int × Int × Unit) × (Unit)) (((List D97) × Int × Int × Int × Unit) × (Unit)) slices_BinarySearchFunc___api_Piece_api_Piece_int__ipfrag_Add_f3_R) :=
 bif (decide (i_9 < j_10)) then
 let x6 := w64 ((shr64 (iu64 (w64 (i_9 + j_10))) 1).toNat : Int)
 bif inR x6 x_0.length then
 Option.bind (ipfrag_Add_f3 N (x_0.getD x6.toNat (((0 : Int), (0 : UInt64), (0 : UInt64), ()), ((0 : Int), (0 : UInt64), (0 : UInt64), ()), (0 : Int), (0 : Int), false, ([] : List UInt8), ())) target_1) fun y8 =>
 bif (decide (y8.1.1 < (0 : Int))) then
 some (.go ((x_0, target_1, n_8, (w64 (x6 + (1 : Int))), j_10, ()), (())))
 else
 some (.go ((x_0, target_1, n_8, i_9, x6, ()), (())))
 else none
 else
 some (.br ((x_0, target_1, n_8, i_9, ()), (())))
def slices_BinarySearchFunc___api_Piece_api_Piece_int__ipfrag_Add_f3_3 (N : Nat) (x_0 : (List D97)) (target_1 : Int) (n_8 : Int) (i_9 : Int) : Option slices_BinarySearchFunc___api_Piece_api_Piece_int__ipfrag_Add_f3_R :=
 bif (decide (i_9 < n_8)) then
 bif inR i_9 x_0.length then
 Option.bind (ipfrag_Add_f3 N (x_0.getD i_9.toNat (((0 : Int), (0 : UInt64), (0 : UInt64), ()), ((0 : Int), (0 : UInt64), (0 : UInt64), ()), (0 : Int), (0 : Int), false, ([] : List UInt8), ())) target_1) fun y13 =>
 some ((i_9, (decide (y13.1.1 = (0 : Int))), ()), (()))
 else none
 else
 some ((i_9, false, ()), (()))
def slices_BinarySearchFunc___api_Piece_api_Piece_int__ipfrag_Add_f3_1 (N : Nat) (x_0 : (List D97)) (target_1 : Int) (n_8 : Int) (i_9 : Int) (j_10 : Int) : Option slices_BinarySearchFunc___api_Piece_api_Piece_int__ipfrag_Add_f3_R :=
 loopK N (fun y => slices_BinarySearchFunc___api_Piece_api_Piece_int__ipfrag_Add_f3_s2 N y.1.1 y.1.2.1 y.1.2.2.1 y.1.2.2.2.1 y.1.2.2.2.2.1) (fun (e : (((List D97) × Int × Int × Int × Unit) × (Unit))) => slices_BinarySearchFunc___api_Piece_api_Piece_int__ipfrag_Add_f3_3 N e.1.1 e.1.2.1 e.1.2.2.1 e.1.2.2.2.1) ((x_0, target_1, n_8, i_9, j_10, ()), (()))
def slices_BinarySearchFunc___api_Piece_api_Piece_int__ipfrag_Add_f3 (N : Nat) (x_0 : (List D97)) (target_1 : Int) : Option slices_BinarySearchFunc___api_Piece_api_Piece_int__ipfrag_Add_f3_R :=
 let x1 := (x_0.length : Int)
 slices_BinarySearchFunc___api_Piece_api_Piece_int__ipfrag_Add_f3_1 N x_0 target_1 x1 (0 : Int) x1
def slices_BinarySearchFunc___api_Piece_api_Piece_int__ipfrag_Add_f3_C (N : Nat) : Ctx := ⟨49, G_tys, [(135, ipfrag_Add_f3_ctr N)], G_globs, G_ifs⟩
def slices_BinarySearchFunc___api_Piece_api_Piece_int__ipfrag_Add_f3_S0 : Spec := ⟨[.val (.sl T97), .val .i64, .clo 135 [], .val .i64, .val .i64, .val .i64], []⟩
def slices_BinarySearchFunc___api_Piece_api_Piece_int__ipfrag_Add_f3_S1 : Spec := ⟨[.val (.sl T97), .val .i64, .clo 135 [], .val .i64, .val .i64], []⟩
def slices_BinarySearchFunc___api_Piece_api_Piece_int__ipfrag_Add_f3_S2 : Spec := ⟨[.val (.sl T97), .val .i64, .clo 135 []], []⟩
def slices_BinarySearchFunc___api_Piece_api_Piece_int__ipfrag_Add_f3_S3 : Spec := ⟨[.val .i64, .val .bool], []⟩
def slices_BinarySearchFunc___api_Piece_api_Piece_int__ipfrag_Add_f3_K (_N : Nat) : XE → GS → Option slices_BinarySearchFunc___api_Piece_api_Piece_int__ipfrag_Add_f3_R := retK 0 [6, 7] [false, false] slices_BinarySearchFunc___api_Piece_api_Piece_int__ipfrag_Add_f3_S3
def slices_BinarySearchFunc___api_Piece_api_Piece_int__ipfrag_Add_f3_L : List Code := (bodyOf (some Try.f134))
def slices_BinarySearchFunc___api_Piece_api_Piece_int__ipfrag_Add_f3_L2 : List Code := (loopOf (slices_BinarySearchFunc___api_Piece_api_Piece_int__ipfrag_Add_f3_L[3]?))
def slices_BinarySearchFunc___api_Piece_api_Piece_int__ipfrag_Add_f3_K2 (N : Nat) : XE → GS → Option (Lo (((List D97) × Int × Int × Int × Int × Unit) × (Unit)) (((List D97) × Int × Int × Int × Unit) × (Unit)) slices_BinarySearchFunc___api_Piece_api_Piece_int__ipfrag_Add_f3_R) := roundK (some 0) (fit 0 [0, 1, 2, 8, 9, 10] slices_BinarySearchFunc___api_Piece_api_Piece_int__ipfrag_Add_f3_S0) (fit 0 [0, 1, 2, 8, 9] slices_BinarySearchFunc___api_Piece_api_Piece_int__ipfrag_Add_f3_S1) (slices_BinarySearchFunc___api_Piece_api_Piece_int__ipfrag_Add_f3_K N)
theorem slices_BinarySearchFunc___api_Piece_api_Piece_int__ipfrag_Add_f3_s2_b {E : Env} (N : Nat) (hb : Base Try.prog (slices_BinarySearchFunc___api_Piece_api_Piece_int__ipfrag_Add_f3_C N) E 0) : Blk Try.prog (slices_BinarySearchFunc___api_Piece_api_Piece_int__ipfrag_Add_f3_C N) E [0, 1, 2, 8, 9, 10] slices_BinarySearchFunc___api_Piece_api_Piece_int__ipfrag_Add_f3_S0 (slices_BinarySearchFunc___api_Piece_api_Piece_int__ipfrag_Add_f3_L2.drop 0) (fun y => slices_BinarySearchFunc___api_Piece_api_Piece_int__ipfrag_Add_f3_s2 N y.1.1 y.1.2.1 y.1.2.2.1 y.1.2.2.2.1 y.1.2.2.2.2.1) (slices_BinarySearchFunc___api_Piece_api_Piece_int__ipfrag_Add_f3_K2 N) :=
 Blk.chunkAt hb 3 (X := (slices_BinarySearchFunc___api_Piece_api_Piece_int__ipfrag_Add_f3_K2 N .normal)) (NxOk.end (by kernel_rfl)) rfl (fun x => by kernel_rfl)
theorem slices_BinarySearchFunc___api_Piece_api_Piece_int__ipfrag_Add_f3_3_b {E : Env} (N : Nat) (hb : Base Try.prog (slices_BinarySearchFunc___api_Piece_api_Piece_int__ipfrag_Add_f3_C N) E 0) : Blk Try.prog (slices_BinarySearchFunc___api_Piece_api_Piece_int__ipfrag_Add_f3_C N) E [0, 1, 2, 8, 9] slices_BinarySearchFunc___api_Piece_api_Piece_int__ipfrag_Add_f3_S1 (slices_BinarySearchFunc___api_Piece_api_Piece_int__ipfrag_Add_f3_L.drop 4) (fun y => slices_BinarySearchFunc___api_Piece_api_Piece_int__ipfrag_Add_f3_3 N y.1.1 y.1.2.1 y.1.2.2.1 y.1.2.2.2.1) (slices_BinarySearchFunc___api_Piece_api_Piece_int__ipfrag_Add_f3_K N) :=
 Blk.chunkAt hb 2 (X := (slices_BinarySearchFunc___api_Piece_api_Piece_int__ipfrag_Add_f3_K N .normal)) (NxOk.end (by kernel_rfl)) rfl (fun x => by kernel_rfl)
theorem slices_BinarySearchFunc___api_Piece_api_Piece_int__ipfrag_Add_f3_1_b {E : Env} (N : Nat) (hb : Base Try.prog (slices_BinarySearchFunc___api_Piece_api_Piece_int__ipfrag_Add_f3_C N) E 0) : Blk Try.prog (slices_BinarySearchFunc___api_Piece_api_Piece_int__ipfrag_Add_f3_C N) E [0, 1, 2, 8, 9, 10] slices_BinarySearchFunc___api_Piece_api_Piece_int__ipfrag_Add_f3_S0 (slices_BinarySearchFunc___api_Piece_api_Piece_int__ipfrag_Add_f3_L.drop 3) (fun y => slices_BinarySearchFunc___api_Piece_api_Piece_int__ipfrag_Add_f3_1 N y.1.1 y.1.2.1 y.1.2.2.1 y.1.2.2.2.1 y.1.2.2.2.2.1) (slices_BinarySearchFunc___api_Piece_api_Piece_int__ipfrag_Add_f3_K N) :=
 Blk.loopAt (Nf := N) (hns := [0, 1, 2, 8, 9, 10]) (ans := [0, 1, 2, 8, 9]) (hc := slices_BinarySearchFunc___api_Piece_api_Piece_int__ipfrag_Add_f3_S0) (ac := slices_BinarySearchFunc___api_Piece_api_Piece_int__ipfrag_Add_f3_S1) (bid := 0) (step := (fun y => slices_BinarySearchFunc___api_Piece_api_Piece_int__ipfrag_Add_f3_s2 N y.1.1 y.1.2.1 y.1.2.2.1 y.1.2.2.2.1 y.1.2.2.2.2.1)) (J := (fun e => (goK 0 [0, 1, 2, 8, 9] slices_BinarySearchFunc___api_Piece_api_Piece_int__ipfrag_Add_f3_S1 (fun y => slices_BinarySearchFunc___api_Piece_api_Piece_int__ipfrag_Add_f3_3 N y.1.1 y.1.2.1 y.1.2.2.1 y.1.2.2.2.1)) (slices_BinarySearchFunc___api_Piece_api_Piece_int__ipfrag_Add_f3_S1.st [0, 1, 2, 8, 9] e))) hb (by kernel_rfl) (Blk.into (X := (goK 0 [0, 1, 2, 8, 9] slices_BinarySearchFunc___api_Piece_api_Piece_int__ipfrag_Add_f3_S1 (fun y => slices_BinarySearchFunc___api_Piece_api_Piece_int__ipfrag_Add_f3_3 N y.1.1 y.1.2.1 y.1.2.2.1 y.1.2.2.2.1))) (NxOk.go hb (slices_BinarySearchFunc___api_Piece_api_Piece_int__ipfrag_Add_f3_3_b N hb)) (fun x => by kernel_rfl)) (slices_BinarySearchFunc___api_Piece_api_Piece_int__ipfrag_Add_f3_s2_b N hb) (fun x => by kernel_rfl)
theorem slices_BinarySearchFunc___api_Piece_api_Piece_int__ipfrag_Add_f3_b {E : Env} (N : Nat) (hb : Base Try.prog (slices_BinarySearchFunc___api_Piece_api_Piece_int__ipfrag_Add_f3_C N) E 0) : Blk Try.prog (slices_BinarySearchFunc___api_Piece_api_Piece_int__ipfrag_Add_f3_C N) E (List.range slices_BinarySearchFunc___api_Piece_api_Piece_int__ipfrag_Add_f3_S2.ks.length) slices_BinarySearchFunc___api_Piece_api_Piece_int__ipfrag_Add_f3_S2 (slices_BinarySearchFunc___api_Piece_api_Piece_int__ipfrag_Add_f3_L.drop 0) (fun y => slices_BinarySearchFunc___api_Piece_api_Piece_int__ipfrag_Add_f3 N y.1.1 y.1.2.1) (slices_BinarySearchFunc___api_Piece_api_Piece_int__ipfrag_Add_f3_K N) :=
 Blk.chunkAt hb 3 (X := (goK 0 [0, 1, 2, 8, 9, 10] slices_BinarySearchFunc___api_Piece_api_Piece_int__ipfrag_Add_f3_S0 (fun y => slices_BinarySearchFunc___api_Piece_api_Piece_int__ipfrag_Add_f3_1 N y.1.1 y.1.2.1 y.1.2.2.1 y.1.2.2.2.1 y.1.2.2.2.2.1))) (NxOk.go hb (slices_BinarySearchFunc___api_Piece_api_Piece_int__ipfrag_Add_f3_1_b N hb)) rfl (fun x => by kernel_rfl)
def slices_BinarySearchFunc___api_Piece_api_Piece_int__ipfrag_Add_f3_ctr (N : Nat) : Ctr := ⟨slices_BinarySearchFunc___api_Piece_api_Piece_int__ipfrag_Add_f3_S2, slices_BinarySearchFunc___api_Piece_api_Piece_int__ipfrag_Add_f3_S3.un [false, false], 0, (fun y => slices_BinarySearchFunc___api_Piece_api_Piece_int__ipfrag_Add_f3 N y.1.1 y.1.2.1)⟩
theorem slices_BinarySearchFunc___api_Piece_api_Piece_int__ipfrag_Add_f3_ctrs (N : Nat) : CtrsOk Try.prog (slices_BinarySearchFunc___api_Piece_api_Piece_int__ipfrag_Add_f3_C N) := ctrs_of (Γ := slices_BinarySearchFunc___api_Piece_api_Piece_int__ipfrag_Add_f3_C N) G_ifs_ok (by
 intro p hp
 simp only [slices_BinarySearchFunc___api_Piece_api_Piece_int__ipfrag_Add_f3_C, List.mem_cons, List.not_mem_nil, or_false] at hp
 rcases hp with rfl
 · exact ipfrag_Add_f3_ok N)
theorem slices_BinarySearchFunc___api_Piece_api_Piece_int__ipfrag_Add_f3_ok (N : Nat) : Ctr.ok Try.prog G_globs 134 (slices_BinarySearchFunc___api_Piece_api_Piece_int__ipfrag_Add_f3_ctr N) :=
 ctr_fn (Γ := slices_BinarySearchFunc___api_Piece_api_Piece_int__ipfrag_Add_f3_C N) (rfit := slices_BinarySearchFunc___api_Piece_api_Piece_int__ipfrag_Add_f3_S3) (bs := [false, false]) (res := [6, 7]) (by kernel_rfl) (tys_ok G_tys_ok) (slices_BinarySearchFunc___api_Piece_api_Piece_int__ipfrag_Add_f3_ctrs N) Try.func134 (by kernel_rfl) (by kernel_rfl) Try.ntmps134 (by kernel_rfl) (by kernel_rfl) (by kernel_rfl) (by kernel_rfl) (fun E hb => slices_BinarySearchFunc___api_Piece_api_Piece_int__ipfrag_Add_f3_b N hb)
end
end Go.Proofs.Ytgbkkfpheahdfaa