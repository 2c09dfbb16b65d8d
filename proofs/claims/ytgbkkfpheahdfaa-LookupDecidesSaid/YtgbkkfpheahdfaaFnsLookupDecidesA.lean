/- Functions of the program as plain functions, each with the proof that the text computes it. -/
import Derived.Test.YtgbkkfpheahdfaaGmRule
import Derived.Test.YtgbkkfpheahdfaaProg
set_option linter.unusedVariables false
set_option linter.unusedSimpArgs false
namespace Go.Proofs.Ytgbkkfpheahdfaa
open Go
set_option maxRecDepth 100000
set_option linter.unusedVariables false
abbrev D13 : Type := ((List UInt8) × (UInt64 × Unit))
abbrev T13 : Ty := (.pair .str (.pair .u64 .unit))
abbrev D27 : Type := (Int × (UInt64 × (UInt64 × Unit)))
abbrev T27 : Ty := (.pair .i64 (.pair .u64 (.pair .u64 .unit)))
abbrev D7 : Type := (Int × (Int × (Bool × (UInt8 × Unit))))
abbrev T7 : Ty := (.pair .i64 (.pair .i64 (.pair .bool (.pair .u8 .unit))))
abbrev D207 : Type := (D27 × Unit)
abbrev T207 : Ty := (.pair T27 .unit)
abbrev D119 : Type := (D27 × D207)
abbrev T119 : Ty := (.pair T27 T207)
abbrev D29 : Type := (D27 × (D27 × (Int × (Int × (Int × Unit)))))
abbrev T29 : Ty := (.pair T27 (.pair T27 (.pair .i64 (.pair .i64 (.pair .i64 .unit)))))
abbrev D97 : Type := (D27 × (D27 × (Int × (Int × (Bool × ((List UInt8) × Unit))))))
abbrev T97 : Ty := (.pair T27 (.pair T27 (.pair .i64 (.pair .i64 (.pair .bool (.pair (.sl .u8) .unit))))))
abbrev D90 : Type := (D29 × (Int × (Bool × (Bool × (Int × Unit)))))
abbrev T90 : Ty := (.pair T29 (.pair .i64 (.pair .bool (.pair .bool (.pair .i64 .unit)))))
abbrev D45 : Type := (D27 × (D27 × (D27 × (D27 × (Int × (Int × ((List Int) × ((List Int) × Unit))))))))
abbrev T45 : Ty := (.pair T27 (.pair T27 (.pair T27 (.pair T27 (.pair .i64 (.pair .i64 (.pair (.arr 2 .i64) (.pair (.arr 2 .i64) .unit))))))))
abbrev D85 : Type := (D45 × (Int × Unit))
abbrev T85 : Ty := (.pair T45 (.pair .i64 .unit))
abbrev D99 : Type := (D27 × (D27 × (Int × ((List D97) × (Int × Unit)))))
abbrev T99 : Ty := (.pair T27 (.pair T27 (.pair .i64 (.pair (.sl T97) (.pair .i64 .unit)))))
abbrev D59 : Type := (Int × ((List UInt8) × ((List D45) × Unit)))
abbrev T59 : Ty := (.pair .i64 (.pair .str (.pair (.sl T45) .unit)))
noncomputable def G_tys : List (Nat × TI) := [(2, ⟨.i64, 8, 0, false⟩), (3, ⟨.i64, 8, 0, false⟩), (4, ⟨.bool, 1, 0, false⟩), (5, ⟨.u8, 1, 0, false⟩), (6, ⟨.u8, 1, 0, false⟩), (7, ⟨T7, 24, 0, false⟩), (8, ⟨T7, 24, 0, false⟩), (9, ⟨.str, 16, 0, false⟩), (10, ⟨.str, 16, 0, false⟩), (11, ⟨.str, 16, 0, false⟩), (12, ⟨.u64, 8, 0, false⟩), (13, ⟨T13, 24, 0, false⟩), (14, ⟨T13, 24, 0, false⟩), (22, ⟨(.sl .u8), 24, 5, false⟩), (26, ⟨.u64, 8, 0, false⟩), (27, ⟨T27, 24, 0, false⟩), (28, ⟨T27, 24, 0, true⟩), (29, ⟨T29, 72, 0, false⟩), (30, ⟨T29, 72, 0, false⟩), (35, ⟨(.sl .i64), 24, 3, false⟩), (36, ⟨(.sl T97), 24, 98, false⟩), (37, ⟨.i64, 8, 0, false⟩), (44, ⟨(.arr 2 .i64), 16, 3, true⟩), (45, ⟨T45, 144, 0, false⟩), (46, ⟨T45, 144, 0, true⟩), (48, ⟨(.sl T45), 24, 46, false⟩), (54, ⟨(.sl T59), 24, 60, false⟩), (59, ⟨T59, 48, 0, false⟩), (60, ⟨T59, 48, 3, false⟩), (65, ⟨(.sl T85), 24, 86, false⟩), (68, ⟨(.sl T29), 24, 30, false⟩), (71, ⟨(.arr 2 T45), 288, 46, false⟩), (72, ⟨(.sl (.arr 2 T45)), 24, 71, false⟩), (81, ⟨(.sl (.sl .u8)), 24, 22, false⟩), (85, ⟨T85, 152, 0, false⟩), (86, ⟨T85, 152, 0, false⟩), (90, ⟨T90, 96, 0, false⟩), (91, ⟨T90, 96, 0, false⟩), (94, ⟨(.sl T99), 24, 100, false⟩), (97, ⟨T97, 96, 0, false⟩), (98, ⟨T97, 96, 0, false⟩), (99, ⟨T99, 88, 0, false⟩), (100, ⟨T99, 88, 0, false⟩), (103, ⟨(.sl (.sl T59)), 24, 54, false⟩), (107, ⟨(.pair (.sl .u8) (.pair .i64 .unit)), 32, 0, false⟩), (108, ⟨(.pair (.sl .u8) (.pair .i64 .unit)), 32, 0, false⟩), (112, ⟨(.pair (.sl .u8) (.pair .i64 .unit)), 32, 0, false⟩), (113, ⟨(.pair (.sl .u8) (.pair .i64 .unit)), 32, 0, false⟩), (117, ⟨T27, 24, 0, false⟩), (118, ⟨T27, 24, 0, false⟩), (119, ⟨T119, 48, 0, false⟩), (120, ⟨T119, 48, 0, false⟩), (121, ⟨(.arr 5 T119), 240, 120, false⟩), (122, ⟨(.arr 5 T119), 240, 120, false⟩), (128, ⟨(.sl .str), 24, 9, false⟩), (132, ⟨(.sl T27), 24, 28, false⟩), (143, ⟨(.arr 5 T27), 120, 118, false⟩), (147, ⟨(.sl .u64), 24, 26, false⟩), (150, ⟨.u64, 8, 0, false⟩), (160, ⟨(.pair (.sl .u8) .unit), 24, 0, false⟩), (202, ⟨(.sl (.arr 2 .i64)), 24, 44, false⟩), (207, ⟨T207, 24, 0, false⟩)]
noncomputable def G_globs : List (Nat × Dt) := []
theorem G_tys_ok : tyChk Try.prog G_tys = true := by kernel_rfl
end Go.Proofs.Ytgbkkfpheahdfaa
namespace Go.Proofs.Ytgbkkfpheahdfaa
open Go
set_option maxRecDepth 100000
set_option linter.unusedVariables false
/-! ipsecgate/decorrelate.ofAddress -/
abbrev decorrelate_ofAddress_R : Type := (D207 × (Unit))
noncomputable def decorrelate_ofAddress (N : Nat) (a_0 : D27) : Option decorrelate_ofAddress_R :=
  some (((a_0.1, a_0.2.1, a_0.2.2.1, ()), ()), (()))
noncomputable def decorrelate_ofAddress_C (N : Nat) : Ctx := ⟨10, G_tys, [], G_globs⟩
noncomputable def decorrelate_ofAddress_S0 : Spec := ⟨[.val T27], []⟩
noncomputable def decorrelate_ofAddress_S1 : Spec := ⟨[.fp T27], []⟩
noncomputable def decorrelate_ofAddress_K (_N : Nat) : XE → GS → Option decorrelate_ofAddress_R := retK 0 [2] [true] decorrelate_ofAddress_S1
noncomputable def decorrelate_ofAddress_L : List Code := (bodyOf (some Try.f103))
theorem decorrelate_ofAddress_b {E : Env} (N : Nat) (hb : Base Try.prog (decorrelate_ofAddress_C N) E 0) : Blk Try.prog (decorrelate_ofAddress_C N) E (List.range decorrelate_ofAddress_S0.ks.length) decorrelate_ofAddress_S0 (decorrelate_ofAddress_L.drop 0) (fun y => decorrelate_ofAddress N y.1.1) (decorrelate_ofAddress_K N) :=
  Blk.chunkAt hb 3 (X := (decorrelate_ofAddress_K N .normal)) (NxOk.end (by kernel_rfl)) rfl (fun x => by kernel_rfl)
noncomputable def decorrelate_ofAddress_ctr (N : Nat) : Ctr := ⟨decorrelate_ofAddress_S0, decorrelate_ofAddress_S1.un [true], 0, (fun y => decorrelate_ofAddress N y.1.1)⟩
theorem decorrelate_ofAddress_ctrs (N : Nat) : CtrsOk Try.prog (decorrelate_ofAddress_C N) := ctrs_nil rfl
theorem decorrelate_ofAddress_ok (N : Nat) : Ctr.ok Try.prog G_globs 103 (decorrelate_ofAddress_ctr N) :=
  ctr_fn (Γ := decorrelate_ofAddress_C N) (rfit := decorrelate_ofAddress_S1) (bs := [true]) (res := [2]) (by kernel_rfl) (tys_ok G_tys_ok) (decorrelate_ofAddress_ctrs N) Try.func103 (by kernel_rfl) (by kernel_rfl) Try.ntmps103 (by kernel_rfl) (by kernel_rfl) (by kernel_rfl) (by kernel_rfl) (fun E hb => decorrelate_ofAddress_b N hb)
end Go.Proofs.Ytgbkkfpheahdfaa
namespace Go.Proofs.Ytgbkkfpheahdfaa
open Go
set_option maxRecDepth 100000
set_option linter.unusedVariables false
/-! ipsecgate/decorrelate.ofNumber -/
abbrev decorrelate_ofNumber_R : Type := (D207 × (Unit))
noncomputable def decorrelate_ofNumber (N : Nat) (n_0 : Int) : Option decorrelate_ofNumber_R :=
  some ((((0 : Int), (0 : UInt64), (iu64 (w64 (n_0 + (1 : Int)))), ()), ()), (()))
noncomputable def decorrelate_ofNumber_C (N : Nat) : Ctx := ⟨7, G_tys, [], G_globs⟩
noncomputable def decorrelate_ofNumber_S0 : Spec := ⟨[.val .i64], []⟩
noncomputable def decorrelate_ofNumber_S1 : Spec := ⟨[.fp T27], []⟩
noncomputable def decorrelate_ofNumber_K (_N : Nat) : XE → GS → Option decorrelate_ofNumber_R := retK 0 [2] [true] decorrelate_ofNumber_S1
noncomputable def decorrelate_ofNumber_L : List Code := (bodyOf (some Try.f104))
theorem decorrelate_ofNumber_b {E : Env} (N : Nat) (hb : Base Try.prog (decorrelate_ofNumber_C N) E 0) : Blk Try.prog (decorrelate_ofNumber_C N) E (List.range decorrelate_ofNumber_S0.ks.length) decorrelate_ofNumber_S0 (decorrelate_ofNumber_L.drop 0) (fun y => decorrelate_ofNumber N y.1.1) (decorrelate_ofNumber_K N) :=
  Blk.chunkAt hb 3 (X := (decorrelate_ofNumber_K N .normal)) (NxOk.end (by kernel_rfl)) rfl (fun x => by kernel_rfl)
noncomputable def decorrelate_ofNumber_ctr (N : Nat) : Ctr := ⟨decorrelate_ofNumber_S0, decorrelate_ofNumber_S1.un [true], 0, (fun y => decorrelate_ofNumber N y.1.1)⟩
theorem decorrelate_ofNumber_ctrs (N : Nat) : CtrsOk Try.prog (decorrelate_ofNumber_C N) := ctrs_nil rfl
theorem decorrelate_ofNumber_ok (N : Nat) : Ctr.ok Try.prog G_globs 104 (decorrelate_ofNumber_ctr N) :=
  ctr_fn (Γ := decorrelate_ofNumber_C N) (rfit := decorrelate_ofNumber_S1) (bs := [true]) (res := [2]) (by kernel_rfl) (tys_ok G_tys_ok) (decorrelate_ofNumber_ctrs N) Try.func104 (by kernel_rfl) (by kernel_rfl) Try.ntmps104 (by kernel_rfl) (by kernel_rfl) (by kernel_rfl) (by kernel_rfl) (fun E hb => decorrelate_ofNumber_b N hb)
end Go.Proofs.Ytgbkkfpheahdfaa
namespace Go.Proofs.Ytgbkkfpheahdfaa
open Go
set_option maxRecDepth 100000
set_option linter.unusedVariables false
/-! ipsecgate/decorrelate.numbers -/
abbrev decorrelate_numbers_R : Type := ((D119 × Unit) × (Unit))
noncomputable def decorrelate_numbers (N : Nat) (lo_0 : Int) (hi_1 : Int) : Option decorrelate_numbers_R :=
  Option.bind (decorrelate_ofNumber N lo_0) fun y1 =>
  Option.bind (decorrelate_ofNumber N hi_1) fun y2 =>
  some (((y1.1.1, y2.1.1, ()), ()), (()))
noncomputable def decorrelate_numbers_C (N : Nat) : Ctx := ⟨10, G_tys, [(104, decorrelate_ofNumber_ctr N)], G_globs⟩
noncomputable def decorrelate_numbers_S0 : Spec := ⟨[.val .i64, .val .i64], []⟩
noncomputable def decorrelate_numbers_S1 : Spec := ⟨[.fp T119], []⟩
noncomputable def decorrelate_numbers_K (_N : Nat) : XE → GS → Option decorrelate_numbers_R := retK 0 [4] [true] decorrelate_numbers_S1
noncomputable def decorrelate_numbers_L : List Code := (bodyOf (some Try.f144))
theorem decorrelate_numbers_b {E : Env} (N : Nat) (hb : Base Try.prog (decorrelate_numbers_C N) E 0) : Blk Try.prog (decorrelate_numbers_C N) E (List.range decorrelate_numbers_S0.ks.length) decorrelate_numbers_S0 (decorrelate_numbers_L.drop 0) (fun y => decorrelate_numbers N y.1.1 y.1.2.1) (decorrelate_numbers_K N) :=
  Blk.chunkAt hb 3 (X := (decorrelate_numbers_K N .normal)) (NxOk.end (by kernel_rfl)) rfl (fun x => by kernel_rfl)
noncomputable def decorrelate_numbers_ctr (N : Nat) : Ctr := ⟨decorrelate_numbers_S0, decorrelate_numbers_S1.un [true], 0, (fun y => decorrelate_numbers N y.1.1 y.1.2.1)⟩
theorem decorrelate_numbers_ctrs (N : Nat) : CtrsOk Try.prog (decorrelate_numbers_C N) := ctrs_of (Γ := decorrelate_numbers_C N) (by
  intro p hp
  simp only [decorrelate_numbers_C, List.mem_cons, List.not_mem_nil, or_false] at hp
  rcases hp with rfl
  · exact decorrelate_ofNumber_ok N)
theorem decorrelate_numbers_ok (N : Nat) : Ctr.ok Try.prog G_globs 144 (decorrelate_numbers_ctr N) :=
  ctr_fn (Γ := decorrelate_numbers_C N) (rfit := decorrelate_numbers_S1) (bs := [true]) (res := [4]) (by kernel_rfl) (tys_ok G_tys_ok) (decorrelate_numbers_ctrs N) Try.func144 (by kernel_rfl) (by kernel_rfl) Try.ntmps144 (by kernel_rfl) (by kernel_rfl) (by kernel_rfl) (by kernel_rfl) (fun E hb => decorrelate_numbers_b N hb)
end Go.Proofs.Ytgbkkfpheahdfaa
namespace Go.Proofs.Ytgbkkfpheahdfaa
open Go
set_option maxRecDepth 100000
set_option linter.unusedVariables false
/-! ipsecgate/decorrelate.ofBox -/
abbrev decorrelate_ofBox_R : Type := (((List D119) × Unit) × (Unit))
noncomputable def decorrelate_ofBox (N : Nat) (b_0 : D45) : Option decorrelate_ofBox_R :=
  Option.bind (decorrelate_ofAddress N b_0.1) fun y1 =>
  Option.bind (decorrelate_ofAddress N b_0.2.1) fun y2 =>
  Option.bind (decorrelate_ofAddress N b_0.2.2.1) fun y3 =>
  Option.bind (decorrelate_ofAddress N b_0.2.2.2.1) fun y4 =>
  Option.bind (decorrelate_numbers N b_0.2.2.2.2.1 b_0.2.2.2.2.2.1) fun y5 =>
  Option.bind (decorrelate_numbers N (b_0.2.2.2.2.2.2.1.getD 0 (0 : Int)) (b_0.2.2.2.2.2.2.1.getD 1 (0 : Int))) fun y8 =>
  Option.bind (decorrelate_numbers N (b_0.2.2.2.2.2.2.2.1.getD 0 (0 : Int)) (b_0.2.2.2.2.2.2.2.1.getD 1 (0 : Int))) fun y11 =>
  some ((([(y1.1.1, y2.1.1, ()), (y3.1.1, y4.1.1, ()), y5.1.1, y8.1.1, y11.1.1] : List D119), ()), (()))
noncomputable def decorrelate_ofBox_C (N : Nat) : Ctx := ⟨37, G_tys, [(103, decorrelate_ofAddress_ctr N), (144, decorrelate_numbers_ctr N)], G_globs⟩
noncomputable def decorrelate_ofBox_S0 : Spec := ⟨[.val T45], []⟩
noncomputable def decorrelate_ofBox_S1 : Spec := ⟨[.fp (.arr 5 T119)], []⟩
noncomputable def decorrelate_ofBox_K (_N : Nat) : XE → GS → Option decorrelate_ofBox_R := retK 0 [2] [true] decorrelate_ofBox_S1
noncomputable def decorrelate_ofBox_L : List Code := (bodyOf (some Try.f79))
theorem decorrelate_ofBox_b {E : Env} (N : Nat) (hb : Base Try.prog (decorrelate_ofBox_C N) E 0) : Blk Try.prog (decorrelate_ofBox_C N) E (List.range decorrelate_ofBox_S0.ks.length) decorrelate_ofBox_S0 (decorrelate_ofBox_L.drop 0) (fun y => decorrelate_ofBox N y.1.1) (decorrelate_ofBox_K N) :=
  Blk.chunkAt hb 3 (X := (decorrelate_ofBox_K N .normal)) (NxOk.end (by kernel_rfl)) rfl (fun x => by kernel_rfl)
noncomputable def decorrelate_ofBox_ctr (N : Nat) : Ctr := ⟨decorrelate_ofBox_S0, decorrelate_ofBox_S1.un [true], 0, (fun y => decorrelate_ofBox N y.1.1)⟩
theorem decorrelate_ofBox_ctrs (N : Nat) : CtrsOk Try.prog (decorrelate_ofBox_C N) := ctrs_of (Γ := decorrelate_ofBox_C N) (by
  intro p hp
  simp only [decorrelate_ofBox_C, List.mem_cons, List.not_mem_nil, or_false] at hp
  rcases hp with rfl | rfl
  · exact decorrelate_ofAddress_ok N
  · exact decorrelate_numbers_ok N)
theorem decorrelate_ofBox_ok (N : Nat) : Ctr.ok Try.prog G_globs 79 (decorrelate_ofBox_ctr N) :=
  ctr_fn (Γ := decorrelate_ofBox_C N) (rfit := decorrelate_ofBox_S1) (bs := [true]) (res := [2]) (by kernel_rfl) (tys_ok G_tys_ok) (decorrelate_ofBox_ctrs N) Try.func79 (by kernel_rfl) (by kernel_rfl) Try.ntmps79 (by kernel_rfl) (by kernel_rfl) (by kernel_rfl) (by kernel_rfl) (fun E hb => decorrelate_ofBox_b N hb)
end Go.Proofs.Ytgbkkfpheahdfaa
namespace Go.Proofs.Ytgbkkfpheahdfaa
open Go
set_option maxRecDepth 100000
set_option linter.unusedVariables false
/-! cmp.isNaN[int] -/
abbrev cmp_isNaN_int__R : Type := ((Bool × Unit) × (Unit))
noncomputable def cmp_isNaN_int_ (N : Nat) (x_0 : Int) : Option cmp_isNaN_int__R :=
  some (((!(decide (x_0 = x_0))), ()), (()))
noncomputable def cmp_isNaN_int__C (N : Nat) : Ctx := ⟨6, G_tys, [], G_globs⟩
noncomputable def cmp_isNaN_int__S0 : Spec := ⟨[.val .i64], []⟩
noncomputable def cmp_isNaN_int__S1 : Spec := ⟨[.val .bool], []⟩
noncomputable def cmp_isNaN_int__K (_N : Nat) : XE → GS → Option cmp_isNaN_int__R := retK 0 [2] [false] cmp_isNaN_int__S1
noncomputable def cmp_isNaN_int__L : List Code := (bodyOf (some Try.f167))
theorem cmp_isNaN_int__b {E : Env} (N : Nat) (hb : Base Try.prog (cmp_isNaN_int__C N) E 0) : Blk Try.prog (cmp_isNaN_int__C N) E (List.range cmp_isNaN_int__S0.ks.length) cmp_isNaN_int__S0 (cmp_isNaN_int__L.drop 0) (fun y => cmp_isNaN_int_ N y.1.1) (cmp_isNaN_int__K N) :=
  Blk.chunkAt hb 3 (X := (cmp_isNaN_int__K N .normal)) (NxOk.end (by kernel_rfl)) rfl (fun x => by kernel_rfl)
noncomputable def cmp_isNaN_int__ctr (N : Nat) : Ctr := ⟨cmp_isNaN_int__S0, cmp_isNaN_int__S1.un [false], 0, (fun y => cmp_isNaN_int_ N y.1.1)⟩
theorem cmp_isNaN_int__ctrs (N : Nat) : CtrsOk Try.prog (cmp_isNaN_int__C N) := ctrs_nil rfl
theorem cmp_isNaN_int__ok (N : Nat) : Ctr.ok Try.prog G_globs 167 (cmp_isNaN_int__ctr N) :=
  ctr_fn (Γ := cmp_isNaN_int__C N) (rfit := cmp_isNaN_int__S1) (bs := [false]) (res := [2]) (by kernel_rfl) (tys_ok G_tys_ok) (cmp_isNaN_int__ctrs N) Try.func167 (by kernel_rfl) (by kernel_rfl) Try.ntmps167 (by kernel_rfl) (by kernel_rfl) (by kernel_rfl) (by kernel_rfl) (fun E hb => cmp_isNaN_int__b N hb)
end Go.Proofs.Ytgbkkfpheahdfaa
namespace Go.Proofs.Ytgbkkfpheahdfaa
open Go
set_option maxRecDepth 100000
set_option linter.unusedVariables false
/-! cmp.Compare[int] -/
abbrev cmp_Compare_int__R : Type := ((Int × Unit) × (Unit))
noncomputable def cmp_Compare_int_ (N : Nat) (x_0 : Int) (y_1 : Int) : Option cmp_Compare_int__R :=
  Option.bind (cmp_isNaN_int_ N x_0) fun y1 =>
  Option.bind (cmp_isNaN_int_ N y_1) fun y2 =>
  bif y1.1.1 then
    bif y2.1.1 then
      some (((0 : Int), ()), (()))
    else
      some (((-1 : Int), ()), (()))
  else
    bif y2.1.1 then
      some (((1 : Int), ()), (()))
    else
      bif (decide (x_0 < y_1)) then
        some (((-1 : Int), ()), (()))
      else
        bif (decide (y_1 < x_0)) then
          some (((1 : Int), ()), (()))
        else
          some (((0 : Int), ()), (()))
noncomputable def cmp_Compare_int__C (N : Nat) : Ctx := ⟨20, G_tys, [(167, cmp_isNaN_int__ctr N)], G_globs⟩
noncomputable def cmp_Compare_int__S0 : Spec := ⟨[.val .i64, .val .i64], []⟩
noncomputable def cmp_Compare_int__S1 : Spec := ⟨[.val .i64], []⟩
noncomputable def cmp_Compare_int__K (_N : Nat) : XE → GS → Option cmp_Compare_int__R := retK 0 [4] [false] cmp_Compare_int__S1
noncomputable def cmp_Compare_int__L : List Code := (bodyOf (some Try.f147))
theorem cmp_Compare_int__b {E : Env} (N : Nat) (hb : Base Try.prog (cmp_Compare_int__C N) E 0) : Blk Try.prog (cmp_Compare_int__C N) E (List.range cmp_Compare_int__S0.ks.length) cmp_Compare_int__S0 (cmp_Compare_int__L.drop 0) (fun y => cmp_Compare_int_ N y.1.1 y.1.2.1) (cmp_Compare_int__K N) :=
  Blk.chunkAt hb 13 (X := (cmp_Compare_int__K N .normal)) (NxOk.end (by kernel_rfl)) rfl (fun x => by kernel_rfl)
noncomputable def cmp_Compare_int__ctr (N : Nat) : Ctr := ⟨cmp_Compare_int__S0, cmp_Compare_int__S1.un [false], 0, (fun y => cmp_Compare_int_ N y.1.1 y.1.2.1)⟩
theorem cmp_Compare_int__ctrs (N : Nat) : CtrsOk Try.prog (cmp_Compare_int__C N) := ctrs_of (Γ := cmp_Compare_int__C N) (by
  intro p hp
  simp only [cmp_Compare_int__C, List.mem_cons, List.not_mem_nil, or_false] at hp
  rcases hp with rfl
  · exact cmp_isNaN_int__ok N)
theorem cmp_Compare_int__ok (N : Nat) : Ctr.ok Try.prog G_globs 147 (cmp_Compare_int__ctr N) :=
  ctr_fn (Γ := cmp_Compare_int__C N) (rfit := cmp_Compare_int__S1) (bs := [false]) (res := [4]) (by kernel_rfl) (tys_ok G_tys_ok) (cmp_Compare_int__ctrs N) Try.func147 (by kernel_rfl) (by kernel_rfl) Try.ntmps147 (by kernel_rfl) (by kernel_rfl) (by kernel_rfl) (by kernel_rfl) (fun E hb => cmp_Compare_int__b N hb)
end Go.Proofs.Ytgbkkfpheahdfaa
namespace Go.Proofs.Ytgbkkfpheahdfaa
open Go
set_option maxRecDepth 100000
set_option linter.unusedVariables false
/-! cmp.isNaN[uint64] -/
abbrev cmp_isNaN_uint64__R : Type := ((Bool × Unit) × (Unit))
noncomputable def cmp_isNaN_uint64_ (N : Nat) (x_0 : UInt64) : Option cmp_isNaN_uint64__R :=
  some (((!(decide (x_0 = x_0))), ()), (()))
noncomputable def cmp_isNaN_uint64__C (N : Nat) : Ctx := ⟨6, G_tys, [], G_globs⟩
noncomputable def cmp_isNaN_uint64__S0 : Spec := ⟨[.val .u64], []⟩
noncomputable def cmp_isNaN_uint64__S1 : Spec := ⟨[.val .bool], []⟩
noncomputable def cmp_isNaN_uint64__K (_N : Nat) : XE → GS → Option cmp_isNaN_uint64__R := retK 0 [2] [false] cmp_isNaN_uint64__S1
noncomputable def cmp_isNaN_uint64__L : List Code := (bodyOf (some Try.f168))
theorem cmp_isNaN_uint64__b {E : Env} (N : Nat) (hb : Base Try.prog (cmp_isNaN_uint64__C N) E 0) : Blk Try.prog (cmp_isNaN_uint64__C N) E (List.range cmp_isNaN_uint64__S0.ks.length) cmp_isNaN_uint64__S0 (cmp_isNaN_uint64__L.drop 0) (fun y => cmp_isNaN_uint64_ N y.1.1) (cmp_isNaN_uint64__K N) :=
  Blk.chunkAt hb 3 (X := (cmp_isNaN_uint64__K N .normal)) (NxOk.end (by kernel_rfl)) rfl (fun x => by kernel_rfl)
noncomputable def cmp_isNaN_uint64__ctr (N : Nat) : Ctr := ⟨cmp_isNaN_uint64__S0, cmp_isNaN_uint64__S1.un [false], 0, (fun y => cmp_isNaN_uint64_ N y.1.1)⟩
theorem cmp_isNaN_uint64__ctrs (N : Nat) : CtrsOk Try.prog (cmp_isNaN_uint64__C N) := ctrs_nil rfl
theorem cmp_isNaN_uint64__ok (N : Nat) : Ctr.ok Try.prog G_globs 168 (cmp_isNaN_uint64__ctr N) :=
  ctr_fn (Γ := cmp_isNaN_uint64__C N) (rfit := cmp_isNaN_uint64__S1) (bs := [false]) (res := [2]) (by kernel_rfl) (tys_ok G_tys_ok) (cmp_isNaN_uint64__ctrs N) Try.func168 (by kernel_rfl) (by kernel_rfl) Try.ntmps168 (by kernel_rfl) (by kernel_rfl) (by kernel_rfl) (by kernel_rfl) (fun E hb => cmp_isNaN_uint64__b N hb)
end Go.Proofs.Ytgbkkfpheahdfaa
namespace Go.Proofs.Ytgbkkfpheahdfaa
open Go
set_option maxRecDepth 100000
set_option linter.unusedVariables false
/-! cmp.Compare[uint64] -/
abbrev cmp_Compare_uint64__R : Type := ((Int × Unit) × (Unit))
noncomputable def cmp_Compare_uint64_ (N : Nat) (x_0 : UInt64) (y_1 : UInt64) : Option cmp_Compare_uint64__R :=
  Option.bind (cmp_isNaN_uint64_ N x_0) fun y1 =>
  Option.bind (cmp_isNaN_uint64_ N y_1) fun y2 =>
  bif y1.1.1 then
    bif y2.1.1 then
      some (((0 : Int), ()), (()))
    else
      some (((-1 : Int), ()), (()))
  else
    bif y2.1.1 then
      some (((1 : Int), ()), (()))
    else
      bif (decide (x_0 < y_1)) then
        some (((-1 : Int), ()), (()))
      else
        bif (decide (y_1 < x_0)) then
          some (((1 : Int), ()), (()))
        else
          some (((0 : Int), ()), (()))
noncomputable def cmp_Compare_uint64__C (N : Nat) : Ctx := ⟨20, G_tys, [(168, cmp_isNaN_uint64__ctr N)], G_globs⟩
noncomputable def cmp_Compare_uint64__S0 : Spec := ⟨[.val .u64, .val .u64], []⟩
noncomputable def cmp_Compare_uint64__S1 : Spec := ⟨[.val .i64], []⟩
noncomputable def cmp_Compare_uint64__K (_N : Nat) : XE → GS → Option cmp_Compare_uint64__R := retK 0 [4] [false] cmp_Compare_uint64__S1
noncomputable def cmp_Compare_uint64__L : List Code := (bodyOf (some Try.f148))
theorem cmp_Compare_uint64__b {E : Env} (N : Nat) (hb : Base Try.prog (cmp_Compare_uint64__C N) E 0) : Blk Try.prog (cmp_Compare_uint64__C N) E (List.range cmp_Compare_uint64__S0.ks.length) cmp_Compare_uint64__S0 (cmp_Compare_uint64__L.drop 0) (fun y => cmp_Compare_uint64_ N y.1.1 y.1.2.1) (cmp_Compare_uint64__K N) :=
  Blk.chunkAt hb 13 (X := (cmp_Compare_uint64__K N .normal)) (NxOk.end (by kernel_rfl)) rfl (fun x => by kernel_rfl)
noncomputable def cmp_Compare_uint64__ctr (N : Nat) : Ctr := ⟨cmp_Compare_uint64__S0, cmp_Compare_uint64__S1.un [false], 0, (fun y => cmp_Compare_uint64_ N y.1.1 y.1.2.1)⟩
theorem cmp_Compare_uint64__ctrs (N : Nat) : CtrsOk Try.prog (cmp_Compare_uint64__C N) := ctrs_of (Γ := cmp_Compare_uint64__C N) (by
  intro p hp
  simp only [cmp_Compare_uint64__C, List.mem_cons, List.not_mem_nil, or_false] at hp
  rcases hp with rfl
  · exact cmp_isNaN_uint64__ok N)
theorem cmp_Compare_uint64__ok (N : Nat) : Ctr.ok Try.prog G_globs 148 (cmp_Compare_uint64__ctr N) :=
  ctr_fn (Γ := cmp_Compare_uint64__C N) (rfit := cmp_Compare_uint64__S1) (bs := [false]) (res := [4]) (by kernel_rfl) (tys_ok G_tys_ok) (cmp_Compare_uint64__ctrs N) Try.func148 (by kernel_rfl) (by kernel_rfl) Try.ntmps148 (by kernel_rfl) (by kernel_rfl) (by kernel_rfl) (by kernel_rfl) (fun E hb => cmp_Compare_uint64__b N hb)
end Go.Proofs.Ytgbkkfpheahdfaa
namespace Go.Proofs.Ytgbkkfpheahdfaa
open Go
set_option maxRecDepth 100000
set_option linter.unusedVariables false
/-! cmp.Or[int] -/
abbrev cmp_Or_int__R : Type := ((Int × Unit) × (Unit))
noncomputable def cmp_Or_int__s2 (N : Nat) (zero_3 : Int) (t_6 : (List Int)) (t_7 : Int) (t_8 : Int) : Option (Lo ((Int × (List Int) × Int × Int × Unit) × (Unit)) ((Int × Unit) × (Unit)) cmp_Or_int__R) :=
  bif (decide (t_8 < t_7)) then
    bif inR t_8 t_6.length then
    let x3 := t_6.getD t_8.toNat (0 : Int)
    bif (!(decide (x3 = zero_3))) then
      some (.rt ((x3, ()), (())))
    else
      some (.go ((zero_3, t_6, t_7, (w64 (t_8 + (1 : Int))), ()), (())))
    else none
  else
    some (.br ((zero_3, ()), (())))
noncomputable def cmp_Or_int__3 (N : Nat) (zero_3 : Int) : Option cmp_Or_int__R :=
  some ((zero_3, ()), (()))
noncomputable def cmp_Or_int__1 (N : Nat) (zero_3 : Int) (t_6 : (List Int)) (t_7 : Int) (t_8 : Int) : Option cmp_Or_int__R :=
  loopK N (fun y => cmp_Or_int__s2 N y.1.1 y.1.2.1 y.1.2.2.1 y.1.2.2.2.1) (fun (e : ((Int × Unit) × (Unit))) => cmp_Or_int__3 N e.1.1) ((zero_3, t_6, t_7, t_8, ()), (()))
noncomputable def cmp_Or_int_ (N : Nat) (vals_0 : (List Int)) : Option cmp_Or_int__R :=
  cmp_Or_int__1 N (0 : Int) vals_0 (vals_0.length : Int) (0 : Int)
noncomputable def cmp_Or_int__C (N : Nat) : Ctx := ⟨18, G_tys, [], G_globs⟩
noncomputable def cmp_Or_int__S0 : Spec := ⟨[.val .i64, .val (.sl .i64), .val .i64, .val .i64], []⟩
noncomputable def cmp_Or_int__S1 : Spec := ⟨[.val .i64], []⟩
noncomputable def cmp_Or_int__S2 : Spec := ⟨[.val (.sl .i64)], []⟩
noncomputable def cmp_Or_int__K (_N : Nat) : XE → GS → Option cmp_Or_int__R := retK 0 [2] [false] cmp_Or_int__S1
noncomputable def cmp_Or_int__L : List Code := (bodyOf (some Try.f146))
noncomputable def cmp_Or_int__L2 : List Code := (loopOf (cmp_Or_int__L[3]?))
noncomputable def cmp_Or_int__K2 (N : Nat) : XE → GS → Option (Lo ((Int × (List Int) × Int × Int × Unit) × (Unit)) ((Int × Unit) × (Unit)) cmp_Or_int__R) := roundK (some 0) (fit 0 [3, 6, 7, 8] cmp_Or_int__S0) (fit 0 [3] cmp_Or_int__S1) (cmp_Or_int__K N)
theorem cmp_Or_int__s2_b {E : Env} (N : Nat) (hb : Base Try.prog (cmp_Or_int__C N) E 0) : Blk Try.prog (cmp_Or_int__C N) E [3, 6, 7, 8] cmp_Or_int__S0 (cmp_Or_int__L2.drop 0) (fun y => cmp_Or_int__s2 N y.1.1 y.1.2.1 y.1.2.2.1 y.1.2.2.2.1) (cmp_Or_int__K2 N) :=
  Blk.chunkAt hb 4 (X := (cmp_Or_int__K2 N .normal)) (NxOk.end (by kernel_rfl)) rfl (fun x => by kernel_rfl)
theorem cmp_Or_int__3_b {E : Env} (N : Nat) (hb : Base Try.prog (cmp_Or_int__C N) E 0) : Blk Try.prog (cmp_Or_int__C N) E [3] cmp_Or_int__S1 (cmp_Or_int__L.drop 4) (fun y => cmp_Or_int__3 N y.1.1) (cmp_Or_int__K N) :=
  Blk.chunkAt hb 2 (X := (cmp_Or_int__K N .normal)) (NxOk.end (by kernel_rfl)) rfl (fun x => by kernel_rfl)
theorem cmp_Or_int__1_b {E : Env} (N : Nat) (hb : Base Try.prog (cmp_Or_int__C N) E 0) : Blk Try.prog (cmp_Or_int__C N) E [3, 6, 7, 8] cmp_Or_int__S0 (cmp_Or_int__L.drop 3) (fun y => cmp_Or_int__1 N y.1.1 y.1.2.1 y.1.2.2.1 y.1.2.2.2.1) (cmp_Or_int__K N) :=
  Blk.loopAt (Nf := N) (hns := [3, 6, 7, 8]) (ans := [3]) (hc := cmp_Or_int__S0) (ac := cmp_Or_int__S1) (bid := 0) (step := (fun y => cmp_Or_int__s2 N y.1.1 y.1.2.1 y.1.2.2.1 y.1.2.2.2.1)) (J := (fun e => (goK 0 [3] cmp_Or_int__S1 (fun y => cmp_Or_int__3 N y.1.1)) (cmp_Or_int__S1.st [3] e))) hb (by kernel_rfl) (Blk.into (X := (goK 0 [3] cmp_Or_int__S1 (fun y => cmp_Or_int__3 N y.1.1))) (NxOk.go hb (cmp_Or_int__3_b N hb)) (fun x => by kernel_rfl)) (cmp_Or_int__s2_b N hb) (fun x => by kernel_rfl)
theorem cmp_Or_int__b {E : Env} (N : Nat) (hb : Base Try.prog (cmp_Or_int__C N) E 0) : Blk Try.prog (cmp_Or_int__C N) E (List.range cmp_Or_int__S2.ks.length) cmp_Or_int__S2 (cmp_Or_int__L.drop 0) (fun y => cmp_Or_int_ N y.1.1) (cmp_Or_int__K N) :=
  Blk.chunkAt hb 3 (X := (goK 0 [3, 6, 7, 8] cmp_Or_int__S0 (fun y => cmp_Or_int__1 N y.1.1 y.1.2.1 y.1.2.2.1 y.1.2.2.2.1))) (NxOk.go hb (cmp_Or_int__1_b N hb)) rfl (fun x => by kernel_rfl)
noncomputable def cmp_Or_int__ctr (N : Nat) : Ctr := ⟨cmp_Or_int__S2, cmp_Or_int__S1.un [false], 0, (fun y => cmp_Or_int_ N y.1.1)⟩
theorem cmp_Or_int__ctrs (N : Nat) : CtrsOk Try.prog (cmp_Or_int__C N) := ctrs_nil rfl
theorem cmp_Or_int__ok (N : Nat) : Ctr.ok Try.prog G_globs 146 (cmp_Or_int__ctr N) :=
  ctr_fn (Γ := cmp_Or_int__C N) (rfit := cmp_Or_int__S1) (bs := [false]) (res := [2]) (by kernel_rfl) (tys_ok G_tys_ok) (cmp_Or_int__ctrs N) Try.func146 (by kernel_rfl) (by kernel_rfl) Try.ntmps146 (by kernel_rfl) (by kernel_rfl) (by kernel_rfl) (by kernel_rfl) (fun E hb => cmp_Or_int__b N hb)
end Go.Proofs.Ytgbkkfpheahdfaa
namespace Go.Proofs.Ytgbkkfpheahdfaa
open Go
set_option maxRecDepth 100000
set_option linter.unusedVariables false
/-! (ipsecgate/decorrelate.value).compare -/
abbrev decorrelate_value_compare_R : Type := ((Int × Unit) × (Unit))
noncomputable def decorrelate_value_compare (N : Nat) (a_0 : D27) (b_1 : D27) : Option decorrelate_value_compare_R :=
  Option.bind (cmp_Compare_int_ N a_0.1 b_1.1) fun y1 =>
  Option.bind (cmp_Compare_uint64_ N a_0.2.1 b_1.2.1) fun y2 =>
  Option.bind (cmp_Compare_uint64_ N a_0.2.2.1 b_1.2.2.1) fun y3 =>
  Option.bind (cmp_Or_int_ N ([y1.1.1, y2.1.1, y3.1.1] : List Int)) fun y4 =>
  some ((y4.1.1, ()), (()))
noncomputable def decorrelate_value_compare_C (N : Nat) : Ctx := ⟨22, G_tys, [(147, cmp_Compare_int__ctr N), (148, cmp_Compare_uint64__ctr N), (146, cmp_Or_int__ctr N)], G_globs⟩
noncomputable def decorrelate_value_compare_S0 : Spec := ⟨[.val T27, .val T27], []⟩
noncomputable def decorrelate_value_compare_S1 : Spec := ⟨[.val .i64], []⟩
noncomputable def decorrelate_value_compare_K (_N : Nat) : XE → GS → Option decorrelate_value_compare_R := retK 0 [4] [false] decorrelate_value_compare_S1
noncomputable def decorrelate_value_compare_L : List Code := (bodyOf (some Try.f81))
theorem decorrelate_value_compare_b {E : Env} (N : Nat) (hb : Base Try.prog (decorrelate_value_compare_C N) E 0) : Blk Try.prog (decorrelate_value_compare_C N) E (List.range decorrelate_value_compare_S0.ks.length) decorrelate_value_compare_S0 (decorrelate_value_compare_L.drop 0) (fun y => decorrelate_value_compare N y.1.1 y.1.2.1) (decorrelate_value_compare_K N) :=
  Blk.chunkAt hb 3 (X := (decorrelate_value_compare_K N .normal)) (NxOk.end (by kernel_rfl)) rfl (fun x => by kernel_rfl)
noncomputable def decorrelate_value_compare_ctr (N : Nat) : Ctr := ⟨decorrelate_value_compare_S0, decorrelate_value_compare_S1.un [false], 0, (fun y => decorrelate_value_compare N y.1.1 y.1.2.1)⟩
theorem decorrelate_value_compare_ctrs (N : Nat) : CtrsOk Try.prog (decorrelate_value_compare_C N) := ctrs_of (Γ := decorrelate_value_compare_C N) (by
  intro p hp
  simp only [decorrelate_value_compare_C, List.mem_cons, List.not_mem_nil, or_false] at hp
  rcases hp with rfl | rfl | rfl
  · exact cmp_Compare_int__ok N
  · exact cmp_Compare_uint64__ok N
  · exact cmp_Or_int__ok N)
theorem decorrelate_value_compare_ok (N : Nat) : Ctr.ok Try.prog G_globs 81 (decorrelate_value_compare_ctr N) :=
  ctr_fn (Γ := decorrelate_value_compare_C N) (rfit := decorrelate_value_compare_S1) (bs := [false]) (res := [4]) (by kernel_rfl) (tys_ok G_tys_ok) (decorrelate_value_compare_ctrs N) Try.func81 (by kernel_rfl) (by kernel_rfl) Try.ntmps81 (by kernel_rfl) (by kernel_rfl) (by kernel_rfl) (by kernel_rfl) (fun E hb => decorrelate_value_compare_b N hb)
end Go.Proofs.Ytgbkkfpheahdfaa
namespace Go.Proofs.Ytgbkkfpheahdfaa
open Go
set_option maxRecDepth 100000
set_option linter.unusedVariables false
/-! (ipsecgate/decorrelate.side).has -/
abbrev decorrelate_side_has_R : Type := ((Bool × Unit) × (Unit))
noncomputable def decorrelate_side_has (N : Nat) (s_0 : D119) (v_1 : D27) : Option decorrelate_side_has_R :=
  Option.bind (decorrelate_value_compare N s_0.1 v_1) fun y1 =>
  bif (decide (y1.1.1 ≤ (0 : Int))) then
    Option.bind (decorrelate_value_compare N v_1 s_0.2.1) fun y3 =>
    some (((decide (y3.1.1 ≤ (0 : Int))), ()), (()))
  else
    some ((false, ()), (()))
noncomputable def decorrelate_side_has_C (N : Nat) : Ctx := ⟨17, G_tys, [(81, decorrelate_value_compare_ctr N)], G_globs⟩
noncomputable def decorrelate_side_has_S0 : Spec := ⟨[.val T119, .val T27], []⟩
noncomputable def decorrelate_side_has_S1 : Spec := ⟨[.val .bool], []⟩
noncomputable def decorrelate_side_has_K (_N : Nat) : XE → GS → Option decorrelate_side_has_R := retK 0 [4] [false] decorrelate_side_has_S1
noncomputable def decorrelate_side_has_L : List Code := (bodyOf (some Try.f105))
theorem decorrelate_side_has_b {E : Env} (N : Nat) (hb : Base Try.prog (decorrelate_side_has_C N) E 0) : Blk Try.prog (decorrelate_side_has_C N) E (List.range decorrelate_side_has_S0.ks.length) decorrelate_side_has_S0 (decorrelate_side_has_L.drop 0) (fun y => decorrelate_side_has N y.1.1 y.1.2.1) (decorrelate_side_has_K N) :=
  Blk.chunkAt hb 3 (X := (decorrelate_side_has_K N .normal)) (NxOk.end (by kernel_rfl)) rfl (fun x => by kernel_rfl)
noncomputable def decorrelate_side_has_ctr (N : Nat) : Ctr := ⟨decorrelate_side_has_S0, decorrelate_side_has_S1.un [false], 0, (fun y => decorrelate_side_has N y.1.1 y.1.2.1)⟩
theorem decorrelate_side_has_ctrs (N : Nat) : CtrsOk Try.prog (decorrelate_side_has_C N) := ctrs_of (Γ := decorrelate_side_has_C N) (by
  intro p hp
  simp only [decorrelate_side_has_C, List.mem_cons, List.not_mem_nil, or_false] at hp
  rcases hp with rfl
  · exact decorrelate_value_compare_ok N)
theorem decorrelate_side_has_ok (N : Nat) : Ctr.ok Try.prog G_globs 105 (decorrelate_side_has_ctr N) :=
  ctr_fn (Γ := decorrelate_side_has_C N) (rfit := decorrelate_side_has_S1) (bs := [false]) (res := [4]) (by kernel_rfl) (tys_ok G_tys_ok) (decorrelate_side_has_ctrs N) Try.func105 (by kernel_rfl) (by kernel_rfl) Try.ntmps105 (by kernel_rfl) (by kernel_rfl) (by kernel_rfl) (by kernel_rfl) (fun E hb => decorrelate_side_has_b N hb)
end Go.Proofs.Ytgbkkfpheahdfaa
namespace Go.Proofs.Ytgbkkfpheahdfaa
open Go
set_option maxRecDepth 100000
set_option linter.unusedVariables false
/-! ipsecgate/decorrelate.Has -/
abbrev decorrelate_Has_R : Type := ((Bool × Unit) × (Unit))
noncomputable def decorrelate_Has_s3 (N : Nat) (t_41 : (List D119)) (t_42 : Int) (at_7 : (List D27)) : Option (Lo (((List D119) × Int × Unit) × ((List D27) × Unit)) ((Unit) × (Unit)) decorrelate_Has_R) :=
  bif (decide (t_42 < (5 : Int))) then
    bif inR t_42 5 then
    bif inR t_42 5 then
    Option.bind (decorrelate_side_has N (t_41.getD t_42.toNat (((0 : Int), (0 : UInt64), (0 : UInt64), ()), ((0 : Int), (0 : UInt64), (0 : UInt64), ()), ())) (at_7.getD t_42.toNat ((0 : Int), (0 : UInt64), (0 : UInt64), ()))) fun y12 =>
    bif (!y12.1.1) then
      some (.rt ((false, ()), (())))
    else
      some (.go ((t_41, (w64 (t_42 + (1 : Int))), ()), (at_7, ())))
    else none
    else none
  else
    some (.br ((()), (())))
noncomputable def decorrelate_Has_4 (N : Nat) : Option decorrelate_Has_R :=
  some ((true, ()), (()))
noncomputable def decorrelate_Has_2 (N : Nat) (t_41 : (List D119)) (t_42 : Int) (at_7 : (List D27)) : Option decorrelate_Has_R :=
  loopK N (fun y => decorrelate_Has_s3 N y.1.1 y.1.2.1 y.2.1) (fun (e : ((Unit) × (Unit))) => decorrelate_Has_4 N) ((t_41, t_42, ()), (at_7, ()))
noncomputable def decorrelate_Has_1 (N : Nat) (b_3 : D45) (p_4 : D29) : Option decorrelate_Has_R :=
  Option.bind (decorrelate_ofAddress N p_4.1) fun y2 =>
  Option.bind (decorrelate_ofAddress N p_4.2.1) fun y3 =>
  Option.bind (decorrelate_ofNumber N p_4.2.2.1) fun y4 =>
  Option.bind (decorrelate_ofNumber N p_4.2.2.2.1) fun y5 =>
  Option.bind (decorrelate_ofNumber N p_4.2.2.2.2.1) fun y6 =>
  Option.bind (decorrelate_ofBox N b_3) fun y8 =>
  decorrelate_Has_2 N y8.1.1 (0 : Int) ([y2.1.1, y3.1.1, y4.1.1, y5.1.1, y6.1.1] : List D27)
noncomputable def decorrelate_Has (N : Nat) (b_0 : D45) (p_1 : D29) (outbound_2 : Bool) : Option decorrelate_Has_R :=
  bif (!outbound_2) then
    decorrelate_Has_1 N b_0 (p_1.2.1, p_1.1, p_1.2.2.1, p_1.2.2.2.2.1, p_1.2.2.2.1, ())
  else
    decorrelate_Has_1 N b_0 p_1
noncomputable def decorrelate_Has_C (N : Nat) : Ctx := ⟨53, G_tys, [(103, decorrelate_ofAddress_ctr N), (104, decorrelate_ofNumber_ctr N), (79, decorrelate_ofBox_ctr N), (105, decorrelate_side_has_ctr N)], G_globs⟩
noncomputable def decorrelate_Has_S0 : Spec := ⟨[.ref 0 (.arr 5 T27), .val (.arr 5 T119), .val .i64], [(.box 143 (.arr 5 T27), .pos 0)]⟩
noncomputable def decorrelate_Has_S1 : Spec := ⟨[], []⟩
noncomputable def decorrelate_Has_S2 : Spec := ⟨[.ref 0 T45, .ref 1 T29], [(.box 46 T45, .pos 0), (.box 30 T29, .pos 1)]⟩
noncomputable def decorrelate_Has_S3 : Spec := ⟨[.val T45, .val T29, .val .bool], []⟩
noncomputable def decorrelate_Has_S4 : Spec := ⟨[.val .bool], []⟩
noncomputable def decorrelate_Has_K (_N : Nat) : XE → GS → Option decorrelate_Has_R := retK 0 [6] [false] decorrelate_Has_S4
noncomputable def decorrelate_Has_L : List Code := (bodyOf (some Try.f51))
noncomputable def decorrelate_Has_L3 : List Code := (loopOf (decorrelate_Has_L[5]?))
noncomputable def decorrelate_Has_K3 (N : Nat) : XE → GS → Option (Lo (((List D119) × Int × Unit) × ((List D27) × Unit)) ((Unit) × (Unit)) decorrelate_Has_R) := roundK (some 0) (fit 0 [7, 41, 42] decorrelate_Has_S0) (fit 0 [] decorrelate_Has_S1) (decorrelate_Has_K N)
theorem decorrelate_Has_s3_b {E : Env} (N : Nat) (hb : Base Try.prog (decorrelate_Has_C N) E 0) : Blk Try.prog (decorrelate_Has_C N) E [7, 41, 42] decorrelate_Has_S0 (decorrelate_Has_L3.drop 0) (fun y => decorrelate_Has_s3 N y.1.1 y.1.2.1 y.2.1) (decorrelate_Has_K3 N) :=
  Blk.chunkAt hb 4 (X := (decorrelate_Has_K3 N .normal)) (NxOk.end (by kernel_rfl)) rfl (fun x => by kernel_rfl)
theorem decorrelate_Has_4_b {E : Env} (N : Nat) (hb : Base Try.prog (decorrelate_Has_C N) E 0) : Blk Try.prog (decorrelate_Has_C N) E [] decorrelate_Has_S1 (decorrelate_Has_L.drop 6) (fun y => decorrelate_Has_4 N) (decorrelate_Has_K N) :=
  Blk.chunkAt hb 2 (X := (decorrelate_Has_K N .normal)) (NxOk.end (by kernel_rfl)) rfl (fun x => by kernel_rfl)
theorem decorrelate_Has_2_b {E : Env} (N : Nat) (hb : Base Try.prog (decorrelate_Has_C N) E 0) : Blk Try.prog (decorrelate_Has_C N) E [7, 41, 42] decorrelate_Has_S0 (decorrelate_Has_L.drop 5) (fun y => decorrelate_Has_2 N y.1.1 y.1.2.1 y.2.1) (decorrelate_Has_K N) :=
  Blk.loopAt (Nf := N) (hns := [7, 41, 42]) (ans := []) (hc := decorrelate_Has_S0) (ac := decorrelate_Has_S1) (bid := 0) (step := (fun y => decorrelate_Has_s3 N y.1.1 y.1.2.1 y.2.1)) (J := (fun e => (goK 0 [] decorrelate_Has_S1 (fun y => decorrelate_Has_4 N)) (decorrelate_Has_S1.st [] e))) hb (by kernel_rfl) (Blk.into (X := (goK 0 [] decorrelate_Has_S1 (fun y => decorrelate_Has_4 N))) (NxOk.go hb (decorrelate_Has_4_b N hb)) (fun x => by kernel_rfl)) (decorrelate_Has_s3_b N hb) (fun x => by kernel_rfl)
theorem decorrelate_Has_1_b {E : Env} (N : Nat) (hb : Base Try.prog (decorrelate_Has_C N) E 0) : Blk Try.prog (decorrelate_Has_C N) E [3, 4] decorrelate_Has_S2 (decorrelate_Has_L.drop 3) (fun y => decorrelate_Has_1 N y.2.1 y.2.2.1) (decorrelate_Has_K N) :=
  Blk.chunkAt hb 2 (X := (goK 0 [7, 41, 42] decorrelate_Has_S0 (fun y => decorrelate_Has_2 N y.1.1 y.1.2.1 y.2.1))) (NxOk.go hb (decorrelate_Has_2_b N hb)) rfl (fun x => by kernel_rfl)
theorem decorrelate_Has_b {E : Env} (N : Nat) (hb : Base Try.prog (decorrelate_Has_C N) E 0) : Blk Try.prog (decorrelate_Has_C N) E (List.range decorrelate_Has_S3.ks.length) decorrelate_Has_S3 (decorrelate_Has_L.drop 0) (fun y => decorrelate_Has N y.1.1 y.1.2.1 y.1.2.2.1) (decorrelate_Has_K N) :=
  Blk.chunkAt hb 3 (X := (goK 0 [3, 4] decorrelate_Has_S2 (fun y => decorrelate_Has_1 N y.2.1 y.2.2.1))) (NxOk.go hb (decorrelate_Has_1_b N hb)) rfl (fun x => by kernel_rfl)
noncomputable def decorrelate_Has_ctr (N : Nat) : Ctr := ⟨decorrelate_Has_S3, decorrelate_Has_S4.un [false], 0, (fun y => decorrelate_Has N y.1.1 y.1.2.1 y.1.2.2.1)⟩
theorem decorrelate_Has_ctrs (N : Nat) : CtrsOk Try.prog (decorrelate_Has_C N) := ctrs_of (Γ := decorrelate_Has_C N) (by
  intro p hp
  simp only [decorrelate_Has_C, List.mem_cons, List.not_mem_nil, or_false] at hp
  rcases hp with rfl | rfl | rfl | rfl
  · exact decorrelate_ofAddress_ok N
  · exact decorrelate_ofNumber_ok N
  · exact decorrelate_ofBox_ok N
  · exact decorrelate_side_has_ok N)
theorem decorrelate_Has_ok (N : Nat) : Ctr.ok Try.prog G_globs 51 (decorrelate_Has_ctr N) :=
  ctr_fn (Γ := decorrelate_Has_C N) (rfit := decorrelate_Has_S4) (bs := [false]) (res := [6]) (by kernel_rfl) (tys_ok G_tys_ok) (decorrelate_Has_ctrs N) Try.func51 (by kernel_rfl) (by kernel_rfl) Try.ntmps51 (by kernel_rfl) (by kernel_rfl) (by kernel_rfl) (by kernel_rfl) (fun E hb => decorrelate_Has_b N hb)
end Go.Proofs.Ytgbkkfpheahdfaa
namespace Go.Proofs.Ytgbkkfpheahdfaa
open Go
set_option maxRecDepth 100000
set_option linter.unusedVariables false
/-! ipsecgate/lookup.Rule -/
abbrev lookup_Rule_R : Type := ((Int × Bool × Unit) × (Unit))
noncomputable def lookup_Rule_s7 (N : Nat) (outbound_2 : Bool) (i_8 : Int) (t_12 : (List D59)) (t_13 : Int) (t_14 : Int) (t_20 : (List D45)) (t_21 : Int) (t_22 : Int) (p_4 : D29) : Option (Lo ((Bool × Int × (List D59) × Int × Int × (List D45) × Int × Int × Unit) × (D29 × Unit)) ((Bool × (List D59) × Int × Int × Unit) × (D29 × Unit)) (Lo ((Bool × (List D59) × Int × Int × Unit) × (D29 × Unit)) ((Unit) × (Unit)) lookup_Rule_R)) :=
  bif (decide (t_22 < t_21)) then
    bif inR t_22 t_20.length then
    Option.bind (decorrelate_Has N (t_20.getD t_22.toNat (((0 : Int), (0 : UInt64), (0 : UInt64), ()), ((0 : Int), (0 : UInt64), (0 : UInt64), ()), ((0 : Int), (0 : UInt64), (0 : UInt64), ()), ((0 : Int), (0 : UInt64), (0 : UInt64), ()), (0 : Int), (0 : Int), (List.replicate 2 (0 : Int)), (List.replicate 2 (0 : Int)), ())) p_4 outbound_2) fun y7 =>
    bif y7.1.1 then
      some (.rt (.rt ((i_8, true, ()), (()))))
    else
      some (.go ((outbound_2, i_8, t_12, t_13, t_14, t_20, t_21, (w64 (t_22 + (1 : Int))), ()), (p_4, ())))
    else none
  else
    some (.br ((outbound_2, t_12, t_13, t_14, ()), (p_4, ())))
noncomputable def lookup_Rule_8 (N : Nat) (outbound_2 : Bool) (t_12 : (List D59)) (t_13 : Int) (t_14 : Int) (p_4 : D29) : Option (Lo ((Bool × (List D59) × Int × Int × Unit) × (D29 × Unit)) ((Unit) × (Unit)) lookup_Rule_R) :=
  some (.go ((outbound_2, t_12, t_13, (w64 (t_14 + (1 : Int))), ()), (p_4, ())))
noncomputable def lookup_Rule_6 (N : Nat) (outbound_2 : Bool) (i_8 : Int) (t_12 : (List D59)) (t_13 : Int) (t_14 : Int) (t_20 : (List D45)) (t_21 : Int) (t_22 : Int) (p_4 : D29) : Option (Lo ((Bool × (List D59) × Int × Int × Unit) × (D29 × Unit)) ((Unit) × (Unit)) lookup_Rule_R) :=
  loopK N (fun y => lookup_Rule_s7 N y.1.1 y.1.2.1 y.1.2.2.1 y.1.2.2.2.1 y.1.2.2.2.2.1 y.1.2.2.2.2.2.1 y.1.2.2.2.2.2.2.1 y.1.2.2.2.2.2.2.2.1 y.2.1) (fun (e : ((Bool × (List D59) × Int × Int × Unit) × (D29 × Unit))) => lookup_Rule_8 N e.1.1 e.1.2.1 e.1.2.2.1 e.1.2.2.2.1 e.2.1) ((outbound_2, i_8, t_12, t_13, t_14, t_20, t_21, t_22, ()), (p_4, ()))
noncomputable def lookup_Rule_5 (N : Nat) (outbound_2 : Bool) (t_12 : (List D59)) (t_13 : Int) (t_14 : Int) (p_4 : D29) : Option (Lo ((Bool × (List D59) × Int × Int × Unit) × (D29 × Unit)) ((Unit) × (Unit)) lookup_Rule_R) :=
  bif inR t_14 t_12.length then
  let x3 := t_12.getD t_14.toNat ((0 : Int), ([] : List UInt8), ([] : List D45), ())
  lookup_Rule_6 N outbound_2 t_14 t_12 t_13 t_14 x3.2.2.1 (x3.2.2.1.length : Int) (0 : Int) p_4
  else none
noncomputable def lookup_Rule_3 (N : Nat) (outbound_2 : Bool) (t_12 : (List D59)) (t_13 : Int) (t_14 : Int) (p_4 : D29) : Option (Lo ((Bool × (List D59) × Int × Int × Unit) × (D29 × Unit)) ((Unit) × (Unit)) lookup_Rule_R) :=
  lookup_Rule_5 N outbound_2 t_12 t_13 t_14 p_4
noncomputable def lookup_Rule_s2 (N : Nat) (outbound_2 : Bool) (t_12 : (List D59)) (t_13 : Int) (t_14 : Int) (p_4 : D29) : Option (Lo ((Bool × (List D59) × Int × Int × Unit) × (D29 × Unit)) ((Unit) × (Unit)) lookup_Rule_R) :=
  bif (decide (t_14 < t_13)) then
    lookup_Rule_3 N outbound_2 t_12 t_13 t_14 p_4
  else
    some (.br ((()), (())))
noncomputable def lookup_Rule_9 (N : Nat) : Option lookup_Rule_R :=
  some (((0 : Int), false, ()), (()))
noncomputable def lookup_Rule_1 (N : Nat) (outbound_2 : Bool) (t_12 : (List D59)) (t_13 : Int) (t_14 : Int) (p_4 : D29) : Option lookup_Rule_R :=
  loopK N (fun y => lookup_Rule_s2 N y.1.1 y.1.2.1 y.1.2.2.1 y.1.2.2.2.1 y.2.1) (fun (e : ((Unit) × (Unit))) => lookup_Rule_9 N) ((outbound_2, t_12, t_13, t_14, ()), (p_4, ()))
noncomputable def lookup_Rule (N : Nat) (l_0 : (List D59)) (p_1 : D29) (outbound_2 : Bool) : Option lookup_Rule_R :=
  lookup_Rule_1 N outbound_2 l_0 (l_0.length : Int) (0 : Int) p_1
noncomputable def lookup_Rule_C (N : Nat) : Ctx := ⟨33, G_tys, [(51, decorrelate_Has_ctr N)], G_globs⟩
noncomputable def lookup_Rule_S0 : Spec := ⟨[.val .bool, .ref 0 T29, .val .i64, .val (.sl T59), .val .i64, .val .i64, .val (.sl T45), .val .i64, .val .i64], [(.box 30 T29, .pos 1)]⟩
noncomputable def lookup_Rule_S1 : Spec := ⟨[.val .bool, .ref 0 T29, .val (.sl T59), .val .i64, .val .i64], [(.box 30 T29, .pos 1)]⟩
noncomputable def lookup_Rule_S2 : Spec := ⟨[], []⟩
noncomputable def lookup_Rule_S3 : Spec := ⟨[.val (.sl T59), .val T29, .val .bool], []⟩
noncomputable def lookup_Rule_S4 : Spec := ⟨[.val .i64, .val .bool], []⟩
noncomputable def lookup_Rule_K (_N : Nat) : XE → GS → Option lookup_Rule_R := retK 0 [6, 7] [false, false] lookup_Rule_S4
noncomputable def lookup_Rule_L : List Code := (bodyOf (some Try.f38))
noncomputable def lookup_Rule_L2 : List Code := (loopOf (lookup_Rule_L[2]?))
noncomputable def lookup_Rule_L4b : List Code := (blockOf (lookup_Rule_L2[2]?))
noncomputable def lookup_Rule_L7 : List Code := (loopOf (lookup_Rule_L4b[2]?))
noncomputable def lookup_Rule_K2 (N : Nat) : XE → GS → Option (Lo ((Bool × (List D59) × Int × Int × Unit) × (D29 × Unit)) ((Unit) × (Unit)) lookup_Rule_R) := roundK (some 0) (fit 0 [2, 4, 12, 13, 14] lookup_Rule_S1) (fit 0 [] lookup_Rule_S2) (lookup_Rule_K N)
noncomputable def lookup_Rule_K4 (N : Nat) : XE → GS → Option (Lo ((Bool × (List D59) × Int × Int × Unit) × (D29 × Unit)) ((Unit) × (Unit)) lookup_Rule_R) := blockK 1 (goK 0 [2, 4, 12, 13, 14] lookup_Rule_S1 (fun y => lookup_Rule_8 N y.1.1 y.1.2.1 y.1.2.2.1 y.1.2.2.2.1 y.2.1)) (lookup_Rule_K2 N)
noncomputable def lookup_Rule_K7 (N : Nat) : XE → GS → Option (Lo ((Bool × Int × (List D59) × Int × Int × (List D45) × Int × Int × Unit) × (D29 × Unit)) ((Bool × (List D59) × Int × Int × Unit) × (D29 × Unit)) (Lo ((Bool × (List D59) × Int × Int × Unit) × (D29 × Unit)) ((Unit) × (Unit)) lookup_Rule_R)) := roundK (some 2) (fit 0 [2, 4, 8, 12, 13, 14, 20, 21, 22] lookup_Rule_S0) (fit 0 [2, 4, 12, 13, 14] lookup_Rule_S1) (lookup_Rule_K4 N)
theorem lookup_Rule_s7_b {E : Env} (N : Nat) (hb : Base Try.prog (lookup_Rule_C N) E 0) : Blk Try.prog (lookup_Rule_C N) E [2, 4, 8, 12, 13, 14, 20, 21, 22] lookup_Rule_S0 (lookup_Rule_L7.drop 0) (fun y => lookup_Rule_s7 N y.1.1 y.1.2.1 y.1.2.2.1 y.1.2.2.2.1 y.1.2.2.2.2.1 y.1.2.2.2.2.2.1 y.1.2.2.2.2.2.2.1 y.1.2.2.2.2.2.2.2.1 y.2.1) (lookup_Rule_K7 N) :=
  Blk.chunkAt hb 4 (X := (lookup_Rule_K7 N .normal)) (NxOk.end (by kernel_rfl)) rfl (fun x => by kernel_rfl)
theorem lookup_Rule_8_b {E : Env} (N : Nat) (hb : Base Try.prog (lookup_Rule_C N) E 0) : Blk Try.prog (lookup_Rule_C N) E [2, 4, 12, 13, 14] lookup_Rule_S1 (lookup_Rule_L2.drop 3) (fun y => lookup_Rule_8 N y.1.1 y.1.2.1 y.1.2.2.1 y.1.2.2.2.1 y.2.1) (lookup_Rule_K2 N) :=
  Blk.chunkAt hb 1 (X := (lookup_Rule_K2 N .normal)) (NxOk.end (by kernel_rfl)) rfl (fun x => by kernel_rfl)
theorem lookup_Rule_6_b {E : Env} (N : Nat) (hb : Base Try.prog (lookup_Rule_C N) E 0) : Blk Try.prog (lookup_Rule_C N) E [2, 4, 8, 12, 13, 14, 20, 21, 22] lookup_Rule_S0 (lookup_Rule_L4b.drop 2) (fun y => lookup_Rule_6 N y.1.1 y.1.2.1 y.1.2.2.1 y.1.2.2.2.1 y.1.2.2.2.2.1 y.1.2.2.2.2.2.1 y.1.2.2.2.2.2.2.1 y.1.2.2.2.2.2.2.2.1 y.2.1) (lookup_Rule_K4 N) :=
  Blk.loopAt (Nf := N) (hns := [2, 4, 8, 12, 13, 14, 20, 21, 22]) (ans := [2, 4, 12, 13, 14]) (hc := lookup_Rule_S0) (ac := lookup_Rule_S1) (bid := 2) (step := (fun y => lookup_Rule_s7 N y.1.1 y.1.2.1 y.1.2.2.1 y.1.2.2.2.1 y.1.2.2.2.2.1 y.1.2.2.2.2.2.1 y.1.2.2.2.2.2.2.1 y.1.2.2.2.2.2.2.2.1 y.2.1)) (J := (fun e => (lookup_Rule_K4 N .normal) (lookup_Rule_S1.st [2, 4, 12, 13, 14] e))) hb (by kernel_rfl) (Blk.into (X := (lookup_Rule_K4 N .normal)) (NxOk.end (by kernel_rfl)) (fun x => by kernel_rfl)) (lookup_Rule_s7_b N hb) (fun x => by kernel_rfl)
theorem lookup_Rule_5_b {E : Env} (N : Nat) (hb : Base Try.prog (lookup_Rule_C N) E 0) : Blk Try.prog (lookup_Rule_C N) E [2, 4, 12, 13, 14] lookup_Rule_S1 (lookup_Rule_L4b.drop 0) (fun y => lookup_Rule_5 N y.1.1 y.1.2.1 y.1.2.2.1 y.1.2.2.2.1 y.2.1) (lookup_Rule_K4 N) :=
  Blk.chunkAt hb 2 (X := (goK 0 [2, 4, 8, 12, 13, 14, 20, 21, 22] lookup_Rule_S0 (fun y => lookup_Rule_6 N y.1.1 y.1.2.1 y.1.2.2.1 y.1.2.2.2.1 y.1.2.2.2.2.1 y.1.2.2.2.2.2.1 y.1.2.2.2.2.2.2.1 y.1.2.2.2.2.2.2.2.1 y.2.1))) (NxOk.go hb (lookup_Rule_6_b N hb)) rfl (fun x => by kernel_rfl)
theorem lookup_Rule_3_b {E : Env} (N : Nat) (hb : Base Try.prog (lookup_Rule_C N) E 0) : Blk Try.prog (lookup_Rule_C N) E [2, 4, 12, 13, 14] lookup_Rule_S1 (lookup_Rule_L2.drop 2) (fun y => lookup_Rule_3 N y.1.1 y.1.2.1 y.1.2.2.1 y.1.2.2.2.1 y.2.1) (lookup_Rule_K2 N) :=
  Blk.blockAt (bid := 1) (X := (goK 0 [2, 4, 12, 13, 14] lookup_Rule_S1 (fun y => lookup_Rule_8 N y.1.1 y.1.2.1 y.1.2.2.1 y.1.2.2.2.1 y.2.1))) (Y := (goK 0 [2, 4, 12, 13, 14] lookup_Rule_S1 (fun y => lookup_Rule_5 N y.1.1 y.1.2.1 y.1.2.2.1 y.1.2.2.2.1 y.2.1))) (by kernel_rfl) (NxOk.go hb (lookup_Rule_8_b N hb)) (NxOk.go hb (lookup_Rule_5_b N hb)) (fun x => by kernel_rfl)
theorem lookup_Rule_s2_b {E : Env} (N : Nat) (hb : Base Try.prog (lookup_Rule_C N) E 0) : Blk Try.prog (lookup_Rule_C N) E [2, 4, 12, 13, 14] lookup_Rule_S1 (lookup_Rule_L2.drop 0) (fun y => lookup_Rule_s2 N y.1.1 y.1.2.1 y.1.2.2.1 y.1.2.2.2.1 y.2.1) (lookup_Rule_K2 N) :=
  Blk.chunkAt hb 2 (X := (goK 0 [2, 4, 12, 13, 14] lookup_Rule_S1 (fun y => lookup_Rule_3 N y.1.1 y.1.2.1 y.1.2.2.1 y.1.2.2.2.1 y.2.1))) (NxOk.go hb (lookup_Rule_3_b N hb)) rfl (fun x => by kernel_rfl)
theorem lookup_Rule_9_b {E : Env} (N : Nat) (hb : Base Try.prog (lookup_Rule_C N) E 0) : Blk Try.prog (lookup_Rule_C N) E [] lookup_Rule_S2 (lookup_Rule_L.drop 3) (fun y => lookup_Rule_9 N) (lookup_Rule_K N) :=
  Blk.chunkAt hb 2 (X := (lookup_Rule_K N .normal)) (NxOk.end (by kernel_rfl)) rfl (fun x => by kernel_rfl)
theorem lookup_Rule_1_b {E : Env} (N : Nat) (hb : Base Try.prog (lookup_Rule_C N) E 0) : Blk Try.prog (lookup_Rule_C N) E [2, 4, 12, 13, 14] lookup_Rule_S1 (lookup_Rule_L.drop 2) (fun y => lookup_Rule_1 N y.1.1 y.1.2.1 y.1.2.2.1 y.1.2.2.2.1 y.2.1) (lookup_Rule_K N) :=
  Blk.loopAt (Nf := N) (hns := [2, 4, 12, 13, 14]) (ans := []) (hc := lookup_Rule_S1) (ac := lookup_Rule_S2) (bid := 0) (step := (fun y => lookup_Rule_s2 N y.1.1 y.1.2.1 y.1.2.2.1 y.1.2.2.2.1 y.2.1)) (J := (fun e => (goK 0 [] lookup_Rule_S2 (fun y => lookup_Rule_9 N)) (lookup_Rule_S2.st [] e))) hb (by kernel_rfl) (Blk.into (X := (goK 0 [] lookup_Rule_S2 (fun y => lookup_Rule_9 N))) (NxOk.go hb (lookup_Rule_9_b N hb)) (fun x => by kernel_rfl)) (lookup_Rule_s2_b N hb) (fun x => by kernel_rfl)
theorem lookup_Rule_b {E : Env} (N : Nat) (hb : Base Try.prog (lookup_Rule_C N) E 0) : Blk Try.prog (lookup_Rule_C N) E (List.range lookup_Rule_S3.ks.length) lookup_Rule_S3 (lookup_Rule_L.drop 0) (fun y => lookup_Rule N y.1.1 y.1.2.1 y.1.2.2.1) (lookup_Rule_K N) :=
  Blk.chunkAt hb 2 (X := (goK 0 [2, 4, 12, 13, 14] lookup_Rule_S1 (fun y => lookup_Rule_1 N y.1.1 y.1.2.1 y.1.2.2.1 y.1.2.2.2.1 y.2.1))) (NxOk.go hb (lookup_Rule_1_b N hb)) rfl (fun x => by kernel_rfl)
noncomputable def lookup_Rule_ctr (N : Nat) : Ctr := ⟨lookup_Rule_S3, lookup_Rule_S4.un [false, false], 0, (fun y => lookup_Rule N y.1.1 y.1.2.1 y.1.2.2.1)⟩
theorem lookup_Rule_ctrs (N : Nat) : CtrsOk Try.prog (lookup_Rule_C N) := ctrs_of (Γ := lookup_Rule_C N) (by
  intro p hp
  simp only [lookup_Rule_C, List.mem_cons, List.not_mem_nil, or_false] at hp
  rcases hp with rfl
  · exact decorrelate_Has_ok N)
theorem lookup_Rule_ok (N : Nat) : Ctr.ok Try.prog G_globs 38 (lookup_Rule_ctr N) :=
  ctr_fn (Γ := lookup_Rule_C N) (rfit := lookup_Rule_S4) (bs := [false, false]) (res := [6, 7]) (by kernel_rfl) (tys_ok G_tys_ok) (lookup_Rule_ctrs N) Try.func38 (by kernel_rfl) (by kernel_rfl) Try.ntmps38 (by kernel_rfl) (by kernel_rfl) (by kernel_rfl) (by kernel_rfl) (fun E hb => lookup_Rule_b N hb)
end Go.Proofs.Ytgbkkfpheahdfaa
namespace Go.Proofs.Ytgbkkfpheahdfaa
open Go
set_option maxRecDepth 100000
set_option linter.unusedVariables false
/-! ipsecgate/lookup.hidden -/
abbrev lookup_hidden_R : Type := ((Bool × Bool × Unit) × (Unit))
noncomputable def lookup_hidden (N : Nat) (p_0 : D29) : Option lookup_hidden_R :=
  let x1 := decide (p_0.2.2.2.1 = (-1 : Int))
  let x2 := decide (p_0.2.2.2.2.1 = (-1 : Int))
  bif (decide (p_0.2.2.1 = (6 : Int))) then
    some ((x1, x2, ()), (()))
  else
    bif (decide (p_0.2.2.1 = (17 : Int))) then
      some ((x1, x2, ()), (()))
    else
      bif (decide (p_0.2.2.1 = (1 : Int))) then
        some ((x1, false, ()), (()))
      else
        bif (decide (p_0.2.2.1 = (58 : Int))) then
          some ((x1, false, ()), (()))
        else
          some ((false, false, ()), (()))
noncomputable def lookup_hidden_C (N : Nat) : Ctx := ⟨21, G_tys, [], G_globs⟩
noncomputable def lookup_hidden_S0 : Spec := ⟨[.val T29], []⟩
noncomputable def lookup_hidden_S1 : Spec := ⟨[.val .bool, .val .bool], []⟩
noncomputable def lookup_hidden_K (_N : Nat) : XE → GS → Option lookup_hidden_R := retK 0 [2, 3] [false, false] lookup_hidden_S1
noncomputable def lookup_hidden_L : List Code := (bodyOf (some Try.f87))
theorem lookup_hidden_b {E : Env} (N : Nat) (hb : Base Try.prog (lookup_hidden_C N) E 0) : Blk Try.prog (lookup_hidden_C N) E (List.range lookup_hidden_S0.ks.length) lookup_hidden_S0 (lookup_hidden_L.drop 0) (fun y => lookup_hidden N y.1.1) (lookup_hidden_K N) :=
  Blk.chunkAt hb 6 (X := (lookup_hidden_K N .normal)) (NxOk.end (by kernel_rfl)) rfl (fun x => by kernel_rfl)
noncomputable def lookup_hidden_ctr (N : Nat) : Ctr := ⟨lookup_hidden_S0, lookup_hidden_S1.un [false, false], 0, (fun y => lookup_hidden N y.1.1)⟩
theorem lookup_hidden_ctrs (N : Nat) : CtrsOk Try.prog (lookup_hidden_C N) := ctrs_nil rfl
theorem lookup_hidden_ok (N : Nat) : Ctr.ok Try.prog G_globs 87 (lookup_hidden_ctr N) :=
  ctr_fn (Γ := lookup_hidden_C N) (rfit := lookup_hidden_S1) (bs := [false, false]) (res := [2, 3]) (by kernel_rfl) (tys_ok G_tys_ok) (lookup_hidden_ctrs N) Try.func87 (by kernel_rfl) (by kernel_rfl) Try.ntmps87 (by kernel_rfl) (by kernel_rfl) (by kernel_rfl) (by kernel_rfl) (fun E hb => lookup_hidden_b N hb)
end Go.Proofs.Ytgbkkfpheahdfaa
namespace Go.Proofs.Ytgbkkfpheahdfaa
open Go
set_option maxRecDepth 100000
set_option linter.unusedVariables false
/-! ipsecgate/lookup.could -/
abbrev lookup_could_R : Type := ((Bool × Unit) × (Unit))
noncomputable def lookup_could (N : Nat) (b_0 : D45) (p_1 : D29) (outbound_2 : Bool) : Option lookup_could_R :=
  Option.bind (lookup_hidden N p_1) fun y1 =>
  bif (!outbound_2) then
    bif y1.1.2.1 then
      let x3 := (b_0.2.2.2.2.2.2.1.getD 1 (0 : Int))
      bif y1.1.1 then
        let x4 := (b_0.2.2.2.2.2.2.2.1.getD 1 (0 : Int))
        bif (!y1.1.2.1) then
          bif (!y1.1.1) then
            Option.bind (decorrelate_Has N b_0 (p_1.1, p_1.2.1, p_1.2.2.1, x4, x3, ()) outbound_2) fun y7 =>
            some ((y7.1.1, ()), (()))
          else
            bif (decide ((0 : Int) ≤ x4)) then
              Option.bind (decorrelate_Has N b_0 (p_1.1, p_1.2.1, p_1.2.2.1, x4, x3, ()) outbound_2) fun y9 =>
              some ((y9.1.1, ()), (()))
            else
              some ((false, ()), (()))
        else
          bif (decide ((0 : Int) ≤ x3)) then
            bif (!y1.1.1) then
              Option.bind (decorrelate_Has N b_0 (p_1.1, p_1.2.1, p_1.2.2.1, x4, x3, ()) outbound_2) fun y12 =>
              some ((y12.1.1, ()), (()))
            else
              bif (decide ((0 : Int) ≤ x4)) then
                Option.bind (decorrelate_Has N b_0 (p_1.1, p_1.2.1, p_1.2.2.1, x4, x3, ()) outbound_2) fun y14 =>
                some ((y14.1.1, ()), (()))
              else
                some ((false, ()), (()))
          else
            some ((false, ()), (()))
      else
        bif (!y1.1.2.1) then
          bif (!y1.1.1) then
            Option.bind (decorrelate_Has N b_0 (p_1.1, p_1.2.1, p_1.2.2.1, p_1.2.2.2.1, x3, ()) outbound_2) fun y17 =>
            some ((y17.1.1, ()), (()))
          else
            bif (decide ((0 : Int) ≤ p_1.2.2.2.1)) then
              Option.bind (decorrelate_Has N b_0 (p_1.1, p_1.2.1, p_1.2.2.1, p_1.2.2.2.1, x3, ()) outbound_2) fun y19 =>
              some ((y19.1.1, ()), (()))
            else
              some ((false, ()), (()))
        else
          bif (decide ((0 : Int) ≤ x3)) then
            bif (!y1.1.1) then
              Option.bind (decorrelate_Has N b_0 (p_1.1, p_1.2.1, p_1.2.2.1, p_1.2.2.2.1, x3, ()) outbound_2) fun y22 =>
              some ((y22.1.1, ()), (()))
            else
              bif (decide ((0 : Int) ≤ p_1.2.2.2.1)) then
                Option.bind (decorrelate_Has N b_0 (p_1.1, p_1.2.1, p_1.2.2.1, p_1.2.2.2.1, x3, ()) outbound_2) fun y24 =>
                some ((y24.1.1, ()), (()))
              else
                some ((false, ()), (()))
          else
            some ((false, ()), (()))
    else
      bif y1.1.1 then
        let x25 := (b_0.2.2.2.2.2.2.2.1.getD 1 (0 : Int))
        bif (!y1.1.2.1) then
          bif (!y1.1.1) then
            Option.bind (decorrelate_Has N b_0 (p_1.1, p_1.2.1, p_1.2.2.1, x25, p_1.2.2.2.2.1, ()) outbound_2) fun y28 =>
            some ((y28.1.1, ()), (()))
          else
            bif (decide ((0 : Int) ≤ x25)) then
              Option.bind (decorrelate_Has N b_0 (p_1.1, p_1.2.1, p_1.2.2.1, x25, p_1.2.2.2.2.1, ()) outbound_2) fun y30 =>
              some ((y30.1.1, ()), (()))
            else
              some ((false, ()), (()))
        else
          bif (decide ((0 : Int) ≤ p_1.2.2.2.2.1)) then
            bif (!y1.1.1) then
              Option.bind (decorrelate_Has N b_0 (p_1.1, p_1.2.1, p_1.2.2.1, x25, p_1.2.2.2.2.1, ()) outbound_2) fun y33 =>
              some ((y33.1.1, ()), (()))
            else
              bif (decide ((0 : Int) ≤ x25)) then
                Option.bind (decorrelate_Has N b_0 (p_1.1, p_1.2.1, p_1.2.2.1, x25, p_1.2.2.2.2.1, ()) outbound_2) fun y35 =>
                some ((y35.1.1, ()), (()))
              else
                some ((false, ()), (()))
          else
            some ((false, ()), (()))
      else
        bif (!y1.1.2.1) then
          bif (!y1.1.1) then
            Option.bind (decorrelate_Has N b_0 p_1 outbound_2) fun y38 =>
            some ((y38.1.1, ()), (()))
          else
            bif (decide ((0 : Int) ≤ p_1.2.2.2.1)) then
              Option.bind (decorrelate_Has N b_0 p_1 outbound_2) fun y40 =>
              some ((y40.1.1, ()), (()))
            else
              some ((false, ()), (()))
        else
          bif (decide ((0 : Int) ≤ p_1.2.2.2.2.1)) then
            bif (!y1.1.1) then
              Option.bind (decorrelate_Has N b_0 p_1 outbound_2) fun y43 =>
              some ((y43.1.1, ()), (()))
            else
              bif (decide ((0 : Int) ≤ p_1.2.2.2.1)) then
                Option.bind (decorrelate_Has N b_0 p_1 outbound_2) fun y45 =>
                some ((y45.1.1, ()), (()))
              else
                some ((false, ()), (()))
          else
            some ((false, ()), (()))
  else
    bif y1.1.1 then
      let x46 := (b_0.2.2.2.2.2.2.1.getD 1 (0 : Int))
      bif y1.1.2.1 then
        let x47 := (b_0.2.2.2.2.2.2.2.1.getD 1 (0 : Int))
        bif (!y1.1.1) then
          bif (!y1.1.2.1) then
            Option.bind (decorrelate_Has N b_0 (p_1.1, p_1.2.1, p_1.2.2.1, x46, x47, ()) outbound_2) fun y50 =>
            some ((y50.1.1, ()), (()))
          else
            bif (decide ((0 : Int) ≤ x47)) then
              Option.bind (decorrelate_Has N b_0 (p_1.1, p_1.2.1, p_1.2.2.1, x46, x47, ()) outbound_2) fun y52 =>
              some ((y52.1.1, ()), (()))
            else
              some ((false, ()), (()))
        else
          bif (decide ((0 : Int) ≤ x46)) then
            bif (!y1.1.2.1) then
              Option.bind (decorrelate_Has N b_0 (p_1.1, p_1.2.1, p_1.2.2.1, x46, x47, ()) outbound_2) fun y55 =>
              some ((y55.1.1, ()), (()))
            else
              bif (decide ((0 : Int) ≤ x47)) then
                Option.bind (decorrelate_Has N b_0 (p_1.1, p_1.2.1, p_1.2.2.1, x46, x47, ()) outbound_2) fun y57 =>
                some ((y57.1.1, ()), (()))
              else
                some ((false, ()), (()))
          else
            some ((false, ()), (()))
      else
        bif (!y1.1.1) then
          bif (!y1.1.2.1) then
            Option.bind (decorrelate_Has N b_0 (p_1.1, p_1.2.1, p_1.2.2.1, x46, p_1.2.2.2.2.1, ()) outbound_2) fun y60 =>
            some ((y60.1.1, ()), (()))
          else
            bif (decide ((0 : Int) ≤ p_1.2.2.2.2.1)) then
              Option.bind (decorrelate_Has N b_0 (p_1.1, p_1.2.1, p_1.2.2.1, x46, p_1.2.2.2.2.1, ()) outbound_2) fun y62 =>
              some ((y62.1.1, ()), (()))
            else
              some ((false, ()), (()))
        else
          bif (decide ((0 : Int) ≤ x46)) then
            bif (!y1.1.2.1) then
              Option.bind (decorrelate_Has N b_0 (p_1.1, p_1.2.1, p_1.2.2.1, x46, p_1.2.2.2.2.1, ()) outbound_2) fun y65 =>
              some ((y65.1.1, ()), (()))
            else
              bif (decide ((0 : Int) ≤ p_1.2.2.2.2.1)) then
                Option.bind (decorrelate_Has N b_0 (p_1.1, p_1.2.1, p_1.2.2.1, x46, p_1.2.2.2.2.1, ()) outbound_2) fun y67 =>
                some ((y67.1.1, ()), (()))
              else
                some ((false, ()), (()))
          else
            some ((false, ()), (()))
    else
      bif y1.1.2.1 then
        let x68 := (b_0.2.2.2.2.2.2.2.1.getD 1 (0 : Int))
        bif (!y1.1.1) then
          bif (!y1.1.2.1) then
            Option.bind (decorrelate_Has N b_0 (p_1.1, p_1.2.1, p_1.2.2.1, p_1.2.2.2.1, x68, ()) outbound_2) fun y71 =>
            some ((y71.1.1, ()), (()))
          else
            bif (decide ((0 : Int) ≤ x68)) then
              Option.bind (decorrelate_Has N b_0 (p_1.1, p_1.2.1, p_1.2.2.1, p_1.2.2.2.1, x68, ()) outbound_2) fun y73 =>
              some ((y73.1.1, ()), (()))
            else
              some ((false, ()), (()))
        else
          bif (decide ((0 : Int) ≤ p_1.2.2.2.1)) then
            bif (!y1.1.2.1) then
              Option.bind (decorrelate_Has N b_0 (p_1.1, p_1.2.1, p_1.2.2.1, p_1.2.2.2.1, x68, ()) outbound_2) fun y76 =>
              some ((y76.1.1, ()), (()))
            else
              bif (decide ((0 : Int) ≤ x68)) then
                Option.bind (decorrelate_Has N b_0 (p_1.1, p_1.2.1, p_1.2.2.1, p_1.2.2.2.1, x68, ()) outbound_2) fun y78 =>
                some ((y78.1.1, ()), (()))
              else
                some ((false, ()), (()))
          else
            some ((false, ()), (()))
      else
        bif (!y1.1.1) then
          bif (!y1.1.2.1) then
            Option.bind (decorrelate_Has N b_0 p_1 outbound_2) fun y81 =>
            some ((y81.1.1, ()), (()))
          else
            bif (decide ((0 : Int) ≤ p_1.2.2.2.2.1)) then
              Option.bind (decorrelate_Has N b_0 p_1 outbound_2) fun y83 =>
              some ((y83.1.1, ()), (()))
            else
              some ((false, ()), (()))
        else
          bif (decide ((0 : Int) ≤ p_1.2.2.2.1)) then
            bif (!y1.1.2.1) then
              Option.bind (decorrelate_Has N b_0 p_1 outbound_2) fun y86 =>
              some ((y86.1.1, ()), (()))
            else
              bif (decide ((0 : Int) ≤ p_1.2.2.2.2.1)) then
                Option.bind (decorrelate_Has N b_0 p_1 outbound_2) fun y88 =>
                some ((y88.1.1, ()), (()))
              else
                some ((false, ()), (()))
          else
            some ((false, ()), (()))
noncomputable def lookup_could_C (N : Nat) : Ctx := ⟨60, G_tys, [(87, lookup_hidden_ctr N), (51, decorrelate_Has_ctr N)], G_globs⟩
noncomputable def lookup_could_S0 : Spec := ⟨[.val T45, .val T29, .val .bool], []⟩
noncomputable def lookup_could_S1 : Spec := ⟨[.val .bool], []⟩
noncomputable def lookup_could_K (_N : Nat) : XE → GS → Option lookup_could_R := retK 0 [6] [false] lookup_could_S1
noncomputable def lookup_could_L : List Code := (bodyOf (some Try.f88))
theorem lookup_could_b {E : Env} (N : Nat) (hb : Base Try.prog (lookup_could_C N) E 0) : Blk Try.prog (lookup_could_C N) E (List.range lookup_could_S0.ks.length) lookup_could_S0 (lookup_could_L.drop 0) (fun y => lookup_could N y.1.1 y.1.2.1 y.1.2.2.1) (lookup_could_K N) :=
  Blk.chunkAt hb 11 (X := (lookup_could_K N .normal)) (NxOk.end (by kernel_rfl)) rfl (fun x => by kernel_rfl)
noncomputable def lookup_could_ctr (N : Nat) : Ctr := ⟨lookup_could_S0, lookup_could_S1.un [false], 0, (fun y => lookup_could N y.1.1 y.1.2.1 y.1.2.2.1)⟩
theorem lookup_could_ctrs (N : Nat) : CtrsOk Try.prog (lookup_could_C N) := ctrs_of (Γ := lookup_could_C N) (by
  intro p hp
  simp only [lookup_could_C, List.mem_cons, List.not_mem_nil, or_false] at hp
  rcases hp with rfl | rfl
  · exact lookup_hidden_ok N
  · exact decorrelate_Has_ok N)
theorem lookup_could_ok (N : Nat) : Ctr.ok Try.prog G_globs 88 (lookup_could_ctr N) :=
  ctr_fn (Γ := lookup_could_C N) (rfit := lookup_could_S1) (bs := [false]) (res := [6]) (by kernel_rfl) (tys_ok G_tys_ok) (lookup_could_ctrs N) Try.func88 (by kernel_rfl) (by kernel_rfl) Try.ntmps88 (by kernel_rfl) (by kernel_rfl) (by kernel_rfl) (by kernel_rfl) (fun E hb => lookup_could_b N hb)
end Go.Proofs.Ytgbkkfpheahdfaa
namespace Go.Proofs.Ytgbkkfpheahdfaa
open Go
set_option maxRecDepth 100000
set_option linter.unusedVariables false
/-! ipsecgate/lookup.Action -/
abbrev lookup_Action_R : Type := ((Int × Int × Unit) × (Unit))
noncomputable def lookup_Action_s12 (N : Nat) (outbound_2 : Bool) (r_8 : Int) (ok_9 : Bool) (i_13 : Int) (t_53 : (List D59)) (t_54 : Int) (t_55 : Int) (t_61 : (List D45)) (t_62 : Int) (t_63 : Int) (p_4 : D29) (x_14 : D59) (x_14_v : (List D45)) : Option (Lo ((Bool × Int × Bool × Int × (List D59) × Int × Int × (List D45) × Int × Int × Unit) × (D29 × D59 × (List D45) × Unit)) ((Bool × Int × Bool × (List D59) × Int × Int × Unit) × (D29 × Unit)) (Lo ((Bool × Int × Bool × (List D59) × Int × Int × Unit) × (D29 × Unit)) ((Int × Bool × Unit) × (Unit)) lookup_Action_R)) :=
  bif (decide (t_63 < t_62)) then
    bif inR t_63 t_61.length then
    bif (!(decide (x_14.1 = (1 : Int)))) then
      Option.bind (lookup_could N (t_61.getD t_63.toNat (((0 : Int), (0 : UInt64), (0 : UInt64), ()), ((0 : Int), (0 : UInt64), (0 : UInt64), ()), ((0 : Int), (0 : UInt64), (0 : UInt64), ()), ((0 : Int), (0 : UInt64), (0 : UInt64), ()), (0 : Int), (0 : Int), (List.replicate 2 (0 : Int)), (List.replicate 2 (0 : Int)), ())) p_4 outbound_2) fun y14 =>
      bif y14.1.1 then
        some (.rt (.rt (((0 : Int), i_13, ()), (()))))
      else
        some (.go ((outbound_2, r_8, ok_9, i_13, t_53, t_54, t_55, t_61, t_62, (w64 (t_63 + (1 : Int))), ()), (p_4, x_14, x_14_v, ())))
    else
      some (.go ((outbound_2, r_8, ok_9, i_13, t_53, t_54, t_55, t_61, t_62, (w64 (t_63 + (1 : Int))), ()), (p_4, x_14, x_14_v, ())))
    else none
  else
    some (.br ((outbound_2, r_8, ok_9, t_53, t_54, t_55, ()), (p_4, ())))
noncomputable def lookup_Action_13 (N : Nat) (outbound_2 : Bool) (r_8 : Int) (ok_9 : Bool) (t_53 : (List D59)) (t_54 : Int) (t_55 : Int) (p_4 : D29) : Option (Lo ((Bool × Int × Bool × (List D59) × Int × Int × Unit) × (D29 × Unit)) ((Int × Bool × Unit) × (Unit)) lookup_Action_R) :=
  some (.go ((outbound_2, r_8, ok_9, t_53, t_54, (w64 (t_55 + (1 : Int))), ()), (p_4, ())))
noncomputable def lookup_Action_11 (N : Nat) (outbound_2 : Bool) (r_8 : Int) (ok_9 : Bool) (i_13 : Int) (t_53 : (List D59)) (t_54 : Int) (t_55 : Int) (t_61 : (List D45)) (t_62 : Int) (t_63 : Int) (p_4 : D29) (x_14 : D59) (x_14_v : (List D45)) : Option (Lo ((Bool × Int × Bool × (List D59) × Int × Int × Unit) × (D29 × Unit)) ((Int × Bool × Unit) × (Unit)) lookup_Action_R) :=
  loopK N (fun y => lookup_Action_s12 N y.1.1 y.1.2.1 y.1.2.2.1 y.1.2.2.2.1 y.1.2.2.2.2.1 y.1.2.2.2.2.2.1 y.1.2.2.2.2.2.2.1 y.1.2.2.2.2.2.2.2.1 y.1.2.2.2.2.2.2.2.2.1 y.1.2.2.2.2.2.2.2.2.2.1 y.2.1 y.2.2.1 y.2.2.2.1) (fun (e : ((Bool × Int × Bool × (List D59) × Int × Int × Unit) × (D29 × Unit))) => lookup_Action_13 N e.1.1 e.1.2.1 e.1.2.2.1 e.1.2.2.2.1 e.1.2.2.2.2.1 e.1.2.2.2.2.2.1 e.2.1) ((outbound_2, r_8, ok_9, i_13, t_53, t_54, t_55, t_61, t_62, t_63, ()), (p_4, x_14, x_14_v, ()))
noncomputable def lookup_Action_10 (N : Nat) (outbound_2 : Bool) (r_8 : Int) (ok_9 : Bool) (t_53 : (List D59)) (t_54 : Int) (t_55 : Int) (p_4 : D29) : Option (Lo ((Bool × Int × Bool × (List D59) × Int × Int × Unit) × (D29 × Unit)) ((Int × Bool × Unit) × (Unit)) lookup_Action_R) :=
  bif inR t_55 t_53.length then
  let x9 := t_53.getD t_55.toNat ((0 : Int), ([] : List UInt8), ([] : List D45), ())
  lookup_Action_11 N outbound_2 r_8 ok_9 t_55 t_53 t_54 t_55 x9.2.2.1 (x9.2.2.1.length : Int) (0 : Int) p_4 x9 x9.2.2.1
  else none
noncomputable def lookup_Action_8 (N : Nat) (outbound_2 : Bool) (r_8 : Int) (ok_9 : Bool) (t_53 : (List D59)) (t_54 : Int) (t_55 : Int) (p_4 : D29) : Option (Lo ((Bool × Int × Bool × (List D59) × Int × Int × Unit) × (D29 × Unit)) ((Int × Bool × Unit) × (Unit)) lookup_Action_R) :=
  lookup_Action_10 N outbound_2 r_8 ok_9 t_53 t_54 t_55 p_4
noncomputable def lookup_Action_s7 (N : Nat) (outbound_2 : Bool) (r_8 : Int) (ok_9 : Bool) (t_53 : (List D59)) (t_54 : Int) (t_55 : Int) (p_4 : D29) : Option (Lo ((Bool × Int × Bool × (List D59) × Int × Int × Unit) × (D29 × Unit)) ((Int × Bool × Unit) × (Unit)) lookup_Action_R) :=
  bif (decide (t_55 < t_54)) then
    lookup_Action_8 N outbound_2 r_8 ok_9 t_53 t_54 t_55 p_4
  else
    some (.br ((r_8, ok_9, ()), (())))
noncomputable def lookup_Action_14 (N : Nat) (r_8 : Int) (ok_9 : Bool) : Option lookup_Action_R :=
  bif !ok_9 then
    some (((0 : Int), (-1 : Int), ()), (()))
  else
    some (((1 : Int), r_8, ()), (()))
noncomputable def lookup_Action_6 (N : Nat) (outbound_2 : Bool) (r_8 : Int) (ok_9 : Bool) (t_53 : (List D59)) (t_54 : Int) (t_55 : Int) (p_4 : D29) : Option lookup_Action_R :=
  loopK N (fun y => lookup_Action_s7 N y.1.1 y.1.2.1 y.1.2.2.1 y.1.2.2.2.1 y.1.2.2.2.2.1 y.1.2.2.2.2.2.1 y.2.1) (fun (e : ((Int × Bool × Unit) × (Unit))) => lookup_Action_14 N e.1.1 e.1.2.1) ((outbound_2, r_8, ok_9, t_53, t_54, t_55, ()), (p_4, ()))
noncomputable def lookup_Action_5 (N : Nat) (outbound_2 : Bool) (r_8 : Int) (ok_9 : Bool) (ahead_10 : (List D59)) (p_4 : D29) : Option lookup_Action_R :=
  lookup_Action_6 N outbound_2 r_8 ok_9 ahead_10 (ahead_10.length : Int) (0 : Int) p_4
noncomputable def lookup_Action_3 (N : Nat) (outbound_2 : Bool) (r_8 : Int) (ok_9 : Bool) (ahead_10 : (List D59)) (t_52 : Bool) (p_4 : D29) : Option lookup_Action_R :=
  bif t_52 then
    lookup_Action_5 N outbound_2 r_8 ok_9 ahead_10 p_4
  else
    lookup_Action_14 N r_8 ok_9
noncomputable def lookup_Action_2 (N : Nat) (outbound_2 : Bool) (r_8 : Int) (ok_9 : Bool) (ahead_10 : (List D59)) (p_4 : D29) : Option lookup_Action_R :=
  Option.bind (lookup_hidden N p_4) fun y6 =>
  bif y6.1.1 then
    lookup_Action_3 N outbound_2 r_8 ok_9 ahead_10 true p_4
  else
    lookup_Action_3 N outbound_2 r_8 ok_9 ahead_10 y6.1.2.1 p_4
noncomputable def lookup_Action_1 (N : Nat) (l_0 : (List D59)) (outbound_2 : Bool) (r_8 : Int) (ok_9 : Bool) (t_32 : Bool) (p_4 : D29) : Option lookup_Action_R :=
  bif t_32 then
    bif inR r_8 l_0.length then
    some (((l_0.getD r_8.toNat ((0 : Int), ([] : List UInt8), ([] : List D45), ())).1, r_8, ()), (()))
    else none
  else
    bif ok_9 then
      bif decide (0 ≤ (0 : Int)) && decide ((0 : Int) ≤ r_8) && decide (r_8 ≤ (l_0.length : Int)) && true then
      lookup_Action_2 N outbound_2 r_8 ok_9 (cut l_0 0 r_8.toNat) p_4
      else none
    else
      lookup_Action_2 N outbound_2 r_8 ok_9 l_0 p_4
noncomputable def lookup_Action (N : Nat) (l_0 : (List D59)) (p_1 : D29) (outbound_2 : Bool) : Option lookup_Action_R :=
  Option.bind (lookup_Rule N l_0 p_1 outbound_2) fun y1 =>
  bif y1.1.2.1 then
    bif inR y1.1.1 l_0.length then
    lookup_Action_1 N l_0 outbound_2 y1.1.1 y1.1.2.1 (!(decide ((l_0.getD y1.1.1.toNat ((0 : Int), ([] : List UInt8), ([] : List D45), ())).1 = (1 : Int)))) p_1
    else none
  else
    lookup_Action_1 N l_0 outbound_2 y1.1.1 y1.1.2.1 false p_1
noncomputable def lookup_Action_C (N : Nat) : Ctx := ⟨82, G_tys, [(38, lookup_Rule_ctr N), (87, lookup_hidden_ctr N), (88, lookup_could_ctr N)], G_globs⟩
noncomputable def lookup_Action_S0 : Spec := ⟨[.val .bool, .ref 0 T29, .val .i64, .val .bool, .val .i64, .ref 1 T59, .val (.sl T59), .val .i64, .val .i64, .val (.sl T45), .val .i64, .val .i64], [(.box 30 T29, .pos 1), (.sval 60 T59 2 (.sl T45), .pos 5)]⟩
noncomputable def lookup_Action_S1 : Spec := ⟨[.val .bool, .ref 0 T29, .val .i64, .val .bool, .val (.sl T59), .val .i64, .val .i64], [(.box 30 T29, .pos 1)]⟩
noncomputable def lookup_Action_S2 : Spec := ⟨[.val .i64, .val .bool], []⟩
noncomputable def lookup_Action_S3 : Spec := ⟨[.val .bool, .ref 0 T29, .val .i64, .val .bool, .val (.sl T59)], [(.box 30 T29, .pos 1)]⟩
noncomputable def lookup_Action_S4 : Spec := ⟨[.val .bool, .ref 0 T29, .val .i64, .val .bool, .val (.sl T59), .val .bool], [(.box 30 T29, .pos 1)]⟩
noncomputable def lookup_Action_S5 : Spec := ⟨[.val (.sl T59), .val .bool, .ref 0 T29, .val .i64, .val .bool, .val .bool], [(.box 30 T29, .pos 2)]⟩
noncomputable def lookup_Action_S6 : Spec := ⟨[.val (.sl T59), .val T29, .val .bool], []⟩
noncomputable def lookup_Action_S7 : Spec := ⟨[.val .i64, .val .i64], []⟩
noncomputable def lookup_Action_K (_N : Nat) : XE → GS → Option lookup_Action_R := retK 0 [6, 7] [false, false] lookup_Action_S7
noncomputable def lookup_Action_L : List Code := (bodyOf (some Try.f37))
noncomputable def lookup_Action_L4t : List Code := (thenOf (lookup_Action_L[9]?))
noncomputable def lookup_Action_L7 : List Code := (loopOf (lookup_Action_L4t[1]?))
noncomputable def lookup_Action_L9b : List Code := (blockOf (lookup_Action_L7[2]?))
noncomputable def lookup_Action_L12 : List Code := (loopOf (lookup_Action_L9b[2]?))
noncomputable def lookup_Action_L4e : List Code := (elseOf (lookup_Action_L[9]?))
noncomputable def lookup_Action_K4 (N : Nat) : XE → GS → Option lookup_Action_R := nextK (goK 0 [8, 9] lookup_Action_S2 (fun y => lookup_Action_14 N y.1.1 y.1.2.1)) (lookup_Action_K N)
noncomputable def lookup_Action_K7 (N : Nat) : XE → GS → Option (Lo ((Bool × Int × Bool × (List D59) × Int × Int × Unit) × (D29 × Unit)) ((Int × Bool × Unit) × (Unit)) lookup_Action_R) := roundK (some 0) (fit 0 [2, 4, 8, 9, 53, 54, 55] lookup_Action_S1) (fit 0 [8, 9] lookup_Action_S2) (lookup_Action_K4 N)
noncomputable def lookup_Action_K9 (N : Nat) : XE → GS → Option (Lo ((Bool × Int × Bool × (List D59) × Int × Int × Unit) × (D29 × Unit)) ((Int × Bool × Unit) × (Unit)) lookup_Action_R) := blockK 1 (goK 0 [2, 4, 8, 9, 53, 54, 55] lookup_Action_S1 (fun y => lookup_Action_13 N y.1.1 y.1.2.1 y.1.2.2.1 y.1.2.2.2.1 y.1.2.2.2.2.1 y.1.2.2.2.2.2.1 y.2.1)) (lookup_Action_K7 N)
noncomputable def lookup_Action_K12 (N : Nat) : XE → GS → Option (Lo ((Bool × Int × Bool × Int × (List D59) × Int × Int × (List D45) × Int × Int × Unit) × (D29 × D59 × (List D45) × Unit)) ((Bool × Int × Bool × (List D59) × Int × Int × Unit) × (D29 × Unit)) (Lo ((Bool × Int × Bool × (List D59) × Int × Int × Unit) × (D29 × Unit)) ((Int × Bool × Unit) × (Unit)) lookup_Action_R)) := roundK (some 2) (fit 0 [2, 4, 8, 9, 13, 14, 53, 54, 55, 61, 62, 63] lookup_Action_S0) (fit 0 [2, 4, 8, 9, 53, 54, 55] lookup_Action_S1) (lookup_Action_K9 N)
theorem lookup_Action_s12_b {E : Env} (N : Nat) (hb : Base Try.prog (lookup_Action_C N) E 0) : Blk Try.prog (lookup_Action_C N) E [2, 4, 8, 9, 13, 14, 53, 54, 55, 61, 62, 63] lookup_Action_S0 (lookup_Action_L12.drop 0) (fun y => lookup_Action_s12 N y.1.1 y.1.2.1 y.1.2.2.1 y.1.2.2.2.1 y.1.2.2.2.2.1 y.1.2.2.2.2.2.1 y.1.2.2.2.2.2.2.1 y.1.2.2.2.2.2.2.2.1 y.1.2.2.2.2.2.2.2.2.1 y.1.2.2.2.2.2.2.2.2.2.1 y.2.1 y.2.2.1 y.2.2.2.1) (lookup_Action_K12 N) :=
  Blk.chunkAt hb 4 (X := (lookup_Action_K12 N .normal)) (NxOk.end (by kernel_rfl)) rfl (fun x => by kernel_rfl)
theorem lookup_Action_13_b {E : Env} (N : Nat) (hb : Base Try.prog (lookup_Action_C N) E 0) : Blk Try.prog (lookup_Action_C N) E [2, 4, 8, 9, 53, 54, 55] lookup_Action_S1 (lookup_Action_L7.drop 3) (fun y => lookup_Action_13 N y.1.1 y.1.2.1 y.1.2.2.1 y.1.2.2.2.1 y.1.2.2.2.2.1 y.1.2.2.2.2.2.1 y.2.1) (lookup_Action_K7 N) :=
  Blk.chunkAt hb 1 (X := (lookup_Action_K7 N .normal)) (NxOk.end (by kernel_rfl)) rfl (fun x => by kernel_rfl)
theorem lookup_Action_11_b {E : Env} (N : Nat) (hb : Base Try.prog (lookup_Action_C N) E 0) : Blk Try.prog (lookup_Action_C N) E [2, 4, 8, 9, 13, 14, 53, 54, 55, 61, 62, 63] lookup_Action_S0 (lookup_Action_L9b.drop 2) (fun y => lookup_Action_11 N y.1.1 y.1.2.1 y.1.2.2.1 y.1.2.2.2.1 y.1.2.2.2.2.1 y.1.2.2.2.2.2.1 y.1.2.2.2.2.2.2.1 y.1.2.2.2.2.2.2.2.1 y.1.2.2.2.2.2.2.2.2.1 y.1.2.2.2.2.2.2.2.2.2.1 y.2.1 y.2.2.1 y.2.2.2.1) (lookup_Action_K9 N) :=
  Blk.loopAt (Nf := N) (hns := [2, 4, 8, 9, 13, 14, 53, 54, 55, 61, 62, 63]) (ans := [2, 4, 8, 9, 53, 54, 55]) (hc := lookup_Action_S0) (ac := lookup_Action_S1) (bid := 2) (step := (fun y => lookup_Action_s12 N y.1.1 y.1.2.1 y.1.2.2.1 y.1.2.2.2.1 y.1.2.2.2.2.1 y.1.2.2.2.2.2.1 y.1.2.2.2.2.2.2.1 y.1.2.2.2.2.2.2.2.1 y.1.2.2.2.2.2.2.2.2.1 y.1.2.2.2.2.2.2.2.2.2.1 y.2.1 y.2.2.1 y.2.2.2.1)) (J := (fun e => (lookup_Action_K9 N .normal) (lookup_Action_S1.st [2, 4, 8, 9, 53, 54, 55] e))) hb (by kernel_rfl) (Blk.into (X := (lookup_Action_K9 N .normal)) (NxOk.end (by kernel_rfl)) (fun x => by kernel_rfl)) (lookup_Action_s12_b N hb) (fun x => by kernel_rfl)
theorem lookup_Action_10_b {E : Env} (N : Nat) (hb : Base Try.prog (lookup_Action_C N) E 0) : Blk Try.prog (lookup_Action_C N) E [2, 4, 8, 9, 53, 54, 55] lookup_Action_S1 (lookup_Action_L9b.drop 0) (fun y => lookup_Action_10 N y.1.1 y.1.2.1 y.1.2.2.1 y.1.2.2.2.1 y.1.2.2.2.2.1 y.1.2.2.2.2.2.1 y.2.1) (lookup_Action_K9 N) :=
  Blk.chunkAt hb 2 (X := (goK 0 [2, 4, 8, 9, 13, 14, 53, 54, 55, 61, 62, 63] lookup_Action_S0 (fun y => lookup_Action_11 N y.1.1 y.1.2.1 y.1.2.2.1 y.1.2.2.2.1 y.1.2.2.2.2.1 y.1.2.2.2.2.2.1 y.1.2.2.2.2.2.2.1 y.1.2.2.2.2.2.2.2.1 y.1.2.2.2.2.2.2.2.2.1 y.1.2.2.2.2.2.2.2.2.2.1 y.2.1 y.2.2.1 y.2.2.2.1))) (NxOk.go hb (lookup_Action_11_b N hb)) rfl (fun x => by kernel_rfl)
theorem lookup_Action_8_b {E : Env} (N : Nat) (hb : Base Try.prog (lookup_Action_C N) E 0) : Blk Try.prog (lookup_Action_C N) E [2, 4, 8, 9, 53, 54, 55] lookup_Action_S1 (lookup_Action_L7.drop 2) (fun y => lookup_Action_8 N y.1.1 y.1.2.1 y.1.2.2.1 y.1.2.2.2.1 y.1.2.2.2.2.1 y.1.2.2.2.2.2.1 y.2.1) (lookup_Action_K7 N) :=
  Blk.blockAt (bid := 1) (X := (goK 0 [2, 4, 8, 9, 53, 54, 55] lookup_Action_S1 (fun y => lookup_Action_13 N y.1.1 y.1.2.1 y.1.2.2.1 y.1.2.2.2.1 y.1.2.2.2.2.1 y.1.2.2.2.2.2.1 y.2.1))) (Y := (goK 0 [2, 4, 8, 9, 53, 54, 55] lookup_Action_S1 (fun y => lookup_Action_10 N y.1.1 y.1.2.1 y.1.2.2.1 y.1.2.2.2.1 y.1.2.2.2.2.1 y.1.2.2.2.2.2.1 y.2.1))) (by kernel_rfl) (NxOk.go hb (lookup_Action_13_b N hb)) (NxOk.go hb (lookup_Action_10_b N hb)) (fun x => by kernel_rfl)
theorem lookup_Action_s7_b {E : Env} (N : Nat) (hb : Base Try.prog (lookup_Action_C N) E 0) : Blk Try.prog (lookup_Action_C N) E [2, 4, 8, 9, 53, 54, 55] lookup_Action_S1 (lookup_Action_L7.drop 0) (fun y => lookup_Action_s7 N y.1.1 y.1.2.1 y.1.2.2.1 y.1.2.2.2.1 y.1.2.2.2.2.1 y.1.2.2.2.2.2.1 y.2.1) (lookup_Action_K7 N) :=
  Blk.chunkAt hb 2 (X := (goK 0 [2, 4, 8, 9, 53, 54, 55] lookup_Action_S1 (fun y => lookup_Action_8 N y.1.1 y.1.2.1 y.1.2.2.1 y.1.2.2.2.1 y.1.2.2.2.2.1 y.1.2.2.2.2.2.1 y.2.1))) (NxOk.go hb (lookup_Action_8_b N hb)) rfl (fun x => by kernel_rfl)
theorem lookup_Action_14_b {E : Env} (N : Nat) (hb : Base Try.prog (lookup_Action_C N) E 0) : Blk Try.prog (lookup_Action_C N) E [8, 9] lookup_Action_S2 (lookup_Action_L.drop 10) (fun y => lookup_Action_14 N y.1.1 y.1.2.1) (lookup_Action_K N) :=
  Blk.chunkAt hb 4 (X := (lookup_Action_K N .normal)) (NxOk.end (by kernel_rfl)) rfl (fun x => by kernel_rfl)
theorem lookup_Action_6_b {E : Env} (N : Nat) (hb : Base Try.prog (lookup_Action_C N) E 0) : Blk Try.prog (lookup_Action_C N) E [2, 4, 8, 9, 53, 54, 55] lookup_Action_S1 (lookup_Action_L4t.drop 1) (fun y => lookup_Action_6 N y.1.1 y.1.2.1 y.1.2.2.1 y.1.2.2.2.1 y.1.2.2.2.2.1 y.1.2.2.2.2.2.1 y.2.1) (lookup_Action_K4 N) :=
  Blk.loopAt (Nf := N) (hns := [2, 4, 8, 9, 53, 54, 55]) (ans := [8, 9]) (hc := lookup_Action_S1) (ac := lookup_Action_S2) (bid := 0) (step := (fun y => lookup_Action_s7 N y.1.1 y.1.2.1 y.1.2.2.1 y.1.2.2.2.1 y.1.2.2.2.2.1 y.1.2.2.2.2.2.1 y.2.1)) (J := (fun e => (lookup_Action_K4 N .normal) (lookup_Action_S2.st [8, 9] e))) hb (by kernel_rfl) (Blk.into (X := (lookup_Action_K4 N .normal)) (NxOk.end (by kernel_rfl)) (fun x => by kernel_rfl)) (lookup_Action_s7_b N hb) (fun x => by kernel_rfl)
theorem lookup_Action_5_b {E : Env} (N : Nat) (hb : Base Try.prog (lookup_Action_C N) E 0) : Blk Try.prog (lookup_Action_C N) E [2, 4, 8, 9, 10] lookup_Action_S3 (lookup_Action_L4t.drop 0) (fun y => lookup_Action_5 N y.1.1 y.1.2.1 y.1.2.2.1 y.1.2.2.2.1 y.2.1) (lookup_Action_K4 N) :=
  Blk.chunkAt hb 1 (X := (goK 0 [2, 4, 8, 9, 53, 54, 55] lookup_Action_S1 (fun y => lookup_Action_6 N y.1.1 y.1.2.1 y.1.2.2.1 y.1.2.2.2.1 y.1.2.2.2.2.1 y.1.2.2.2.2.2.1 y.2.1))) (NxOk.go hb (lookup_Action_6_b N hb)) rfl (fun x => by kernel_rfl)
theorem lookup_Action_3_b {E : Env} (N : Nat) (hb : Base Try.prog (lookup_Action_C N) E 0) : Blk Try.prog (lookup_Action_C N) E [2, 4, 8, 9, 10, 52] lookup_Action_S4 (lookup_Action_L.drop 9) (fun y => lookup_Action_3 N y.1.1 y.1.2.1 y.1.2.2.1 y.1.2.2.2.1 y.1.2.2.2.2.1 y.2.1) (lookup_Action_K N) :=
  Blk.condAt (n := 52) (X := (goK 0 [8, 9] lookup_Action_S2 (fun y => lookup_Action_14 N y.1.1 y.1.2.1))) (A := (goK 0 [2, 4, 8, 9, 10] lookup_Action_S3 (fun y => lookup_Action_5 N y.1.1 y.1.2.1 y.1.2.2.1 y.1.2.2.2.1 y.2.1))) (B := (lookup_Action_K4 N .normal)) (by kernel_rfl) (NxOk.go hb (lookup_Action_14_b N hb)) (NxOk.go hb (lookup_Action_5_b N hb)) (NxOk.skipAt (by kernel_rfl)) (fun x => by kernel_rfl)
theorem lookup_Action_2_b {E : Env} (N : Nat) (hb : Base Try.prog (lookup_Action_C N) E 0) : Blk Try.prog (lookup_Action_C N) E [2, 4, 8, 9, 10] lookup_Action_S3 (lookup_Action_L.drop 7) (fun y => lookup_Action_2 N y.1.1 y.1.2.1 y.1.2.2.1 y.1.2.2.2.1 y.2.1) (lookup_Action_K N) :=
  Blk.chunkAt hb 2 (X := (goK 0 [2, 4, 8, 9, 10, 52] lookup_Action_S4 (fun y => lookup_Action_3 N y.1.1 y.1.2.1 y.1.2.2.1 y.1.2.2.2.1 y.1.2.2.2.2.1 y.2.1))) (NxOk.go hb (lookup_Action_3_b N hb)) rfl (fun x => by kernel_rfl)
theorem lookup_Action_1_b {E : Env} (N : Nat) (hb : Base Try.prog (lookup_Action_C N) E 0) : Blk Try.prog (lookup_Action_C N) E [0, 2, 4, 8, 9, 32] lookup_Action_S5 (lookup_Action_L.drop 3) (fun y => lookup_Action_1 N y.1.1 y.1.2.1 y.1.2.2.1 y.1.2.2.2.1 y.1.2.2.2.2.1 y.2.1) (lookup_Action_K N) :=
  Blk.chunkAt hb 4 (X := (goK 0 [2, 4, 8, 9, 10] lookup_Action_S3 (fun y => lookup_Action_2 N y.1.1 y.1.2.1 y.1.2.2.1 y.1.2.2.2.1 y.2.1))) (NxOk.go hb (lookup_Action_2_b N hb)) rfl (fun x => by kernel_rfl)
theorem lookup_Action_b {E : Env} (N : Nat) (hb : Base Try.prog (lookup_Action_C N) E 0) : Blk Try.prog (lookup_Action_C N) E (List.range lookup_Action_S6.ks.length) lookup_Action_S6 (lookup_Action_L.drop 0) (fun y => lookup_Action N y.1.1 y.1.2.1 y.1.2.2.1) (lookup_Action_K N) :=
  Blk.chunkAt hb 3 (X := (goK 0 [0, 2, 4, 8, 9, 32] lookup_Action_S5 (fun y => lookup_Action_1 N y.1.1 y.1.2.1 y.1.2.2.1 y.1.2.2.2.1 y.1.2.2.2.2.1 y.2.1))) (NxOk.go hb (lookup_Action_1_b N hb)) rfl (fun x => by kernel_rfl)
noncomputable def lookup_Action_ctr (N : Nat) : Ctr := ⟨lookup_Action_S6, lookup_Action_S7.un [false, false], 0, (fun y => lookup_Action N y.1.1 y.1.2.1 y.1.2.2.1)⟩
theorem lookup_Action_ctrs (N : Nat) : CtrsOk Try.prog (lookup_Action_C N) := ctrs_of (Γ := lookup_Action_C N) (by
  intro p hp
  simp only [lookup_Action_C, List.mem_cons, List.not_mem_nil, or_false] at hp
  rcases hp with rfl | rfl | rfl
  · exact lookup_Rule_ok N
  · exact lookup_hidden_ok N
  · exact lookup_could_ok N)
theorem lookup_Action_ok (N : Nat) : Ctr.ok Try.prog G_globs 37 (lookup_Action_ctr N) :=
  ctr_fn (Γ := lookup_Action_C N) (rfit := lookup_Action_S7) (bs := [false, false]) (res := [6, 7]) (by kernel_rfl) (tys_ok G_tys_ok) (lookup_Action_ctrs N) Try.func37 (by kernel_rfl) (by kernel_rfl) Try.ntmps37 (by kernel_rfl) (by kernel_rfl) (by kernel_rfl) (by kernel_rfl) (fun E hb => lookup_Action_b N hb)
end Go.Proofs.Ytgbkkfpheahdfaa
namespace Go.Proofs.Ytgbkkfpheahdfaa
open Go
set_option maxRecDepth 100000
set_option linter.unusedVariables false
/-! ipsecgate/ipsecgatelaw22.awake -/
abbrev law22_awake_R : Type := ((Bool × Unit) × (Unit))
noncomputable def law22_awake (N : Nat) : Option law22_awake_R :=
  let x1 := ([(-1 : Int), (65535 : Int)] : List Int)
  let x2 := ([(80 : Int), (80 : Int)] : List Int)
  let x3 := ([(-1 : Int), (65535 : Int)] : List Int)
  Option.bind (lookup_Action N ([((2 : Int), ([103, 111, 108, 100] : List UInt8), ([(((4 : Int), (0 : UInt64), (0 : UInt64), ()), ((4 : Int), (0 : UInt64), (4294967295 : UInt64), ()), ((4 : Int), (0 : UInt64), (0 : UInt64), ()), ((4 : Int), (0 : UInt64), (4294967295 : UInt64), ()), (0 : Int), (255 : Int), x1, x2, ())] : List D45), ()), ((1 : Int), ([] : List UInt8), ([(((4 : Int), (0 : UInt64), (0 : UInt64), ()), ((4 : Int), (0 : UInt64), (4294967295 : UInt64), ()), ((4 : Int), (0 : UInt64), (0 : UInt64), ()), ((4 : Int), (0 : UInt64), (4294967295 : UInt64), ()), (0 : Int), (255 : Int), x1, x3, ())] : List D45), ())] : List D59) (((4 : Int), (0 : UInt64), (4294967295 : UInt64), ()), ((4 : Int), (0 : UInt64), (4294967295 : UInt64), ()), (6 : Int), (-1 : Int), (-1 : Int), ()) true) fun y4 =>
  Option.bind (lookup_Action N ([((2 : Int), ([103, 111, 108, 100] : List UInt8), ([(((4 : Int), (0 : UInt64), (0 : UInt64), ()), ((4 : Int), (0 : UInt64), (4294967295 : UInt64), ()), ((4 : Int), (0 : UInt64), (0 : UInt64), ()), ((4 : Int), (0 : UInt64), (4294967295 : UInt64), ()), (0 : Int), (255 : Int), x1, x2, ())] : List D45), ()), ((1 : Int), ([] : List UInt8), ([(((4 : Int), (0 : UInt64), (0 : UInt64), ()), ((4 : Int), (0 : UInt64), (4294967295 : UInt64), ()), ((4 : Int), (0 : UInt64), (0 : UInt64), ()), ((4 : Int), (0 : UInt64), (4294967295 : UInt64), ()), (0 : Int), (255 : Int), x1, x3, ())] : List D45), ())] : List D59) (((4 : Int), (0 : UInt64), (4294967295 : UInt64), ()), ((4 : Int), (0 : UInt64), (4294967295 : UInt64), ()), (6 : Int), (1 : Int), (81 : Int), ()) true) fun y5 =>
  bif (decide (y4.1.1 = (0 : Int))) then
    bif (decide (y4.1.2.1 = (0 : Int))) then
      bif (decide (y5.1.1 = (1 : Int))) then
        some (((decide (y5.1.2.1 = (1 : Int))), ()), (()))
      else
        some ((false, ()), (()))
    else
      some ((false, ()), (()))
  else
    some ((false, ()), (()))
noncomputable def law22_awake_C (N : Nat) : Ctx := ⟨59, G_tys, [(37, lookup_Action_ctr N)], G_globs⟩
noncomputable def law22_awake_S0 : Spec := ⟨[], []⟩
noncomputable def law22_awake_S1 : Spec := ⟨[.val .bool], []⟩
noncomputable def law22_awake_K (_N : Nat) : XE → GS → Option law22_awake_R := retK 0 [0] [false] law22_awake_S1
noncomputable def law22_awake_L : List Code := (bodyOf (some Try.f33))
theorem law22_awake_b {E : Env} (N : Nat) (hb : Base Try.prog (law22_awake_C N) E 0) : Blk Try.prog (law22_awake_C N) E (List.range law22_awake_S0.ks.length) law22_awake_S0 (law22_awake_L.drop 0) (fun y => law22_awake N) (law22_awake_K N) :=
  Blk.chunkAt hb 12 (X := (law22_awake_K N .normal)) (NxOk.end (by kernel_rfl)) rfl (fun x => by kernel_rfl)
noncomputable def law22_awake_ctr (N : Nat) : Ctr := ⟨law22_awake_S0, law22_awake_S1.un [false], 0, (fun y => law22_awake N)⟩
theorem law22_awake_ctrs (N : Nat) : CtrsOk Try.prog (law22_awake_C N) := ctrs_of (Γ := law22_awake_C N) (by
  intro p hp
  simp only [law22_awake_C, List.mem_cons, List.not_mem_nil, or_false] at hp
  rcases hp with rfl
  · exact lookup_Action_ok N)
theorem law22_awake_ok (N : Nat) : Ctr.ok Try.prog G_globs 33 (law22_awake_ctr N) :=
  ctr_fn (Γ := law22_awake_C N) (rfit := law22_awake_S1) (bs := [false]) (res := [0]) (by kernel_rfl) (tys_ok G_tys_ok) (law22_awake_ctrs N) Try.func33 (by kernel_rfl) (by kernel_rfl) Try.ntmps33 (by kernel_rfl) (by kernel_rfl) (by kernel_rfl) (by kernel_rfl) (fun E hb => law22_awake_b N hb)
end Go.Proofs.Ytgbkkfpheahdfaa
namespace Go.Proofs.Ytgbkkfpheahdfaa
open Go
set_option maxRecDepth 100000
set_option linter.unusedVariables false
/-! ipsecgate/ipsecgatemake.New -/
abbrev make_New_R : Type := ((Unit) × (((List UInt8) × (Int × Unit)) × Unit))
noncomputable def make_New_1 (N : Nat) (list_0 : (List UInt8)) : Option make_New_R :=
  some ((()), ((list_0, (0 : Int), ()), ()))
noncomputable def make_New (N : Nat) (list_0 : (List UInt8)) (most_1 : Int) : Option make_New_R :=
  bif (decide (most_1 < (list_0.length : Int))) then
    bif decide (0 ≤ (0 : Int)) && decide ((0 : Int) ≤ most_1) && decide (most_1 ≤ (list_0.length : Int)) && true then
    make_New_1 N (cut list_0 0 most_1.toNat)
    else none
  else
    make_New_1 N list_0
noncomputable def make_New_C (N : Nat) : Ctx := ⟨15, G_tys, [], G_globs⟩
noncomputable def make_New_S0 : Spec := ⟨[.val (.sl .u8)], []⟩
noncomputable def make_New_S1 : Spec := ⟨[.val (.sl .u8), .val .i64], []⟩
noncomputable def make_New_S2 : Spec := ⟨[.ref 0 (.pair (.sl .u8) (.pair .i64 .unit))], [(.box 113 (.pair (.sl .u8) (.pair .i64 .unit)), .pos 0)]⟩
noncomputable def make_New_K (_N : Nat) : XE → GS → Option make_New_R := retK 0 [4] [false] make_New_S2
noncomputable def make_New_L : List Code := (bodyOf (some Try.f28))
theorem make_New_1_b {E : Env} (N : Nat) (hb : Base Try.prog (make_New_C N) E 0) : Blk Try.prog (make_New_C N) E [0] make_New_S0 (make_New_L.drop 3) (fun y => make_New_1 N y.1.1) (make_New_K N) :=
  Blk.chunkAt hb 2 (X := (make_New_K N .normal)) (NxOk.end (by kernel_rfl)) rfl (fun x => by kernel_rfl)
theorem make_New_b {E : Env} (N : Nat) (hb : Base Try.prog (make_New_C N) E 0) : Blk Try.prog (make_New_C N) E (List.range make_New_S1.ks.length) make_New_S1 (make_New_L.drop 0) (fun y => make_New N y.1.1 y.1.2.1) (make_New_K N) :=
  Blk.chunkAt hb 3 (X := (goK 0 [0] make_New_S0 (fun y => make_New_1 N y.1.1))) (NxOk.go hb (make_New_1_b N hb)) rfl (fun x => by kernel_rfl)
noncomputable def make_New_ctr (N : Nat) : Ctr := ⟨make_New_S1, make_New_S2.un [false], 0, (fun y => make_New N y.1.1 y.1.2.1)⟩
theorem make_New_ctrs (N : Nat) : CtrsOk Try.prog (make_New_C N) := ctrs_nil rfl
theorem make_New_ok (N : Nat) : Ctr.ok Try.prog G_globs 28 (make_New_ctr N) :=
  ctr_fn (Γ := make_New_C N) (rfit := make_New_S2) (bs := [false]) (res := [4]) (by kernel_rfl) (tys_ok G_tys_ok) (make_New_ctrs N) Try.func28 (by kernel_rfl) (by kernel_rfl) Try.ntmps28 (by kernel_rfl) (by kernel_rfl) (by kernel_rfl) (by kernel_rfl) (fun E hb => make_New_b N hb)
end Go.Proofs.Ytgbkkfpheahdfaa
namespace Go.Proofs.Ytgbkkfpheahdfaa
open Go
set_option maxRecDepth 100000
set_option linter.unusedVariables false
/-! (*ipsecgate/ipsecgatemake.Codes).Left -/
abbrev make_Codes_Left_R : Type := ((Bool × Unit) × (Unit))
noncomputable def make_Codes_Left (N : Nat) (c_0 : ((List UInt8) × (Int × Unit))) : Option make_Codes_Left_R :=
  some (((decide (c_0.2.1 < (c_0.1.length : Int))), ()), (()))
noncomputable def make_Codes_Left_C (N : Nat) : Ctx := ⟨13, G_tys, [], G_globs⟩
noncomputable def make_Codes_Left_S0 : Spec := ⟨[.fp (.pair (.sl .u8) (.pair .i64 .unit))], []⟩
noncomputable def make_Codes_Left_S1 : Spec := ⟨[.val .bool], []⟩
noncomputable def make_Codes_Left_K (_N : Nat) : XE → GS → Option make_Codes_Left_R := retK 0 [2] [false] make_Codes_Left_S1
noncomputable def make_Codes_Left_L : List Code := (bodyOf (some Try.f86))
theorem make_Codes_Left_b {E : Env} (N : Nat) (hb : Base Try.prog (make_Codes_Left_C N) E 0) : Blk Try.prog (make_Codes_Left_C N) E (List.range make_Codes_Left_S0.ks.length) make_Codes_Left_S0 (make_Codes_Left_L.drop 0) (fun y => make_Codes_Left N y.1.1) (make_Codes_Left_K N) :=
  Blk.chunkAt hb 3 (X := (make_Codes_Left_K N .normal)) (NxOk.end (by kernel_rfl)) rfl (fun x => by kernel_rfl)
noncomputable def make_Codes_Left_ctr (N : Nat) : Ctr := ⟨make_Codes_Left_S0, make_Codes_Left_S1.un [false], 0, (fun y => make_Codes_Left N y.1.1)⟩
theorem make_Codes_Left_ctrs (N : Nat) : CtrsOk Try.prog (make_Codes_Left_C N) := ctrs_nil rfl
theorem make_Codes_Left_ok (N : Nat) : Ctr.ok Try.prog G_globs 86 (make_Codes_Left_ctr N) :=
  ctr_fn (Γ := make_Codes_Left_C N) (rfit := make_Codes_Left_S1) (bs := [false]) (res := [2]) (by kernel_rfl) (tys_ok G_tys_ok) (make_Codes_Left_ctrs N) Try.func86 (by kernel_rfl) (by kernel_rfl) Try.ntmps86 (by kernel_rfl) (by kernel_rfl) (by kernel_rfl) (by kernel_rfl) (fun E hb => make_Codes_Left_b N hb)
end Go.Proofs.Ytgbkkfpheahdfaa
namespace Go.Proofs.Ytgbkkfpheahdfaa
open Go
set_option maxRecDepth 100000
set_option linter.unusedVariables false
/-! (*ipsecgate/ipsecgatemake.Codes).Next -/
abbrev make_Codes_Next_R : Type := ((Int × Unit) × (((List UInt8) × (Int × Unit)) × Unit))
noncomputable def make_Codes_Next (N : Nat) (n_1 : Int) (c_0 : ((List UInt8) × (Int × Unit))) : Option make_Codes_Next_R :=
  Option.bind (make_Codes_Left N c_0) fun y1 =>
  bif (!y1.1.1) then
    some (((0 : Int), ()), (c_0, ()))
  else
    let x3 := w64 (c_0.2.1 + (1 : Int))
    let x4 := w64 (x3 - (1 : Int))
    bif inR x4 c_0.1.length then
    bif !(decide (n_1 = 0)) then
    some (((((c_0.1.getD x4.toNat (0 : UInt8)).toNat : Int).tmod n_1), ()), ((c_0.1, x3, ()), ()))
    else none
    else none
noncomputable def make_Codes_Next_C (N : Nat) : Ctx := ⟨29, G_tys, [(86, make_Codes_Left_ctr N)], G_globs⟩
noncomputable def make_Codes_Next_S0 : Spec := ⟨[.ref 0 (.pair (.sl .u8) (.pair .i64 .unit)), .val .i64], [(.box 113 (.pair (.sl .u8) (.pair .i64 .unit)), .pos 0)]⟩
noncomputable def make_Codes_Next_S1 : Spec := ⟨[.val .i64], [(.box 113 (.pair (.sl .u8) (.pair .i64 .unit)), .fix 0)]⟩
noncomputable def make_Codes_Next_K (_N : Nat) : XE → GS → Option make_Codes_Next_R := retK 1 [4] [false] make_Codes_Next_S1
noncomputable def make_Codes_Next_L : List Code := (bodyOf (some Try.f36))
theorem make_Codes_Next_b {E : Env} (N : Nat) (hb : Base Try.prog (make_Codes_Next_C N) E 1) : Blk Try.prog (make_Codes_Next_C N) E (List.range make_Codes_Next_S0.ks.length) make_Codes_Next_S0 (make_Codes_Next_L.drop 0) (fun y => make_Codes_Next N y.1.1 y.2.1) (make_Codes_Next_K N) :=
  Blk.chunkAt hb 6 (X := (make_Codes_Next_K N .normal)) (NxOk.end (by kernel_rfl)) rfl (fun x => by kernel_rfl)
noncomputable def make_Codes_Next_ctr (N : Nat) : Ctr := ⟨make_Codes_Next_S0, make_Codes_Next_S1.un [false], 1, (fun y => make_Codes_Next N y.1.1 y.2.1)⟩
theorem make_Codes_Next_ctrs (N : Nat) : CtrsOk Try.prog (make_Codes_Next_C N) := ctrs_of (Γ := make_Codes_Next_C N) (by
  intro p hp
  simp only [make_Codes_Next_C, List.mem_cons, List.not_mem_nil, or_false] at hp
  rcases hp with rfl
  · exact make_Codes_Left_ok N)
theorem make_Codes_Next_ok (N : Nat) : Ctr.ok Try.prog G_globs 36 (make_Codes_Next_ctr N) :=
  ctr_fn (Γ := make_Codes_Next_C N) (rfit := make_Codes_Next_S1) (bs := [false]) (res := [4]) (by kernel_rfl) (tys_ok G_tys_ok) (make_Codes_Next_ctrs N) Try.func36 (by kernel_rfl) (by kernel_rfl) Try.ntmps36 (by kernel_rfl) (by kernel_rfl) (by kernel_rfl) (by kernel_rfl) (fun E hb => make_Codes_Next_b N hb)
end Go.Proofs.Ytgbkkfpheahdfaa
namespace Go.Proofs.Ytgbkkfpheahdfaa
open Go
set_option maxRecDepth 100000
set_option linter.unusedVariables false
/-! ipsecgate/ipsecgateref05.Valid -/
abbrev ref05_Valid_R : Type := ((Bool × Unit) × (Unit))
noncomputable def ref05_Valid (N : Nat) (a_0 : D27) : Option ref05_Valid_R :=
  bif (decide (a_0.1 = (4 : Int))) then
    bif (decide (a_0.2.1 = (0 : UInt64))) then
      bif (decide (a_0.2.2.1 < (4294967296 : UInt64))) then
        some ((true, ()), (()))
      else
        some (((decide (a_0.1 = (6 : Int))), ()), (()))
    else
      some (((decide (a_0.1 = (6 : Int))), ()), (()))
  else
    some (((decide (a_0.1 = (6 : Int))), ()), (()))
noncomputable def ref05_Valid_C (N : Nat) : Ctx := ⟨21, G_tys, [], G_globs⟩
noncomputable def ref05_Valid_S0 : Spec := ⟨[.val T27], []⟩
noncomputable def ref05_Valid_S1 : Spec := ⟨[.val .bool], []⟩
noncomputable def ref05_Valid_K (_N : Nat) : XE → GS → Option ref05_Valid_R := retK 0 [2] [false] ref05_Valid_S1
noncomputable def ref05_Valid_L : List Code := (bodyOf (some Try.f99))
theorem ref05_Valid_b {E : Env} (N : Nat) (hb : Base Try.prog (ref05_Valid_C N) E 0) : Blk Try.prog (ref05_Valid_C N) E (List.range ref05_Valid_S0.ks.length) ref05_Valid_S0 (ref05_Valid_L.drop 0) (fun y => ref05_Valid N y.1.1) (ref05_Valid_K N) :=
  Blk.chunkAt hb 3 (X := (ref05_Valid_K N .normal)) (NxOk.end (by kernel_rfl)) rfl (fun x => by kernel_rfl)
noncomputable def ref05_Valid_ctr (N : Nat) : Ctr := ⟨ref05_Valid_S0, ref05_Valid_S1.un [false], 0, (fun y => ref05_Valid N y.1.1)⟩
theorem ref05_Valid_ctrs (N : Nat) : CtrsOk Try.prog (ref05_Valid_C N) := ctrs_nil rfl
theorem ref05_Valid_ok (N : Nat) : Ctr.ok Try.prog G_globs 99 (ref05_Valid_ctr N) :=
  ctr_fn (Γ := ref05_Valid_C N) (rfit := ref05_Valid_S1) (bs := [false]) (res := [2]) (by kernel_rfl) (tys_ok G_tys_ok) (ref05_Valid_ctrs N) Try.func99 (by kernel_rfl) (by kernel_rfl) Try.ntmps99 (by kernel_rfl) (by kernel_rfl) (by kernel_rfl) (by kernel_rfl) (fun E hb => ref05_Valid_b N hb)
end Go.Proofs.Ytgbkkfpheahdfaa
namespace Go.Proofs.Ytgbkkfpheahdfaa
open Go
set_option maxRecDepth 100000
set_option linter.unusedVariables false
/-! ipsecgate/ipsecgateref18.bits -/
abbrev ref18_bits_R : Type := ((Int × Unit) × (Unit))
noncomputable def ref18_bits (N : Nat) (family_0 : Int) : Option ref18_bits_R :=
  bif (decide (family_0 = (4 : Int))) then
    some (((32 : Int), ()), (()))
  else
    some (((128 : Int), ()), (()))
noncomputable def ref18_bits_C (N : Nat) : Ctx := ⟨5, G_tys, [], G_globs⟩
noncomputable def ref18_bits_S0 : Spec := ⟨[.val .i64], []⟩
noncomputable def ref18_bits_K (_N : Nat) : XE → GS → Option ref18_bits_R := retK 0 [2] [false] ref18_bits_S0
noncomputable def ref18_bits_L : List Code := (bodyOf (some Try.f166))
theorem ref18_bits_b {E : Env} (N : Nat) (hb : Base Try.prog (ref18_bits_C N) E 0) : Blk Try.prog (ref18_bits_C N) E (List.range ref18_bits_S0.ks.length) ref18_bits_S0 (ref18_bits_L.drop 0) (fun y => ref18_bits N y.1.1) (ref18_bits_K N) :=
  Blk.chunkAt hb 5 (X := (ref18_bits_K N .normal)) (NxOk.end (by kernel_rfl)) rfl (fun x => by kernel_rfl)
noncomputable def ref18_bits_ctr (N : Nat) : Ctr := ⟨ref18_bits_S0, ref18_bits_S0.un [false], 0, (fun y => ref18_bits N y.1.1)⟩
theorem ref18_bits_ctrs (N : Nat) : CtrsOk Try.prog (ref18_bits_C N) := ctrs_nil rfl
theorem ref18_bits_ok (N : Nat) : Ctr.ok Try.prog G_globs 166 (ref18_bits_ctr N) :=
  ctr_fn (Γ := ref18_bits_C N) (rfit := ref18_bits_S0) (bs := [false]) (res := [2]) (by kernel_rfl) (tys_ok G_tys_ok) (ref18_bits_ctrs N) Try.func166 (by kernel_rfl) (by kernel_rfl) Try.ntmps166 (by kernel_rfl) (by kernel_rfl) (by kernel_rfl) (by kernel_rfl) (fun E hb => ref18_bits_b N hb)
end Go.Proofs.Ytgbkkfpheahdfaa
namespace Go.Proofs.Ytgbkkfpheahdfaa
open Go
set_option maxRecDepth 100000
set_option linter.unusedVariables false
/-! ipsecgate/ipsecgateref18.Prefix -/
abbrev ref18_Prefix_R : Type := ((D27 × D27 × Int × Unit) × (Unit))
noncomputable def ref18_Prefix_s3 (N : Nat) (i_9 : Int) (a_2 : D27) (t_4 : D27) (t_5 : D27) (lo_7 : D27) (hi_8 : D27) : Option (Lo ((Int × Unit) × (D27 × D27 × D27 × D27 × D27 × Unit)) ((Unit) × (D27 × D27 × D27 × D27 × Unit)) ref18_Prefix_R) :=
  Option.bind (ref18_bits N a_2.1) fun y4 =>
  bif (decide (i_9 < y4.1.1)) then
    Option.bind (ref18_bits N a_2.1) fun y6 =>
    let x7 := w64 (y6.1.1 - (1 : Int))
    bif (decide ((64 : Int) ≤ (w64 (x7 - i_9)))) then
      some (.go (((w64 (i_9 + (1 : Int))), ()), (a_2, t_4, t_5, (lo_7.1, (lo_7.2.1 &&& ~~~ (shl64 (1 : UInt64) (iu64 (w64 ((w64 (x7 - i_9)) - (64 : Int)))).toNat)), lo_7.2.2.1, ()), (hi_8.1, (hi_8.2.1 ||| (shl64 (1 : UInt64) (iu64 (w64 ((w64 (x7 - i_9)) - (64 : Int)))).toNat)), hi_8.2.2.1, ()), ())))
    else
      some (.go (((w64 (i_9 + (1 : Int))), ()), (a_2, t_4, t_5, (lo_7.1, lo_7.2.1, (lo_7.2.2.1 &&& ~~~ (shl64 (1 : UInt64) (iu64 (w64 (x7 - i_9))).toNat)), ()), (hi_8.1, hi_8.2.1, (hi_8.2.2.1 ||| (shl64 (1 : UInt64) (iu64 (w64 (x7 - i_9))).toNat)), ()), ())))
  else
    some (.br ((()), (t_4, t_5, lo_7, hi_8, ())))
noncomputable def ref18_Prefix_4 (N : Nat) (t_4 : D27) (t_5 : D27) (lo_7 : D27) (hi_8 : D27) : Option ref18_Prefix_R :=
  some ((lo_7, hi_8, (0 : Int), ()), (()))
noncomputable def ref18_Prefix_2 (N : Nat) (i_9 : Int) (a_2 : D27) (t_4 : D27) (t_5 : D27) (lo_7 : D27) (hi_8 : D27) : Option ref18_Prefix_R :=
  loopK N (fun y => ref18_Prefix_s3 N y.1.1 y.2.1 y.2.2.1 y.2.2.2.1 y.2.2.2.2.1 y.2.2.2.2.2.1) (fun (e : ((Unit) × (D27 × D27 × D27 × D27 × Unit))) => ref18_Prefix_4 N e.2.1 e.2.2.1 e.2.2.2.1 e.2.2.2.2.1) ((i_9, ()), (a_2, t_4, t_5, lo_7, hi_8, ()))
noncomputable def ref18_Prefix_1 (N : Nat) (n_1 : Int) (t_24 : Bool) (a_2 : D27) (t_4 : D27) (t_5 : D27) : Option ref18_Prefix_R :=
  bif t_24 then
    some ((((0 : Int), (0 : UInt64), (0 : UInt64), ()), ((0 : Int), (0 : UInt64), (0 : UInt64), ()), (5 : Int), ()), (()))
  else
    ref18_Prefix_2 N n_1 a_2 t_4 t_5 a_2 a_2
noncomputable def ref18_Prefix (N : Nat) (a_0 : D27) (n_1 : Int) : Option ref18_Prefix_R :=
  Option.bind (ref05_Valid N a_0) fun y1 =>
  bif (!y1.1.1) then
    some ((((0 : Int), (0 : UInt64), (0 : UInt64), ()), ((0 : Int), (0 : UInt64), (0 : UInt64), ()), (15 : Int), ()), (()))
  else
    bif (decide (n_1 < (0 : Int))) then
      ref18_Prefix_1 N n_1 true a_0 ((0 : Int), (0 : UInt64), (0 : UInt64), ()) ((0 : Int), (0 : UInt64), (0 : UInt64), ())
    else
      Option.bind (ref18_bits N a_0.1) fun y26 =>
      ref18_Prefix_1 N n_1 (decide (y26.1.1 < n_1)) a_0 ((0 : Int), (0 : UInt64), (0 : UInt64), ()) ((0 : Int), (0 : UInt64), (0 : UInt64), ())
noncomputable def ref18_Prefix_C (N : Nat) : Ctx := ⟨77, G_tys, [(99, ref05_Valid_ctr N), (166, ref18_bits_ctr N)], G_globs⟩
noncomputable def ref18_Prefix_S0 : Spec := ⟨[.ref 0 T27, .ref 1 T27, .ref 2 T27, .ref 3 T27, .ref 4 T27, .val .i64], [(.box 28 T27, .pos 0), (.box 28 T27, .pos 1), (.box 28 T27, .pos 2), (.box 28 T27, .pos 3), (.box 28 T27, .pos 4)]⟩
noncomputable def ref18_Prefix_S1 : Spec := ⟨[.ref 0 T27, .ref 1 T27, .ref 2 T27, .ref 3 T27], [(.box 28 T27, .pos 0), (.box 28 T27, .pos 1), (.box 28 T27, .pos 2), (.box 28 T27, .pos 3)]⟩
noncomputable def ref18_Prefix_S2 : Spec := ⟨[.val .i64, .ref 0 T27, .ref 1 T27, .ref 2 T27, .val .bool], [(.box 28 T27, .pos 1), (.box 28 T27, .pos 2), (.box 28 T27, .pos 3)]⟩
noncomputable def ref18_Prefix_S3 : Spec := ⟨[.val T27, .val .i64], []⟩
noncomputable def ref18_Prefix_S4 : Spec := ⟨[.fp T27, .fp T27, .val .i64], []⟩
noncomputable def ref18_Prefix_K (_N : Nat) : XE → GS → Option ref18_Prefix_R := retK 0 [4, 5, 6] [true, true, false] ref18_Prefix_S4
noncomputable def ref18_Prefix_L : List Code := (bodyOf (some Try.f143))
noncomputable def ref18_Prefix_L3 : List Code := (loopOf (ref18_Prefix_L[7]?))
noncomputable def ref18_Prefix_K3 (N : Nat) : XE → GS → Option (Lo ((Int × Unit) × (D27 × D27 × D27 × D27 × D27 × Unit)) ((Unit) × (D27 × D27 × D27 × D27 × Unit)) ref18_Prefix_R) := roundK (some 0) (fit 0 [2, 4, 5, 7, 8, 9] ref18_Prefix_S0) (fit 0 [4, 5, 7, 8] ref18_Prefix_S1) (ref18_Prefix_K N)
theorem ref18_Prefix_s3_b {E : Env} (N : Nat) (hb : Base Try.prog (ref18_Prefix_C N) E 0) : Blk Try.prog (ref18_Prefix_C N) E [2, 4, 5, 7, 8, 9] ref18_Prefix_S0 (ref18_Prefix_L3.drop 0) (fun y => ref18_Prefix_s3 N y.1.1 y.2.1 y.2.2.1 y.2.2.2.1 y.2.2.2.2.1 y.2.2.2.2.2.1) (ref18_Prefix_K3 N) :=
  Blk.chunkAt hb 4 (X := (ref18_Prefix_K3 N .normal)) (NxOk.end (by kernel_rfl)) rfl (fun x => by kernel_rfl)
theorem ref18_Prefix_4_b {E : Env} (N : Nat) (hb : Base Try.prog (ref18_Prefix_C N) E 0) : Blk Try.prog (ref18_Prefix_C N) E [4, 5, 7, 8] ref18_Prefix_S1 (ref18_Prefix_L.drop 8) (fun y => ref18_Prefix_4 N y.2.1 y.2.2.1 y.2.2.2.1 y.2.2.2.2.1) (ref18_Prefix_K N) :=
  Blk.chunkAt hb 2 (X := (ref18_Prefix_K N .normal)) (NxOk.end (by kernel_rfl)) rfl (fun x => by kernel_rfl)
theorem ref18_Prefix_2_b {E : Env} (N : Nat) (hb : Base Try.prog (ref18_Prefix_C N) E 0) : Blk Try.prog (ref18_Prefix_C N) E [2, 4, 5, 7, 8, 9] ref18_Prefix_S0 (ref18_Prefix_L.drop 7) (fun y => ref18_Prefix_2 N y.1.1 y.2.1 y.2.2.1 y.2.2.2.1 y.2.2.2.2.1 y.2.2.2.2.2.1) (ref18_Prefix_K N) :=
  Blk.loopAt (Nf := N) (hns := [2, 4, 5, 7, 8, 9]) (ans := [4, 5, 7, 8]) (hc := ref18_Prefix_S0) (ac := ref18_Prefix_S1) (bid := 0) (step := (fun y => ref18_Prefix_s3 N y.1.1 y.2.1 y.2.2.1 y.2.2.2.1 y.2.2.2.2.1 y.2.2.2.2.2.1)) (J := (fun e => (goK 0 [4, 5, 7, 8] ref18_Prefix_S1 (fun y => ref18_Prefix_4 N y.2.1 y.2.2.1 y.2.2.2.1 y.2.2.2.2.1)) (ref18_Prefix_S1.st [4, 5, 7, 8] e))) hb (by kernel_rfl) (Blk.into (X := (goK 0 [4, 5, 7, 8] ref18_Prefix_S1 (fun y => ref18_Prefix_4 N y.2.1 y.2.2.1 y.2.2.2.1 y.2.2.2.2.1))) (NxOk.go hb (ref18_Prefix_4_b N hb)) (fun x => by kernel_rfl)) (ref18_Prefix_s3_b N hb) (fun x => by kernel_rfl)
theorem ref18_Prefix_1_b {E : Env} (N : Nat) (hb : Base Try.prog (ref18_Prefix_C N) E 0) : Blk Try.prog (ref18_Prefix_C N) E [1, 2, 4, 5, 24] ref18_Prefix_S2 (ref18_Prefix_L.drop 4) (fun y => ref18_Prefix_1 N y.1.1 y.1.2.1 y.2.1 y.2.2.1 y.2.2.2.1) (ref18_Prefix_K N) :=
  Blk.chunkAt hb 3 (X := (goK 0 [2, 4, 5, 7, 8, 9] ref18_Prefix_S0 (fun y => ref18_Prefix_2 N y.1.1 y.2.1 y.2.2.1 y.2.2.2.1 y.2.2.2.2.1 y.2.2.2.2.2.1))) (NxOk.go hb (ref18_Prefix_2_b N hb)) rfl (fun x => by kernel_rfl)
theorem ref18_Prefix_b {E : Env} (N : Nat) (hb : Base Try.prog (ref18_Prefix_C N) E 0) : Blk Try.prog (ref18_Prefix_C N) E (List.range ref18_Prefix_S3.ks.length) ref18_Prefix_S3 (ref18_Prefix_L.drop 0) (fun y => ref18_Prefix N y.1.1 y.1.2.1) (ref18_Prefix_K N) :=
  Blk.chunkAt hb 4 (X := (goK 0 [1, 2, 4, 5, 24] ref18_Prefix_S2 (fun y => ref18_Prefix_1 N y.1.1 y.1.2.1 y.2.1 y.2.2.1 y.2.2.2.1))) (NxOk.go hb (ref18_Prefix_1_b N hb)) rfl (fun x => by kernel_rfl)
noncomputable def ref18_Prefix_ctr (N : Nat) : Ctr := ⟨ref18_Prefix_S3, ref18_Prefix_S4.un [true, true, false], 0, (fun y => ref18_Prefix N y.1.1 y.1.2.1)⟩
theorem ref18_Prefix_ctrs (N : Nat) : CtrsOk Try.prog (ref18_Prefix_C N) := ctrs_of (Γ := ref18_Prefix_C N) (by
  intro p hp
  simp only [ref18_Prefix_C, List.mem_cons, List.not_mem_nil, or_false] at hp
  rcases hp with rfl | rfl
  · exact ref05_Valid_ok N
  · exact ref18_bits_ok N)
theorem ref18_Prefix_ok (N : Nat) : Ctr.ok Try.prog G_globs 143 (ref18_Prefix_ctr N) :=
  ctr_fn (Γ := ref18_Prefix_C N) (rfit := ref18_Prefix_S4) (bs := [true, true, false]) (res := [4, 5, 6]) (by kernel_rfl) (tys_ok G_tys_ok) (ref18_Prefix_ctrs N) Try.func143 (by kernel_rfl) (by kernel_rfl) Try.ntmps143 (by kernel_rfl) (by kernel_rfl) (by kernel_rfl) (by kernel_rfl) (fun E hb => ref18_Prefix_b N hb)
end Go.Proofs.Ytgbkkfpheahdfaa
namespace Go.Proofs.Ytgbkkfpheahdfaa
open Go
set_option maxRecDepth 100000
set_option linter.unusedVariables false
/-! ipsecgate/ipsecgateref18.All -/
abbrev ref18_All_R : Type := ((D27 × D27 × Unit) × (Unit))
noncomputable def ref18_All (N : Nat) (family_0 : Int) : Option ref18_All_R :=
  Option.bind (ref18_Prefix N (family_0, (0 : UInt64), (0 : UInt64), ()) (0 : Int)) fun y1 =>
  some ((y1.1.1, y1.1.2.1, ()), (()))
noncomputable def ref18_All_C (N : Nat) : Ctx := ⟨16, G_tys, [(143, ref18_Prefix_ctr N)], G_globs⟩
noncomputable def ref18_All_S0 : Spec := ⟨[.val .i64], []⟩
noncomputable def ref18_All_S1 : Spec := ⟨[.fp T27, .fp T27], []⟩
noncomputable def ref18_All_K (_N : Nat) : XE → GS → Option ref18_All_R := retK 0 [2, 3] [true, true] ref18_All_S1
noncomputable def ref18_All_L : List Code := (bodyOf (some Try.f142))
theorem ref18_All_b {E : Env} (N : Nat) (hb : Base Try.prog (ref18_All_C N) E 0) : Blk Try.prog (ref18_All_C N) E (List.range ref18_All_S0.ks.length) ref18_All_S0 (ref18_All_L.drop 0) (fun y => ref18_All N y.1.1) (ref18_All_K N) :=
  Blk.chunkAt hb 4 (X := (ref18_All_K N .normal)) (NxOk.end (by kernel_rfl)) rfl (fun x => by kernel_rfl)
noncomputable def ref18_All_ctr (N : Nat) : Ctr := ⟨ref18_All_S0, ref18_All_S1.un [true, true], 0, (fun y => ref18_All N y.1.1)⟩
theorem ref18_All_ctrs (N : Nat) : CtrsOk Try.prog (ref18_All_C N) := ctrs_of (Γ := ref18_All_C N) (by
  intro p hp
  simp only [ref18_All_C, List.mem_cons, List.not_mem_nil, or_false] at hp
  rcases hp with rfl
  · exact ref18_Prefix_ok N)
theorem ref18_All_ok (N : Nat) : Ctr.ok Try.prog G_globs 142 (ref18_All_ctr N) :=
  ctr_fn (Γ := ref18_All_C N) (rfit := ref18_All_S1) (bs := [true, true]) (res := [2, 3]) (by kernel_rfl) (tys_ok G_tys_ok) (ref18_All_ctrs N) Try.func142 (by kernel_rfl) (by kernel_rfl) Try.ntmps142 (by kernel_rfl) (by kernel_rfl) (by kernel_rfl) (by kernel_rfl) (fun E hb => ref18_All_b N hb)
end Go.Proofs.Ytgbkkfpheahdfaa
namespace Go.Proofs.Ytgbkkfpheahdfaa
open Go
set_option maxRecDepth 100000
set_option linter.unusedVariables false
/-! (*ipsecgate/ipsecgatemake.Codes).Address -/
abbrev make_Codes_Address_R : Type := (D207 × (((List UInt8) × (Int × Unit)) × Unit))
noncomputable def make_Codes_Address (N : Nat) (family_1 : Int) (c_0 : ((List UInt8) × (Int × Unit))) : Option make_Codes_Address_R :=
  bif (decide (family_1 = (4 : Int))) then
    Option.bind (make_Codes_Next N (4 : Int) c_0) fun y2 =>
    bif inR y2.1.1 (([(167772160 : UInt64), (3232235520 : UInt64), (0 : UInt64), (4294967288 : UInt64)] : List UInt64).length) then
    Option.bind (make_Codes_Next N (8 : Int) y2.2.1) fun y4 =>
    some (((family_1, (0 : UInt64), ((([(167772160 : UInt64), (3232235520 : UInt64), (0 : UInt64), (4294967288 : UInt64)] : List UInt64).getD y2.1.1.toNat (0 : UInt64)) + (iu64 y4.1.1)), ()), ()), (y4.2.1, ()))
    else none
  else
    Option.bind (make_Codes_Next N (3 : Int) c_0) fun y7 =>
    bif inR y7.1.1 (([(2306139568115548160 : UInt64), (0 : UInt64), (18446744073709551615 : UInt64)] : List UInt64).length) then
    Option.bind (make_Codes_Next N (3 : Int) y7.2.1) fun y9 =>
    bif inR y9.1.1 (([(0 : UInt64), (18446744073709551608 : UInt64), (9223372036854775808 : UInt64)] : List UInt64).length) then
    Option.bind (make_Codes_Next N (8 : Int) y9.2.1) fun y11 =>
    some (((family_1, (([(2306139568115548160 : UInt64), (0 : UInt64), (18446744073709551615 : UInt64)] : List UInt64).getD y7.1.1.toNat (0 : UInt64)), ((([(0 : UInt64), (18446744073709551608 : UInt64), (9223372036854775808 : UInt64)] : List UInt64).getD y9.1.1.toNat (0 : UInt64)) + (iu64 y11.1.1)), ()), ()), (y11.2.1, ()))
    else none
    else none
noncomputable def make_Codes_Address_C (N : Nat) : Ctx := ⟨38, G_tys, [(36, make_Codes_Next_ctr N)], G_globs⟩
noncomputable def make_Codes_Address_S0 : Spec := ⟨[.ref 0 (.pair (.sl .u8) (.pair .i64 .unit)), .val .i64], [(.box 113 (.pair (.sl .u8) (.pair .i64 .unit)), .pos 0)]⟩
noncomputable def make_Codes_Address_S1 : Spec := ⟨[.fp T27], [(.box 113 (.pair (.sl .u8) (.pair .i64 .unit)), .fix 0)]⟩
noncomputable def make_Codes_Address_K (_N : Nat) : XE → GS → Option make_Codes_Address_R := retK 1 [4] [true] make_Codes_Address_S1
noncomputable def make_Codes_Address_L : List Code := (bodyOf (some Try.f55))
theorem make_Codes_Address_b {E : Env} (N : Nat) (hb : Base Try.prog (make_Codes_Address_C N) E 1) : Blk Try.prog (make_Codes_Address_C N) E (List.range make_Codes_Address_S0.ks.length) make_Codes_Address_S0 (make_Codes_Address_L.drop 0) (fun y => make_Codes_Address N y.1.1 y.2.1) (make_Codes_Address_K N) :=
  Blk.chunkAt hb 8 (X := (make_Codes_Address_K N .normal)) (NxOk.end (by kernel_rfl)) rfl (fun x => by kernel_rfl)
noncomputable def make_Codes_Address_ctr (N : Nat) : Ctr := ⟨make_Codes_Address_S0, make_Codes_Address_S1.un [true], 1, (fun y => make_Codes_Address N y.1.1 y.2.1)⟩
theorem make_Codes_Address_ctrs (N : Nat) : CtrsOk Try.prog (make_Codes_Address_C N) := ctrs_of (Γ := make_Codes_Address_C N) (by
  intro p hp
  simp only [make_Codes_Address_C, List.mem_cons, List.not_mem_nil, or_false] at hp
  rcases hp with rfl
  · exact make_Codes_Next_ok N)
theorem make_Codes_Address_ok (N : Nat) : Ctr.ok Try.prog G_globs 55 (make_Codes_Address_ctr N) :=
  ctr_fn (Γ := make_Codes_Address_C N) (rfit := make_Codes_Address_S1) (bs := [true]) (res := [4]) (by kernel_rfl) (tys_ok G_tys_ok) (make_Codes_Address_ctrs N) Try.func55 (by kernel_rfl) (by kernel_rfl) Try.ntmps55 (by kernel_rfl) (by kernel_rfl) (by kernel_rfl) (by kernel_rfl) (fun E hb => make_Codes_Address_b N hb)
end Go.Proofs.Ytgbkkfpheahdfaa
namespace Go.Proofs.Ytgbkkfpheahdfaa
open Go
set_option maxRecDepth 100000
set_option linter.unusedVariables false
/-! (*ipsecgate/ipsecgatemake.Codes).Span -/
abbrev make_Codes_Span_R : Type := ((D27 × D27 × Unit) × (((List UInt8) × (Int × Unit)) × Unit))
noncomputable def make_Codes_Span_1 (N : Nat) (t_58 : Bool) (p0 : ((List UInt8) × (Int × Unit))) (t_4 : D27) (t_5 : D27) (a_9 : D27) (b_10 : D27) : Option make_Codes_Span_R :=
  bif t_58 then
    some ((b_10, a_9, ()), (p0, ()))
  else
    some ((a_9, b_10, ()), (p0, ()))
noncomputable def make_Codes_Span (N : Nat) (family_1 : Int) (c_0 : ((List UInt8) × (Int × Unit))) : Option make_Codes_Span_R :=
  Option.bind (make_Codes_Next N (5 : Int) c_0) fun y1 =>
  bif (decide (y1.1.1 = (0 : Int))) then
    Option.bind (ref18_All N family_1) fun y3 =>
    some ((y3.1.1, y3.1.2.1, ()), (y1.2.1, ()))
  else
    bif (decide (y1.1.1 = (1 : Int))) then
      Option.bind (make_Codes_Address N family_1 y1.2.1) fun y5 =>
      Option.bind (make_Codes_Next N (25 : Int) y5.2.1) fun y6 =>
      Option.bind (ref18_Prefix N y5.1.1 (w64 ((8 : Int) + y6.1.1))) fun y8 =>
      some ((y8.1.1, y8.1.2.1, ()), (y6.2.1, ()))
    else
      Option.bind (make_Codes_Address N family_1 y1.2.1) fun y9 =>
      Option.bind (make_Codes_Address N family_1 y9.2.1) fun y10 =>
      bif (decide (y10.1.1.2.1 < y9.1.1.2.1)) then
        make_Codes_Span_1 N true y10.2.1 ((0 : Int), (0 : UInt64), (0 : UInt64), ()) ((0 : Int), (0 : UInt64), (0 : UInt64), ()) y9.1.1 y10.1.1
      else
        bif (decide (y9.1.1.2.1 = y10.1.1.2.1)) then
          make_Codes_Span_1 N (decide (y10.1.1.2.2.1 < y9.1.1.2.2.1)) y10.2.1 ((0 : Int), (0 : UInt64), (0 : UInt64), ()) ((0 : Int), (0 : UInt64), (0 : UInt64), ()) y9.1.1 y10.1.1
        else
          make_Codes_Span_1 N false y10.2.1 ((0 : Int), (0 : UInt64), (0 : UInt64), ()) ((0 : Int), (0 : UInt64), (0 : UInt64), ()) y9.1.1 y10.1.1
noncomputable def make_Codes_Span_C (N : Nat) : Ctx := ⟨63, G_tys, [(36, make_Codes_Next_ctr N), (142, ref18_All_ctr N), (55, make_Codes_Address_ctr N), (143, ref18_Prefix_ctr N)], G_globs⟩
noncomputable def make_Codes_Span_S0 : Spec := ⟨[.ref 1 T27, .ref 2 T27, .ref 3 T27, .ref 4 T27, .val .bool], [(.box 113 (.pair (.sl .u8) (.pair .i64 .unit)), .fix 0), (.box 28 T27, .pos 0), (.box 28 T27, .pos 1), (.box 28 T27, .pos 2), (.box 28 T27, .pos 3)]⟩
noncomputable def make_Codes_Span_S1 : Spec := ⟨[.ref 0 (.pair (.sl .u8) (.pair .i64 .unit)), .val .i64], [(.box 113 (.pair (.sl .u8) (.pair .i64 .unit)), .pos 0)]⟩
noncomputable def make_Codes_Span_S2 : Spec := ⟨[.fp T27, .fp T27], [(.box 113 (.pair (.sl .u8) (.pair .i64 .unit)), .fix 0)]⟩
noncomputable def make_Codes_Span_K (_N : Nat) : XE → GS → Option make_Codes_Span_R := retK 1 [4, 5] [true, true] make_Codes_Span_S2
noncomputable def make_Codes_Span_L : List Code := (bodyOf (some Try.f77))
theorem make_Codes_Span_1_b {E : Env} (N : Nat) (hb : Base Try.prog (make_Codes_Span_C N) E 1) : Blk Try.prog (make_Codes_Span_C N) E [4, 5, 9, 10, 58] make_Codes_Span_S0 (make_Codes_Span_L.drop 5) (fun y => make_Codes_Span_1 N y.1.1 y.2.1 y.2.2.1 y.2.2.2.1 y.2.2.2.2.1 y.2.2.2.2.2.1) (make_Codes_Span_K N) :=
  Blk.chunkAt hb 3 (X := (make_Codes_Span_K N .normal)) (NxOk.end (by kernel_rfl)) rfl (fun x => by kernel_rfl)
theorem make_Codes_Span_b {E : Env} (N : Nat) (hb : Base Try.prog (make_Codes_Span_C N) E 1) : Blk Try.prog (make_Codes_Span_C N) E (List.range make_Codes_Span_S1.ks.length) make_Codes_Span_S1 (make_Codes_Span_L.drop 0) (fun y => make_Codes_Span N y.1.1 y.2.1) (make_Codes_Span_K N) :=
  Blk.chunkAt hb 5 (X := (goK 1 [4, 5, 9, 10, 58] make_Codes_Span_S0 (fun y => make_Codes_Span_1 N y.1.1 y.2.1 y.2.2.1 y.2.2.2.1 y.2.2.2.2.1 y.2.2.2.2.2.1))) (NxOk.go hb (make_Codes_Span_1_b N hb)) rfl (fun x => by kernel_rfl)
noncomputable def make_Codes_Span_ctr (N : Nat) : Ctr := ⟨make_Codes_Span_S1, make_Codes_Span_S2.un [true, true], 1, (fun y => make_Codes_Span N y.1.1 y.2.1)⟩
theorem make_Codes_Span_ctrs (N : Nat) : CtrsOk Try.prog (make_Codes_Span_C N) := ctrs_of (Γ := make_Codes_Span_C N) (by
  intro p hp
  simp only [make_Codes_Span_C, List.mem_cons, List.not_mem_nil, or_false] at hp
  rcases hp with rfl | rfl | rfl | rfl
  · exact make_Codes_Next_ok N
  · exact ref18_All_ok N
  · exact make_Codes_Address_ok N
  · exact ref18_Prefix_ok N)
theorem make_Codes_Span_ok (N : Nat) : Ctr.ok Try.prog G_globs 77 (make_Codes_Span_ctr N) :=
  ctr_fn (Γ := make_Codes_Span_C N) (rfit := make_Codes_Span_S2) (bs := [true, true]) (res := [4, 5]) (by kernel_rfl) (tys_ok G_tys_ok) (make_Codes_Span_ctrs N) Try.func77 (by kernel_rfl) (by kernel_rfl) Try.ntmps77 (by kernel_rfl) (by kernel_rfl) (by kernel_rfl) (by kernel_rfl) (fun E hb => make_Codes_Span_b N hb)
end Go.Proofs.Ytgbkkfpheahdfaa
namespace Go.Proofs.Ytgbkkfpheahdfaa
open Go
set_option maxRecDepth 100000
set_option linter.unusedVariables false
/-! (*ipsecgate/ipsecgatemake.Codes).Ports -/
abbrev make_Codes_Ports_R : Type := (((List Int) × Unit) × (((List UInt8) × (Int × Unit)) × Unit))
noncomputable def make_Codes_Ports_1 (N : Nat) (p0 : ((List UInt8) × (Int × Unit))) (t_2 : (List Int)) : Option make_Codes_Ports_R :=
  Option.bind (make_Codes_Next N (4 : Int) p0) fun y13 =>
  bif inR y13.1.1 (([(0 : Int), (80 : Int), (443 : Int), (65530 : Int)] : List Int).length) then
  let x14 := (([(0 : Int), (80 : Int), (443 : Int), (65530 : Int)] : List Int).getD y13.1.1.toNat (0 : Int))
  Option.bind (make_Codes_Next N (6 : Int) y13.2.1) fun y15 =>
  some ((([x14, (w64 (x14 + y15.1.1))] : List Int), ()), (y15.2.1, ()))
  else none
noncomputable def make_Codes_Ports (N : Nat) (c_0 : ((List UInt8) × (Int × Unit))) : Option make_Codes_Ports_R :=
  Option.bind (make_Codes_Next N (7 : Int) c_0) fun y1 =>
  bif (decide (y1.1.1 = (0 : Int))) then
    some ((([(-1 : Int), (65535 : Int)] : List Int), ()), (y1.2.1, ()))
  else
    bif (decide (y1.1.1 = (1 : Int))) then
      some ((([(-1 : Int), (65535 : Int)] : List Int), ()), (y1.2.1, ()))
    else
      bif (decide (y1.1.1 = (2 : Int))) then
        some ((([(-1 : Int), (-1 : Int)] : List Int), ()), (y1.2.1, ()))
      else
        bif (decide (y1.1.1 = (3 : Int))) then
          some ((([(0 : Int), (65535 : Int)] : List Int), ()), (y1.2.1, ()))
        else
          bif (decide (y1.1.1 = (4 : Int))) then
            Option.bind (make_Codes_Next N (9 : Int) y1.2.1) fun y11 =>
            some ((([(-1 : Int), y11.1.1] : List Int), ()), (y11.2.1, ()))
          else
            make_Codes_Ports_1 N y1.2.1 (List.replicate 2 (0 : Int))
noncomputable def make_Codes_Ports_C (N : Nat) : Ctx := ⟨32, G_tys, [(36, make_Codes_Next_ctr N)], G_globs⟩
noncomputable def make_Codes_Ports_S0 : Spec := ⟨[.ref 0 (.pair (.sl .u8) (.pair .i64 .unit)), .ref 1 (.arr 2 .i64)], [(.box 113 (.pair (.sl .u8) (.pair .i64 .unit)), .fix 0), (.box 44 (.arr 2 .i64), .pos 1)]⟩
noncomputable def make_Codes_Ports_S1 : Spec := ⟨[.ref 0 (.pair (.sl .u8) (.pair .i64 .unit))], [(.box 113 (.pair (.sl .u8) (.pair .i64 .unit)), .pos 0)]⟩
noncomputable def make_Codes_Ports_S2 : Spec := ⟨[.fp (.arr 2 .i64)], [(.box 113 (.pair (.sl .u8) (.pair .i64 .unit)), .fix 0)]⟩
noncomputable def make_Codes_Ports_K (_N : Nat) : XE → GS → Option make_Codes_Ports_R := retK 1 [2] [true] make_Codes_Ports_S2
noncomputable def make_Codes_Ports_L : List Code := (bodyOf (some Try.f78))
theorem make_Codes_Ports_1_b {E : Env} (N : Nat) (hb : Base Try.prog (make_Codes_Ports_C N) E 1) : Blk Try.prog (make_Codes_Ports_C N) E [0, 2] make_Codes_Ports_S0 (make_Codes_Ports_L.drop 3) (fun y => make_Codes_Ports_1 N y.2.1 y.2.2.1) (make_Codes_Ports_K N) :=
  Blk.chunkAt hb 3 (X := (make_Codes_Ports_K N .normal)) (NxOk.end (by kernel_rfl)) rfl (fun x => by kernel_rfl)
theorem make_Codes_Ports_b {E : Env} (N : Nat) (hb : Base Try.prog (make_Codes_Ports_C N) E 1) : Blk Try.prog (make_Codes_Ports_C N) E (List.range make_Codes_Ports_S1.ks.length) make_Codes_Ports_S1 (make_Codes_Ports_L.drop 0) (fun y => make_Codes_Ports N y.2.1) (make_Codes_Ports_K N) :=
  Blk.chunkAt hb 3 (X := (goK 1 [0, 2] make_Codes_Ports_S0 (fun y => make_Codes_Ports_1 N y.2.1 y.2.2.1))) (NxOk.go hb (make_Codes_Ports_1_b N hb)) rfl (fun x => by kernel_rfl)
noncomputable def make_Codes_Ports_ctr (N : Nat) : Ctr := ⟨make_Codes_Ports_S1, make_Codes_Ports_S2.un [true], 1, (fun y => make_Codes_Ports N y.2.1)⟩
theorem make_Codes_Ports_ctrs (N : Nat) : CtrsOk Try.prog (make_Codes_Ports_C N) := ctrs_of (Γ := make_Codes_Ports_C N) (by
  intro p hp
  simp only [make_Codes_Ports_C, List.mem_cons, List.not_mem_nil, or_false] at hp
  rcases hp with rfl
  · exact make_Codes_Next_ok N)
theorem make_Codes_Ports_ok (N : Nat) : Ctr.ok Try.prog G_globs 78 (make_Codes_Ports_ctr N) :=
  ctr_fn (Γ := make_Codes_Ports_C N) (rfit := make_Codes_Ports_S2) (bs := [true]) (res := [2]) (by kernel_rfl) (tys_ok G_tys_ok) (make_Codes_Ports_ctrs N) Try.func78 (by kernel_rfl) (by kernel_rfl) Try.ntmps78 (by kernel_rfl) (by kernel_rfl) (by kernel_rfl) (by kernel_rfl) (fun E hb => make_Codes_Ports_b N hb)
end Go.Proofs.Ytgbkkfpheahdfaa
namespace Go.Proofs.Ytgbkkfpheahdfaa
open Go
set_option maxRecDepth 100000
set_option linter.unusedVariables false
/-! (*ipsecgate/ipsecgatemake.Codes).Box -/
abbrev make_Codes_Box_R : Type := ((D45 × Unit) × (((List UInt8) × (Int × Unit)) × Unit))
noncomputable def make_Codes_Box_2 (N : Nat) (p0 : ((List UInt8) × (Int × Unit))) (t_2 : D45) (b_4 : D45) : Option make_Codes_Box_R :=
  Option.bind (make_Codes_Ports N p0) fun y10 =>
  Option.bind (make_Codes_Ports N y10.2.1) fun y11 =>
  some (((b_4.1, b_4.2.1, b_4.2.2.1, b_4.2.2.2.1, b_4.2.2.2.2.1, b_4.2.2.2.2.2.1, y10.1.1, y11.1.1, ()), ()), (y11.2.1, ()))
noncomputable def make_Codes_Box_1 (N : Nat) (family_3 : Int) (p0 : ((List UInt8) × (Int × Unit))) (t_2 : D45) : Option make_Codes_Box_R :=
  Option.bind (make_Codes_Span N family_3 p0) fun y6 =>
  Option.bind (make_Codes_Span N family_3 y6.2.1) fun y7 =>
  Option.bind (make_Codes_Next N (5 : Int) y7.2.1) fun y8 =>
  bif (decide (y8.1.1 = (0 : Int))) then
    make_Codes_Box_2 N y8.2.1 t_2 (y6.1.1, y6.1.2.1, y7.1.1, y7.1.2.1, (0 : Int), (255 : Int), (List.replicate 2 (0 : Int)), (List.replicate 2 (0 : Int)), ())
  else
    bif (decide (y8.1.1 = (1 : Int))) then
      make_Codes_Box_2 N y8.2.1 t_2 (y6.1.1, y6.1.2.1, y7.1.1, y7.1.2.1, (0 : Int), (255 : Int), (List.replicate 2 (0 : Int)), (List.replicate 2 (0 : Int)), ())
    else
      bif (decide (y8.1.1 = (2 : Int))) then
        Option.bind (make_Codes_Next N (5 : Int) y8.2.1) fun y14 =>
        bif inR y14.1.1 (([(0 : Int), (1 : Int), (6 : Int), (17 : Int), (58 : Int)] : List Int).length) then
        let x15 := (([(0 : Int), (1 : Int), (6 : Int), (17 : Int), (58 : Int)] : List Int).getD y14.1.1.toNat (0 : Int))
        make_Codes_Box_2 N y14.2.1 t_2 (y6.1.1, y6.1.2.1, y7.1.1, y7.1.2.1, x15, x15, (List.replicate 2 (0 : Int)), (List.replicate 2 (0 : Int)), ())
        else none
      else
        Option.bind (make_Codes_Next N (7 : Int) y8.2.1) fun y16 =>
        Option.bind (make_Codes_Next N (12 : Int) y16.2.1) fun y17 =>
        make_Codes_Box_2 N y17.2.1 t_2 (y6.1.1, y6.1.2.1, y7.1.1, y7.1.2.1, y16.1.1, (w64 (y16.1.1 + y17.1.1)), (List.replicate 2 (0 : Int)), (List.replicate 2 (0 : Int)), ())
noncomputable def make_Codes_Box (N : Nat) (c_0 : ((List UInt8) × (Int × Unit))) : Option make_Codes_Box_R :=
  Option.bind (make_Codes_Next N (4 : Int) c_0) fun y1 =>
  let x4 := w64 ((4 : Int) + (w64 ((w64 ((2 : Int) * y1.1.1)).tdiv (3 : Int))))
  bif (!(decide (x4 = (4 : Int)))) then
    make_Codes_Box_1 N (6 : Int) y1.2.1 (((0 : Int), (0 : UInt64), (0 : UInt64), ()), ((0 : Int), (0 : UInt64), (0 : UInt64), ()), ((0 : Int), (0 : UInt64), (0 : UInt64), ()), ((0 : Int), (0 : UInt64), (0 : UInt64), ()), (0 : Int), (0 : Int), (List.replicate 2 (0 : Int)), (List.replicate 2 (0 : Int)), ())
  else
    make_Codes_Box_1 N x4 y1.2.1 (((0 : Int), (0 : UInt64), (0 : UInt64), ()), ((0 : Int), (0 : UInt64), (0 : UInt64), ()), ((0 : Int), (0 : UInt64), (0 : UInt64), ()), ((0 : Int), (0 : UInt64), (0 : UInt64), ()), (0 : Int), (0 : Int), (List.replicate 2 (0 : Int)), (List.replicate 2 (0 : Int)), ())
noncomputable def make_Codes_Box_C (N : Nat) : Ctx := ⟨61, G_tys, [(36, make_Codes_Next_ctr N), (77, make_Codes_Span_ctr N), (78, make_Codes_Ports_ctr N)], G_globs⟩
noncomputable def make_Codes_Box_S0 : Spec := ⟨[.ref 0 (.pair (.sl .u8) (.pair .i64 .unit)), .ref 1 T45, .ref 2 T45], [(.box 113 (.pair (.sl .u8) (.pair .i64 .unit)), .fix 0), (.box 46 T45, .pos 1), (.box 46 T45, .pos 2)]⟩
noncomputable def make_Codes_Box_S1 : Spec := ⟨[.ref 0 (.pair (.sl .u8) (.pair .i64 .unit)), .ref 1 T45, .val .i64], [(.box 113 (.pair (.sl .u8) (.pair .i64 .unit)), .fix 0), (.box 46 T45, .pos 1)]⟩
noncomputable def make_Codes_Box_S2 : Spec := ⟨[.ref 0 (.pair (.sl .u8) (.pair .i64 .unit))], [(.box 113 (.pair (.sl .u8) (.pair .i64 .unit)), .pos 0)]⟩
noncomputable def make_Codes_Box_S3 : Spec := ⟨[.fp T45], [(.box 113 (.pair (.sl .u8) (.pair .i64 .unit)), .fix 0)]⟩
noncomputable def make_Codes_Box_K (_N : Nat) : XE → GS → Option make_Codes_Box_R := retK 1 [2] [true] make_Codes_Box_S3
noncomputable def make_Codes_Box_L : List Code := (bodyOf (some Try.f29))
theorem make_Codes_Box_2_b {E : Env} (N : Nat) (hb : Base Try.prog (make_Codes_Box_C N) E 1) : Blk Try.prog (make_Codes_Box_C N) E [0, 2, 4] make_Codes_Box_S0 (make_Codes_Box_L.drop 9) (fun y => make_Codes_Box_2 N y.2.1 y.2.2.1 y.2.2.2.1) (make_Codes_Box_K N) :=
  Blk.chunkAt hb 3 (X := (make_Codes_Box_K N .normal)) (NxOk.end (by kernel_rfl)) rfl (fun x => by kernel_rfl)
theorem make_Codes_Box_1_b {E : Env} (N : Nat) (hb : Base Try.prog (make_Codes_Box_C N) E 1) : Blk Try.prog (make_Codes_Box_C N) E [0, 2, 3] make_Codes_Box_S1 (make_Codes_Box_L.drop 4) (fun y => make_Codes_Box_1 N y.1.1 y.2.1 y.2.2.1) (make_Codes_Box_K N) :=
  Blk.chunkAt hb 5 (X := (goK 1 [0, 2, 4] make_Codes_Box_S0 (fun y => make_Codes_Box_2 N y.2.1 y.2.2.1 y.2.2.2.1))) (NxOk.go hb (make_Codes_Box_2_b N hb)) rfl (fun x => by kernel_rfl)
theorem make_Codes_Box_b {E : Env} (N : Nat) (hb : Base Try.prog (make_Codes_Box_C N) E 1) : Blk Try.prog (make_Codes_Box_C N) E (List.range make_Codes_Box_S2.ks.length) make_Codes_Box_S2 (make_Codes_Box_L.drop 0) (fun y => make_Codes_Box N y.2.1) (make_Codes_Box_K N) :=
  Blk.chunkAt hb 4 (X := (goK 1 [0, 2, 3] make_Codes_Box_S1 (fun y => make_Codes_Box_1 N y.1.1 y.2.1 y.2.2.1))) (NxOk.go hb (make_Codes_Box_1_b N hb)) rfl (fun x => by kernel_rfl)
noncomputable def make_Codes_Box_ctr (N : Nat) : Ctr := ⟨make_Codes_Box_S2, make_Codes_Box_S3.un [true], 1, (fun y => make_Codes_Box N y.2.1)⟩
theorem make_Codes_Box_ctrs (N : Nat) : CtrsOk Try.prog (make_Codes_Box_C N) := ctrs_of (Γ := make_Codes_Box_C N) (by
  intro p hp
  simp only [make_Codes_Box_C, List.mem_cons, List.not_mem_nil, or_false] at hp
  rcases hp with rfl | rfl | rfl
  · exact make_Codes_Next_ok N
  · exact make_Codes_Span_ok N
  · exact make_Codes_Ports_ok N)
theorem make_Codes_Box_ok (N : Nat) : Ctr.ok Try.prog G_globs 29 (make_Codes_Box_ctr N) :=
  ctr_fn (Γ := make_Codes_Box_C N) (rfit := make_Codes_Box_S3) (bs := [true]) (res := [2]) (by kernel_rfl) (tys_ok G_tys_ok) (make_Codes_Box_ctrs N) Try.func29 (by kernel_rfl) (by kernel_rfl) Try.ntmps29 (by kernel_rfl) (by kernel_rfl) (by kernel_rfl) (by kernel_rfl) (fun E hb => make_Codes_Box_b N hb)
end Go.Proofs.Ytgbkkfpheahdfaa
namespace Go.Proofs.Ytgbkkfpheahdfaa
open Go
set_option maxRecDepth 100000
set_option linter.unusedVariables false
/-! (*ipsecgate/ipsecgatemake.Codes).Rules -/
abbrev make_Codes_Rules_R : Type := ((Unit) × (((List UInt8) × (Int × Unit)) × (List D59) × Unit))
noncomputable def make_Codes_Rules_s8 (N : Nat) (n_6 : Int) (k_8 : Int) (p0 : ((List UInt8) × (Int × Unit))) (out_5 : (List D59)) (r_7 : D59) (r_7_v : (List D45)) : Option (Lo ((Int × Int × Unit) × (((List UInt8) × (Int × Unit)) × (List D59) × D59 × (List D45) × Unit)) ((Int × Unit) × (((List UInt8) × (Int × Unit)) × (List D59) × D59 × (List D45) × Unit)) (Lo ((Int × Unit) × (((List UInt8) × (Int × Unit)) × (List D59) × Unit)) ((Unit) × (((List UInt8) × (Int × Unit)) × (List D59) × Unit)) make_Codes_Rules_R)) :=
  bif (decide ((0 : Int) < k_8)) then
    Option.bind (make_Codes_Box N p0) fun y11 =>
    bif room (r_7_v.length + ([y11.1.1] : List D45).length) 144 then
    some (.go ((n_6, (w64 (k_8 - (1 : Int))), ()), (y11.2.1, out_5, r_7, (r_7_v ++ ([y11.1.1] : List D45)), ())))
    else none
  else
    some (.br ((n_6, ()), (p0, out_5, r_7, r_7_v, ())))
noncomputable def make_Codes_Rules_10 (N : Nat) (n_6 : Int) (p0 : ((List UInt8) × (Int × Unit))) (out_5 : (List D59)) : Option (Lo ((Int × Unit) × (((List UInt8) × (Int × Unit)) × (List D59) × Unit)) ((Unit) × (((List UInt8) × (Int × Unit)) × (List D59) × Unit)) make_Codes_Rules_R) :=
  some (.go (((w64 (n_6 - (1 : Int))), ()), (p0, out_5, ())))
noncomputable def make_Codes_Rules_9 (N : Nat) (n_6 : Int) (p0 : ((List UInt8) × (Int × Unit))) (out_5 : (List D59)) (r_7 : D59) (r_7_v : (List D45)) : Option (Lo ((Int × Unit) × (((List UInt8) × (Int × Unit)) × (List D59) × Unit)) ((Unit) × (((List UInt8) × (Int × Unit)) × (List D59) × Unit)) make_Codes_Rules_R) :=
  bif room (out_5.length + ([(r_7.1, r_7.2.1, r_7_v, ())] : List D59).length) 48 then
  make_Codes_Rules_10 N n_6 p0 (out_5 ++ ([(r_7.1, r_7.2.1, r_7_v, ())] : List D59))
  else none
noncomputable def make_Codes_Rules_7 (N : Nat) (n_6 : Int) (k_8 : Int) (p0 : ((List UInt8) × (Int × Unit))) (out_5 : (List D59)) (r_7 : D59) (r_7_v : (List D45)) : Option (Lo ((Int × Unit) × (((List UInt8) × (Int × Unit)) × (List D59) × Unit)) ((Unit) × (((List UInt8) × (Int × Unit)) × (List D59) × Unit)) make_Codes_Rules_R) :=
  loopK N (fun y => make_Codes_Rules_s8 N y.1.1 y.1.2.1 y.2.1 y.2.2.1 y.2.2.2.1 y.2.2.2.2.1) (fun (e : ((Int × Unit) × (((List UInt8) × (Int × Unit)) × (List D59) × D59 × (List D45) × Unit))) => make_Codes_Rules_9 N e.1.1 e.2.1 e.2.2.1 e.2.2.2.1 e.2.2.2.2.1) ((n_6, k_8, ()), (p0, out_5, r_7, r_7_v, ()))
noncomputable def make_Codes_Rules_6 (N : Nat) (n_6 : Int) (p0 : ((List UInt8) × (Int × Unit))) (out_5 : (List D59)) (r_7 : D59) (r_7_v : (List D45)) : Option (Lo ((Int × Unit) × (((List UInt8) × (Int × Unit)) × (List D59) × Unit)) ((Unit) × (((List UInt8) × (Int × Unit)) × (List D59) × Unit)) make_Codes_Rules_R) :=
  Option.bind (make_Codes_Next N (2 : Int) p0) fun y8 =>
  make_Codes_Rules_7 N n_6 (w64 ((1 : Int) + y8.1.1)) y8.2.1 out_5 r_7 r_7_v
noncomputable def make_Codes_Rules_5 (N : Nat) (n_6 : Int) (p0 : ((List UInt8) × (Int × Unit))) (out_5 : (List D59)) : Option (Lo ((Int × Unit) × (((List UInt8) × (Int × Unit)) × (List D59) × Unit)) ((Unit) × (((List UInt8) × (Int × Unit)) × (List D59) × Unit)) make_Codes_Rules_R) :=
  Option.bind (make_Codes_Next N (3 : Int) p0) fun y4 =>
  bif (decide (y4.1.1 = (2 : Int))) then
    Option.bind (make_Codes_Next N (3 : Int) y4.2.1) fun y6 =>
    bif inR y6.1.1 (([([103, 111, 108, 100] : List UInt8), ([115, 105, 108, 118, 101, 114] : List UInt8), ([120, 49] : List UInt8)] : List (List UInt8)).length) then
    make_Codes_Rules_6 N n_6 y6.2.1 out_5 (y4.1.1, (([([103, 111, 108, 100] : List UInt8), ([115, 105, 108, 118, 101, 114] : List UInt8), ([120, 49] : List UInt8)] : List (List UInt8)).getD y6.1.1.toNat ([] : List UInt8)), ([] : List D45), ()) ([] : List D45)
    else none
  else
    make_Codes_Rules_6 N n_6 y4.2.1 out_5 (y4.1.1, ([] : List UInt8), ([] : List D45), ()) ([] : List D45)
noncomputable def make_Codes_Rules_3 (N : Nat) (n_6 : Int) (p0 : ((List UInt8) × (Int × Unit))) (out_5 : (List D59)) : Option (Lo ((Int × Unit) × (((List UInt8) × (Int × Unit)) × (List D59) × Unit)) ((Unit) × (((List UInt8) × (Int × Unit)) × (List D59) × Unit)) make_Codes_Rules_R) :=
  make_Codes_Rules_5 N n_6 p0 out_5
noncomputable def make_Codes_Rules_s2 (N : Nat) (n_6 : Int) (p0 : ((List UInt8) × (Int × Unit))) (out_5 : (List D59)) : Option (Lo ((Int × Unit) × (((List UInt8) × (Int × Unit)) × (List D59) × Unit)) ((Unit) × (((List UInt8) × (Int × Unit)) × (List D59) × Unit)) make_Codes_Rules_R) :=
  bif (decide ((0 : Int) < n_6)) then
    make_Codes_Rules_3 N n_6 p0 out_5
  else
    some (.br ((()), (p0, out_5, ())))
noncomputable def make_Codes_Rules_11 (N : Nat) (p0 : ((List UInt8) × (Int × Unit))) (out_5 : (List D59)) : Option make_Codes_Rules_R :=
  some ((()), (p0, out_5, ()))
noncomputable def make_Codes_Rules_1 (N : Nat) (n_6 : Int) (p0 : ((List UInt8) × (Int × Unit))) (out_5 : (List D59)) : Option make_Codes_Rules_R :=
  loopK N (fun y => make_Codes_Rules_s2 N y.1.1 y.2.1 y.2.2.1) (fun (e : ((Unit) × (((List UInt8) × (Int × Unit)) × (List D59) × Unit))) => make_Codes_Rules_11 N e.2.1 e.2.2.1) ((n_6, ()), (p0, out_5, ()))
noncomputable def make_Codes_Rules (N : Nat) (most_1 : Int) (c_0 : ((List UInt8) × (Int × Unit))) : Option make_Codes_Rules_R :=
  Option.bind (make_Codes_Next N (w64 (most_1 + (1 : Int))) c_0) fun y2 =>
  make_Codes_Rules_1 N y2.1.1 y2.2.1 ([] : List D59)
noncomputable def make_Codes_Rules_C (N : Nat) : Ctx := ⟨48, G_tys, [(36, make_Codes_Next_ctr N), (29, make_Codes_Box_ctr N)], G_globs⟩
noncomputable def make_Codes_Rules_S0 : Spec := ⟨[.ref 0 (.pair (.sl .u8) (.pair .i64 .unit)), .row 1, .val .i64, .ref 2 T59, .val .i64], [(.box 113 (.pair (.sl .u8) (.pair .i64 .unit)), .fix 0), (.row 60 T59, .pos 1), (.srow 60 T59 2 3, .pos 3), (.row 46 T45, .inn 2)]⟩
noncomputable def make_Codes_Rules_S1 : Spec := ⟨[.ref 0 (.pair (.sl .u8) (.pair .i64 .unit)), .row 1, .val .i64], [(.box 113 (.pair (.sl .u8) (.pair .i64 .unit)), .fix 0), (.row 60 T59, .pos 1)]⟩
noncomputable def make_Codes_Rules_S2 : Spec := ⟨[.ref 0 (.pair (.sl .u8) (.pair .i64 .unit)), .row 1, .val .i64, .ref 2 T59], [(.box 113 (.pair (.sl .u8) (.pair .i64 .unit)), .fix 0), (.row 60 T59, .pos 1), (.srow 60 T59 2 3, .pos 3), (.row 46 T45, .inn 2)]⟩
noncomputable def make_Codes_Rules_S3 : Spec := ⟨[.row 1], [(.box 113 (.pair (.sl .u8) (.pair .i64 .unit)), .fix 0), (.row 60 T59, .pos 0)]⟩
noncomputable def make_Codes_Rules_S4 : Spec := ⟨[.ref 0 (.pair (.sl .u8) (.pair .i64 .unit)), .val .i64], [(.box 113 (.pair (.sl .u8) (.pair .i64 .unit)), .pos 0)]⟩
noncomputable def make_Codes_Rules_K (_N : Nat) : XE → GS → Option make_Codes_Rules_R := retK 1 [4] [false] make_Codes_Rules_S3
noncomputable def make_Codes_Rules_L : List Code := (bodyOf (some Try.f34))
noncomputable def make_Codes_Rules_L2 : List Code := (loopOf (make_Codes_Rules_L[3]?))
noncomputable def make_Codes_Rules_L4b : List Code := (blockOf (make_Codes_Rules_L2[2]?))
noncomputable def make_Codes_Rules_L8 : List Code := (loopOf (make_Codes_Rules_L4b[4]?))
noncomputable def make_Codes_Rules_K2 (N : Nat) : XE → GS → Option (Lo ((Int × Unit) × (((List UInt8) × (Int × Unit)) × (List D59) × Unit)) ((Unit) × (((List UInt8) × (Int × Unit)) × (List D59) × Unit)) make_Codes_Rules_R) := roundK (some 0) (fit 1 [0, 5, 6] make_Codes_Rules_S1) (fit 1 [5] make_Codes_Rules_S3) (make_Codes_Rules_K N)
noncomputable def make_Codes_Rules_K4 (N : Nat) : XE → GS → Option (Lo ((Int × Unit) × (((List UInt8) × (Int × Unit)) × (List D59) × Unit)) ((Unit) × (((List UInt8) × (Int × Unit)) × (List D59) × Unit)) make_Codes_Rules_R) := blockK 1 (goK 1 [0, 5, 6] make_Codes_Rules_S1 (fun y => make_Codes_Rules_10 N y.1.1 y.2.1 y.2.2.1)) (make_Codes_Rules_K2 N)
noncomputable def make_Codes_Rules_K8 (N : Nat) : XE → GS → Option (Lo ((Int × Int × Unit) × (((List UInt8) × (Int × Unit)) × (List D59) × D59 × (List D45) × Unit)) ((Int × Unit) × (((List UInt8) × (Int × Unit)) × (List D59) × D59 × (List D45) × Unit)) (Lo ((Int × Unit) × (((List UInt8) × (Int × Unit)) × (List D59) × Unit)) ((Unit) × (((List UInt8) × (Int × Unit)) × (List D59) × Unit)) make_Codes_Rules_R)) := roundK (some 2) (fit 1 [0, 5, 6, 7, 8] make_Codes_Rules_S0) (fit 1 [0, 5, 6, 7] make_Codes_Rules_S2) (make_Codes_Rules_K4 N)
theorem make_Codes_Rules_s8_b {E : Env} (N : Nat) (hb : Base Try.prog (make_Codes_Rules_C N) E 1) : Blk Try.prog (make_Codes_Rules_C N) E [0, 5, 6, 7, 8] make_Codes_Rules_S0 (make_Codes_Rules_L8.drop 0) (fun y => make_Codes_Rules_s8 N y.1.1 y.1.2.1 y.2.1 y.2.2.1 y.2.2.2.1 y.2.2.2.2.1) (make_Codes_Rules_K8 N) :=
  Blk.chunkAt hb 4 (X := (make_Codes_Rules_K8 N .normal)) (NxOk.end (by kernel_rfl)) rfl (fun x => by kernel_rfl)
theorem make_Codes_Rules_10_b {E : Env} (N : Nat) (hb : Base Try.prog (make_Codes_Rules_C N) E 1) : Blk Try.prog (make_Codes_Rules_C N) E [0, 5, 6] make_Codes_Rules_S1 (make_Codes_Rules_L2.drop 3) (fun y => make_Codes_Rules_10 N y.1.1 y.2.1 y.2.2.1) (make_Codes_Rules_K2 N) :=
  Blk.chunkAt hb 1 (X := (make_Codes_Rules_K2 N .normal)) (NxOk.end (by kernel_rfl)) rfl (fun x => by kernel_rfl)
theorem make_Codes_Rules_9_b {E : Env} (N : Nat) (hb : Base Try.prog (make_Codes_Rules_C N) E 1) : Blk Try.prog (make_Codes_Rules_C N) E [0, 5, 6, 7] make_Codes_Rules_S2 (make_Codes_Rules_L4b.drop 5) (fun y => make_Codes_Rules_9 N y.1.1 y.2.1 y.2.2.1 y.2.2.2.1 y.2.2.2.2.1) (make_Codes_Rules_K4 N) :=
  Blk.chunkAt hb 1 (X := (make_Codes_Rules_K4 N .normal)) (NxOk.end (by kernel_rfl)) rfl (fun x => by kernel_rfl)
theorem make_Codes_Rules_7_b {E : Env} (N : Nat) (hb : Base Try.prog (make_Codes_Rules_C N) E 1) : Blk Try.prog (make_Codes_Rules_C N) E [0, 5, 6, 7, 8] make_Codes_Rules_S0 (make_Codes_Rules_L4b.drop 4) (fun y => make_Codes_Rules_7 N y.1.1 y.1.2.1 y.2.1 y.2.2.1 y.2.2.2.1 y.2.2.2.2.1) (make_Codes_Rules_K4 N) :=
  Blk.loopAt (Nf := N) (hns := [0, 5, 6, 7, 8]) (ans := [0, 5, 6, 7]) (hc := make_Codes_Rules_S0) (ac := make_Codes_Rules_S2) (bid := 2) (step := (fun y => make_Codes_Rules_s8 N y.1.1 y.1.2.1 y.2.1 y.2.2.1 y.2.2.2.1 y.2.2.2.2.1)) (J := (fun e => (goK 1 [0, 5, 6, 7] make_Codes_Rules_S2 (fun y => make_Codes_Rules_9 N y.1.1 y.2.1 y.2.2.1 y.2.2.2.1 y.2.2.2.2.1)) (make_Codes_Rules_S2.st [0, 5, 6, 7] e))) hb (by kernel_rfl) (Blk.into (X := (goK 1 [0, 5, 6, 7] make_Codes_Rules_S2 (fun y => make_Codes_Rules_9 N y.1.1 y.2.1 y.2.2.1 y.2.2.2.1 y.2.2.2.2.1))) (NxOk.go hb (make_Codes_Rules_9_b N hb)) (fun x => by kernel_rfl)) (make_Codes_Rules_s8_b N hb) (fun x => by kernel_rfl)
theorem make_Codes_Rules_6_b {E : Env} (N : Nat) (hb : Base Try.prog (make_Codes_Rules_C N) E 1) : Blk Try.prog (make_Codes_Rules_C N) E [0, 5, 6, 7] make_Codes_Rules_S2 (make_Codes_Rules_L4b.drop 3) (fun y => make_Codes_Rules_6 N y.1.1 y.2.1 y.2.2.1 y.2.2.2.1 y.2.2.2.2.1) (make_Codes_Rules_K4 N) :=
  Blk.chunkAt hb 1 (X := (goK 1 [0, 5, 6, 7, 8] make_Codes_Rules_S0 (fun y => make_Codes_Rules_7 N y.1.1 y.1.2.1 y.2.1 y.2.2.1 y.2.2.2.1 y.2.2.2.2.1))) (NxOk.go hb (make_Codes_Rules_7_b N hb)) rfl (fun x => by kernel_rfl)
theorem make_Codes_Rules_5_b {E : Env} (N : Nat) (hb : Base Try.prog (make_Codes_Rules_C N) E 1) : Blk Try.prog (make_Codes_Rules_C N) E [0, 5, 6] make_Codes_Rules_S1 (make_Codes_Rules_L4b.drop 0) (fun y => make_Codes_Rules_5 N y.1.1 y.2.1 y.2.2.1) (make_Codes_Rules_K4 N) :=
  Blk.chunkAt hb 3 (X := (goK 1 [0, 5, 6, 7] make_Codes_Rules_S2 (fun y => make_Codes_Rules_6 N y.1.1 y.2.1 y.2.2.1 y.2.2.2.1 y.2.2.2.2.1))) (NxOk.go hb (make_Codes_Rules_6_b N hb)) rfl (fun x => by kernel_rfl)
theorem make_Codes_Rules_3_b {E : Env} (N : Nat) (hb : Base Try.prog (make_Codes_Rules_C N) E 1) : Blk Try.prog (make_Codes_Rules_C N) E [0, 5, 6] make_Codes_Rules_S1 (make_Codes_Rules_L2.drop 2) (fun y => make_Codes_Rules_3 N y.1.1 y.2.1 y.2.2.1) (make_Codes_Rules_K2 N) :=
  Blk.blockAt (bid := 1) (X := (goK 1 [0, 5, 6] make_Codes_Rules_S1 (fun y => make_Codes_Rules_10 N y.1.1 y.2.1 y.2.2.1))) (Y := (goK 1 [0, 5, 6] make_Codes_Rules_S1 (fun y => make_Codes_Rules_5 N y.1.1 y.2.1 y.2.2.1))) (by kernel_rfl) (NxOk.go hb (make_Codes_Rules_10_b N hb)) (NxOk.go hb (make_Codes_Rules_5_b N hb)) (fun x => by kernel_rfl)
theorem make_Codes_Rules_s2_b {E : Env} (N : Nat) (hb : Base Try.prog (make_Codes_Rules_C N) E 1) : Blk Try.prog (make_Codes_Rules_C N) E [0, 5, 6] make_Codes_Rules_S1 (make_Codes_Rules_L2.drop 0) (fun y => make_Codes_Rules_s2 N y.1.1 y.2.1 y.2.2.1) (make_Codes_Rules_K2 N) :=
  Blk.chunkAt hb 2 (X := (goK 1 [0, 5, 6] make_Codes_Rules_S1 (fun y => make_Codes_Rules_3 N y.1.1 y.2.1 y.2.2.1))) (NxOk.go hb (make_Codes_Rules_3_b N hb)) rfl (fun x => by kernel_rfl)
theorem make_Codes_Rules_11_b {E : Env} (N : Nat) (hb : Base Try.prog (make_Codes_Rules_C N) E 1) : Blk Try.prog (make_Codes_Rules_C N) E [5] make_Codes_Rules_S3 (make_Codes_Rules_L.drop 4) (fun y => make_Codes_Rules_11 N y.2.1 y.2.2.1) (make_Codes_Rules_K N) :=
  Blk.chunkAt hb 2 (X := (make_Codes_Rules_K N .normal)) (NxOk.end (by kernel_rfl)) rfl (fun x => by kernel_rfl)
theorem make_Codes_Rules_1_b {E : Env} (N : Nat) (hb : Base Try.prog (make_Codes_Rules_C N) E 1) : Blk Try.prog (make_Codes_Rules_C N) E [0, 5, 6] make_Codes_Rules_S1 (make_Codes_Rules_L.drop 3) (fun y => make_Codes_Rules_1 N y.1.1 y.2.1 y.2.2.1) (make_Codes_Rules_K N) :=
  Blk.loopAt (Nf := N) (hns := [0, 5, 6]) (ans := [5]) (hc := make_Codes_Rules_S1) (ac := make_Codes_Rules_S3) (bid := 0) (step := (fun y => make_Codes_Rules_s2 N y.1.1 y.2.1 y.2.2.1)) (J := (fun e => (goK 1 [5] make_Codes_Rules_S3 (fun y => make_Codes_Rules_11 N y.2.1 y.2.2.1)) (make_Codes_Rules_S3.st [5] e))) hb (by kernel_rfl) (Blk.into (X := (goK 1 [5] make_Codes_Rules_S3 (fun y => make_Codes_Rules_11 N y.2.1 y.2.2.1))) (NxOk.go hb (make_Codes_Rules_11_b N hb)) (fun x => by kernel_rfl)) (make_Codes_Rules_s2_b N hb) (fun x => by kernel_rfl)
theorem make_Codes_Rules_b {E : Env} (N : Nat) (hb : Base Try.prog (make_Codes_Rules_C N) E 1) : Blk Try.prog (make_Codes_Rules_C N) E (List.range make_Codes_Rules_S4.ks.length) make_Codes_Rules_S4 (make_Codes_Rules_L.drop 0) (fun y => make_Codes_Rules N y.1.1 y.2.1) (make_Codes_Rules_K N) :=
  Blk.chunkAt hb 3 (X := (goK 1 [0, 5, 6] make_Codes_Rules_S1 (fun y => make_Codes_Rules_1 N y.1.1 y.2.1 y.2.2.1))) (NxOk.go hb (make_Codes_Rules_1_b N hb)) rfl (fun x => by kernel_rfl)
noncomputable def make_Codes_Rules_ctr (N : Nat) : Ctr := ⟨make_Codes_Rules_S4, make_Codes_Rules_S3.un [false], 1, (fun y => make_Codes_Rules N y.1.1 y.2.1)⟩
theorem make_Codes_Rules_ctrs (N : Nat) : CtrsOk Try.prog (make_Codes_Rules_C N) := ctrs_of (Γ := make_Codes_Rules_C N) (by
  intro p hp
  simp only [make_Codes_Rules_C, List.mem_cons, List.not_mem_nil, or_false] at hp
  rcases hp with rfl | rfl
  · exact make_Codes_Next_ok N
  · exact make_Codes_Box_ok N)
theorem make_Codes_Rules_ok (N : Nat) : Ctr.ok Try.prog G_globs 34 (make_Codes_Rules_ctr N) :=
  ctr_fn (Γ := make_Codes_Rules_C N) (rfit := make_Codes_Rules_S3) (bs := [false]) (res := [4]) (by kernel_rfl) (tys_ok G_tys_ok) (make_Codes_Rules_ctrs N) Try.func34 (by kernel_rfl) (by kernel_rfl) Try.ntmps34 (by kernel_rfl) (by kernel_rfl) (by kernel_rfl) (by kernel_rfl) (fun E hb => make_Codes_Rules_b N hb)
end Go.Proofs.Ytgbkkfpheahdfaa
namespace Go.Proofs.Ytgbkkfpheahdfaa
open Go
set_option maxRecDepth 100000
set_option linter.unusedVariables false
/-! ipsecgate/ipsecgateref19.Name -/
abbrev ref19_Name_R : Type := ((Bool × Unit) × (Unit))
noncomputable def ref19_Name_s3 (N : Nat) (s_0 : (List UInt8)) (i_3 : Int) : Option (Lo (((List UInt8) × Int × Unit) × (Unit)) ((Unit) × (Unit)) ref19_Name_R) :=
  bif (decide (i_3 < (s_0.length : Int))) then
    bif inR i_3 s_0.length then
    let x5 := s_0.getD i_3.toNat 0
    bif (decide ((48 : UInt8) ≤ x5)) then
      bif (decide (x5 ≤ (57 : UInt8))) then
        some (.go ((s_0, (w64 (i_3 + (1 : Int))), ()), (())))
      else
        bif (decide ((97 : UInt8) ≤ x5)) then
          bif (decide (x5 ≤ (122 : UInt8))) then
            some (.go ((s_0, (w64 (i_3 + (1 : Int))), ()), (())))
          else
            bif (decide ((65 : UInt8) ≤ x5)) then
              bif !(decide (x5 ≤ (90 : UInt8))) then
                some (.rt ((false, ()), (())))
              else
                some (.go ((s_0, (w64 (i_3 + (1 : Int))), ()), (())))
            else
              some (.rt ((false, ()), (())))
        else
          bif (decide ((65 : UInt8) ≤ x5)) then
            bif !(decide (x5 ≤ (90 : UInt8))) then
              some (.rt ((false, ()), (())))
            else
              some (.go ((s_0, (w64 (i_3 + (1 : Int))), ()), (())))
          else
            some (.rt ((false, ()), (())))
    else
      bif (decide ((97 : UInt8) ≤ x5)) then
        bif (decide (x5 ≤ (122 : UInt8))) then
          some (.go ((s_0, (w64 (i_3 + (1 : Int))), ()), (())))
        else
          bif (decide ((65 : UInt8) ≤ x5)) then
            bif !(decide (x5 ≤ (90 : UInt8))) then
              some (.rt ((false, ()), (())))
            else
              some (.go ((s_0, (w64 (i_3 + (1 : Int))), ()), (())))
          else
            some (.rt ((false, ()), (())))
      else
        bif (decide ((65 : UInt8) ≤ x5)) then
          bif !(decide (x5 ≤ (90 : UInt8))) then
            some (.rt ((false, ()), (())))
          else
            some (.go ((s_0, (w64 (i_3 + (1 : Int))), ()), (())))
        else
          some (.rt ((false, ()), (())))
    else none
  else
    some (.br ((()), (())))
noncomputable def ref19_Name_4 (N : Nat) : Option ref19_Name_R :=
  some ((true, ()), (()))
noncomputable def ref19_Name_2 (N : Nat) (s_0 : (List UInt8)) (i_3 : Int) : Option ref19_Name_R :=
  loopK N (fun y => ref19_Name_s3 N y.1.1 y.1.2.1) (fun (e : ((Unit) × (Unit))) => ref19_Name_4 N) ((s_0, i_3, ()), (()))
noncomputable def ref19_Name_1 (N : Nat) (s_0 : (List UInt8)) (t_12 : Bool) : Option ref19_Name_R :=
  bif t_12 then
    some ((false, ()), (()))
  else
    ref19_Name_2 N s_0 (0 : Int)
noncomputable def ref19_Name (N : Nat) (s_0 : (List UInt8)) : Option ref19_Name_R :=
  bif (decide ((s_0.length : Int) < (1 : Int))) then
    ref19_Name_1 N s_0 true
  else
    ref19_Name_1 N s_0 (decide ((16 : Int) < (s_0.length : Int)))
noncomputable def ref19_Name_C (N : Nat) : Ctx := ⟨45, G_tys, [], G_globs⟩
noncomputable def ref19_Name_S0 : Spec := ⟨[.val .str, .val .i64], []⟩
noncomputable def ref19_Name_S1 : Spec := ⟨[], []⟩
noncomputable def ref19_Name_S2 : Spec := ⟨[.val .str, .val .bool], []⟩
noncomputable def ref19_Name_S3 : Spec := ⟨[.val .str], []⟩
noncomputable def ref19_Name_S4 : Spec := ⟨[.val .bool], []⟩
noncomputable def ref19_Name_K (_N : Nat) : XE → GS → Option ref19_Name_R := retK 0 [2] [false] ref19_Name_S4
noncomputable def ref19_Name_L : List Code := (bodyOf (some Try.f151))
noncomputable def ref19_Name_L3 : List Code := (loopOf (ref19_Name_L[4]?))
noncomputable def ref19_Name_K3 (N : Nat) : XE → GS → Option (Lo (((List UInt8) × Int × Unit) × (Unit)) ((Unit) × (Unit)) ref19_Name_R) := roundK (some 0) (fit 0 [0, 3] ref19_Name_S0) (fit 0 [] ref19_Name_S1) (ref19_Name_K N)
theorem ref19_Name_s3_b {E : Env} (N : Nat) (hb : Base Try.prog (ref19_Name_C N) E 0) : Blk Try.prog (ref19_Name_C N) E [0, 3] ref19_Name_S0 (ref19_Name_L3.drop 0) (fun y => ref19_Name_s3 N y.1.1 y.1.2.1) (ref19_Name_K3 N) :=
  Blk.chunkAt hb 4 (X := (ref19_Name_K3 N .normal)) (NxOk.end (by kernel_rfl)) rfl (fun x => by kernel_rfl)
theorem ref19_Name_4_b {E : Env} (N : Nat) (hb : Base Try.prog (ref19_Name_C N) E 0) : Blk Try.prog (ref19_Name_C N) E [] ref19_Name_S1 (ref19_Name_L.drop 5) (fun y => ref19_Name_4 N) (ref19_Name_K N) :=
  Blk.chunkAt hb 2 (X := (ref19_Name_K N .normal)) (NxOk.end (by kernel_rfl)) rfl (fun x => by kernel_rfl)
theorem ref19_Name_2_b {E : Env} (N : Nat) (hb : Base Try.prog (ref19_Name_C N) E 0) : Blk Try.prog (ref19_Name_C N) E [0, 3] ref19_Name_S0 (ref19_Name_L.drop 4) (fun y => ref19_Name_2 N y.1.1 y.1.2.1) (ref19_Name_K N) :=
  Blk.loopAt (Nf := N) (hns := [0, 3]) (ans := []) (hc := ref19_Name_S0) (ac := ref19_Name_S1) (bid := 0) (step := (fun y => ref19_Name_s3 N y.1.1 y.1.2.1)) (J := (fun e => (goK 0 [] ref19_Name_S1 (fun y => ref19_Name_4 N)) (ref19_Name_S1.st [] e))) hb (by kernel_rfl) (Blk.into (X := (goK 0 [] ref19_Name_S1 (fun y => ref19_Name_4 N))) (NxOk.go hb (ref19_Name_4_b N hb)) (fun x => by kernel_rfl)) (ref19_Name_s3_b N hb) (fun x => by kernel_rfl)
theorem ref19_Name_1_b {E : Env} (N : Nat) (hb : Base Try.prog (ref19_Name_C N) E 0) : Blk Try.prog (ref19_Name_C N) E [0, 12] ref19_Name_S2 (ref19_Name_L.drop 2) (fun y => ref19_Name_1 N y.1.1 y.1.2.1) (ref19_Name_K N) :=
  Blk.chunkAt hb 2 (X := (goK 0 [0, 3] ref19_Name_S0 (fun y => ref19_Name_2 N y.1.1 y.1.2.1))) (NxOk.go hb (ref19_Name_2_b N hb)) rfl (fun x => by kernel_rfl)
theorem ref19_Name_b {E : Env} (N : Nat) (hb : Base Try.prog (ref19_Name_C N) E 0) : Blk Try.prog (ref19_Name_C N) E (List.range ref19_Name_S3.ks.length) ref19_Name_S3 (ref19_Name_L.drop 0) (fun y => ref19_Name N y.1.1) (ref19_Name_K N) :=
  Blk.chunkAt hb 2 (X := (goK 0 [0, 12] ref19_Name_S2 (fun y => ref19_Name_1 N y.1.1 y.1.2.1))) (NxOk.go hb (ref19_Name_1_b N hb)) rfl (fun x => by kernel_rfl)
noncomputable def ref19_Name_ctr (N : Nat) : Ctr := ⟨ref19_Name_S3, ref19_Name_S4.un [false], 0, (fun y => ref19_Name N y.1.1)⟩
theorem ref19_Name_ctrs (N : Nat) : CtrsOk Try.prog (ref19_Name_C N) := ctrs_nil rfl
theorem ref19_Name_ok (N : Nat) : Ctr.ok Try.prog G_globs 151 (ref19_Name_ctr N) :=
  ctr_fn (Γ := ref19_Name_C N) (rfit := ref19_Name_S4) (bs := [false]) (res := [2]) (by kernel_rfl) (tys_ok G_tys_ok) (ref19_Name_ctrs N) Try.func151 (by kernel_rfl) (by kernel_rfl) Try.ntmps151 (by kernel_rfl) (by kernel_rfl) (by kernel_rfl) (by kernel_rfl) (fun E hb => ref19_Name_b N hb)
end Go.Proofs.Ytgbkkfpheahdfaa
namespace Go.Proofs.Ytgbkkfpheahdfaa
open Go
set_option maxRecDepth 100000
set_option linter.unusedVariables false
/-! ipsecgate/ipsecgateref05.Less -/
abbrev ref05_Less_R : Type := ((Bool × Unit) × (Unit))
noncomputable def ref05_Less (N : Nat) (a_0 : D27) (b_1 : D27) : Option ref05_Less_R :=
  bif (!(decide (a_0.1 = b_1.1))) then
    some (((decide (a_0.1 < b_1.1)), ()), (()))
  else
    bif (!(decide (a_0.2.1 = b_1.2.1))) then
      some (((decide (a_0.2.1 < b_1.2.1)), ()), (()))
    else
      some (((decide (a_0.2.2.1 < b_1.2.2.1)), ()), (()))
noncomputable def ref05_Less_C (N : Nat) : Ctx := ⟨30, G_tys, [], G_globs⟩
noncomputable def ref05_Less_S0 : Spec := ⟨[.val T27, .val T27], []⟩
noncomputable def ref05_Less_S1 : Spec := ⟨[.val .bool], []⟩
noncomputable def ref05_Less_K (_N : Nat) : XE → GS → Option ref05_Less_R := retK 0 [4] [false] ref05_Less_S1
noncomputable def ref05_Less_L : List Code := (bodyOf (some Try.f97))
theorem ref05_Less_b {E : Env} (N : Nat) (hb : Base Try.prog (ref05_Less_C N) E 0) : Blk Try.prog (ref05_Less_C N) E (List.range ref05_Less_S0.ks.length) ref05_Less_S0 (ref05_Less_L.drop 0) (fun y => ref05_Less N y.1.1 y.1.2.1) (ref05_Less_K N) :=
  Blk.chunkAt hb 7 (X := (ref05_Less_K N .normal)) (NxOk.end (by kernel_rfl)) rfl (fun x => by kernel_rfl)
noncomputable def ref05_Less_ctr (N : Nat) : Ctr := ⟨ref05_Less_S0, ref05_Less_S1.un [false], 0, (fun y => ref05_Less N y.1.1 y.1.2.1)⟩
theorem ref05_Less_ctrs (N : Nat) : CtrsOk Try.prog (ref05_Less_C N) := ctrs_nil rfl
theorem ref05_Less_ok (N : Nat) : Ctr.ok Try.prog G_globs 97 (ref05_Less_ctr N) :=
  ctr_fn (Γ := ref05_Less_C N) (rfit := ref05_Less_S1) (bs := [false]) (res := [4]) (by kernel_rfl) (tys_ok G_tys_ok) (ref05_Less_ctrs N) Try.func97 (by kernel_rfl) (by kernel_rfl) Try.ntmps97 (by kernel_rfl) (by kernel_rfl) (by kernel_rfl) (by kernel_rfl) (fun E hb => ref05_Less_b N hb)
end Go.Proofs.Ytgbkkfpheahdfaa
namespace Go.Proofs.Ytgbkkfpheahdfaa
open Go
set_option maxRecDepth 100000
set_option linter.unusedVariables false
/-! ipsecgate/ipsecgateref19.ports -/
abbrev ref19_ports_R : Type := ((Bool × Unit) × (Unit))
noncomputable def ref19_ports (N : Nat) (p_0 : (List Int)) : Option ref19_ports_R :=
  bif (decide ((-1 : Int) ≤ (p_0.getD 0 (0 : Int)))) then
    bif (decide ((p_0.getD 1 (0 : Int)) ≤ (65535 : Int))) then
      some (((decide ((p_0.getD 0 (0 : Int)) ≤ (p_0.getD 1 (0 : Int)))), ()), (()))
    else
      some ((false, ()), (()))
  else
    some ((false, ()), (()))
noncomputable def ref19_ports_C (N : Nat) : Ctx := ⟨18, G_tys, [], G_globs⟩
noncomputable def ref19_ports_S0 : Spec := ⟨[.val (.arr 2 .i64)], []⟩
noncomputable def ref19_ports_S1 : Spec := ⟨[.val .bool], []⟩
noncomputable def ref19_ports_K (_N : Nat) : XE → GS → Option ref19_ports_R := retK 0 [2] [false] ref19_ports_S1
noncomputable def ref19_ports_L : List Code := (bodyOf (some Try.f100))
theorem ref19_ports_b {E : Env} (N : Nat) (hb : Base Try.prog (ref19_ports_C N) E 0) : Blk Try.prog (ref19_ports_C N) E (List.range ref19_ports_S0.ks.length) ref19_ports_S0 (ref19_ports_L.drop 0) (fun y => ref19_ports N y.1.1) (ref19_ports_K N) :=
  Blk.chunkAt hb 3 (X := (ref19_ports_K N .normal)) (NxOk.end (by kernel_rfl)) rfl (fun x => by kernel_rfl)
noncomputable def ref19_ports_ctr (N : Nat) : Ctr := ⟨ref19_ports_S0, ref19_ports_S1.un [false], 0, (fun y => ref19_ports N y.1.1)⟩
theorem ref19_ports_ctrs (N : Nat) : CtrsOk Try.prog (ref19_ports_C N) := ctrs_nil rfl
theorem ref19_ports_ok (N : Nat) : Ctr.ok Try.prog G_globs 100 (ref19_ports_ctr N) :=
  ctr_fn (Γ := ref19_ports_C N) (rfit := ref19_ports_S1) (bs := [false]) (res := [2]) (by kernel_rfl) (tys_ok G_tys_ok) (ref19_ports_ctrs N) Try.func100 (by kernel_rfl) (by kernel_rfl) Try.ntmps100 (by kernel_rfl) (by kernel_rfl) (by kernel_rfl) (by kernel_rfl) (fun E hb => ref19_ports_b N hb)
end Go.Proofs.Ytgbkkfpheahdfaa
namespace Go.Proofs.Ytgbkkfpheahdfaa
open Go
set_option maxRecDepth 100000
set_option linter.unusedVariables false
/-! ipsecgate/ipsecgateref19.CheckBox -/
abbrev ref19_CheckBox_R : Type := ((Int × Unit) × (Unit))
noncomputable def ref19_CheckBox_s2 (N : Nat) (i_4 : Int) (b_1 : D45) (l_3 : (List D27)) : Option (Lo ((Int × Unit) × (D45 × (List D27) × Unit)) ((Unit) × (D45 × (List D27) × Unit)) ref19_CheckBox_R) :=
  bif (decide (i_4 < (4 : Int))) then
    bif inR i_4 l_3.length then
    Option.bind (ref05_Valid N (l_3.getD i_4.toNat ((0 : Int), (0 : UInt64), (0 : UInt64), ()))) fun y3 =>
    bif (!y3.1.1) then
      some (.rt (((15 : Int), ()), (())))
    else
      bif inR i_4 l_3.length then
      bif inR (0 : Int) l_3.length then
      bif (!(decide (((l_3.getD i_4.toNat ((0 : Int), (0 : UInt64), (0 : UInt64), ())).1) = ((l_3.getD 0 ((0 : Int), (0 : UInt64), (0 : UInt64), ())).1)))) then
        some (.rt (((15 : Int), ()), (())))
      else
        some (.go (((w64 (i_4 + (1 : Int))), ()), (b_1, l_3, ())))
      else none
      else none
    else none
  else
    some (.br ((()), (b_1, l_3, ())))
noncomputable def ref19_CheckBox_3 (N : Nat) (b_1 : D45) (l_3 : (List D27)) : Option ref19_CheckBox_R :=
  bif inR (1 : Int) l_3.length then
  bif inR (0 : Int) l_3.length then
  Option.bind (ref05_Less N (l_3.getD 1 ((0 : Int), (0 : UInt64), (0 : UInt64), ())) (l_3.getD 0 ((0 : Int), (0 : UInt64), (0 : UInt64), ()))) fun y11 =>
  bif y11.1.1 then
    some (((5 : Int), ()), (()))
  else
    bif inR (3 : Int) l_3.length then
    bif inR (2 : Int) l_3.length then
    Option.bind (ref05_Less N (l_3.getD 3 ((0 : Int), (0 : UInt64), (0 : UInt64), ())) (l_3.getD 2 ((0 : Int), (0 : UInt64), (0 : UInt64), ()))) fun y14 =>
    bif y14.1.1 then
      some (((5 : Int), ()), (()))
    else
      bif (decide (b_1.2.2.2.2.1 < (0 : Int))) then
        some (((5 : Int), ()), (()))
      else
        bif (decide ((255 : Int) < b_1.2.2.2.2.2.1)) then
          some (((5 : Int), ()), (()))
        else
          bif (decide (b_1.2.2.2.2.2.1 < b_1.2.2.2.2.1)) then
            some (((5 : Int), ()), (()))
          else
            Option.bind (ref19_ports N b_1.2.2.2.2.2.2.1) fun y18 =>
            bif (!y18.1.1) then
              some (((5 : Int), ()), (()))
            else
              Option.bind (ref19_ports N b_1.2.2.2.2.2.2.2.1) fun y20 =>
              bif (!y20.1.1) then
                some (((5 : Int), ()), (()))
              else
                some (((0 : Int), ()), (()))
    else none
    else none
  else none
  else none
noncomputable def ref19_CheckBox_1 (N : Nat) (i_4 : Int) (b_1 : D45) (l_3 : (List D27)) : Option ref19_CheckBox_R :=
  loopK N (fun y => ref19_CheckBox_s2 N y.1.1 y.2.1 y.2.2.1) (fun (e : ((Unit) × (D45 × (List D27) × Unit))) => ref19_CheckBox_3 N e.2.1 e.2.2.1) ((i_4, ()), (b_1, l_3, ()))
noncomputable def ref19_CheckBox (N : Nat) (b_0 : D45) : Option ref19_CheckBox_R :=
  ref19_CheckBox_1 N (0 : Int) b_0 ([b_0.1, b_0.2.1, b_0.2.2.1, b_0.2.2.2.1] : List D27)
noncomputable def ref19_CheckBox_C (N : Nat) : Ctx := ⟨81, G_tys, [(99, ref05_Valid_ctr N), (97, ref05_Less_ctr N), (100, ref19_ports_ctr N)], G_globs⟩
noncomputable def ref19_CheckBox_S0 : Spec := ⟨[.ref 0 T45, .row 1, .val .i64], [(.box 46 T45, .pos 0), (.row 28 T27, .pos 1)]⟩
noncomputable def ref19_CheckBox_S1 : Spec := ⟨[.ref 0 T45, .row 1], [(.box 46 T45, .pos 0), (.row 28 T27, .pos 1)]⟩
noncomputable def ref19_CheckBox_S2 : Spec := ⟨[.val T45], []⟩
noncomputable def ref19_CheckBox_S3 : Spec := ⟨[.val .i64], []⟩
noncomputable def ref19_CheckBox_K (_N : Nat) : XE → GS → Option ref19_CheckBox_R := retK 0 [2] [false] ref19_CheckBox_S3
noncomputable def ref19_CheckBox_L : List Code := (bodyOf (some Try.f46))
noncomputable def ref19_CheckBox_L2 : List Code := (loopOf (ref19_CheckBox_L[3]?))
noncomputable def ref19_CheckBox_K2 (N : Nat) : XE → GS → Option (Lo ((Int × Unit) × (D45 × (List D27) × Unit)) ((Unit) × (D45 × (List D27) × Unit)) ref19_CheckBox_R) := roundK (some 0) (fit 0 [1, 3, 4] ref19_CheckBox_S0) (fit 0 [1, 3] ref19_CheckBox_S1) (ref19_CheckBox_K N)
theorem ref19_CheckBox_s2_b {E : Env} (N : Nat) (hb : Base Try.prog (ref19_CheckBox_C N) E 0) : Blk Try.prog (ref19_CheckBox_C N) E [1, 3, 4] ref19_CheckBox_S0 (ref19_CheckBox_L2.drop 0) (fun y => ref19_CheckBox_s2 N y.1.1 y.2.1 y.2.2.1) (ref19_CheckBox_K2 N) :=
  Blk.chunkAt hb 4 (X := (ref19_CheckBox_K2 N .normal)) (NxOk.end (by kernel_rfl)) rfl (fun x => by kernel_rfl)
theorem ref19_CheckBox_3_b {E : Env} (N : Nat) (hb : Base Try.prog (ref19_CheckBox_C N) E 0) : Blk Try.prog (ref19_CheckBox_C N) E [1, 3] ref19_CheckBox_S1 (ref19_CheckBox_L.drop 4) (fun y => ref19_CheckBox_3 N y.2.1 y.2.2.1) (ref19_CheckBox_K N) :=
  Blk.chunkAt hb 4 (X := (ref19_CheckBox_K N .normal)) (NxOk.end (by kernel_rfl)) rfl (fun x => by kernel_rfl)
theorem ref19_CheckBox_1_b {E : Env} (N : Nat) (hb : Base Try.prog (ref19_CheckBox_C N) E 0) : Blk Try.prog (ref19_CheckBox_C N) E [1, 3, 4] ref19_CheckBox_S0 (ref19_CheckBox_L.drop 3) (fun y => ref19_CheckBox_1 N y.1.1 y.2.1 y.2.2.1) (ref19_CheckBox_K N) :=
  Blk.loopAt (Nf := N) (hns := [1, 3, 4]) (ans := [1, 3]) (hc := ref19_CheckBox_S0) (ac := ref19_CheckBox_S1) (bid := 0) (step := (fun y => ref19_CheckBox_s2 N y.1.1 y.2.1 y.2.2.1)) (J := (fun e => (goK 0 [1, 3] ref19_CheckBox_S1 (fun y => ref19_CheckBox_3 N y.2.1 y.2.2.1)) (ref19_CheckBox_S1.st [1, 3] e))) hb (by kernel_rfl) (Blk.into (X := (goK 0 [1, 3] ref19_CheckBox_S1 (fun y => ref19_CheckBox_3 N y.2.1 y.2.2.1))) (NxOk.go hb (ref19_CheckBox_3_b N hb)) (fun x => by kernel_rfl)) (ref19_CheckBox_s2_b N hb) (fun x => by kernel_rfl)
theorem ref19_CheckBox_b {E : Env} (N : Nat) (hb : Base Try.prog (ref19_CheckBox_C N) E 0) : Blk Try.prog (ref19_CheckBox_C N) E (List.range ref19_CheckBox_S2.ks.length) ref19_CheckBox_S2 (ref19_CheckBox_L.drop 0) (fun y => ref19_CheckBox N y.1.1) (ref19_CheckBox_K N) :=
  Blk.chunkAt hb 3 (X := (goK 0 [1, 3, 4] ref19_CheckBox_S0 (fun y => ref19_CheckBox_1 N y.1.1 y.2.1 y.2.2.1))) (NxOk.go hb (ref19_CheckBox_1_b N hb)) rfl (fun x => by kernel_rfl)
noncomputable def ref19_CheckBox_ctr (N : Nat) : Ctr := ⟨ref19_CheckBox_S2, ref19_CheckBox_S3.un [false], 0, (fun y => ref19_CheckBox N y.1.1)⟩
theorem ref19_CheckBox_ctrs (N : Nat) : CtrsOk Try.prog (ref19_CheckBox_C N) := ctrs_of (Γ := ref19_CheckBox_C N) (by
  intro p hp
  simp only [ref19_CheckBox_C, List.mem_cons, List.not_mem_nil, or_false] at hp
  rcases hp with rfl | rfl | rfl
  · exact ref05_Valid_ok N
  · exact ref05_Less_ok N
  · exact ref19_ports_ok N)
theorem ref19_CheckBox_ok (N : Nat) : Ctr.ok Try.prog G_globs 46 (ref19_CheckBox_ctr N) :=
  ctr_fn (Γ := ref19_CheckBox_C N) (rfit := ref19_CheckBox_S3) (bs := [false]) (res := [2]) (by kernel_rfl) (tys_ok G_tys_ok) (ref19_CheckBox_ctrs N) Try.func46 (by kernel_rfl) (by kernel_rfl) Try.ntmps46 (by kernel_rfl) (by kernel_rfl) (by kernel_rfl) (by kernel_rfl) (fun E hb => ref19_CheckBox_b N hb)
end Go.Proofs.Ytgbkkfpheahdfaa
namespace Go.Proofs.Ytgbkkfpheahdfaa
open Go
set_option maxRecDepth 100000
set_option linter.unusedVariables false
/-! ipsecgate/ipsecgateref19.Check -/
abbrev ref19_Check_R : Type := ((Int × Unit) × (Unit))
noncomputable def ref19_Check_s8 (N : Nat) (l_0 : (List D59)) (i_3 : Int) (k_5 : Int) (r_4 : D59) (r_4_v : (List D45)) : Option (Lo (((List D59) × Int × Int × Unit) × (D59 × (List D45) × Unit)) (((List D59) × Int × Unit) × (Unit)) (Lo (((List D59) × Int × Unit) × (Unit)) ((Unit) × (Unit)) ref19_Check_R)) :=
  bif (decide (k_5 < (r_4_v.length : Int))) then
    bif inR k_5 r_4_v.length then
    Option.bind (ref19_CheckBox N (r_4_v.getD k_5.toNat (((0 : Int), (0 : UInt64), (0 : UInt64), ()), ((0 : Int), (0 : UInt64), (0 : UInt64), ()), ((0 : Int), (0 : UInt64), (0 : UInt64), ()), ((0 : Int), (0 : UInt64), (0 : UInt64), ()), (0 : Int), (0 : Int), (List.replicate 2 (0 : Int)), (List.replicate 2 (0 : Int)), ()))) fun y20 =>
    bif (!(decide (y20.1.1 = (0 : Int)))) then
      some (.rt (.rt ((y20.1.1, ()), (()))))
    else
      some (.go ((l_0, i_3, (w64 (k_5 + (1 : Int))), ()), (r_4, r_4_v, ())))
    else none
  else
    some (.br ((l_0, i_3, ()), (())))
noncomputable def ref19_Check_9 (N : Nat) (l_0 : (List D59)) (i_3 : Int) : Option (Lo (((List D59) × Int × Unit) × (Unit)) ((Unit) × (Unit)) ref19_Check_R) :=
  some (.go ((l_0, (w64 (i_3 + (1 : Int))), ()), (())))
noncomputable def ref19_Check_7 (N : Nat) (l_0 : (List D59)) (i_3 : Int) (k_5 : Int) (r_4 : D59) (r_4_v : (List D45)) : Option (Lo (((List D59) × Int × Unit) × (Unit)) ((Unit) × (Unit)) ref19_Check_R) :=
  loopK N (fun y => ref19_Check_s8 N y.1.1 y.1.2.1 y.1.2.2.1 y.2.1 y.2.2.1) (fun (e : (((List D59) × Int × Unit) × (Unit))) => ref19_Check_9 N e.1.1 e.1.2.1) ((l_0, i_3, k_5, ()), (r_4, r_4_v, ()))
noncomputable def ref19_Check_6 (N : Nat) (l_0 : (List D59)) (i_3 : Int) (r_4 : D59) (r_4_v : (List D45)) : Option (Lo (((List D59) × Int × Unit) × (Unit)) ((Unit) × (Unit)) ref19_Check_R) :=
  ref19_Check_7 N l_0 i_3 (0 : Int) r_4 r_4_v
noncomputable def ref19_Check_5 (N : Nat) (l_0 : (List D59)) (i_3 : Int) : Option (Lo (((List D59) × Int × Unit) × (Unit)) ((Unit) × (Unit)) ref19_Check_R) :=
  bif inR i_3 l_0.length then
  let x5 := l_0.getD i_3.toNat ((0 : Int), ([] : List UInt8), ([] : List D45), ())
  bif (decide (x5.1 < (0 : Int))) then
    some (.rt (((5 : Int), ()), (())))
  else
    bif (decide ((2 : Int) < x5.1)) then
      some (.rt (((5 : Int), ()), (())))
    else
      bif (decide (x5.1 = (2 : Int))) then
        Option.bind (ref19_Name N x5.2.1) fun y9 =>
        bif (!y9.1.1) then
          some (.rt (((14 : Int), ()), (())))
        else
          bif (!(decide (x5.1 = (2 : Int)))) then
            bif (!(decide (x5.2.1 = ([] : List UInt8)))) then
              some (.rt (((14 : Int), ()), (())))
            else
              bif (decide ((x5.2.2.1.length : Int) = (0 : Int))) then
                some (.rt (((8 : Int), ()), (())))
              else
                bif (decide ((16 : Int) < (x5.2.2.1.length : Int))) then
                  some (.rt (((10 : Int), ()), (())))
                else
                  ref19_Check_6 N l_0 i_3 x5 x5.2.2.1
          else
            bif (decide ((x5.2.2.1.length : Int) = (0 : Int))) then
              some (.rt (((8 : Int), ()), (())))
            else
              bif (decide ((16 : Int) < (x5.2.2.1.length : Int))) then
                some (.rt (((10 : Int), ()), (())))
              else
                ref19_Check_6 N l_0 i_3 x5 x5.2.2.1
      else
        bif (!(decide (x5.1 = (2 : Int)))) then
          bif (!(decide (x5.2.1 = ([] : List UInt8)))) then
            some (.rt (((14 : Int), ()), (())))
          else
            bif (decide ((x5.2.2.1.length : Int) = (0 : Int))) then
              some (.rt (((8 : Int), ()), (())))
            else
              bif (decide ((16 : Int) < (x5.2.2.1.length : Int))) then
                some (.rt (((10 : Int), ()), (())))
              else
                ref19_Check_6 N l_0 i_3 x5 x5.2.2.1
        else
          bif (decide ((x5.2.2.1.length : Int) = (0 : Int))) then
            some (.rt (((8 : Int), ()), (())))
          else
            bif (decide ((16 : Int) < (x5.2.2.1.length : Int))) then
              some (.rt (((10 : Int), ()), (())))
            else
              ref19_Check_6 N l_0 i_3 x5 x5.2.2.1
  else none
noncomputable def ref19_Check_3 (N : Nat) (l_0 : (List D59)) (i_3 : Int) : Option (Lo (((List D59) × Int × Unit) × (Unit)) ((Unit) × (Unit)) ref19_Check_R) :=
  ref19_Check_5 N l_0 i_3
noncomputable def ref19_Check_s2 (N : Nat) (l_0 : (List D59)) (i_3 : Int) : Option (Lo (((List D59) × Int × Unit) × (Unit)) ((Unit) × (Unit)) ref19_Check_R) :=
  bif (decide (i_3 < (l_0.length : Int))) then
    ref19_Check_3 N l_0 i_3
  else
    some (.br ((()), (())))
noncomputable def ref19_Check_10 (N : Nat) : Option ref19_Check_R :=
  some (((0 : Int), ()), (()))
noncomputable def ref19_Check_1 (N : Nat) (l_0 : (List D59)) (i_3 : Int) : Option ref19_Check_R :=
  loopK N (fun y => ref19_Check_s2 N y.1.1 y.1.2.1) (fun (e : ((Unit) × (Unit))) => ref19_Check_10 N) ((l_0, i_3, ()), (()))
noncomputable def ref19_Check (N : Nat) (l_0 : (List D59)) : Option ref19_Check_R :=
  bif (decide ((24 : Int) < (l_0.length : Int))) then
    some (((10 : Int), ()), (()))
  else
    ref19_Check_1 N l_0 (0 : Int)
noncomputable def ref19_Check_C (N : Nat) : Ctx := ⟨75, G_tys, [(151, ref19_Name_ctr N), (46, ref19_CheckBox_ctr N)], G_globs⟩
noncomputable def ref19_Check_S0 : Spec := ⟨[.val (.sl T59), .val .i64, .ref 0 T59, .val .i64], [(.sval 60 T59 2 (.sl T45), .pos 2)]⟩
noncomputable def ref19_Check_S1 : Spec := ⟨[.val (.sl T59), .val .i64], []⟩
noncomputable def ref19_Check_S2 : Spec := ⟨[.val (.sl T59), .val .i64, .ref 0 T59], [(.sval 60 T59 2 (.sl T45), .pos 2)]⟩
noncomputable def ref19_Check_S3 : Spec := ⟨[], []⟩
noncomputable def ref19_Check_S4 : Spec := ⟨[.val (.sl T59)], []⟩
noncomputable def ref19_Check_S5 : Spec := ⟨[.val .i64], []⟩
noncomputable def ref19_Check_K (_N : Nat) : XE → GS → Option ref19_Check_R := retK 0 [2] [false] ref19_Check_S5
noncomputable def ref19_Check_L : List Code := (bodyOf (some Try.f89))
noncomputable def ref19_Check_L2 : List Code := (loopOf (ref19_Check_L[4]?))
noncomputable def ref19_Check_L4b : List Code := (blockOf (ref19_Check_L2[2]?))
noncomputable def ref19_Check_L8 : List Code := (loopOf (ref19_Check_L4b[3]?))
noncomputable def ref19_Check_K2 (N : Nat) : XE → GS → Option (Lo (((List D59) × Int × Unit) × (Unit)) ((Unit) × (Unit)) ref19_Check_R) := roundK (some 0) (fit 0 [0, 3] ref19_Check_S1) (fit 0 [] ref19_Check_S3) (ref19_Check_K N)
noncomputable def ref19_Check_K4 (N : Nat) : XE → GS → Option (Lo (((List D59) × Int × Unit) × (Unit)) ((Unit) × (Unit)) ref19_Check_R) := blockK 1 (goK 0 [0, 3] ref19_Check_S1 (fun y => ref19_Check_9 N y.1.1 y.1.2.1)) (ref19_Check_K2 N)
noncomputable def ref19_Check_K8 (N : Nat) : XE → GS → Option (Lo (((List D59) × Int × Int × Unit) × (D59 × (List D45) × Unit)) (((List D59) × Int × Unit) × (Unit)) (Lo (((List D59) × Int × Unit) × (Unit)) ((Unit) × (Unit)) ref19_Check_R)) := roundK (some 3) (fit 0 [0, 3, 4, 5] ref19_Check_S0) (fit 0 [0, 3] ref19_Check_S1) (ref19_Check_K4 N)
theorem ref19_Check_s8_b {E : Env} (N : Nat) (hb : Base Try.prog (ref19_Check_C N) E 0) : Blk Try.prog (ref19_Check_C N) E [0, 3, 4, 5] ref19_Check_S0 (ref19_Check_L8.drop 0) (fun y => ref19_Check_s8 N y.1.1 y.1.2.1 y.1.2.2.1 y.2.1 y.2.2.1) (ref19_Check_K8 N) :=
  Blk.chunkAt hb 4 (X := (ref19_Check_K8 N .normal)) (NxOk.end (by kernel_rfl)) rfl (fun x => by kernel_rfl)
theorem ref19_Check_9_b {E : Env} (N : Nat) (hb : Base Try.prog (ref19_Check_C N) E 0) : Blk Try.prog (ref19_Check_C N) E [0, 3] ref19_Check_S1 (ref19_Check_L2.drop 3) (fun y => ref19_Check_9 N y.1.1 y.1.2.1) (ref19_Check_K2 N) :=
  Blk.chunkAt hb 1 (X := (ref19_Check_K2 N .normal)) (NxOk.end (by kernel_rfl)) rfl (fun x => by kernel_rfl)
theorem ref19_Check_7_b {E : Env} (N : Nat) (hb : Base Try.prog (ref19_Check_C N) E 0) : Blk Try.prog (ref19_Check_C N) E [0, 3, 4, 5] ref19_Check_S0 (ref19_Check_L4b.drop 3) (fun y => ref19_Check_7 N y.1.1 y.1.2.1 y.1.2.2.1 y.2.1 y.2.2.1) (ref19_Check_K4 N) :=
  Blk.loopAt (Nf := N) (hns := [0, 3, 4, 5]) (ans := [0, 3]) (hc := ref19_Check_S0) (ac := ref19_Check_S1) (bid := 3) (step := (fun y => ref19_Check_s8 N y.1.1 y.1.2.1 y.1.2.2.1 y.2.1 y.2.2.1)) (J := (fun e => (ref19_Check_K4 N .normal) (ref19_Check_S1.st [0, 3] e))) hb (by kernel_rfl) (Blk.into (X := (ref19_Check_K4 N .normal)) (NxOk.end (by kernel_rfl)) (fun x => by kernel_rfl)) (ref19_Check_s8_b N hb) (fun x => by kernel_rfl)
theorem ref19_Check_6_b {E : Env} (N : Nat) (hb : Base Try.prog (ref19_Check_C N) E 0) : Blk Try.prog (ref19_Check_C N) E [0, 3, 4] ref19_Check_S2 (ref19_Check_L4b.drop 2) (fun y => ref19_Check_6 N y.1.1 y.1.2.1 y.2.1 y.2.2.1) (ref19_Check_K4 N) :=
  Blk.chunkAt hb 1 (X := (goK 0 [0, 3, 4, 5] ref19_Check_S0 (fun y => ref19_Check_7 N y.1.1 y.1.2.1 y.1.2.2.1 y.2.1 y.2.2.1))) (NxOk.go hb (ref19_Check_7_b N hb)) rfl (fun x => by kernel_rfl)
theorem ref19_Check_5_b {E : Env} (N : Nat) (hb : Base Try.prog (ref19_Check_C N) E 0) : Blk Try.prog (ref19_Check_C N) E [0, 3] ref19_Check_S1 (ref19_Check_L4b.drop 0) (fun y => ref19_Check_5 N y.1.1 y.1.2.1) (ref19_Check_K4 N) :=
  Blk.chunkAt hb 2 (X := (goK 0 [0, 3, 4] ref19_Check_S2 (fun y => ref19_Check_6 N y.1.1 y.1.2.1 y.2.1 y.2.2.1))) (NxOk.go hb (ref19_Check_6_b N hb)) rfl (fun x => by kernel_rfl)
theorem ref19_Check_3_b {E : Env} (N : Nat) (hb : Base Try.prog (ref19_Check_C N) E 0) : Blk Try.prog (ref19_Check_C N) E [0, 3] ref19_Check_S1 (ref19_Check_L2.drop 2) (fun y => ref19_Check_3 N y.1.1 y.1.2.1) (ref19_Check_K2 N) :=
  Blk.blockAt (bid := 1) (X := (goK 0 [0, 3] ref19_Check_S1 (fun y => ref19_Check_9 N y.1.1 y.1.2.1))) (Y := (goK 0 [0, 3] ref19_Check_S1 (fun y => ref19_Check_5 N y.1.1 y.1.2.1))) (by kernel_rfl) (NxOk.go hb (ref19_Check_9_b N hb)) (NxOk.go hb (ref19_Check_5_b N hb)) (fun x => by kernel_rfl)
theorem ref19_Check_s2_b {E : Env} (N : Nat) (hb : Base Try.prog (ref19_Check_C N) E 0) : Blk Try.prog (ref19_Check_C N) E [0, 3] ref19_Check_S1 (ref19_Check_L2.drop 0) (fun y => ref19_Check_s2 N y.1.1 y.1.2.1) (ref19_Check_K2 N) :=
  Blk.chunkAt hb 2 (X := (goK 0 [0, 3] ref19_Check_S1 (fun y => ref19_Check_3 N y.1.1 y.1.2.1))) (NxOk.go hb (ref19_Check_3_b N hb)) rfl (fun x => by kernel_rfl)
theorem ref19_Check_10_b {E : Env} (N : Nat) (hb : Base Try.prog (ref19_Check_C N) E 0) : Blk Try.prog (ref19_Check_C N) E [] ref19_Check_S3 (ref19_Check_L.drop 5) (fun y => ref19_Check_10 N) (ref19_Check_K N) :=
  Blk.chunkAt hb 2 (X := (ref19_Check_K N .normal)) (NxOk.end (by kernel_rfl)) rfl (fun x => by kernel_rfl)
theorem ref19_Check_1_b {E : Env} (N : Nat) (hb : Base Try.prog (ref19_Check_C N) E 0) : Blk Try.prog (ref19_Check_C N) E [0, 3] ref19_Check_S1 (ref19_Check_L.drop 4) (fun y => ref19_Check_1 N y.1.1 y.1.2.1) (ref19_Check_K N) :=
  Blk.loopAt (Nf := N) (hns := [0, 3]) (ans := []) (hc := ref19_Check_S1) (ac := ref19_Check_S3) (bid := 0) (step := (fun y => ref19_Check_s2 N y.1.1 y.1.2.1)) (J := (fun e => (goK 0 [] ref19_Check_S3 (fun y => ref19_Check_10 N)) (ref19_Check_S3.st [] e))) hb (by kernel_rfl) (Blk.into (X := (goK 0 [] ref19_Check_S3 (fun y => ref19_Check_10 N))) (NxOk.go hb (ref19_Check_10_b N hb)) (fun x => by kernel_rfl)) (ref19_Check_s2_b N hb) (fun x => by kernel_rfl)
theorem ref19_Check_b {E : Env} (N : Nat) (hb : Base Try.prog (ref19_Check_C N) E 0) : Blk Try.prog (ref19_Check_C N) E (List.range ref19_Check_S4.ks.length) ref19_Check_S4 (ref19_Check_L.drop 0) (fun y => ref19_Check N y.1.1) (ref19_Check_K N) :=
  Blk.chunkAt hb 4 (X := (goK 0 [0, 3] ref19_Check_S1 (fun y => ref19_Check_1 N y.1.1 y.1.2.1))) (NxOk.go hb (ref19_Check_1_b N hb)) rfl (fun x => by kernel_rfl)
noncomputable def ref19_Check_ctr (N : Nat) : Ctr := ⟨ref19_Check_S4, ref19_Check_S5.un [false], 0, (fun y => ref19_Check N y.1.1)⟩
theorem ref19_Check_ctrs (N : Nat) : CtrsOk Try.prog (ref19_Check_C N) := ctrs_of (Γ := ref19_Check_C N) (by
  intro p hp
  simp only [ref19_Check_C, List.mem_cons, List.not_mem_nil, or_false] at hp
  rcases hp with rfl | rfl
  · exact ref19_Name_ok N
  · exact ref19_CheckBox_ok N)
theorem ref19_Check_ok (N : Nat) : Ctr.ok Try.prog G_globs 89 (ref19_Check_ctr N) :=
  ctr_fn (Γ := ref19_Check_C N) (rfit := ref19_Check_S5) (bs := [false]) (res := [2]) (by kernel_rfl) (tys_ok G_tys_ok) (ref19_Check_ctrs N) Try.func89 (by kernel_rfl) (by kernel_rfl) Try.ntmps89 (by kernel_rfl) (by kernel_rfl) (by kernel_rfl) (by kernel_rfl) (fun E hb => ref19_Check_b N hb)
end Go.Proofs.Ytgbkkfpheahdfaa
namespace Go.Proofs.Ytgbkkfpheahdfaa
open Go
set_option maxRecDepth 100000
set_option linter.unusedVariables false
/-! ipsecgate/ipsecgateref20.number -/
abbrev ref20_number_R : Type := (D207 × (Unit))
noncomputable def ref20_number (N : Nat) (n_0 : Int) : Option ref20_number_R :=
  some ((((0 : Int), (0 : UInt64), (iu64 (w64 (n_0 + (1 : Int)))), ()), ()), (()))
noncomputable def ref20_number_C (N : Nat) : Ctx := ⟨7, G_tys, [], G_globs⟩
noncomputable def ref20_number_S0 : Spec := ⟨[.val .i64], []⟩
noncomputable def ref20_number_S1 : Spec := ⟨[.fp T27], []⟩
noncomputable def ref20_number_K (_N : Nat) : XE → GS → Option ref20_number_R := retK 0 [2] [true] ref20_number_S1
noncomputable def ref20_number_L : List Code := (bodyOf (some Try.f152))
theorem ref20_number_b {E : Env} (N : Nat) (hb : Base Try.prog (ref20_number_C N) E 0) : Blk Try.prog (ref20_number_C N) E (List.range ref20_number_S0.ks.length) ref20_number_S0 (ref20_number_L.drop 0) (fun y => ref20_number N y.1.1) (ref20_number_K N) :=
  Blk.chunkAt hb 3 (X := (ref20_number_K N .normal)) (NxOk.end (by kernel_rfl)) rfl (fun x => by kernel_rfl)
noncomputable def ref20_number_ctr (N : Nat) : Ctr := ⟨ref20_number_S0, ref20_number_S1.un [true], 0, (fun y => ref20_number N y.1.1)⟩
theorem ref20_number_ctrs (N : Nat) : CtrsOk Try.prog (ref20_number_C N) := ctrs_nil rfl
theorem ref20_number_ok (N : Nat) : Ctr.ok Try.prog G_globs 152 (ref20_number_ctr N) :=
  ctr_fn (Γ := ref20_number_C N) (rfit := ref20_number_S1) (bs := [true]) (res := [2]) (by kernel_rfl) (tys_ok G_tys_ok) (ref20_number_ctrs N) Try.func152 (by kernel_rfl) (by kernel_rfl) Try.ntmps152 (by kernel_rfl) (by kernel_rfl) (by kernel_rfl) (by kernel_rfl) (fun E hb => ref20_number_b N hb)
end Go.Proofs.Ytgbkkfpheahdfaa
namespace Go.Proofs.Ytgbkkfpheahdfaa
open Go
set_option maxRecDepth 100000
set_option linter.unusedVariables false
/-! ipsecgate/ipsecgateref20.low -/
abbrev ref20_low_R : Type := (D207 × (Unit))
noncomputable def ref20_low (N : Nat) (b_0 : D45) (k_1 : Int) : Option ref20_low_R :=
  bif (decide (k_1 = (0 : Int))) then
    some ((b_0.1, ()), (()))
  else
    bif (decide (k_1 = (1 : Int))) then
      some ((b_0.2.2.1, ()), (()))
    else
      bif (decide (k_1 = (2 : Int))) then
        Option.bind (ref20_number N b_0.2.2.2.2.1) fun y4 =>
        some ((y4.1.1, ()), (()))
      else
        bif (decide (k_1 = (3 : Int))) then
          Option.bind (ref20_number N (b_0.2.2.2.2.2.2.1.getD 0 (0 : Int))) fun y7 =>
          some ((y7.1.1, ()), (()))
        else
          Option.bind (ref20_number N (b_0.2.2.2.2.2.2.2.1.getD 0 (0 : Int))) fun y9 =>
          some ((y9.1.1, ()), (()))
noncomputable def ref20_low_C (N : Nat) : Ctx := ⟨29, G_tys, [(152, ref20_number_ctr N)], G_globs⟩
noncomputable def ref20_low_S0 : Spec := ⟨[.val T45, .val .i64], []⟩
noncomputable def ref20_low_S1 : Spec := ⟨[.fp T27], []⟩
noncomputable def ref20_low_K (_N : Nat) : XE → GS → Option ref20_low_R := retK 0 [4] [true] ref20_low_S1
noncomputable def ref20_low_L : List Code := (bodyOf (some Try.f94))
theorem ref20_low_b {E : Env} (N : Nat) (hb : Base Try.prog (ref20_low_C N) E 0) : Blk Try.prog (ref20_low_C N) E (List.range ref20_low_S0.ks.length) ref20_low_S0 (ref20_low_L.drop 0) (fun y => ref20_low N y.1.1 y.1.2.1) (ref20_low_K N) :=
  Blk.chunkAt hb 5 (X := (ref20_low_K N .normal)) (NxOk.end (by kernel_rfl)) rfl (fun x => by kernel_rfl)
noncomputable def ref20_low_ctr (N : Nat) : Ctr := ⟨ref20_low_S0, ref20_low_S1.un [true], 0, (fun y => ref20_low N y.1.1 y.1.2.1)⟩
theorem ref20_low_ctrs (N : Nat) : CtrsOk Try.prog (ref20_low_C N) := ctrs_of (Γ := ref20_low_C N) (by
  intro p hp
  simp only [ref20_low_C, List.mem_cons, List.not_mem_nil, or_false] at hp
  rcases hp with rfl
  · exact ref20_number_ok N)
theorem ref20_low_ok (N : Nat) : Ctr.ok Try.prog G_globs 94 (ref20_low_ctr N) :=
  ctr_fn (Γ := ref20_low_C N) (rfit := ref20_low_S1) (bs := [true]) (res := [4]) (by kernel_rfl) (tys_ok G_tys_ok) (ref20_low_ctrs N) Try.func94 (by kernel_rfl) (by kernel_rfl) Try.ntmps94 (by kernel_rfl) (by kernel_rfl) (by kernel_rfl) (by kernel_rfl) (fun E hb => ref20_low_b N hb)
end Go.Proofs.Ytgbkkfpheahdfaa
namespace Go.Proofs.Ytgbkkfpheahdfaa
open Go
set_option maxRecDepth 100000
set_option linter.unusedVariables false
/-! ipsecgate/ipsecgateref05.Greater -/
abbrev ref05_Greater_R : Type := (D207 × (Unit))
noncomputable def ref05_Greater (N : Nat) (a_0 : D27) (b_1 : D27) : Option ref05_Greater_R :=
  Option.bind (ref05_Less N a_0 b_1) fun y1 =>
  bif y1.1.1 then
    some ((b_1, ()), (()))
  else
    some ((a_0, ()), (()))
noncomputable def ref05_Greater_C (N : Nat) : Ctx := ⟨10, G_tys, [(97, ref05_Less_ctr N)], G_globs⟩
noncomputable def ref05_Greater_S0 : Spec := ⟨[.val T27, .val T27], []⟩
noncomputable def ref05_Greater_S1 : Spec := ⟨[.fp T27], []⟩
noncomputable def ref05_Greater_K (_N : Nat) : XE → GS → Option ref05_Greater_R := retK 0 [4] [true] ref05_Greater_S1
noncomputable def ref05_Greater_L : List Code := (bodyOf (some Try.f93))
theorem ref05_Greater_b {E : Env} (N : Nat) (hb : Base Try.prog (ref05_Greater_C N) E 0) : Blk Try.prog (ref05_Greater_C N) E (List.range ref05_Greater_S0.ks.length) ref05_Greater_S0 (ref05_Greater_L.drop 0) (fun y => ref05_Greater N y.1.1 y.1.2.1) (ref05_Greater_K N) :=
  Blk.chunkAt hb 5 (X := (ref05_Greater_K N .normal)) (NxOk.end (by kernel_rfl)) rfl (fun x => by kernel_rfl)
noncomputable def ref05_Greater_ctr (N : Nat) : Ctr := ⟨ref05_Greater_S0, ref05_Greater_S1.un [true], 0, (fun y => ref05_Greater N y.1.1 y.1.2.1)⟩
theorem ref05_Greater_ctrs (N : Nat) : CtrsOk Try.prog (ref05_Greater_C N) := ctrs_of (Γ := ref05_Greater_C N) (by
  intro p hp
  simp only [ref05_Greater_C, List.mem_cons, List.not_mem_nil, or_false] at hp
  rcases hp with rfl
  · exact ref05_Less_ok N)
theorem ref05_Greater_ok (N : Nat) : Ctr.ok Try.prog G_globs 93 (ref05_Greater_ctr N) :=
  ctr_fn (Γ := ref05_Greater_C N) (rfit := ref05_Greater_S1) (bs := [true]) (res := [4]) (by kernel_rfl) (tys_ok G_tys_ok) (ref05_Greater_ctrs N) Try.func93 (by kernel_rfl) (by kernel_rfl) Try.ntmps93 (by kernel_rfl) (by kernel_rfl) (by kernel_rfl) (by kernel_rfl) (fun E hb => ref05_Greater_b N hb)
end Go.Proofs.Ytgbkkfpheahdfaa
namespace Go.Proofs.Ytgbkkfpheahdfaa
open Go
set_option maxRecDepth 100000
set_option linter.unusedVariables false
/-! ipsecgate/ipsecgateref20.high -/
abbrev ref20_high_R : Type := (D207 × (Unit))
noncomputable def ref20_high (N : Nat) (b_0 : D45) (k_1 : Int) : Option ref20_high_R :=
  bif (decide (k_1 = (0 : Int))) then
    some ((b_0.2.1, ()), (()))
  else
    bif (decide (k_1 = (1 : Int))) then
      some ((b_0.2.2.2.1, ()), (()))
    else
      bif (decide (k_1 = (2 : Int))) then
        Option.bind (ref20_number N b_0.2.2.2.2.2.1) fun y4 =>
        some ((y4.1.1, ()), (()))
      else
        bif (decide (k_1 = (3 : Int))) then
          Option.bind (ref20_number N (b_0.2.2.2.2.2.2.1.getD 1 (0 : Int))) fun y7 =>
          some ((y7.1.1, ()), (()))
        else
          Option.bind (ref20_number N (b_0.2.2.2.2.2.2.2.1.getD 1 (0 : Int))) fun y9 =>
          some ((y9.1.1, ()), (()))
noncomputable def ref20_high_C (N : Nat) : Ctx := ⟨29, G_tys, [(152, ref20_number_ctr N)], G_globs⟩
noncomputable def ref20_high_S0 : Spec := ⟨[.val T45, .val .i64], []⟩
noncomputable def ref20_high_S1 : Spec := ⟨[.fp T27], []⟩
noncomputable def ref20_high_K (_N : Nat) : XE → GS → Option ref20_high_R := retK 0 [4] [true] ref20_high_S1
noncomputable def ref20_high_L : List Code := (bodyOf (some Try.f96))
theorem ref20_high_b {E : Env} (N : Nat) (hb : Base Try.prog (ref20_high_C N) E 0) : Blk Try.prog (ref20_high_C N) E (List.range ref20_high_S0.ks.length) ref20_high_S0 (ref20_high_L.drop 0) (fun y => ref20_high N y.1.1 y.1.2.1) (ref20_high_K N) :=
  Blk.chunkAt hb 5 (X := (ref20_high_K N .normal)) (NxOk.end (by kernel_rfl)) rfl (fun x => by kernel_rfl)
noncomputable def ref20_high_ctr (N : Nat) : Ctr := ⟨ref20_high_S0, ref20_high_S1.un [true], 0, (fun y => ref20_high N y.1.1 y.1.2.1)⟩
theorem ref20_high_ctrs (N : Nat) : CtrsOk Try.prog (ref20_high_C N) := ctrs_of (Γ := ref20_high_C N) (by
  intro p hp
  simp only [ref20_high_C, List.mem_cons, List.not_mem_nil, or_false] at hp
  rcases hp with rfl
  · exact ref20_number_ok N)
theorem ref20_high_ok (N : Nat) : Ctr.ok Try.prog G_globs 96 (ref20_high_ctr N) :=
  ctr_fn (Γ := ref20_high_C N) (rfit := ref20_high_S1) (bs := [true]) (res := [4]) (by kernel_rfl) (tys_ok G_tys_ok) (ref20_high_ctrs N) Try.func96 (by kernel_rfl) (by kernel_rfl) Try.ntmps96 (by kernel_rfl) (by kernel_rfl) (by kernel_rfl) (by kernel_rfl) (fun E hb => ref20_high_b N hb)
end Go.Proofs.Ytgbkkfpheahdfaa
namespace Go.Proofs.Ytgbkkfpheahdfaa
open Go
set_option maxRecDepth 100000
set_option linter.unusedVariables false
/-! ipsecgate/ipsecgateref05.Smaller -/
abbrev ref05_Smaller_R : Type := (D207 × (Unit))
noncomputable def ref05_Smaller (N : Nat) (a_0 : D27) (b_1 : D27) : Option ref05_Smaller_R :=
  Option.bind (ref05_Less N b_1 a_0) fun y1 =>
  bif y1.1.1 then
    some ((b_1, ()), (()))
  else
    some ((a_0, ()), (()))
noncomputable def ref05_Smaller_C (N : Nat) : Ctx := ⟨10, G_tys, [(97, ref05_Less_ctr N)], G_globs⟩
noncomputable def ref05_Smaller_S0 : Spec := ⟨[.val T27, .val T27], []⟩
noncomputable def ref05_Smaller_S1 : Spec := ⟨[.fp T27], []⟩
noncomputable def ref05_Smaller_K (_N : Nat) : XE → GS → Option ref05_Smaller_R := retK 0 [4] [true] ref05_Smaller_S1
noncomputable def ref05_Smaller_L : List Code := (bodyOf (some Try.f95))
theorem ref05_Smaller_b {E : Env} (N : Nat) (hb : Base Try.prog (ref05_Smaller_C N) E 0) : Blk Try.prog (ref05_Smaller_C N) E (List.range ref05_Smaller_S0.ks.length) ref05_Smaller_S0 (ref05_Smaller_L.drop 0) (fun y => ref05_Smaller N y.1.1 y.1.2.1) (ref05_Smaller_K N) :=
  Blk.chunkAt hb 5 (X := (ref05_Smaller_K N .normal)) (NxOk.end (by kernel_rfl)) rfl (fun x => by kernel_rfl)
noncomputable def ref05_Smaller_ctr (N : Nat) : Ctr := ⟨ref05_Smaller_S0, ref05_Smaller_S1.un [true], 0, (fun y => ref05_Smaller N y.1.1 y.1.2.1)⟩
theorem ref05_Smaller_ctrs (N : Nat) : CtrsOk Try.prog (ref05_Smaller_C N) := ctrs_of (Γ := ref05_Smaller_C N) (by
  intro p hp
  simp only [ref05_Smaller_C, List.mem_cons, List.not_mem_nil, or_false] at hp
  rcases hp with rfl
  · exact ref05_Less_ok N)
theorem ref05_Smaller_ok (N : Nat) : Ctr.ok Try.prog G_globs 95 (ref05_Smaller_ctr N) :=
  ctr_fn (Γ := ref05_Smaller_C N) (rfit := ref05_Smaller_S1) (bs := [true]) (res := [4]) (by kernel_rfl) (tys_ok G_tys_ok) (ref05_Smaller_ctrs N) Try.func95 (by kernel_rfl) (by kernel_rfl) Try.ntmps95 (by kernel_rfl) (by kernel_rfl) (by kernel_rfl) (by kernel_rfl) (fun E hb => ref05_Smaller_b N hb)
end Go.Proofs.Ytgbkkfpheahdfaa
namespace Go.Proofs.Ytgbkkfpheahdfaa
open Go
set_option maxRecDepth 100000
set_option linter.unusedVariables false
/-! ipsecgate/ipsecgateref20.with -/
abbrev ref20_with_R : Type := ((D45 × Unit) × (Unit))
noncomputable def ref20_with (N : Nat) (b_0 : D45) (k_1 : Int) (lo_2 : D27) (hi_3 : D27) : Option ref20_with_R :=
  let x5 := ([(w64 ((w64 (lo_2.2.2.1.toNat : Int)) - (1 : Int))), (w64 ((w64 (hi_3.2.2.1.toNat : Int)) - (1 : Int)))] : List Int)
  bif (decide (k_1 = (0 : Int))) then
    some (((lo_2, hi_3, b_0.2.2.1, b_0.2.2.2.1, b_0.2.2.2.2.1, b_0.2.2.2.2.2.1, b_0.2.2.2.2.2.2.1, b_0.2.2.2.2.2.2.2.1, ()), ()), (()))
  else
    bif (decide (k_1 = (1 : Int))) then
      some (((b_0.1, b_0.2.1, lo_2, hi_3, b_0.2.2.2.2.1, b_0.2.2.2.2.2.1, b_0.2.2.2.2.2.2.1, b_0.2.2.2.2.2.2.2.1, ()), ()), (()))
    else
      bif (decide (k_1 = (2 : Int))) then
        some (((b_0.1, b_0.2.1, b_0.2.2.1, b_0.2.2.2.1, (x5.getD 0 (0 : Int)), (x5.getD 1 (0 : Int)), b_0.2.2.2.2.2.2.1, b_0.2.2.2.2.2.2.2.1, ()), ()), (()))
      else
        bif (decide (k_1 = (3 : Int))) then
          some (((b_0.1, b_0.2.1, b_0.2.2.1, b_0.2.2.2.1, b_0.2.2.2.2.1, b_0.2.2.2.2.2.1, x5, b_0.2.2.2.2.2.2.2.1, ()), ()), (()))
        else
          some (((b_0.1, b_0.2.1, b_0.2.2.1, b_0.2.2.2.1, b_0.2.2.2.2.1, b_0.2.2.2.2.2.1, b_0.2.2.2.2.2.2.1, x5, ()), ()), (()))
noncomputable def ref20_with_C (N : Nat) : Ctx := ⟨47, G_tys, [], G_globs⟩
noncomputable def ref20_with_S0 : Spec := ⟨[.val T45, .val .i64, .val T27, .val T27], []⟩
noncomputable def ref20_with_S1 : Spec := ⟨[.fp T45], []⟩
noncomputable def ref20_with_K (_N : Nat) : XE → GS → Option ref20_with_R := retK 0 [8] [true] ref20_with_S1
noncomputable def ref20_with_L : List Code := (bodyOf (some Try.f98))
theorem ref20_with_b {E : Env} (N : Nat) (hb : Base Try.prog (ref20_with_C N) E 0) : Blk Try.prog (ref20_with_C N) E (List.range ref20_with_S0.ks.length) ref20_with_S0 (ref20_with_L.drop 0) (fun y => ref20_with N y.1.1 y.1.2.1 y.1.2.2.1 y.1.2.2.2.1) (ref20_with_K N) :=
  Blk.chunkAt hb 6 (X := (ref20_with_K N .normal)) (NxOk.end (by kernel_rfl)) rfl (fun x => by kernel_rfl)
noncomputable def ref20_with_ctr (N : Nat) : Ctr := ⟨ref20_with_S0, ref20_with_S1.un [true], 0, (fun y => ref20_with N y.1.1 y.1.2.1 y.1.2.2.1 y.1.2.2.2.1)⟩
theorem ref20_with_ctrs (N : Nat) : CtrsOk Try.prog (ref20_with_C N) := ctrs_nil rfl
theorem ref20_with_ok (N : Nat) : Ctr.ok Try.prog G_globs 98 (ref20_with_ctr N) :=
  ctr_fn (Γ := ref20_with_C N) (rfit := ref20_with_S1) (bs := [true]) (res := [8]) (by kernel_rfl) (tys_ok G_tys_ok) (ref20_with_ctrs N) Try.func98 (by kernel_rfl) (by kernel_rfl) Try.ntmps98 (by kernel_rfl) (by kernel_rfl) (by kernel_rfl) (by kernel_rfl) (fun E hb => ref20_with_b N hb)
end Go.Proofs.Ytgbkkfpheahdfaa
namespace Go.Proofs.Ytgbkkfpheahdfaa
open Go
set_option maxRecDepth 100000
set_option linter.unusedVariables false
/-! ipsecgate/ipsecgateref20.Meet -/
abbrev ref20_Meet_R : Type := ((D45 × Bool × Unit) × (Unit))
noncomputable def ref20_Meet_s2 (N : Nat) (k_7 : Int) (a_2 : D45) (b_3 : D45) (t_4 : D45) (c_6 : D45) : Option (Lo ((Int × Unit) × (D45 × D45 × D45 × D45 × Unit)) ((Unit) × (D45 × D45 × Unit)) ref20_Meet_R) :=
  bif (decide (k_7 < (5 : Int))) then
    Option.bind (ref20_low N a_2 k_7) fun y3 =>
    Option.bind (ref20_low N b_3 k_7) fun y4 =>
    Option.bind (ref05_Greater N y3.1.1 y4.1.1) fun y5 =>
    Option.bind (ref20_high N a_2 k_7) fun y6 =>
    Option.bind (ref20_high N b_3 k_7) fun y7 =>
    Option.bind (ref05_Smaller N y6.1.1 y7.1.1) fun y8 =>
    Option.bind (ref05_Less N y8.1.1 y5.1.1) fun y9 =>
    bif y9.1.1 then
      some (.rt (((((0 : Int), (0 : UInt64), (0 : UInt64), ()), ((0 : Int), (0 : UInt64), (0 : UInt64), ()), ((0 : Int), (0 : UInt64), (0 : UInt64), ()), ((0 : Int), (0 : UInt64), (0 : UInt64), ()), (0 : Int), (0 : Int), (List.replicate 2 (0 : Int)), (List.replicate 2 (0 : Int)), ()), false, ()), (())))
    else
      Option.bind (ref20_with N c_6 k_7 y5.1.1 y8.1.1) fun y10 =>
      some (.go (((w64 (k_7 + (1 : Int))), ()), (a_2, b_3, t_4, y10.1.1, ())))
  else
    some (.br ((()), (t_4, c_6, ())))
noncomputable def ref20_Meet_3 (N : Nat) (t_4 : D45) (c_6 : D45) : Option ref20_Meet_R :=
  some ((c_6, true, ()), (()))
noncomputable def ref20_Meet_1 (N : Nat) (k_7 : Int) (a_2 : D45) (b_3 : D45) (t_4 : D45) (c_6 : D45) : Option ref20_Meet_R :=
  loopK N (fun y => ref20_Meet_s2 N y.1.1 y.2.1 y.2.2.1 y.2.2.2.1 y.2.2.2.2.1) (fun (e : ((Unit) × (D45 × D45 × Unit))) => ref20_Meet_3 N e.2.1 e.2.2.1) ((k_7, ()), (a_2, b_3, t_4, c_6, ()))
noncomputable def ref20_Meet (N : Nat) (a_0 : D45) (b_1 : D45) : Option ref20_Meet_R :=
  bif (!(decide (a_0.1.1 = b_1.1.1))) then
    some (((((0 : Int), (0 : UInt64), (0 : UInt64), ()), ((0 : Int), (0 : UInt64), (0 : UInt64), ()), ((0 : Int), (0 : UInt64), (0 : UInt64), ()), ((0 : Int), (0 : UInt64), (0 : UInt64), ()), (0 : Int), (0 : Int), (List.replicate 2 (0 : Int)), (List.replicate 2 (0 : Int)), ()), false, ()), (()))
  else
    ref20_Meet_1 N (0 : Int) a_0 b_1 (((0 : Int), (0 : UInt64), (0 : UInt64), ()), ((0 : Int), (0 : UInt64), (0 : UInt64), ()), ((0 : Int), (0 : UInt64), (0 : UInt64), ()), ((0 : Int), (0 : UInt64), (0 : UInt64), ()), (0 : Int), (0 : Int), (List.replicate 2 (0 : Int)), (List.replicate 2 (0 : Int)), ()) a_0
noncomputable def ref20_Meet_C (N : Nat) : Ctx := ⟨47, G_tys, [(94, ref20_low_ctr N), (93, ref05_Greater_ctr N), (96, ref20_high_ctr N), (95, ref05_Smaller_ctr N), (97, ref05_Less_ctr N), (98, ref20_with_ctr N)], G_globs⟩
noncomputable def ref20_Meet_S0 : Spec := ⟨[.ref 0 T45, .ref 1 T45, .ref 2 T45, .ref 3 T45, .val .i64], [(.box 46 T45, .pos 0), (.box 46 T45, .pos 1), (.box 46 T45, .pos 2), (.box 46 T45, .pos 3)]⟩
noncomputable def ref20_Meet_S1 : Spec := ⟨[.ref 0 T45, .ref 1 T45], [(.box 46 T45, .pos 0), (.box 46 T45, .pos 1)]⟩
noncomputable def ref20_Meet_S2 : Spec := ⟨[.val T45, .val T45], []⟩
noncomputable def ref20_Meet_S3 : Spec := ⟨[.fp T45, .val .bool], []⟩
noncomputable def ref20_Meet_K (_N : Nat) : XE → GS → Option ref20_Meet_R := retK 0 [4, 5] [true, false] ref20_Meet_S3
noncomputable def ref20_Meet_L : List Code := (bodyOf (some Try.f45))
noncomputable def ref20_Meet_L2 : List Code := (loopOf (ref20_Meet_L[5]?))
noncomputable def ref20_Meet_K2 (N : Nat) : XE → GS → Option (Lo ((Int × Unit) × (D45 × D45 × D45 × D45 × Unit)) ((Unit) × (D45 × D45 × Unit)) ref20_Meet_R) := roundK (some 0) (fit 0 [2, 3, 4, 6, 7] ref20_Meet_S0) (fit 0 [4, 6] ref20_Meet_S1) (ref20_Meet_K N)
theorem ref20_Meet_s2_b {E : Env} (N : Nat) (hb : Base Try.prog (ref20_Meet_C N) E 0) : Blk Try.prog (ref20_Meet_C N) E [2, 3, 4, 6, 7] ref20_Meet_S0 (ref20_Meet_L2.drop 0) (fun y => ref20_Meet_s2 N y.1.1 y.2.1 y.2.2.1 y.2.2.2.1 y.2.2.2.2.1) (ref20_Meet_K2 N) :=
  Blk.chunkAt hb 4 (X := (ref20_Meet_K2 N .normal)) (NxOk.end (by kernel_rfl)) rfl (fun x => by kernel_rfl)
theorem ref20_Meet_3_b {E : Env} (N : Nat) (hb : Base Try.prog (ref20_Meet_C N) E 0) : Blk Try.prog (ref20_Meet_C N) E [4, 6] ref20_Meet_S1 (ref20_Meet_L.drop 6) (fun y => ref20_Meet_3 N y.2.1 y.2.2.1) (ref20_Meet_K N) :=
  Blk.chunkAt hb 2 (X := (ref20_Meet_K N .normal)) (NxOk.end (by kernel_rfl)) rfl (fun x => by kernel_rfl)
theorem ref20_Meet_1_b {E : Env} (N : Nat) (hb : Base Try.prog (ref20_Meet_C N) E 0) : Blk Try.prog (ref20_Meet_C N) E [2, 3, 4, 6, 7] ref20_Meet_S0 (ref20_Meet_L.drop 5) (fun y => ref20_Meet_1 N y.1.1 y.2.1 y.2.2.1 y.2.2.2.1 y.2.2.2.2.1) (ref20_Meet_K N) :=
  Blk.loopAt (Nf := N) (hns := [2, 3, 4, 6, 7]) (ans := [4, 6]) (hc := ref20_Meet_S0) (ac := ref20_Meet_S1) (bid := 0) (step := (fun y => ref20_Meet_s2 N y.1.1 y.2.1 y.2.2.1 y.2.2.2.1 y.2.2.2.2.1)) (J := (fun e => (goK 0 [4, 6] ref20_Meet_S1 (fun y => ref20_Meet_3 N y.2.1 y.2.2.1)) (ref20_Meet_S1.st [4, 6] e))) hb (by kernel_rfl) (Blk.into (X := (goK 0 [4, 6] ref20_Meet_S1 (fun y => ref20_Meet_3 N y.2.1 y.2.2.1))) (NxOk.go hb (ref20_Meet_3_b N hb)) (fun x => by kernel_rfl)) (ref20_Meet_s2_b N hb) (fun x => by kernel_rfl)
theorem ref20_Meet_b {E : Env} (N : Nat) (hb : Base Try.prog (ref20_Meet_C N) E 0) : Blk Try.prog (ref20_Meet_C N) E (List.range ref20_Meet_S2.ks.length) ref20_Meet_S2 (ref20_Meet_L.drop 0) (fun y => ref20_Meet N y.1.1 y.1.2.1) (ref20_Meet_K N) :=
  Blk.chunkAt hb 5 (X := (goK 0 [2, 3, 4, 6, 7] ref20_Meet_S0 (fun y => ref20_Meet_1 N y.1.1 y.2.1 y.2.2.1 y.2.2.2.1 y.2.2.2.2.1))) (NxOk.go hb (ref20_Meet_1_b N hb)) rfl (fun x => by kernel_rfl)
noncomputable def ref20_Meet_ctr (N : Nat) : Ctr := ⟨ref20_Meet_S2, ref20_Meet_S3.un [true, false], 0, (fun y => ref20_Meet N y.1.1 y.1.2.1)⟩
theorem ref20_Meet_ctrs (N : Nat) : CtrsOk Try.prog (ref20_Meet_C N) := ctrs_of (Γ := ref20_Meet_C N) (by
  intro p hp
  simp only [ref20_Meet_C, List.mem_cons, List.not_mem_nil, or_false] at hp
  rcases hp with rfl | rfl | rfl | rfl | rfl | rfl
  · exact ref20_low_ok N
  · exact ref05_Greater_ok N
  · exact ref20_high_ok N
  · exact ref05_Smaller_ok N
  · exact ref05_Less_ok N
  · exact ref20_with_ok N)
theorem ref20_Meet_ok (N : Nat) : Ctr.ok Try.prog G_globs 45 (ref20_Meet_ctr N) :=
  ctr_fn (Γ := ref20_Meet_C N) (rfit := ref20_Meet_S3) (bs := [true, false]) (res := [4, 5]) (by kernel_rfl) (tys_ok G_tys_ok) (ref20_Meet_ctrs N) Try.func45 (by kernel_rfl) (by kernel_rfl) Try.ntmps45 (by kernel_rfl) (by kernel_rfl) (by kernel_rfl) (by kernel_rfl) (fun E hb => ref20_Meet_b N hb)
end Go.Proofs.Ytgbkkfpheahdfaa
namespace Go.Proofs.Ytgbkkfpheahdfaa
open Go
set_option maxRecDepth 100000
set_option linter.unusedVariables false
/-! ipsecgate/ipsecgateref20.back -/
abbrev ref20_back_R : Type := (D207 × (Unit))
noncomputable def ref20_back_1 (N : Nat) (a_1 : D27) (t_2 : D27) : Option ref20_back_R :=
  some (((a_1.1, a_1.2.1, (a_1.2.2.1 - (1 : UInt64)), ()), ()), (()))
noncomputable def ref20_back (N : Nat) (a_0 : D27) : Option ref20_back_R :=
  bif (decide (a_0.2.2.1 = (0 : UInt64))) then
    ref20_back_1 N (a_0.1, (a_0.2.1 - (1 : UInt64)), a_0.2.2.1, ()) ((0 : Int), (0 : UInt64), (0 : UInt64), ())
  else
    ref20_back_1 N a_0 ((0 : Int), (0 : UInt64), (0 : UInt64), ())
noncomputable def ref20_back_C (N : Nat) : Ctx := ⟨15, G_tys, [], G_globs⟩
noncomputable def ref20_back_S0 : Spec := ⟨[.ref 0 T27, .ref 1 T27], [(.box 28 T27, .pos 0), (.box 28 T27, .pos 1)]⟩
noncomputable def ref20_back_S1 : Spec := ⟨[.val T27], []⟩
noncomputable def ref20_back_S2 : Spec := ⟨[.fp T27], []⟩
noncomputable def ref20_back_K (_N : Nat) : XE → GS → Option ref20_back_R := retK 0 [2] [true] ref20_back_S2
noncomputable def ref20_back_L : List Code := (bodyOf (some Try.f101))
theorem ref20_back_1_b {E : Env} (N : Nat) (hb : Base Try.prog (ref20_back_C N) E 0) : Blk Try.prog (ref20_back_C N) E [1, 2] ref20_back_S0 (ref20_back_L.drop 3) (fun y => ref20_back_1 N y.2.1 y.2.2.1) (ref20_back_K N) :=
  Blk.chunkAt hb 3 (X := (ref20_back_K N .normal)) (NxOk.end (by kernel_rfl)) rfl (fun x => by kernel_rfl)
theorem ref20_back_b {E : Env} (N : Nat) (hb : Base Try.prog (ref20_back_C N) E 0) : Blk Try.prog (ref20_back_C N) E (List.range ref20_back_S1.ks.length) ref20_back_S1 (ref20_back_L.drop 0) (fun y => ref20_back N y.1.1) (ref20_back_K N) :=
  Blk.chunkAt hb 3 (X := (goK 0 [1, 2] ref20_back_S0 (fun y => ref20_back_1 N y.2.1 y.2.2.1))) (NxOk.go hb (ref20_back_1_b N hb)) rfl (fun x => by kernel_rfl)
noncomputable def ref20_back_ctr (N : Nat) : Ctr := ⟨ref20_back_S1, ref20_back_S2.un [true], 0, (fun y => ref20_back N y.1.1)⟩
theorem ref20_back_ctrs (N : Nat) : CtrsOk Try.prog (ref20_back_C N) := ctrs_nil rfl
theorem ref20_back_ok (N : Nat) : Ctr.ok Try.prog G_globs 101 (ref20_back_ctr N) :=
  ctr_fn (Γ := ref20_back_C N) (rfit := ref20_back_S2) (bs := [true]) (res := [2]) (by kernel_rfl) (tys_ok G_tys_ok) (ref20_back_ctrs N) Try.func101 (by kernel_rfl) (by kernel_rfl) Try.ntmps101 (by kernel_rfl) (by kernel_rfl) (by kernel_rfl) (by kernel_rfl) (fun E hb => ref20_back_b N hb)
end Go.Proofs.Ytgbkkfpheahdfaa
namespace Go.Proofs.Ytgbkkfpheahdfaa
open Go
set_option maxRecDepth 100000
set_option linter.unusedVariables false
/-! ipsecgate/ipsecgateref20.on -/
abbrev ref20_on_R : Type := (D207 × (Unit))
noncomputable def ref20_on (N : Nat) (a_0 : D27) : Option ref20_on_R :=
  let x1 := a_0.2.2.1 + (1 : UInt64)
  bif (decide (x1 = (0 : UInt64))) then
    some (((a_0.1, (a_0.2.1 + (1 : UInt64)), x1, ()), ()), (()))
  else
    some (((a_0.1, a_0.2.1, x1, ()), ()), (()))
noncomputable def ref20_on_C (N : Nat) : Ctx := ⟨15, G_tys, [], G_globs⟩
noncomputable def ref20_on_S0 : Spec := ⟨[.val T27], []⟩
noncomputable def ref20_on_S1 : Spec := ⟨[.fp T27], []⟩
noncomputable def ref20_on_K (_N : Nat) : XE → GS → Option ref20_on_R := retK 0 [2] [true] ref20_on_S1
noncomputable def ref20_on_L : List Code := (bodyOf (some Try.f102))
theorem ref20_on_b {E : Env} (N : Nat) (hb : Base Try.prog (ref20_on_C N) E 0) : Blk Try.prog (ref20_on_C N) E (List.range ref20_on_S0.ks.length) ref20_on_S0 (ref20_on_L.drop 0) (fun y => ref20_on N y.1.1) (ref20_on_K N) :=
  Blk.chunkAt hb 6 (X := (ref20_on_K N .normal)) (NxOk.end (by kernel_rfl)) rfl (fun x => by kernel_rfl)
noncomputable def ref20_on_ctr (N : Nat) : Ctr := ⟨ref20_on_S0, ref20_on_S1.un [true], 0, (fun y => ref20_on N y.1.1)⟩
theorem ref20_on_ctrs (N : Nat) : CtrsOk Try.prog (ref20_on_C N) := ctrs_nil rfl
theorem ref20_on_ok (N : Nat) : Ctr.ok Try.prog G_globs 102 (ref20_on_ctr N) :=
  ctr_fn (Γ := ref20_on_C N) (rfit := ref20_on_S1) (bs := [true]) (res := [2]) (by kernel_rfl) (tys_ok G_tys_ok) (ref20_on_ctrs N) Try.func102 (by kernel_rfl) (by kernel_rfl) Try.ntmps102 (by kernel_rfl) (by kernel_rfl) (by kernel_rfl) (by kernel_rfl) (fun E hb => ref20_on_b N hb)
end Go.Proofs.Ytgbkkfpheahdfaa
namespace Go.Proofs.Ytgbkkfpheahdfaa
open Go
set_option maxRecDepth 100000
set_option linter.unusedVariables false
/-! ipsecgate/ipsecgateref20.Minus -/
abbrev ref20_Minus_R : Type := ((Unit) × ((List D45) × Unit))
noncomputable def ref20_Minus_s2 (N : Nat) (k_9 : Int) (m_5 : D45) (out_7 : (List D45)) (c_8 : D45) : Option (Lo ((Int × Unit) × (D45 × (List D45) × D45 × Unit)) ((Unit) × ((List D45) × Unit)) ref20_Minus_R) :=
  bif (decide (k_9 < (5 : Int))) then
    Option.bind (ref20_low N c_8 k_9) fun y4 =>
    Option.bind (ref20_low N m_5 k_9) fun y5 =>
    Option.bind (ref05_Less N y4.1.1 y5.1.1) fun y6 =>
    bif y6.1.1 then
      Option.bind (ref20_low N c_8 k_9) fun y7 =>
      Option.bind (ref20_low N m_5 k_9) fun y8 =>
      Option.bind (ref20_back N y8.1.1) fun y9 =>
      Option.bind (ref20_with N c_8 k_9 y7.1.1 y9.1.1) fun y10 =>
      bif room (out_7.length + ([y10.1.1] : List D45).length) 144 then
      let x11 := out_7 ++ ([y10.1.1] : List D45)
      Option.bind (ref20_high N m_5 k_9) fun y12 =>
      Option.bind (ref20_high N c_8 k_9) fun y13 =>
      Option.bind (ref05_Less N y12.1.1 y13.1.1) fun y14 =>
      bif y14.1.1 then
        Option.bind (ref20_high N m_5 k_9) fun y15 =>
        Option.bind (ref20_on N y15.1.1) fun y16 =>
        Option.bind (ref20_high N c_8 k_9) fun y17 =>
        Option.bind (ref20_with N c_8 k_9 y16.1.1 y17.1.1) fun y18 =>
        bif room (x11.length + ([y18.1.1] : List D45).length) 144 then
        Option.bind (ref20_low N m_5 k_9) fun y20 =>
        Option.bind (ref20_high N m_5 k_9) fun y21 =>
        Option.bind (ref20_with N c_8 k_9 y20.1.1 y21.1.1) fun y22 =>
        some (.go (((w64 (k_9 + (1 : Int))), ()), (m_5, (x11 ++ ([y18.1.1] : List D45)), y22.1.1, ())))
        else none
      else
        Option.bind (ref20_low N m_5 k_9) fun y24 =>
        Option.bind (ref20_high N m_5 k_9) fun y25 =>
        Option.bind (ref20_with N c_8 k_9 y24.1.1 y25.1.1) fun y26 =>
        some (.go (((w64 (k_9 + (1 : Int))), ()), (m_5, x11, y26.1.1, ())))
      else none
    else
      Option.bind (ref20_high N m_5 k_9) fun y28 =>
      Option.bind (ref20_high N c_8 k_9) fun y29 =>
      Option.bind (ref05_Less N y28.1.1 y29.1.1) fun y30 =>
      bif y30.1.1 then
        Option.bind (ref20_high N m_5 k_9) fun y31 =>
        Option.bind (ref20_on N y31.1.1) fun y32 =>
        Option.bind (ref20_high N c_8 k_9) fun y33 =>
        Option.bind (ref20_with N c_8 k_9 y32.1.1 y33.1.1) fun y34 =>
        bif room (out_7.length + ([y34.1.1] : List D45).length) 144 then
        Option.bind (ref20_low N m_5 k_9) fun y36 =>
        Option.bind (ref20_high N m_5 k_9) fun y37 =>
        Option.bind (ref20_with N c_8 k_9 y36.1.1 y37.1.1) fun y38 =>
        some (.go (((w64 (k_9 + (1 : Int))), ()), (m_5, (out_7 ++ ([y34.1.1] : List D45)), y38.1.1, ())))
        else none
      else
        Option.bind (ref20_low N m_5 k_9) fun y40 =>
        Option.bind (ref20_high N m_5 k_9) fun y41 =>
        Option.bind (ref20_with N c_8 k_9 y40.1.1 y41.1.1) fun y42 =>
        some (.go (((w64 (k_9 + (1 : Int))), ()), (m_5, out_7, y42.1.1, ())))
  else
    some (.br ((()), (out_7, ())))
noncomputable def ref20_Minus_3 (N : Nat) (out_7 : (List D45)) : Option ref20_Minus_R :=
  some ((()), (out_7, ()))
noncomputable def ref20_Minus_1 (N : Nat) (k_9 : Int) (m_5 : D45) (out_7 : (List D45)) (c_8 : D45) : Option ref20_Minus_R :=
  loopK N (fun y => ref20_Minus_s2 N y.1.1 y.2.1 y.2.2.1 y.2.2.2.1) (fun (e : ((Unit) × ((List D45) × Unit))) => ref20_Minus_3 N e.2.1) ((k_9, ()), (m_5, out_7, c_8, ()))
noncomputable def ref20_Minus (N : Nat) (a_0 : D45) (b_1 : D45) : Option ref20_Minus_R :=
  Option.bind (ref20_Meet N a_0 b_1) fun y1 =>
  bif (!y1.1.2.1) then
    some ((()), (([a_0] : List D45), ()))
  else
    ref20_Minus_1 N (0 : Int) y1.1.1 ([] : List D45) a_0
noncomputable def ref20_Minus_C (N : Nat) : Ctx := ⟨75, G_tys, [(45, ref20_Meet_ctr N), (94, ref20_low_ctr N), (97, ref05_Less_ctr N), (101, ref20_back_ctr N), (98, ref20_with_ctr N), (96, ref20_high_ctr N), (102, ref20_on_ctr N)], G_globs⟩
noncomputable def ref20_Minus_S0 : Spec := ⟨[.ref 0 T45, .row 1, .ref 2 T45, .val .i64], [(.box 46 T45, .pos 0), (.row 46 T45, .pos 1), (.box 46 T45, .pos 2)]⟩
noncomputable def ref20_Minus_S1 : Spec := ⟨[.row 0], [(.row 46 T45, .pos 0)]⟩
noncomputable def ref20_Minus_S2 : Spec := ⟨[.val T45, .val T45], []⟩
noncomputable def ref20_Minus_K (_N : Nat) : XE → GS → Option ref20_Minus_R := retK 0 [4] [false] ref20_Minus_S1
noncomputable def ref20_Minus_L : List Code := (bodyOf (some Try.f48))
noncomputable def ref20_Minus_L2 : List Code := (loopOf (ref20_Minus_L[7]?))
noncomputable def ref20_Minus_K2 (N : Nat) : XE → GS → Option (Lo ((Int × Unit) × (D45 × (List D45) × D45 × Unit)) ((Unit) × ((List D45) × Unit)) ref20_Minus_R) := roundK (some 0) (fit 0 [5, 7, 8, 9] ref20_Minus_S0) (fit 0 [7] ref20_Minus_S1) (ref20_Minus_K N)
theorem ref20_Minus_s2_b {E : Env} (N : Nat) (hb : Base Try.prog (ref20_Minus_C N) E 0) : Blk Try.prog (ref20_Minus_C N) E [5, 7, 8, 9] ref20_Minus_S0 (ref20_Minus_L2.drop 0) (fun y => ref20_Minus_s2 N y.1.1 y.2.1 y.2.2.1 y.2.2.2.1) (ref20_Minus_K2 N) :=
  Blk.chunkAt hb 4 (X := (ref20_Minus_K2 N .normal)) (NxOk.end (by kernel_rfl)) rfl (fun x => by kernel_rfl)
theorem ref20_Minus_3_b {E : Env} (N : Nat) (hb : Base Try.prog (ref20_Minus_C N) E 0) : Blk Try.prog (ref20_Minus_C N) E [7] ref20_Minus_S1 (ref20_Minus_L.drop 8) (fun y => ref20_Minus_3 N y.2.1) (ref20_Minus_K N) :=
  Blk.chunkAt hb 2 (X := (ref20_Minus_K N .normal)) (NxOk.end (by kernel_rfl)) rfl (fun x => by kernel_rfl)
theorem ref20_Minus_1_b {E : Env} (N : Nat) (hb : Base Try.prog (ref20_Minus_C N) E 0) : Blk Try.prog (ref20_Minus_C N) E [5, 7, 8, 9] ref20_Minus_S0 (ref20_Minus_L.drop 7) (fun y => ref20_Minus_1 N y.1.1 y.2.1 y.2.2.1 y.2.2.2.1) (ref20_Minus_K N) :=
  Blk.loopAt (Nf := N) (hns := [5, 7, 8, 9]) (ans := [7]) (hc := ref20_Minus_S0) (ac := ref20_Minus_S1) (bid := 0) (step := (fun y => ref20_Minus_s2 N y.1.1 y.2.1 y.2.2.1 y.2.2.2.1)) (J := (fun e => (goK 0 [7] ref20_Minus_S1 (fun y => ref20_Minus_3 N y.2.1)) (ref20_Minus_S1.st [7] e))) hb (by kernel_rfl) (Blk.into (X := (goK 0 [7] ref20_Minus_S1 (fun y => ref20_Minus_3 N y.2.1))) (NxOk.go hb (ref20_Minus_3_b N hb)) (fun x => by kernel_rfl)) (ref20_Minus_s2_b N hb) (fun x => by kernel_rfl)
theorem ref20_Minus_b {E : Env} (N : Nat) (hb : Base Try.prog (ref20_Minus_C N) E 0) : Blk Try.prog (ref20_Minus_C N) E (List.range ref20_Minus_S2.ks.length) ref20_Minus_S2 (ref20_Minus_L.drop 0) (fun y => ref20_Minus N y.1.1 y.1.2.1) (ref20_Minus_K N) :=
  Blk.chunkAt hb 7 (X := (goK 0 [5, 7, 8, 9] ref20_Minus_S0 (fun y => ref20_Minus_1 N y.1.1 y.2.1 y.2.2.1 y.2.2.2.1))) (NxOk.go hb (ref20_Minus_1_b N hb)) rfl (fun x => by kernel_rfl)
noncomputable def ref20_Minus_ctr (N : Nat) : Ctr := ⟨ref20_Minus_S2, ref20_Minus_S1.un [false], 0, (fun y => ref20_Minus N y.1.1 y.1.2.1)⟩
theorem ref20_Minus_ctrs (N : Nat) : CtrsOk Try.prog (ref20_Minus_C N) := ctrs_of (Γ := ref20_Minus_C N) (by
  intro p hp
  simp only [ref20_Minus_C, List.mem_cons, List.not_mem_nil, or_false] at hp
  rcases hp with rfl | rfl | rfl | rfl | rfl | rfl | rfl
  · exact ref20_Meet_ok N
  · exact ref20_low_ok N
  · exact ref05_Less_ok N
  · exact ref20_back_ok N
  · exact ref20_with_ok N
  · exact ref20_high_ok N
  · exact ref20_on_ok N)
theorem ref20_Minus_ok (N : Nat) : Ctr.ok Try.prog G_globs 48 (ref20_Minus_ctr N) :=
  ctr_fn (Γ := ref20_Minus_C N) (rfit := ref20_Minus_S1) (bs := [false]) (res := [4]) (by kernel_rfl) (tys_ok G_tys_ok) (ref20_Minus_ctrs N) Try.func48 (by kernel_rfl) (by kernel_rfl) Try.ntmps48 (by kernel_rfl) (by kernel_rfl) (by kernel_rfl) (by kernel_rfl) (fun E hb => ref20_Minus_b N hb)
end Go.Proofs.Ytgbkkfpheahdfaa
namespace Go.Proofs.Ytgbkkfpheahdfaa
open Go
set_option maxRecDepth 100000
set_option linter.unusedVariables false
/-! ipsecgate/ipsecgateref20.Entries -/
abbrev ref20_Entries_R : Type := ((Int × Unit) × ((List D85) × Unit))
noncomputable def ref20_Entries_s17 (N : Nat) (l_0 : (List D59)) (i_6 : Int) (k_7 : Int) (j_9 : Int) (q_11 : Int) (out_5 : (List D85)) (pieces_8 : (List D45)) (next_10 : (List D45)) : Option (Lo (((List D59) × Int × Int × Int × Int × Unit) × ((List D85) × (List D45) × (List D45) × Unit)) (((List D59) × Int × Int × Int × Unit) × ((List D85) × (List D45) × Unit)) (Lo (((List D59) × Int × Int × Int × Unit) × ((List D85) × (List D45) × Unit)) (((List D59) × Int × Int × Unit) × ((List D85) × (List D45) × Unit)) (Lo (((List D59) × Int × Int × Unit) × ((List D85) × Unit)) (((List D59) × Int × Unit) × ((List D85) × Unit)) (Lo (((List D59) × Int × Unit) × ((List D85) × Unit)) ((Unit) × ((List D85) × Unit)) ref20_Entries_R)))) :=
  bif (decide (q_11 < (pieces_8.length : Int))) then
    bif inR q_11 pieces_8.length then
    bif inR j_9 out_5.length then
    Option.bind (ref20_Minus N (pieces_8.getD q_11.toNat (((0 : Int), (0 : UInt64), (0 : UInt64), ()), ((0 : Int), (0 : UInt64), (0 : UInt64), ()), ((0 : Int), (0 : UInt64), (0 : UInt64), ()), ((0 : Int), (0 : UInt64), (0 : UInt64), ()), (0 : Int), (0 : Int), (List.replicate 2 (0 : Int)), (List.replicate 2 (0 : Int)), ())) ((out_5.getD j_9.toNat ((((0 : Int), (0 : UInt64), (0 : UInt64), ()), ((0 : Int), (0 : UInt64), (0 : UInt64), ()), ((0 : Int), (0 : UInt64), (0 : UInt64), ()), ((0 : Int), (0 : UInt64), (0 : UInt64), ()), (0 : Int), (0 : Int), (List.replicate 2 (0 : Int)), (List.replicate 2 (0 : Int)), ()), (0 : Int), ())).1)) fun y16 =>
    bif room (next_10.length + y16.2.1.length) 144 then
    some (.go ((l_0, i_6, k_7, j_9, (w64 (q_11 + (1 : Int))), ()), (out_5, pieces_8, (next_10 ++ y16.2.1), ())))
    else none
    else none
    else none
  else
    some (.br ((l_0, i_6, k_7, j_9, ()), (out_5, next_10, ())))
noncomputable def ref20_Entries_19 (N : Nat) (l_0 : (List D59)) (i_6 : Int) (k_7 : Int) (j_9 : Int) (out_5 : (List D85)) (pieces_8 : (List D45)) : Option (Lo (((List D59) × Int × Int × Int × Unit) × ((List D85) × (List D45) × Unit)) (((List D59) × Int × Int × Unit) × ((List D85) × (List D45) × Unit)) (Lo (((List D59) × Int × Int × Unit) × ((List D85) × Unit)) (((List D59) × Int × Unit) × ((List D85) × Unit)) (Lo (((List D59) × Int × Unit) × ((List D85) × Unit)) ((Unit) × ((List D85) × Unit)) ref20_Entries_R))) :=
  some (.go ((l_0, i_6, k_7, (w64 (j_9 + (1 : Int))), ()), (out_5, pieces_8, ())))
noncomputable def ref20_Entries_18 (N : Nat) (l_0 : (List D59)) (i_6 : Int) (k_7 : Int) (j_9 : Int) (out_5 : (List D85)) (next_10 : (List D45)) : Option (Lo (((List D59) × Int × Int × Int × Unit) × ((List D85) × (List D45) × Unit)) (((List D59) × Int × Int × Unit) × ((List D85) × (List D45) × Unit)) (Lo (((List D59) × Int × Int × Unit) × ((List D85) × Unit)) (((List D59) × Int × Unit) × ((List D85) × Unit)) (Lo (((List D59) × Int × Unit) × ((List D85) × Unit)) ((Unit) × ((List D85) × Unit)) ref20_Entries_R))) :=
  bif (decide ((400 : Int) < (next_10.length : Int))) then
    some (.rt (.rt (.rt (((10 : Int), ()), (([] : List D85), ())))))
  else
    ref20_Entries_19 N l_0 i_6 k_7 j_9 out_5 next_10
noncomputable def ref20_Entries_16 (N : Nat) (l_0 : (List D59)) (i_6 : Int) (k_7 : Int) (j_9 : Int) (q_11 : Int) (out_5 : (List D85)) (pieces_8 : (List D45)) (next_10 : (List D45)) : Option (Lo (((List D59) × Int × Int × Int × Unit) × ((List D85) × (List D45) × Unit)) (((List D59) × Int × Int × Unit) × ((List D85) × (List D45) × Unit)) (Lo (((List D59) × Int × Int × Unit) × ((List D85) × Unit)) (((List D59) × Int × Unit) × ((List D85) × Unit)) (Lo (((List D59) × Int × Unit) × ((List D85) × Unit)) ((Unit) × ((List D85) × Unit)) ref20_Entries_R))) :=
  loopK N (fun y => ref20_Entries_s17 N y.1.1 y.1.2.1 y.1.2.2.1 y.1.2.2.2.1 y.1.2.2.2.2.1 y.2.1 y.2.2.1 y.2.2.2.1) (fun (e : (((List D59) × Int × Int × Int × Unit) × ((List D85) × (List D45) × Unit))) => ref20_Entries_18 N e.1.1 e.1.2.1 e.1.2.2.1 e.1.2.2.2.1 e.2.1 e.2.2.1) ((l_0, i_6, k_7, j_9, q_11, ()), (out_5, pieces_8, next_10, ()))
noncomputable def ref20_Entries_15 (N : Nat) (l_0 : (List D59)) (i_6 : Int) (k_7 : Int) (j_9 : Int) (out_5 : (List D85)) (pieces_8 : (List D45)) : Option (Lo (((List D59) × Int × Int × Int × Unit) × ((List D85) × (List D45) × Unit)) (((List D59) × Int × Int × Unit) × ((List D85) × (List D45) × Unit)) (Lo (((List D59) × Int × Int × Unit) × ((List D85) × Unit)) (((List D59) × Int × Unit) × ((List D85) × Unit)) (Lo (((List D59) × Int × Unit) × ((List D85) × Unit)) ((Unit) × ((List D85) × Unit)) ref20_Entries_R))) :=
  ref20_Entries_16 N l_0 i_6 k_7 j_9 (0 : Int) out_5 pieces_8 ([] : List D45)
noncomputable def ref20_Entries_13 (N : Nat) (l_0 : (List D59)) (i_6 : Int) (k_7 : Int) (j_9 : Int) (out_5 : (List D85)) (pieces_8 : (List D45)) : Option (Lo (((List D59) × Int × Int × Int × Unit) × ((List D85) × (List D45) × Unit)) (((List D59) × Int × Int × Unit) × ((List D85) × (List D45) × Unit)) (Lo (((List D59) × Int × Int × Unit) × ((List D85) × Unit)) (((List D59) × Int × Unit) × ((List D85) × Unit)) (Lo (((List D59) × Int × Unit) × ((List D85) × Unit)) ((Unit) × ((List D85) × Unit)) ref20_Entries_R))) :=
  ref20_Entries_15 N l_0 i_6 k_7 j_9 out_5 pieces_8
noncomputable def ref20_Entries_s12 (N : Nat) (l_0 : (List D59)) (i_6 : Int) (k_7 : Int) (j_9 : Int) (out_5 : (List D85)) (pieces_8 : (List D45)) : Option (Lo (((List D59) × Int × Int × Int × Unit) × ((List D85) × (List D45) × Unit)) (((List D59) × Int × Int × Unit) × ((List D85) × (List D45) × Unit)) (Lo (((List D59) × Int × Int × Unit) × ((List D85) × Unit)) (((List D59) × Int × Unit) × ((List D85) × Unit)) (Lo (((List D59) × Int × Unit) × ((List D85) × Unit)) ((Unit) × ((List D85) × Unit)) ref20_Entries_R))) :=
  bif (decide (j_9 < (out_5.length : Int))) then
    ref20_Entries_13 N l_0 i_6 k_7 j_9 out_5 pieces_8
  else
    some (.br ((l_0, i_6, k_7, ()), (out_5, pieces_8, ())))
noncomputable def ref20_Entries_s22 (N : Nat) (l_0 : (List D59)) (i_6 : Int) (k_7 : Int) (q_12 : Int) (out_5 : (List D85)) (pieces_8 : (List D45)) : Option (Lo (((List D59) × Int × Int × Int × Unit) × ((List D85) × (List D45) × Unit)) (((List D59) × Int × Int × Unit) × ((List D85) × Unit)) (Lo (((List D59) × Int × Int × Unit) × ((List D85) × Unit)) (((List D59) × Int × Unit) × ((List D85) × Unit)) (Lo (((List D59) × Int × Unit) × ((List D85) × Unit)) ((Unit) × ((List D85) × Unit)) ref20_Entries_R))) :=
  bif (decide (q_12 < (pieces_8.length : Int))) then
    bif inR q_12 pieces_8.length then
    let x24 := (pieces_8.getD q_12.toNat (((0 : Int), (0 : UInt64), (0 : UInt64), ()), ((0 : Int), (0 : UInt64), (0 : UInt64), ()), ((0 : Int), (0 : UInt64), (0 : UInt64), ()), ((0 : Int), (0 : UInt64), (0 : UInt64), ()), (0 : Int), (0 : Int), (List.replicate 2 (0 : Int)), (List.replicate 2 (0 : Int)), ()))
    bif room (out_5.length + ([(x24, i_6, ())] : List D85).length) 152 then
    some (.go ((l_0, i_6, k_7, (w64 (q_12 + (1 : Int))), ()), ((out_5 ++ ([(x24, i_6, ())] : List D85)), pieces_8, ())))
    else none
    else none
  else
    some (.br ((l_0, i_6, k_7, ()), (out_5, ())))
noncomputable def ref20_Entries_24 (N : Nat) (l_0 : (List D59)) (i_6 : Int) (k_7 : Int) (out_5 : (List D85)) : Option (Lo (((List D59) × Int × Int × Unit) × ((List D85) × Unit)) (((List D59) × Int × Unit) × ((List D85) × Unit)) (Lo (((List D59) × Int × Unit) × ((List D85) × Unit)) ((Unit) × ((List D85) × Unit)) ref20_Entries_R)) :=
  some (.go ((l_0, i_6, (w64 (k_7 + (1 : Int))), ()), (out_5, ())))
noncomputable def ref20_Entries_23 (N : Nat) (l_0 : (List D59)) (i_6 : Int) (k_7 : Int) (out_5 : (List D85)) : Option (Lo (((List D59) × Int × Int × Unit) × ((List D85) × Unit)) (((List D59) × Int × Unit) × ((List D85) × Unit)) (Lo (((List D59) × Int × Unit) × ((List D85) × Unit)) ((Unit) × ((List D85) × Unit)) ref20_Entries_R)) :=
  bif (decide ((400 : Int) < (out_5.length : Int))) then
    some (.rt (.rt (((10 : Int), ()), (([] : List D85), ()))))
  else
    ref20_Entries_24 N l_0 i_6 k_7 out_5
noncomputable def ref20_Entries_21 (N : Nat) (l_0 : (List D59)) (i_6 : Int) (k_7 : Int) (q_12 : Int) (out_5 : (List D85)) (pieces_8 : (List D45)) : Option (Lo (((List D59) × Int × Int × Unit) × ((List D85) × Unit)) (((List D59) × Int × Unit) × ((List D85) × Unit)) (Lo (((List D59) × Int × Unit) × ((List D85) × Unit)) ((Unit) × ((List D85) × Unit)) ref20_Entries_R)) :=
  loopK N (fun y => ref20_Entries_s22 N y.1.1 y.1.2.1 y.1.2.2.1 y.1.2.2.2.1 y.2.1 y.2.2.1) (fun (e : (((List D59) × Int × Int × Unit) × ((List D85) × Unit))) => ref20_Entries_23 N e.1.1 e.1.2.1 e.1.2.2.1 e.2.1) ((l_0, i_6, k_7, q_12, ()), (out_5, pieces_8, ()))
noncomputable def ref20_Entries_20 (N : Nat) (l_0 : (List D59)) (i_6 : Int) (k_7 : Int) (out_5 : (List D85)) (pieces_8 : (List D45)) : Option (Lo (((List D59) × Int × Int × Unit) × ((List D85) × Unit)) (((List D59) × Int × Unit) × ((List D85) × Unit)) (Lo (((List D59) × Int × Unit) × ((List D85) × Unit)) ((Unit) × ((List D85) × Unit)) ref20_Entries_R)) :=
  ref20_Entries_21 N l_0 i_6 k_7 (0 : Int) out_5 pieces_8
noncomputable def ref20_Entries_11 (N : Nat) (l_0 : (List D59)) (i_6 : Int) (k_7 : Int) (j_9 : Int) (out_5 : (List D85)) (pieces_8 : (List D45)) : Option (Lo (((List D59) × Int × Int × Unit) × ((List D85) × Unit)) (((List D59) × Int × Unit) × ((List D85) × Unit)) (Lo (((List D59) × Int × Unit) × ((List D85) × Unit)) ((Unit) × ((List D85) × Unit)) ref20_Entries_R)) :=
  loopK N (fun y => ref20_Entries_s12 N y.1.1 y.1.2.1 y.1.2.2.1 y.1.2.2.2.1 y.2.1 y.2.2.1) (fun (e : (((List D59) × Int × Int × Unit) × ((List D85) × (List D45) × Unit))) => ref20_Entries_20 N e.1.1 e.1.2.1 e.1.2.2.1 e.2.1 e.2.2.1) ((l_0, i_6, k_7, j_9, ()), (out_5, pieces_8, ()))
noncomputable def ref20_Entries_10 (N : Nat) (l_0 : (List D59)) (i_6 : Int) (k_7 : Int) (out_5 : (List D85)) : Option (Lo (((List D59) × Int × Int × Unit) × ((List D85) × Unit)) (((List D59) × Int × Unit) × ((List D85) × Unit)) (Lo (((List D59) × Int × Unit) × ((List D85) × Unit)) ((Unit) × ((List D85) × Unit)) ref20_Entries_R)) :=
  bif inR i_6 l_0.length then
  let x8 := l_0.getD i_6.toNat ((0 : Int), ([] : List UInt8), ([] : List D45), ())
  bif inR k_7 x8.2.2.1.length then
  ref20_Entries_11 N l_0 i_6 k_7 (0 : Int) out_5 ([(x8.2.2.1.getD k_7.toNat (((0 : Int), (0 : UInt64), (0 : UInt64), ()), ((0 : Int), (0 : UInt64), (0 : UInt64), ()), ((0 : Int), (0 : UInt64), (0 : UInt64), ()), ((0 : Int), (0 : UInt64), (0 : UInt64), ()), (0 : Int), (0 : Int), (List.replicate 2 (0 : Int)), (List.replicate 2 (0 : Int)), ()))] : List D45)
  else none
  else none
noncomputable def ref20_Entries_8 (N : Nat) (l_0 : (List D59)) (i_6 : Int) (k_7 : Int) (out_5 : (List D85)) : Option (Lo (((List D59) × Int × Int × Unit) × ((List D85) × Unit)) (((List D59) × Int × Unit) × ((List D85) × Unit)) (Lo (((List D59) × Int × Unit) × ((List D85) × Unit)) ((Unit) × ((List D85) × Unit)) ref20_Entries_R)) :=
  ref20_Entries_10 N l_0 i_6 k_7 out_5
noncomputable def ref20_Entries_s7 (N : Nat) (l_0 : (List D59)) (i_6 : Int) (k_7 : Int) (out_5 : (List D85)) : Option (Lo (((List D59) × Int × Int × Unit) × ((List D85) × Unit)) (((List D59) × Int × Unit) × ((List D85) × Unit)) (Lo (((List D59) × Int × Unit) × ((List D85) × Unit)) ((Unit) × ((List D85) × Unit)) ref20_Entries_R)) :=
  bif inR i_6 l_0.length then
  bif (decide (k_7 < ((l_0.getD i_6.toNat ((0 : Int), ([] : List UInt8), ([] : List D45), ())).2.2.1.length : Int))) then
    ref20_Entries_8 N l_0 i_6 k_7 out_5
  else
    some (.br ((l_0, i_6, ()), (out_5, ())))
  else none
noncomputable def ref20_Entries_25 (N : Nat) (l_0 : (List D59)) (i_6 : Int) (out_5 : (List D85)) : Option (Lo (((List D59) × Int × Unit) × ((List D85) × Unit)) ((Unit) × ((List D85) × Unit)) ref20_Entries_R) :=
  some (.go ((l_0, (w64 (i_6 + (1 : Int))), ()), (out_5, ())))
noncomputable def ref20_Entries_6 (N : Nat) (l_0 : (List D59)) (i_6 : Int) (k_7 : Int) (out_5 : (List D85)) : Option (Lo (((List D59) × Int × Unit) × ((List D85) × Unit)) ((Unit) × ((List D85) × Unit)) ref20_Entries_R) :=
  loopK N (fun y => ref20_Entries_s7 N y.1.1 y.1.2.1 y.1.2.2.1 y.2.1) (fun (e : (((List D59) × Int × Unit) × ((List D85) × Unit))) => ref20_Entries_25 N e.1.1 e.1.2.1 e.2.1) ((l_0, i_6, k_7, ()), (out_5, ()))
noncomputable def ref20_Entries_5 (N : Nat) (l_0 : (List D59)) (i_6 : Int) (out_5 : (List D85)) : Option (Lo (((List D59) × Int × Unit) × ((List D85) × Unit)) ((Unit) × ((List D85) × Unit)) ref20_Entries_R) :=
  ref20_Entries_6 N l_0 i_6 (0 : Int) out_5
noncomputable def ref20_Entries_3 (N : Nat) (l_0 : (List D59)) (i_6 : Int) (out_5 : (List D85)) : Option (Lo (((List D59) × Int × Unit) × ((List D85) × Unit)) ((Unit) × ((List D85) × Unit)) ref20_Entries_R) :=
  ref20_Entries_5 N l_0 i_6 out_5
noncomputable def ref20_Entries_s2 (N : Nat) (l_0 : (List D59)) (i_6 : Int) (out_5 : (List D85)) : Option (Lo (((List D59) × Int × Unit) × ((List D85) × Unit)) ((Unit) × ((List D85) × Unit)) ref20_Entries_R) :=
  bif (decide (i_6 < (l_0.length : Int))) then
    ref20_Entries_3 N l_0 i_6 out_5
  else
    some (.br ((()), (out_5, ())))
noncomputable def ref20_Entries_26 (N : Nat) (out_5 : (List D85)) : Option ref20_Entries_R :=
  some (((0 : Int), ()), (out_5, ()))
noncomputable def ref20_Entries_1 (N : Nat) (l_0 : (List D59)) (i_6 : Int) (out_5 : (List D85)) : Option ref20_Entries_R :=
  loopK N (fun y => ref20_Entries_s2 N y.1.1 y.1.2.1 y.2.1) (fun (e : ((Unit) × ((List D85) × Unit))) => ref20_Entries_26 N e.2.1) ((l_0, i_6, ()), (out_5, ()))
noncomputable def ref20_Entries (N : Nat) (l_0 : (List D59)) : Option ref20_Entries_R :=
  Option.bind (ref19_Check N l_0) fun y1 =>
  bif (!(decide (y1.1.1 = (0 : Int)))) then
    some ((y1.1.1, ()), (([] : List D85), ()))
  else
    ref20_Entries_1 N l_0 (0 : Int) ([] : List D85)
noncomputable def ref20_Entries_C (N : Nat) : Ctx := ⟨90, G_tys, [(89, ref19_Check_ctr N), (48, ref20_Minus_ctr N)], G_globs⟩
noncomputable def ref20_Entries_S0 : Spec := ⟨[.val (.sl T59), .row 0, .val .i64, .val .i64, .row 1, .val .i64, .row 2, .val .i64], [(.row 86 T85, .pos 1), (.row 46 T45, .pos 4), (.row 46 T45, .pos 6)]⟩
noncomputable def ref20_Entries_S1 : Spec := ⟨[.val (.sl T59), .row 0, .val .i64, .val .i64, .row 1, .val .i64], [(.row 86 T85, .pos 1), (.row 46 T45, .pos 4)]⟩
noncomputable def ref20_Entries_S2 : Spec := ⟨[.val (.sl T59), .row 0, .val .i64, .val .i64, .val .i64, .row 1], [(.row 86 T85, .pos 1), (.row 46 T45, .pos 5)]⟩
noncomputable def ref20_Entries_S3 : Spec := ⟨[.val (.sl T59), .row 0, .val .i64, .val .i64], [(.row 86 T85, .pos 1)]⟩
noncomputable def ref20_Entries_S4 : Spec := ⟨[.val (.sl T59), .row 0, .val .i64, .val .i64, .row 1], [(.row 86 T85, .pos 1), (.row 46 T45, .pos 4)]⟩
noncomputable def ref20_Entries_S5 : Spec := ⟨[.val (.sl T59), .row 0, .val .i64], [(.row 86 T85, .pos 1)]⟩
noncomputable def ref20_Entries_S6 : Spec := ⟨[.row 0], [(.row 86 T85, .pos 0)]⟩
noncomputable def ref20_Entries_S7 : Spec := ⟨[.val (.sl T59)], []⟩
noncomputable def ref20_Entries_S8 : Spec := ⟨[.row 0, .val .i64], [(.row 86 T85, .pos 0)]⟩
noncomputable def ref20_Entries_K (_N : Nat) : XE → GS → Option ref20_Entries_R := retK 0 [2, 3] [false, false] ref20_Entries_S8
noncomputable def ref20_Entries_L : List Code := (bodyOf (some Try.f39))
noncomputable def ref20_Entries_L2 : List Code := (loopOf (ref20_Entries_L[6]?))
noncomputable def ref20_Entries_L4b : List Code := (blockOf (ref20_Entries_L2[2]?))
noncomputable def ref20_Entries_L7 : List Code := (loopOf (ref20_Entries_L4b[1]?))
noncomputable def ref20_Entries_L9b : List Code := (blockOf (ref20_Entries_L7[2]?))
noncomputable def ref20_Entries_L12 : List Code := (loopOf (ref20_Entries_L9b[2]?))
noncomputable def ref20_Entries_L14b : List Code := (blockOf (ref20_Entries_L12[2]?))
noncomputable def ref20_Entries_L17 : List Code := (loopOf (ref20_Entries_L14b[2]?))
noncomputable def ref20_Entries_L22 : List Code := (loopOf (ref20_Entries_L9b[4]?))
noncomputable def ref20_Entries_K2 (N : Nat) : XE → GS → Option (Lo (((List D59) × Int × Unit) × ((List D85) × Unit)) ((Unit) × ((List D85) × Unit)) ref20_Entries_R) := roundK (some 0) (fit 0 [0, 5, 6] ref20_Entries_S5) (fit 0 [5] ref20_Entries_S6) (ref20_Entries_K N)
noncomputable def ref20_Entries_K4 (N : Nat) : XE → GS → Option (Lo (((List D59) × Int × Unit) × ((List D85) × Unit)) ((Unit) × ((List D85) × Unit)) ref20_Entries_R) := blockK 1 (goK 0 [0, 5, 6] ref20_Entries_S5 (fun y => ref20_Entries_25 N y.1.1 y.1.2.1 y.2.1)) (ref20_Entries_K2 N)
noncomputable def ref20_Entries_K7 (N : Nat) : XE → GS → Option (Lo (((List D59) × Int × Int × Unit) × ((List D85) × Unit)) (((List D59) × Int × Unit) × ((List D85) × Unit)) (Lo (((List D59) × Int × Unit) × ((List D85) × Unit)) ((Unit) × ((List D85) × Unit)) ref20_Entries_R)) := roundK (some 2) (fit 0 [0, 5, 6, 7] ref20_Entries_S3) (fit 0 [0, 5, 6] ref20_Entries_S5) (ref20_Entries_K4 N)
noncomputable def ref20_Entries_K9 (N : Nat) : XE → GS → Option (Lo (((List D59) × Int × Int × Unit) × ((List D85) × Unit)) (((List D59) × Int × Unit) × ((List D85) × Unit)) (Lo (((List D59) × Int × Unit) × ((List D85) × Unit)) ((Unit) × ((List D85) × Unit)) ref20_Entries_R)) := blockK 3 (goK 0 [0, 5, 6, 7] ref20_Entries_S3 (fun y => ref20_Entries_24 N y.1.1 y.1.2.1 y.1.2.2.1 y.2.1)) (ref20_Entries_K7 N)
noncomputable def ref20_Entries_K12 (N : Nat) : XE → GS → Option (Lo (((List D59) × Int × Int × Int × Unit) × ((List D85) × (List D45) × Unit)) (((List D59) × Int × Int × Unit) × ((List D85) × (List D45) × Unit)) (Lo (((List D59) × Int × Int × Unit) × ((List D85) × Unit)) (((List D59) × Int × Unit) × ((List D85) × Unit)) (Lo (((List D59) × Int × Unit) × ((List D85) × Unit)) ((Unit) × ((List D85) × Unit)) ref20_Entries_R))) := roundK (some 4) (fit 0 [0, 5, 6, 7, 8, 9] ref20_Entries_S1) (fit 0 [0, 5, 6, 7, 8] ref20_Entries_S4) (ref20_Entries_K9 N)
noncomputable def ref20_Entries_K22 (N : Nat) : XE → GS → Option (Lo (((List D59) × Int × Int × Int × Unit) × ((List D85) × (List D45) × Unit)) (((List D59) × Int × Int × Unit) × ((List D85) × Unit)) (Lo (((List D59) × Int × Int × Unit) × ((List D85) × Unit)) (((List D59) × Int × Unit) × ((List D85) × Unit)) (Lo (((List D59) × Int × Unit) × ((List D85) × Unit)) ((Unit) × ((List D85) × Unit)) ref20_Entries_R))) := roundK (some 8) (fit 0 [0, 5, 6, 7, 8, 12] ref20_Entries_S1) (fit 0 [0, 5, 6, 7] ref20_Entries_S3) (ref20_Entries_K9 N)
noncomputable def ref20_Entries_K14 (N : Nat) : XE → GS → Option (Lo (((List D59) × Int × Int × Int × Unit) × ((List D85) × (List D45) × Unit)) (((List D59) × Int × Int × Unit) × ((List D85) × (List D45) × Unit)) (Lo (((List D59) × Int × Int × Unit) × ((List D85) × Unit)) (((List D59) × Int × Unit) × ((List D85) × Unit)) (Lo (((List D59) × Int × Unit) × ((List D85) × Unit)) ((Unit) × ((List D85) × Unit)) ref20_Entries_R))) := blockK 5 (goK 0 [0, 5, 6, 7, 8, 9] ref20_Entries_S1 (fun y => ref20_Entries_19 N y.1.1 y.1.2.1 y.1.2.2.1 y.1.2.2.2.1 y.2.1 y.2.2.1)) (ref20_Entries_K12 N)
noncomputable def ref20_Entries_K17 (N : Nat) : XE → GS → Option (Lo (((List D59) × Int × Int × Int × Int × Unit) × ((List D85) × (List D45) × (List D45) × Unit)) (((List D59) × Int × Int × Int × Unit) × ((List D85) × (List D45) × Unit)) (Lo (((List D59) × Int × Int × Int × Unit) × ((List D85) × (List D45) × Unit)) (((List D59) × Int × Int × Unit) × ((List D85) × (List D45) × Unit)) (Lo (((List D59) × Int × Int × Unit) × ((List D85) × Unit)) (((List D59) × Int × Unit) × ((List D85) × Unit)) (Lo (((List D59) × Int × Unit) × ((List D85) × Unit)) ((Unit) × ((List D85) × Unit)) ref20_Entries_R)))) := roundK (some 6) (fit 0 [0, 5, 6, 7, 8, 9, 10, 11] ref20_Entries_S0) (fit 0 [0, 5, 6, 7, 9, 10] ref20_Entries_S2) (ref20_Entries_K14 N)
theorem ref20_Entries_s17_b {E : Env} (N : Nat) (hb : Base Try.prog (ref20_Entries_C N) E 0) : Blk Try.prog (ref20_Entries_C N) E [0, 5, 6, 7, 8, 9, 10, 11] ref20_Entries_S0 (ref20_Entries_L17.drop 0) (fun y => ref20_Entries_s17 N y.1.1 y.1.2.1 y.1.2.2.1 y.1.2.2.2.1 y.1.2.2.2.2.1 y.2.1 y.2.2.1 y.2.2.2.1) (ref20_Entries_K17 N) :=
  Blk.chunkAt hb 4 (X := (ref20_Entries_K17 N .normal)) (NxOk.end (by kernel_rfl)) rfl (fun x => by kernel_rfl)
theorem ref20_Entries_19_b {E : Env} (N : Nat) (hb : Base Try.prog (ref20_Entries_C N) E 0) : Blk Try.prog (ref20_Entries_C N) E [0, 5, 6, 7, 8, 9] ref20_Entries_S1 (ref20_Entries_L12.drop 3) (fun y => ref20_Entries_19 N y.1.1 y.1.2.1 y.1.2.2.1 y.1.2.2.2.1 y.2.1 y.2.2.1) (ref20_Entries_K12 N) :=
  Blk.chunkAt hb 1 (X := (ref20_Entries_K12 N .normal)) (NxOk.end (by kernel_rfl)) rfl (fun x => by kernel_rfl)
theorem ref20_Entries_18_b {E : Env} (N : Nat) (hb : Base Try.prog (ref20_Entries_C N) E 0) : Blk Try.prog (ref20_Entries_C N) E [0, 5, 6, 7, 9, 10] ref20_Entries_S2 (ref20_Entries_L14b.drop 3) (fun y => ref20_Entries_18 N y.1.1 y.1.2.1 y.1.2.2.1 y.1.2.2.2.1 y.2.1 y.2.2.1) (ref20_Entries_K14 N) :=
  Blk.chunkAt hb 3 (X := (ref20_Entries_K14 N .normal)) (NxOk.end (by kernel_rfl)) rfl (fun x => by kernel_rfl)
theorem ref20_Entries_16_b {E : Env} (N : Nat) (hb : Base Try.prog (ref20_Entries_C N) E 0) : Blk Try.prog (ref20_Entries_C N) E [0, 5, 6, 7, 8, 9, 10, 11] ref20_Entries_S0 (ref20_Entries_L14b.drop 2) (fun y => ref20_Entries_16 N y.1.1 y.1.2.1 y.1.2.2.1 y.1.2.2.2.1 y.1.2.2.2.2.1 y.2.1 y.2.2.1 y.2.2.2.1) (ref20_Entries_K14 N) :=
  Blk.loopAt (Nf := N) (hns := [0, 5, 6, 7, 8, 9, 10, 11]) (ans := [0, 5, 6, 7, 9, 10]) (hc := ref20_Entries_S0) (ac := ref20_Entries_S2) (bid := 6) (step := (fun y => ref20_Entries_s17 N y.1.1 y.1.2.1 y.1.2.2.1 y.1.2.2.2.1 y.1.2.2.2.2.1 y.2.1 y.2.2.1 y.2.2.2.1)) (J := (fun e => (goK 0 [0, 5, 6, 7, 9, 10] ref20_Entries_S2 (fun y => ref20_Entries_18 N y.1.1 y.1.2.1 y.1.2.2.1 y.1.2.2.2.1 y.2.1 y.2.2.1)) (ref20_Entries_S2.st [0, 5, 6, 7, 9, 10] e))) hb (by kernel_rfl) (Blk.into (X := (goK 0 [0, 5, 6, 7, 9, 10] ref20_Entries_S2 (fun y => ref20_Entries_18 N y.1.1 y.1.2.1 y.1.2.2.1 y.1.2.2.2.1 y.2.1 y.2.2.1))) (NxOk.go hb (ref20_Entries_18_b N hb)) (fun x => by kernel_rfl)) (ref20_Entries_s17_b N hb) (fun x => by kernel_rfl)
theorem ref20_Entries_15_b {E : Env} (N : Nat) (hb : Base Try.prog (ref20_Entries_C N) E 0) : Blk Try.prog (ref20_Entries_C N) E [0, 5, 6, 7, 8, 9] ref20_Entries_S1 (ref20_Entries_L14b.drop 0) (fun y => ref20_Entries_15 N y.1.1 y.1.2.1 y.1.2.2.1 y.1.2.2.2.1 y.2.1 y.2.2.1) (ref20_Entries_K14 N) :=
  Blk.chunkAt hb 2 (X := (goK 0 [0, 5, 6, 7, 8, 9, 10, 11] ref20_Entries_S0 (fun y => ref20_Entries_16 N y.1.1 y.1.2.1 y.1.2.2.1 y.1.2.2.2.1 y.1.2.2.2.2.1 y.2.1 y.2.2.1 y.2.2.2.1))) (NxOk.go hb (ref20_Entries_16_b N hb)) rfl (fun x => by kernel_rfl)
theorem ref20_Entries_13_b {E : Env} (N : Nat) (hb : Base Try.prog (ref20_Entries_C N) E 0) : Blk Try.prog (ref20_Entries_C N) E [0, 5, 6, 7, 8, 9] ref20_Entries_S1 (ref20_Entries_L12.drop 2) (fun y => ref20_Entries_13 N y.1.1 y.1.2.1 y.1.2.2.1 y.1.2.2.2.1 y.2.1 y.2.2.1) (ref20_Entries_K12 N) :=
  Blk.blockAt (bid := 5) (X := (goK 0 [0, 5, 6, 7, 8, 9] ref20_Entries_S1 (fun y => ref20_Entries_19 N y.1.1 y.1.2.1 y.1.2.2.1 y.1.2.2.2.1 y.2.1 y.2.2.1))) (Y := (goK 0 [0, 5, 6, 7, 8, 9] ref20_Entries_S1 (fun y => ref20_Entries_15 N y.1.1 y.1.2.1 y.1.2.2.1 y.1.2.2.2.1 y.2.1 y.2.2.1))) (by kernel_rfl) (NxOk.go hb (ref20_Entries_19_b N hb)) (NxOk.go hb (ref20_Entries_15_b N hb)) (fun x => by kernel_rfl)
theorem ref20_Entries_s12_b {E : Env} (N : Nat) (hb : Base Try.prog (ref20_Entries_C N) E 0) : Blk Try.prog (ref20_Entries_C N) E [0, 5, 6, 7, 8, 9] ref20_Entries_S1 (ref20_Entries_L12.drop 0) (fun y => ref20_Entries_s12 N y.1.1 y.1.2.1 y.1.2.2.1 y.1.2.2.2.1 y.2.1 y.2.2.1) (ref20_Entries_K12 N) :=
  Blk.chunkAt hb 2 (X := (goK 0 [0, 5, 6, 7, 8, 9] ref20_Entries_S1 (fun y => ref20_Entries_13 N y.1.1 y.1.2.1 y.1.2.2.1 y.1.2.2.2.1 y.2.1 y.2.2.1))) (NxOk.go hb (ref20_Entries_13_b N hb)) rfl (fun x => by kernel_rfl)
theorem ref20_Entries_s22_b {E : Env} (N : Nat) (hb : Base Try.prog (ref20_Entries_C N) E 0) : Blk Try.prog (ref20_Entries_C N) E [0, 5, 6, 7, 8, 12] ref20_Entries_S1 (ref20_Entries_L22.drop 0) (fun y => ref20_Entries_s22 N y.1.1 y.1.2.1 y.1.2.2.1 y.1.2.2.2.1 y.2.1 y.2.2.1) (ref20_Entries_K22 N) :=
  Blk.chunkAt hb 4 (X := (ref20_Entries_K22 N .normal)) (NxOk.end (by kernel_rfl)) rfl (fun x => by kernel_rfl)
theorem ref20_Entries_24_b {E : Env} (N : Nat) (hb : Base Try.prog (ref20_Entries_C N) E 0) : Blk Try.prog (ref20_Entries_C N) E [0, 5, 6, 7] ref20_Entries_S3 (ref20_Entries_L7.drop 3) (fun y => ref20_Entries_24 N y.1.1 y.1.2.1 y.1.2.2.1 y.2.1) (ref20_Entries_K7 N) :=
  Blk.chunkAt hb 1 (X := (ref20_Entries_K7 N .normal)) (NxOk.end (by kernel_rfl)) rfl (fun x => by kernel_rfl)
theorem ref20_Entries_23_b {E : Env} (N : Nat) (hb : Base Try.prog (ref20_Entries_C N) E 0) : Blk Try.prog (ref20_Entries_C N) E [0, 5, 6, 7] ref20_Entries_S3 (ref20_Entries_L9b.drop 5) (fun y => ref20_Entries_23 N y.1.1 y.1.2.1 y.1.2.2.1 y.2.1) (ref20_Entries_K9 N) :=
  Blk.chunkAt hb 2 (X := (ref20_Entries_K9 N .normal)) (NxOk.end (by kernel_rfl)) rfl (fun x => by kernel_rfl)
theorem ref20_Entries_21_b {E : Env} (N : Nat) (hb : Base Try.prog (ref20_Entries_C N) E 0) : Blk Try.prog (ref20_Entries_C N) E [0, 5, 6, 7, 8, 12] ref20_Entries_S1 (ref20_Entries_L9b.drop 4) (fun y => ref20_Entries_21 N y.1.1 y.1.2.1 y.1.2.2.1 y.1.2.2.2.1 y.2.1 y.2.2.1) (ref20_Entries_K9 N) :=
  Blk.loopAt (Nf := N) (hns := [0, 5, 6, 7, 8, 12]) (ans := [0, 5, 6, 7]) (hc := ref20_Entries_S1) (ac := ref20_Entries_S3) (bid := 8) (step := (fun y => ref20_Entries_s22 N y.1.1 y.1.2.1 y.1.2.2.1 y.1.2.2.2.1 y.2.1 y.2.2.1)) (J := (fun e => (goK 0 [0, 5, 6, 7] ref20_Entries_S3 (fun y => ref20_Entries_23 N y.1.1 y.1.2.1 y.1.2.2.1 y.2.1)) (ref20_Entries_S3.st [0, 5, 6, 7] e))) hb (by kernel_rfl) (Blk.into (X := (goK 0 [0, 5, 6, 7] ref20_Entries_S3 (fun y => ref20_Entries_23 N y.1.1 y.1.2.1 y.1.2.2.1 y.2.1))) (NxOk.go hb (ref20_Entries_23_b N hb)) (fun x => by kernel_rfl)) (ref20_Entries_s22_b N hb) (fun x => by kernel_rfl)
theorem ref20_Entries_20_b {E : Env} (N : Nat) (hb : Base Try.prog (ref20_Entries_C N) E 0) : Blk Try.prog (ref20_Entries_C N) E [0, 5, 6, 7, 8] ref20_Entries_S4 (ref20_Entries_L9b.drop 3) (fun y => ref20_Entries_20 N y.1.1 y.1.2.1 y.1.2.2.1 y.2.1 y.2.2.1) (ref20_Entries_K9 N) :=
  Blk.chunkAt hb 1 (X := (goK 0 [0, 5, 6, 7, 8, 12] ref20_Entries_S1 (fun y => ref20_Entries_21 N y.1.1 y.1.2.1 y.1.2.2.1 y.1.2.2.2.1 y.2.1 y.2.2.1))) (NxOk.go hb (ref20_Entries_21_b N hb)) rfl (fun x => by kernel_rfl)
theorem ref20_Entries_11_b {E : Env} (N : Nat) (hb : Base Try.prog (ref20_Entries_C N) E 0) : Blk Try.prog (ref20_Entries_C N) E [0, 5, 6, 7, 8, 9] ref20_Entries_S1 (ref20_Entries_L9b.drop 2) (fun y => ref20_Entries_11 N y.1.1 y.1.2.1 y.1.2.2.1 y.1.2.2.2.1 y.2.1 y.2.2.1) (ref20_Entries_K9 N) :=
  Blk.loopAt (Nf := N) (hns := [0, 5, 6, 7, 8, 9]) (ans := [0, 5, 6, 7, 8]) (hc := ref20_Entries_S1) (ac := ref20_Entries_S4) (bid := 4) (step := (fun y => ref20_Entries_s12 N y.1.1 y.1.2.1 y.1.2.2.1 y.1.2.2.2.1 y.2.1 y.2.2.1)) (J := (fun e => (goK 0 [0, 5, 6, 7, 8] ref20_Entries_S4 (fun y => ref20_Entries_20 N y.1.1 y.1.2.1 y.1.2.2.1 y.2.1 y.2.2.1)) (ref20_Entries_S4.st [0, 5, 6, 7, 8] e))) hb (by kernel_rfl) (Blk.into (X := (goK 0 [0, 5, 6, 7, 8] ref20_Entries_S4 (fun y => ref20_Entries_20 N y.1.1 y.1.2.1 y.1.2.2.1 y.2.1 y.2.2.1))) (NxOk.go hb (ref20_Entries_20_b N hb)) (fun x => by kernel_rfl)) (ref20_Entries_s12_b N hb) (fun x => by kernel_rfl)
theorem ref20_Entries_10_b {E : Env} (N : Nat) (hb : Base Try.prog (ref20_Entries_C N) E 0) : Blk Try.prog (ref20_Entries_C N) E [0, 5, 6, 7] ref20_Entries_S3 (ref20_Entries_L9b.drop 0) (fun y => ref20_Entries_10 N y.1.1 y.1.2.1 y.1.2.2.1 y.2.1) (ref20_Entries_K9 N) :=
  Blk.chunkAt hb 2 (X := (goK 0 [0, 5, 6, 7, 8, 9] ref20_Entries_S1 (fun y => ref20_Entries_11 N y.1.1 y.1.2.1 y.1.2.2.1 y.1.2.2.2.1 y.2.1 y.2.2.1))) (NxOk.go hb (ref20_Entries_11_b N hb)) rfl (fun x => by kernel_rfl)
theorem ref20_Entries_8_b {E : Env} (N : Nat) (hb : Base Try.prog (ref20_Entries_C N) E 0) : Blk Try.prog (ref20_Entries_C N) E [0, 5, 6, 7] ref20_Entries_S3 (ref20_Entries_L7.drop 2) (fun y => ref20_Entries_8 N y.1.1 y.1.2.1 y.1.2.2.1 y.2.1) (ref20_Entries_K7 N) :=
  Blk.blockAt (bid := 3) (X := (goK 0 [0, 5, 6, 7] ref20_Entries_S3 (fun y => ref20_Entries_24 N y.1.1 y.1.2.1 y.1.2.2.1 y.2.1))) (Y := (goK 0 [0, 5, 6, 7] ref20_Entries_S3 (fun y => ref20_Entries_10 N y.1.1 y.1.2.1 y.1.2.2.1 y.2.1))) (by kernel_rfl) (NxOk.go hb (ref20_Entries_24_b N hb)) (NxOk.go hb (ref20_Entries_10_b N hb)) (fun x => by kernel_rfl)
theorem ref20_Entries_s7_b {E : Env} (N : Nat) (hb : Base Try.prog (ref20_Entries_C N) E 0) : Blk Try.prog (ref20_Entries_C N) E [0, 5, 6, 7] ref20_Entries_S3 (ref20_Entries_L7.drop 0) (fun y => ref20_Entries_s7 N y.1.1 y.1.2.1 y.1.2.2.1 y.2.1) (ref20_Entries_K7 N) :=
  Blk.chunkAt hb 2 (X := (goK 0 [0, 5, 6, 7] ref20_Entries_S3 (fun y => ref20_Entries_8 N y.1.1 y.1.2.1 y.1.2.2.1 y.2.1))) (NxOk.go hb (ref20_Entries_8_b N hb)) rfl (fun x => by kernel_rfl)
theorem ref20_Entries_25_b {E : Env} (N : Nat) (hb : Base Try.prog (ref20_Entries_C N) E 0) : Blk Try.prog (ref20_Entries_C N) E [0, 5, 6] ref20_Entries_S5 (ref20_Entries_L2.drop 3) (fun y => ref20_Entries_25 N y.1.1 y.1.2.1 y.2.1) (ref20_Entries_K2 N) :=
  Blk.chunkAt hb 1 (X := (ref20_Entries_K2 N .normal)) (NxOk.end (by kernel_rfl)) rfl (fun x => by kernel_rfl)
theorem ref20_Entries_6_b {E : Env} (N : Nat) (hb : Base Try.prog (ref20_Entries_C N) E 0) : Blk Try.prog (ref20_Entries_C N) E [0, 5, 6, 7] ref20_Entries_S3 (ref20_Entries_L4b.drop 1) (fun y => ref20_Entries_6 N y.1.1 y.1.2.1 y.1.2.2.1 y.2.1) (ref20_Entries_K4 N) :=
  Blk.loopAt (Nf := N) (hns := [0, 5, 6, 7]) (ans := [0, 5, 6]) (hc := ref20_Entries_S3) (ac := ref20_Entries_S5) (bid := 2) (step := (fun y => ref20_Entries_s7 N y.1.1 y.1.2.1 y.1.2.2.1 y.2.1)) (J := (fun e => (ref20_Entries_K4 N .normal) (ref20_Entries_S5.st [0, 5, 6] e))) hb (by kernel_rfl) (Blk.into (X := (ref20_Entries_K4 N .normal)) (NxOk.end (by kernel_rfl)) (fun x => by kernel_rfl)) (ref20_Entries_s7_b N hb) (fun x => by kernel_rfl)
theorem ref20_Entries_5_b {E : Env} (N : Nat) (hb : Base Try.prog (ref20_Entries_C N) E 0) : Blk Try.prog (ref20_Entries_C N) E [0, 5, 6] ref20_Entries_S5 (ref20_Entries_L4b.drop 0) (fun y => ref20_Entries_5 N y.1.1 y.1.2.1 y.2.1) (ref20_Entries_K4 N) :=
  Blk.chunkAt hb 1 (X := (goK 0 [0, 5, 6, 7] ref20_Entries_S3 (fun y => ref20_Entries_6 N y.1.1 y.1.2.1 y.1.2.2.1 y.2.1))) (NxOk.go hb (ref20_Entries_6_b N hb)) rfl (fun x => by kernel_rfl)
theorem ref20_Entries_3_b {E : Env} (N : Nat) (hb : Base Try.prog (ref20_Entries_C N) E 0) : Blk Try.prog (ref20_Entries_C N) E [0, 5, 6] ref20_Entries_S5 (ref20_Entries_L2.drop 2) (fun y => ref20_Entries_3 N y.1.1 y.1.2.1 y.2.1) (ref20_Entries_K2 N) :=
  Blk.blockAt (bid := 1) (X := (goK 0 [0, 5, 6] ref20_Entries_S5 (fun y => ref20_Entries_25 N y.1.1 y.1.2.1 y.2.1))) (Y := (goK 0 [0, 5, 6] ref20_Entries_S5 (fun y => ref20_Entries_5 N y.1.1 y.1.2.1 y.2.1))) (by kernel_rfl) (NxOk.go hb (ref20_Entries_25_b N hb)) (NxOk.go hb (ref20_Entries_5_b N hb)) (fun x => by kernel_rfl)
theorem ref20_Entries_s2_b {E : Env} (N : Nat) (hb : Base Try.prog (ref20_Entries_C N) E 0) : Blk Try.prog (ref20_Entries_C N) E [0, 5, 6] ref20_Entries_S5 (ref20_Entries_L2.drop 0) (fun y => ref20_Entries_s2 N y.1.1 y.1.2.1 y.2.1) (ref20_Entries_K2 N) :=
  Blk.chunkAt hb 2 (X := (goK 0 [0, 5, 6] ref20_Entries_S5 (fun y => ref20_Entries_3 N y.1.1 y.1.2.1 y.2.1))) (NxOk.go hb (ref20_Entries_3_b N hb)) rfl (fun x => by kernel_rfl)
theorem ref20_Entries_26_b {E : Env} (N : Nat) (hb : Base Try.prog (ref20_Entries_C N) E 0) : Blk Try.prog (ref20_Entries_C N) E [5] ref20_Entries_S6 (ref20_Entries_L.drop 7) (fun y => ref20_Entries_26 N y.2.1) (ref20_Entries_K N) :=
  Blk.chunkAt hb 2 (X := (ref20_Entries_K N .normal)) (NxOk.end (by kernel_rfl)) rfl (fun x => by kernel_rfl)
theorem ref20_Entries_1_b {E : Env} (N : Nat) (hb : Base Try.prog (ref20_Entries_C N) E 0) : Blk Try.prog (ref20_Entries_C N) E [0, 5, 6] ref20_Entries_S5 (ref20_Entries_L.drop 6) (fun y => ref20_Entries_1 N y.1.1 y.1.2.1 y.2.1) (ref20_Entries_K N) :=
  Blk.loopAt (Nf := N) (hns := [0, 5, 6]) (ans := [5]) (hc := ref20_Entries_S5) (ac := ref20_Entries_S6) (bid := 0) (step := (fun y => ref20_Entries_s2 N y.1.1 y.1.2.1 y.2.1)) (J := (fun e => (goK 0 [5] ref20_Entries_S6 (fun y => ref20_Entries_26 N y.2.1)) (ref20_Entries_S6.st [5] e))) hb (by kernel_rfl) (Blk.into (X := (goK 0 [5] ref20_Entries_S6 (fun y => ref20_Entries_26 N y.2.1))) (NxOk.go hb (ref20_Entries_26_b N hb)) (fun x => by kernel_rfl)) (ref20_Entries_s2_b N hb) (fun x => by kernel_rfl)
theorem ref20_Entries_b {E : Env} (N : Nat) (hb : Base Try.prog (ref20_Entries_C N) E 0) : Blk Try.prog (ref20_Entries_C N) E (List.range ref20_Entries_S7.ks.length) ref20_Entries_S7 (ref20_Entries_L.drop 0) (fun y => ref20_Entries N y.1.1) (ref20_Entries_K N) :=
  Blk.chunkAt hb 6 (X := (goK 0 [0, 5, 6] ref20_Entries_S5 (fun y => ref20_Entries_1 N y.1.1 y.1.2.1 y.2.1))) (NxOk.go hb (ref20_Entries_1_b N hb)) rfl (fun x => by kernel_rfl)
noncomputable def ref20_Entries_ctr (N : Nat) : Ctr := ⟨ref20_Entries_S7, ref20_Entries_S8.un [false, false], 0, (fun y => ref20_Entries N y.1.1)⟩
theorem ref20_Entries_ctrs (N : Nat) : CtrsOk Try.prog (ref20_Entries_C N) := ctrs_of (Γ := ref20_Entries_C N) (by
  intro p hp
  simp only [ref20_Entries_C, List.mem_cons, List.not_mem_nil, or_false] at hp
  rcases hp with rfl | rfl
  · exact ref19_Check_ok N
  · exact ref20_Minus_ok N)
theorem ref20_Entries_ok (N : Nat) : Ctr.ok Try.prog G_globs 39 (ref20_Entries_ctr N) :=
  ctr_fn (Γ := ref20_Entries_C N) (rfit := ref20_Entries_S8) (bs := [false, false]) (res := [2, 3]) (by kernel_rfl) (tys_ok G_tys_ok) (ref20_Entries_ctrs N) Try.func39 (by kernel_rfl) (by kernel_rfl) Try.ntmps39 (by kernel_rfl) (by kernel_rfl) (by kernel_rfl) (by kernel_rfl) (fun E hb => ref20_Entries_b N hb)
end Go.Proofs.Ytgbkkfpheahdfaa