/- Functions of the program as plain functions, each with the proof that the text computes it. -/
import Derived.Test.YtgbkkfpheahdfaaGmRule
import Derived.Test.YtgbkkfpheahdfaaProg
set_option linter.unusedVariables false
set_option linter.unusedSimpArgs false
namespace Go.Proofs.Ytgbkkfpheahdfaa
open Go
set_option maxRecDepth 100000
set_option linter.unusedVariables false
abbrev D13 : Type := ((List UInt8) × (UInt64 × Unit))
abbrev T13 : Ty := (.pair .str (.pair .u64 .unit))
abbrev D27 : Type := (Int × (UInt64 × (UInt64 × Unit)))
abbrev T27 : Ty := (.pair .i64 (.pair .u64 (.pair .u64 .unit)))
abbrev D7 : Type := (Int × (Int × (Bool × (UInt8 × Unit))))
abbrev T7 : Ty := (.pair .i64 (.pair .i64 (.pair .bool (.pair .u8 .unit))))
abbrev D119 : Type := (D27 × (D27 × Unit))
abbrev T119 : Ty := (.pair T27 (.pair T27 .unit))
abbrev D29 : Type := (D27 × (D27 × (Int × (Int × (Int × Unit)))))
abbrev T29 : Ty := (.pair T27 (.pair T27 (.pair .i64 (.pair .i64 (.pair .i64 .unit)))))
abbrev D97 : Type := (D27 × (D27 × (Int × (Int × (Bool × ((List UInt8) × Unit))))))
abbrev T97 : Ty := (.pair T27 (.pair T27 (.pair .i64 (.pair .i64 (.pair .bool (.pair (.sl .u8) .unit))))))
abbrev D90 : Type := (D29 × (Int × (Bool × (Bool × (Int × Unit)))))
abbrev T90 : Ty := (.pair T29 (.pair .i64 (.pair .bool (.pair .bool (.pair .i64 .unit)))))
abbrev D45 : Type := (D27 × (D27 × (D27 × (D27 × (Int × (Int × ((List Int) × ((List Int) × Unit))))))))
abbrev T45 : Ty := (.pair T27 (.pair T27 (.pair T27 (.pair T27 (.pair .i64 (.pair .i64 (.pair (.arr 2 .i64) (.pair (.arr 2 .i64) .unit))))))))
abbrev D85 : Type := (D45 × (Int × Unit))
abbrev T85 : Ty := (.pair T45 (.pair .i64 .unit))
abbrev D99 : Type := (D27 × (D27 × (Int × ((List D97) × (Int × Unit)))))
abbrev T99 : Ty := (.pair T27 (.pair T27 (.pair .i64 (.pair (.sl T97) (.pair .i64 .unit)))))
abbrev D59 : Type := (Int × ((List UInt8) × ((List D45) × Unit)))
abbrev T59 : Ty := (.pair .i64 (.pair .str (.pair (.sl T45) .unit)))
noncomputable def G_tys : List (Nat × TI) := [(2, ⟨.i64, 8, 0, false⟩), (3, ⟨.i64, 8, 0, false⟩), (4, ⟨.bool, 1, 0, false⟩), (5, ⟨.u8, 1, 0, false⟩), (6, ⟨.u8, 1, 0, false⟩), (7, ⟨T7, 24, 0, false⟩), (8, ⟨T7, 24, 0, false⟩), (9, ⟨.str, 16, 0, false⟩), (10, ⟨.str, 16, 0, false⟩), (11, ⟨.str, 16, 0, false⟩), (12, ⟨.u64, 8, 0, false⟩), (13, ⟨T13, 24, 0, false⟩), (14, ⟨T13, 24, 0, false⟩), (22, ⟨(.sl .u8), 24, 5, false⟩), (26, ⟨.u64, 8, 0, false⟩), (27, ⟨T27, 24, 0, false⟩), (28, ⟨T27, 24, 0, false⟩), (29, ⟨T29, 72, 0, false⟩), (30, ⟨T29, 72, 0, true⟩), (35, ⟨(.sl .i64), 24, 3, false⟩), (36, ⟨(.sl T97), 24, 98, false⟩), (37, ⟨.i64, 8, 0, false⟩), (44, ⟨(.arr 2 .i64), 16, 3, false⟩), (45, ⟨T45, 144, 0, false⟩), (46, ⟨T45, 144, 0, false⟩), (48, ⟨(.sl T45), 24, 46, false⟩), (54, ⟨(.sl T59), 24, 60, false⟩), (59, ⟨T59, 48, 0, false⟩), (60, ⟨T59, 48, 0, false⟩), (65, ⟨(.sl T85), 24, 86, false⟩), (68, ⟨(.sl T29), 24, 30, false⟩), (71, ⟨(.arr 2 T45), 288, 46, false⟩), (72, ⟨(.sl (.arr 2 T45)), 24, 71, false⟩), (81, ⟨(.sl (.sl .u8)), 24, 22, false⟩), (85, ⟨T85, 152, 0, false⟩), (86, ⟨T85, 152, 0, false⟩), (90, ⟨T90, 96, 0, false⟩), (91, ⟨T90, 96, 0, true⟩), (94, ⟨(.sl T99), 24, 100, false⟩), (97, ⟨T97, 96, 0, false⟩), (98, ⟨T97, 96, 0, false⟩), (99, ⟨T99, 88, 0, false⟩), (100, ⟨T99, 88, 0, false⟩), (103, ⟨(.sl (.sl T59)), 24, 54, false⟩), (107, ⟨(.pair (.sl .u8) (.pair .i64 .unit)), 32, 0, false⟩), (108, ⟨(.pair (.sl .u8) (.pair .i64 .unit)), 32, 0, false⟩), (112, ⟨(.pair (.sl .u8) (.pair .i64 .unit)), 32, 0, false⟩), (113, ⟨(.pair (.sl .u8) (.pair .i64 .unit)), 32, 0, false⟩), (117, ⟨T27, 24, 0, false⟩), (118, ⟨T27, 24, 0, false⟩), (119, ⟨T119, 48, 0, false⟩), (120, ⟨T119, 48, 0, false⟩), (121, ⟨(.arr 5 T119), 240, 120, false⟩), (122, ⟨(.arr 5 T119), 240, 120, false⟩), (128, ⟨(.sl .str), 24, 9, false⟩), (132, ⟨(.sl T27), 24, 28, false⟩), (143, ⟨(.arr 5 T27), 120, 118, false⟩), (147, ⟨(.sl .u64), 24, 26, false⟩), (150, ⟨.u64, 8, 0, false⟩), (159, ⟨(.pair (.sl .u8) .unit), 24, 0, false⟩), (160, ⟨(.pair (.sl .u8) .unit), 24, 0, false⟩), (202, ⟨(.sl (.arr 2 .i64)), 24, 44, false⟩)]
noncomputable def G_globs : List (Nat × Dt) := []
def G_ifs : IfT := ⟨[157, 158], [(157, "ipsecgate/lookup.least", 198), (157, "ipsecgate/lookup.see", 199), (158, "ipsecgate/lookup.least", 200), (158, "ipsecgate/lookup.see", 201)], []⟩
theorem G_ifs_ok : ifChk Try.prog G_ifs = true := by kernel_rfl
theorem G_tys_ok : tyChk Try.prog G_tys = true := by kernel_rfl
end Go.Proofs.Ytgbkkfpheahdfaa
namespace Go.Proofs.Ytgbkkfpheahdfaa
open Go
set_option maxRecDepth 100000
set_option linter.unusedVariables false
/-! ipsecgate/decorrelate.ofAddress -/
abbrev decorrelate_ofAddress_R : Type := ((D27 × Unit) × (Unit))
noncomputable def decorrelate_ofAddress (N : Nat) (a_0 : D27) : Option decorrelate_ofAddress_R :=
  some (((a_0.1, a_0.2.1, a_0.2.2.1, ()), ()), (()))
noncomputable def decorrelate_ofAddress_C (N : Nat) : Ctx := ⟨10, G_tys, [], G_globs, G_ifs⟩
noncomputable def decorrelate_ofAddress_S0 : Spec := ⟨[.val T27], []⟩
noncomputable def decorrelate_ofAddress_S1 : Spec := ⟨[.fp T27], []⟩
noncomputable def decorrelate_ofAddress_K (_N : Nat) : XE → GS → Option decorrelate_ofAddress_R := retK 0 [2] [true] decorrelate_ofAddress_S1
noncomputable def decorrelate_ofAddress_L : List Code := (bodyOf (some Try.f103))
theorem decorrelate_ofAddress_b {E : Env} (N : Nat) (hb : Base Try.prog (decorrelate_ofAddress_C N) E 0) : Blk Try.prog (decorrelate_ofAddress_C N) E (List.range decorrelate_ofAddress_S0.ks.length) decorrelate_ofAddress_S0 (decorrelate_ofAddress_L.drop 0) (fun y => decorrelate_ofAddress N y.1.1) (decorrelate_ofAddress_K N) :=
  Blk.chunkAt hb 3 (X := (decorrelate_ofAddress_K N .normal)) (NxOk.end (by kernel_rfl)) rfl (fun x => by kernel_rfl)
noncomputable def decorrelate_ofAddress_ctr (N : Nat) : Ctr := ⟨decorrelate_ofAddress_S0, decorrelate_ofAddress_S1.un [true], 0, (fun y => decorrelate_ofAddress N y.1.1)⟩
theorem decorrelate_ofAddress_ctrs (N : Nat) : CtrsOk Try.prog (decorrelate_ofAddress_C N) := ctrs_nil G_ifs_ok rfl
theorem decorrelate_ofAddress_ok (N : Nat) : Ctr.ok Try.prog G_globs 103 (decorrelate_ofAddress_ctr N) :=
  ctr_fn (Γ := decorrelate_ofAddress_C N) (rfit := decorrelate_ofAddress_S1) (bs := [true]) (res := [2]) (by kernel_rfl) (tys_ok G_tys_ok) (decorrelate_ofAddress_ctrs N) Try.func103 (by kernel_rfl) (by kernel_rfl) Try.ntmps103 (by kernel_rfl) (by kernel_rfl) (by kernel_rfl) (by kernel_rfl) (fun E hb => decorrelate_ofAddress_b N hb)
end Go.Proofs.Ytgbkkfpheahdfaa
namespace Go.Proofs.Ytgbkkfpheahdfaa
open Go
set_option maxRecDepth 100000
set_option linter.unusedVariables false
/-! ipsecgate/decorrelate.ofNumber -/
abbrev decorrelate_ofNumber_R : Type := ((D27 × Unit) × (Unit))
noncomputable def decorrelate_ofNumber (N : Nat) (n_0 : Int) : Option decorrelate_ofNumber_R :=
  some ((((0 : Int), (0 : UInt64), (iu64 (w64 (n_0 + (1 : Int)))), ()), ()), (()))
noncomputable def decorrelate_ofNumber_C (N : Nat) : Ctx := ⟨7, G_tys, [], G_globs, G_ifs⟩
noncomputable def decorrelate_ofNumber_S0 : Spec := ⟨[.val .i64], []⟩
noncomputable def decorrelate_ofNumber_S1 : Spec := ⟨[.fp T27], []⟩
noncomputable def decorrelate_ofNumber_K (_N : Nat) : XE → GS → Option decorrelate_ofNumber_R := retK 0 [2] [true] decorrelate_ofNumber_S1
noncomputable def decorrelate_ofNumber_L : List Code := (bodyOf (some Try.f104))
theorem decorrelate_ofNumber_b {E : Env} (N : Nat) (hb : Base Try.prog (decorrelate_ofNumber_C N) E 0) : Blk Try.prog (decorrelate_ofNumber_C N) E (List.range decorrelate_ofNumber_S0.ks.length) decorrelate_ofNumber_S0 (decorrelate_ofNumber_L.drop 0) (fun y => decorrelate_ofNumber N y.1.1) (decorrelate_ofNumber_K N) :=
  Blk.chunkAt hb 3 (X := (decorrelate_ofNumber_K N .normal)) (NxOk.end (by kernel_rfl)) rfl (fun x => by kernel_rfl)
noncomputable def decorrelate_ofNumber_ctr (N : Nat) : Ctr := ⟨decorrelate_ofNumber_S0, decorrelate_ofNumber_S1.un [true], 0, (fun y => decorrelate_ofNumber N y.1.1)⟩
theorem decorrelate_ofNumber_ctrs (N : Nat) : CtrsOk Try.prog (decorrelate_ofNumber_C N) := ctrs_nil G_ifs_ok rfl
theorem decorrelate_ofNumber_ok (N : Nat) : Ctr.ok Try.prog G_globs 104 (decorrelate_ofNumber_ctr N) :=
  ctr_fn (Γ := decorrelate_ofNumber_C N) (rfit := decorrelate_ofNumber_S1) (bs := [true]) (res := [2]) (by kernel_rfl) (tys_ok G_tys_ok) (decorrelate_ofNumber_ctrs N) Try.func104 (by kernel_rfl) (by kernel_rfl) Try.ntmps104 (by kernel_rfl) (by kernel_rfl) (by kernel_rfl) (by kernel_rfl) (fun E hb => decorrelate_ofNumber_b N hb)
end Go.Proofs.Ytgbkkfpheahdfaa
namespace Go.Proofs.Ytgbkkfpheahdfaa
open Go
set_option maxRecDepth 100000
set_option linter.unusedVariables false
/-! ipsecgate/decorrelate.numbers -/
abbrev decorrelate_numbers_R : Type := ((D119 × Unit) × (Unit))
noncomputable def decorrelate_numbers (N : Nat) (lo_0 : Int) (hi_1 : Int) : Option decorrelate_numbers_R :=
  Option.bind (decorrelate_ofNumber N lo_0) fun y1 =>
  Option.bind (decorrelate_ofNumber N hi_1) fun y2 =>
  some (((y1.1.1, y2.1.1, ()), ()), (()))
noncomputable def decorrelate_numbers_C (N : Nat) : Ctx := ⟨10, G_tys, [(104, decorrelate_ofNumber_ctr N)], G_globs, G_ifs⟩
noncomputable def decorrelate_numbers_S0 : Spec := ⟨[.val .i64, .val .i64], []⟩
noncomputable def decorrelate_numbers_S1 : Spec := ⟨[.fp T119], []⟩
noncomputable def decorrelate_numbers_K (_N : Nat) : XE → GS → Option decorrelate_numbers_R := retK 0 [4] [true] decorrelate_numbers_S1
noncomputable def decorrelate_numbers_L : List Code := (bodyOf (some Try.f144))
theorem decorrelate_numbers_b {E : Env} (N : Nat) (hb : Base Try.prog (decorrelate_numbers_C N) E 0) : Blk Try.prog (decorrelate_numbers_C N) E (List.range decorrelate_numbers_S0.ks.length) decorrelate_numbers_S0 (decorrelate_numbers_L.drop 0) (fun y => decorrelate_numbers N y.1.1 y.1.2.1) (decorrelate_numbers_K N) :=
  Blk.chunkAt hb 3 (X := (decorrelate_numbers_K N .normal)) (NxOk.end (by kernel_rfl)) rfl (fun x => by kernel_rfl)
noncomputable def decorrelate_numbers_ctr (N : Nat) : Ctr := ⟨decorrelate_numbers_S0, decorrelate_numbers_S1.un [true], 0, (fun y => decorrelate_numbers N y.1.1 y.1.2.1)⟩
theorem decorrelate_numbers_ctrs (N : Nat) : CtrsOk Try.prog (decorrelate_numbers_C N) := ctrs_of (Γ := decorrelate_numbers_C N) G_ifs_ok (by
  intro p hp
  simp only [decorrelate_numbers_C, List.mem_cons, List.not_mem_nil, or_false] at hp
  rcases hp with rfl
  · exact decorrelate_ofNumber_ok N)
theorem decorrelate_numbers_ok (N : Nat) : Ctr.ok Try.prog G_globs 144 (decorrelate_numbers_ctr N) :=
  ctr_fn (Γ := decorrelate_numbers_C N) (rfit := decorrelate_numbers_S1) (bs := [true]) (res := [4]) (by kernel_rfl) (tys_ok G_tys_ok) (decorrelate_numbers_ctrs N) Try.func144 (by kernel_rfl) (by kernel_rfl) Try.ntmps144 (by kernel_rfl) (by kernel_rfl) (by kernel_rfl) (by kernel_rfl) (fun E hb => decorrelate_numbers_b N hb)
end Go.Proofs.Ytgbkkfpheahdfaa
namespace Go.Proofs.Ytgbkkfpheahdfaa
open Go
set_option maxRecDepth 100000
set_option linter.unusedVariables false
/-! ipsecgate/decorrelate.ofBox -/
abbrev decorrelate_ofBox_R : Type := (((List D119) × Unit) × (Unit))
noncomputable def decorrelate_ofBox (N : Nat) (b_0 : D45) : Option decorrelate_ofBox_R :=
  Option.bind (decorrelate_ofAddress N b_0.1) fun y1 =>
  Option.bind (decorrelate_ofAddress N b_0.2.1) fun y2 =>
  Option.bind (decorrelate_ofAddress N b_0.2.2.1) fun y3 =>
  Option.bind (decorrelate_ofAddress N b_0.2.2.2.1) fun y4 =>
  Option.bind (decorrelate_numbers N b_0.2.2.2.2.1 b_0.2.2.2.2.2.1) fun y5 =>
  Option.bind (decorrelate_numbers N (b_0.2.2.2.2.2.2.1.getD 0 (0 : Int)) (b_0.2.2.2.2.2.2.1.getD 1 (0 : Int))) fun y8 =>
  Option.bind (decorrelate_numbers N (b_0.2.2.2.2.2.2.2.1.getD 0 (0 : Int)) (b_0.2.2.2.2.2.2.2.1.getD 1 (0 : Int))) fun y11 =>
  some ((([(y1.1.1, y2.1.1, ()), (y3.1.1, y4.1.1, ()), y5.1.1, y8.1.1, y11.1.1] : List D119), ()), (()))
noncomputable def decorrelate_ofBox_C (N : Nat) : Ctx := ⟨37, G_tys, [(103, decorrelate_ofAddress_ctr N), (144, decorrelate_numbers_ctr N)], G_globs, G_ifs⟩
noncomputable def decorrelate_ofBox_S0 : Spec := ⟨[.val T45], []⟩
noncomputable def decorrelate_ofBox_S1 : Spec := ⟨[.fp (.arr 5 T119)], []⟩
noncomputable def decorrelate_ofBox_K (_N : Nat) : XE → GS → Option decorrelate_ofBox_R := retK 0 [2] [true] decorrelate_ofBox_S1
noncomputable def decorrelate_ofBox_L : List Code := (bodyOf (some Try.f79))
theorem decorrelate_ofBox_b {E : Env} (N : Nat) (hb : Base Try.prog (decorrelate_ofBox_C N) E 0) : Blk Try.prog (decorrelate_ofBox_C N) E (List.range decorrelate_ofBox_S0.ks.length) decorrelate_ofBox_S0 (decorrelate_ofBox_L.drop 0) (fun y => decorrelate_ofBox N y.1.1) (decorrelate_ofBox_K N) :=
  Blk.chunkAt hb 3 (X := (decorrelate_ofBox_K N .normal)) (NxOk.end (by kernel_rfl)) rfl (fun x => by kernel_rfl)
noncomputable def decorrelate_ofBox_ctr (N : Nat) : Ctr := ⟨decorrelate_ofBox_S0, decorrelate_ofBox_S1.un [true], 0, (fun y => decorrelate_ofBox N y.1.1)⟩
theorem decorrelate_ofBox_ctrs (N : Nat) : CtrsOk Try.prog (decorrelate_ofBox_C N) := ctrs_of (Γ := decorrelate_ofBox_C N) G_ifs_ok (by
  intro p hp
  simp only [decorrelate_ofBox_C, List.mem_cons, List.not_mem_nil, or_false] at hp
  rcases hp with rfl | rfl
  · exact decorrelate_ofAddress_ok N
  · exact decorrelate_numbers_ok N)
theorem decorrelate_ofBox_ok (N : Nat) : Ctr.ok Try.prog G_globs 79 (decorrelate_ofBox_ctr N) :=
  ctr_fn (Γ := decorrelate_ofBox_C N) (rfit := decorrelate_ofBox_S1) (bs := [true]) (res := [2]) (by kernel_rfl) (tys_ok G_tys_ok) (decorrelate_ofBox_ctrs N) Try.func79 (by kernel_rfl) (by kernel_rfl) Try.ntmps79 (by kernel_rfl) (by kernel_rfl) (by kernel_rfl) (by kernel_rfl) (fun E hb => decorrelate_ofBox_b N hb)
end Go.Proofs.Ytgbkkfpheahdfaa
namespace Go.Proofs.Ytgbkkfpheahdfaa
open Go
set_option maxRecDepth 100000
set_option linter.unusedVariables false
/-! cmp.isNaN[int] -/
abbrev cmp_isNaN_int__R : Type := ((Bool × Unit) × (Unit))
noncomputable def cmp_isNaN_int_ (N : Nat) (x_0 : Int) : Option cmp_isNaN_int__R :=
  some (((!(decide (x_0 = x_0))), ()), (()))
noncomputable def cmp_isNaN_int__C (N : Nat) : Ctx := ⟨6, G_tys, [], G_globs, G_ifs⟩
noncomputable def cmp_isNaN_int__S0 : Spec := ⟨[.val .i64], []⟩
noncomputable def cmp_isNaN_int__S1 : Spec := ⟨[.val .bool], []⟩
noncomputable def cmp_isNaN_int__K (_N : Nat) : XE → GS → Option cmp_isNaN_int__R := retK 0 [2] [false] cmp_isNaN_int__S1
noncomputable def cmp_isNaN_int__L : List Code := (bodyOf (some Try.f167))
theorem cmp_isNaN_int__b {E : Env} (N : Nat) (hb : Base Try.prog (cmp_isNaN_int__C N) E 0) : Blk Try.prog (cmp_isNaN_int__C N) E (List.range cmp_isNaN_int__S0.ks.length) cmp_isNaN_int__S0 (cmp_isNaN_int__L.drop 0) (fun y => cmp_isNaN_int_ N y.1.1) (cmp_isNaN_int__K N) :=
  Blk.chunkAt hb 3 (X := (cmp_isNaN_int__K N .normal)) (NxOk.end (by kernel_rfl)) rfl (fun x => by kernel_rfl)
noncomputable def cmp_isNaN_int__ctr (N : Nat) : Ctr := ⟨cmp_isNaN_int__S0, cmp_isNaN_int__S1.un [false], 0, (fun y => cmp_isNaN_int_ N y.1.1)⟩
theorem cmp_isNaN_int__ctrs (N : Nat) : CtrsOk Try.prog (cmp_isNaN_int__C N) := ctrs_nil G_ifs_ok rfl
theorem cmp_isNaN_int__ok (N : Nat) : Ctr.ok Try.prog G_globs 167 (cmp_isNaN_int__ctr N) :=
  ctr_fn (Γ := cmp_isNaN_int__C N) (rfit := cmp_isNaN_int__S1) (bs := [false]) (res := [2]) (by kernel_rfl) (tys_ok G_tys_ok) (cmp_isNaN_int__ctrs N) Try.func167 (by kernel_rfl) (by kernel_rfl) Try.ntmps167 (by kernel_rfl) (by kernel_rfl) (by kernel_rfl) (by kernel_rfl) (fun E hb => cmp_isNaN_int__b N hb)
end Go.Proofs.Ytgbkkfpheahdfaa
namespace Go.Proofs.Ytgbkkfpheahdfaa
open Go
set_option maxRecDepth 100000
set_option linter.unusedVariables false
/-! cmp.Compare[int] -/
abbrev cmp_Compare_int__R : Type := ((Int × Unit) × (Unit))
noncomputable def cmp_Compare_int_ (N : Nat) (x_0 : Int) (y_1 : Int) : Option cmp_Compare_int__R :=
  Option.bind (cmp_isNaN_int_ N x_0) fun y1 =>
  Option.bind (cmp_isNaN_int_ N y_1) fun y2 =>
  bif y1.1.1 then
    bif y2.1.1 then
      some (((0 : Int), ()), (()))
    else
      some (((-1 : Int), ()), (()))
  else
    bif y2.1.1 then
      some (((1 : Int), ()), (()))
    else
      bif (decide (x_0 < y_1)) then
        some (((-1 : Int), ()), (()))
      else
        bif (decide (y_1 < x_0)) then
          some (((1 : Int), ()), (()))
        else
          some (((0 : Int), ()), (()))
noncomputable def cmp_Compare_int__C (N : Nat) : Ctx := ⟨20, G_tys, [(167, cmp_isNaN_int__ctr N)], G_globs, G_ifs⟩
noncomputable def cmp_Compare_int__S0 : Spec := ⟨[.val .i64, .val .i64], []⟩
noncomputable def cmp_Compare_int__S1 : Spec := ⟨[.val .i64], []⟩
noncomputable def cmp_Compare_int__K (_N : Nat) : XE → GS → Option cmp_Compare_int__R := retK 0 [4] [false] cmp_Compare_int__S1
noncomputable def cmp_Compare_int__L : List Code := (bodyOf (some Try.f147))
theorem cmp_Compare_int__b {E : Env} (N : Nat) (hb : Base Try.prog (cmp_Compare_int__C N) E 0) : Blk Try.prog (cmp_Compare_int__C N) E (List.range cmp_Compare_int__S0.ks.length) cmp_Compare_int__S0 (cmp_Compare_int__L.drop 0) (fun y => cmp_Compare_int_ N y.1.1 y.1.2.1) (cmp_Compare_int__K N) :=
  Blk.chunkAt hb 13 (X := (cmp_Compare_int__K N .normal)) (NxOk.end (by kernel_rfl)) rfl (fun x => by kernel_rfl)
noncomputable def cmp_Compare_int__ctr (N : Nat) : Ctr := ⟨cmp_Compare_int__S0, cmp_Compare_int__S1.un [false], 0, (fun y => cmp_Compare_int_ N y.1.1 y.1.2.1)⟩
theorem cmp_Compare_int__ctrs (N : Nat) : CtrsOk Try.prog (cmp_Compare_int__C N) := ctrs_of (Γ := cmp_Compare_int__C N) G_ifs_ok (by
  intro p hp
  simp only [cmp_Compare_int__C, List.mem_cons, List.not_mem_nil, or_false] at hp
  rcases hp with rfl
  · exact cmp_isNaN_int__ok N)
theorem cmp_Compare_int__ok (N : Nat) : Ctr.ok Try.prog G_globs 147 (cmp_Compare_int__ctr N) :=
  ctr_fn (Γ := cmp_Compare_int__C N) (rfit := cmp_Compare_int__S1) (bs := [false]) (res := [4]) (by kernel_rfl) (tys_ok G_tys_ok) (cmp_Compare_int__ctrs N) Try.func147 (by kernel_rfl) (by kernel_rfl) Try.ntmps147 (by kernel_rfl) (by kernel_rfl) (by kernel_rfl) (by kernel_rfl) (fun E hb => cmp_Compare_int__b N hb)
end Go.Proofs.Ytgbkkfpheahdfaa
namespace Go.Proofs.Ytgbkkfpheahdfaa
open Go
set_option maxRecDepth 100000
set_option linter.unusedVariables false
/-! cmp.isNaN[uint64] -/
abbrev cmp_isNaN_uint64__R : Type := ((Bool × Unit) × (Unit))
noncomputable def cmp_isNaN_uint64_ (N : Nat) (x_0 : UInt64) : Option cmp_isNaN_uint64__R :=
  some (((!(decide (x_0 = x_0))), ()), (()))
noncomputable def cmp_isNaN_uint64__C (N : Nat) : Ctx := ⟨6, G_tys, [], G_globs, G_ifs⟩
noncomputable def cmp_isNaN_uint64__S0 : Spec := ⟨[.val .u64], []⟩
noncomputable def cmp_isNaN_uint64__S1 : Spec := ⟨[.val .bool], []⟩
noncomputable def cmp_isNaN_uint64__K (_N : Nat) : XE → GS → Option cmp_isNaN_uint64__R := retK 0 [2] [false] cmp_isNaN_uint64__S1
noncomputable def cmp_isNaN_uint64__L : List Code := (bodyOf (some Try.f168))
theorem cmp_isNaN_uint64__b {E : Env} (N : Nat) (hb : Base Try.prog (cmp_isNaN_uint64__C N) E 0) : Blk Try.prog (cmp_isNaN_uint64__C N) E (List.range cmp_isNaN_uint64__S0.ks.length) cmp_isNaN_uint64__S0 (cmp_isNaN_uint64__L.drop 0) (fun y => cmp_isNaN_uint64_ N y.1.1) (cmp_isNaN_uint64__K N) :=
  Blk.chunkAt hb 3 (X := (cmp_isNaN_uint64__K N .normal)) (NxOk.end (by kernel_rfl)) rfl (fun x => by kernel_rfl)
noncomputable def cmp_isNaN_uint64__ctr (N : Nat) : Ctr := ⟨cmp_isNaN_uint64__S0, cmp_isNaN_uint64__S1.un [false], 0, (fun y => cmp_isNaN_uint64_ N y.1.1)⟩
theorem cmp_isNaN_uint64__ctrs (N : Nat) : CtrsOk Try.prog (cmp_isNaN_uint64__C N) := ctrs_nil G_ifs_ok rfl
theorem cmp_isNaN_uint64__ok (N : Nat) : Ctr.ok Try.prog G_globs 168 (cmp_isNaN_uint64__ctr N) :=
  ctr_fn (Γ := cmp_isNaN_uint64__C N) (rfit := cmp_isNaN_uint64__S1) (bs := [false]) (res := [2]) (by kernel_rfl) (tys_ok G_tys_ok) (cmp_isNaN_uint64__ctrs N) Try.func168 (by kernel_rfl) (by kernel_rfl) Try.ntmps168 (by kernel_rfl) (by kernel_rfl) (by kernel_rfl) (by kernel_rfl) (fun E hb => cmp_isNaN_uint64__b N hb)
end Go.Proofs.Ytgbkkfpheahdfaa
namespace Go.Proofs.Ytgbkkfpheahdfaa
open Go
set_option maxRecDepth 100000
set_option linter.unusedVariables false
/-! cmp.Compare[uint64] -/
abbrev cmp_Compare_uint64__R : Type := ((Int × Unit) × (Unit))
noncomputable def cmp_Compare_uint64_ (N : Nat) (x_0 : UInt64) (y_1 : UInt64) : Option cmp_Compare_uint64__R :=
  Option.bind (cmp_isNaN_uint64_ N x_0) fun y1 =>
  Option.bind (cmp_isNaN_uint64_ N y_1) fun y2 =>
  bif y1.1.1 then
    bif y2.1.1 then
      some (((0 : Int), ()), (()))
    else
      some (((-1 : Int), ()), (()))
  else
    bif y2.1.1 then
      some (((1 : Int), ()), (()))
    else
      bif (decide (x_0 < y_1)) then
        some (((-1 : Int), ()), (()))
      else
        bif (decide (y_1 < x_0)) then
          some (((1 : Int), ()), (()))
        else
          some (((0 : Int), ()), (()))
noncomputable def cmp_Compare_uint64__C (N : Nat) : Ctx := ⟨20, G_tys, [(168, cmp_isNaN_uint64__ctr N)], G_globs, G_ifs⟩
noncomputable def cmp_Compare_uint64__S0 : Spec := ⟨[.val .u64, .val .u64], []⟩
noncomputable def cmp_Compare_uint64__S1 : Spec := ⟨[.val .i64], []⟩
noncomputable def cmp_Compare_uint64__K (_N : Nat) : XE → GS → Option cmp_Compare_uint64__R := retK 0 [4] [false] cmp_Compare_uint64__S1
noncomputable def cmp_Compare_uint64__L : List Code := (bodyOf (some Try.f148))
theorem cmp_Compare_uint64__b {E : Env} (N : Nat) (hb : Base Try.prog (cmp_Compare_uint64__C N) E 0) : Blk Try.prog (cmp_Compare_uint64__C N) E (List.range cmp_Compare_uint64__S0.ks.length) cmp_Compare_uint64__S0 (cmp_Compare_uint64__L.drop 0) (fun y => cmp_Compare_uint64_ N y.1.1 y.1.2.1) (cmp_Compare_uint64__K N) :=
  Blk.chunkAt hb 13 (X := (cmp_Compare_uint64__K N .normal)) (NxOk.end (by kernel_rfl)) rfl (fun x => by kernel_rfl)
noncomputable def cmp_Compare_uint64__ctr (N : Nat) : Ctr := ⟨cmp_Compare_uint64__S0, cmp_Compare_uint64__S1.un [false], 0, (fun y => cmp_Compare_uint64_ N y.1.1 y.1.2.1)⟩
theorem cmp_Compare_uint64__ctrs (N : Nat) : CtrsOk Try.prog (cmp_Compare_uint64__C N) := ctrs_of (Γ := cmp_Compare_uint64__C N) G_ifs_ok (by
  intro p hp
  simp only [cmp_Compare_uint64__C, List.mem_cons, List.not_mem_nil, or_false] at hp
  rcases hp with rfl
  · exact cmp_isNaN_uint64__ok N)
theorem cmp_Compare_uint64__ok (N : Nat) : Ctr.ok Try.prog G_globs 148 (cmp_Compare_uint64__ctr N) :=
  ctr_fn (Γ := cmp_Compare_uint64__C N) (rfit := cmp_Compare_uint64__S1) (bs := [false]) (res := [4]) (by kernel_rfl) (tys_ok G_tys_ok) (cmp_Compare_uint64__ctrs N) Try.func148 (by kernel_rfl) (by kernel_rfl) Try.ntmps148 (by kernel_rfl) (by kernel_rfl) (by kernel_rfl) (by kernel_rfl) (fun E hb => cmp_Compare_uint64__b N hb)
end Go.Proofs.Ytgbkkfpheahdfaa
namespace Go.Proofs.Ytgbkkfpheahdfaa
open Go
set_option maxRecDepth 100000
set_option linter.unusedVariables false
/-! cmp.Or[int] -/
abbrev cmp_Or_int__R : Type := ((Int × Unit) × (Unit))
noncomputable def cmp_Or_int__s2 (N : Nat) (zero_3 : Int) (t_6 : (List Int)) (t_7 : Int) (t_8 : Int) : Option (Lo ((Int × (List Int) × Int × Int × Unit) × (Unit)) ((Int × Unit) × (Unit)) cmp_Or_int__R) :=
  bif (decide (t_8 < t_7)) then
    bif inR t_8 t_6.length then
    let x3 := t_6.getD t_8.toNat (0 : Int)
    bif (!(decide (x3 = zero_3))) then
      some (.rt ((x3, ()), (())))
    else
      some (.go ((zero_3, t_6, t_7, (w64 (t_8 + (1 : Int))), ()), (())))
    else none
  else
    some (.br ((zero_3, ()), (())))
noncomputable def cmp_Or_int__3 (N : Nat) (zero_3 : Int) : Option cmp_Or_int__R :=
  some ((zero_3, ()), (()))
noncomputable def cmp_Or_int__1 (N : Nat) (zero_3 : Int) (t_6 : (List Int)) (t_7 : Int) (t_8 : Int) : Option cmp_Or_int__R :=
  loopK N (fun y => cmp_Or_int__s2 N y.1.1 y.1.2.1 y.1.2.2.1 y.1.2.2.2.1) (fun (e : ((Int × Unit) × (Unit))) => cmp_Or_int__3 N e.1.1) ((zero_3, t_6, t_7, t_8, ()), (()))
noncomputable def cmp_Or_int_ (N : Nat) (vals_0 : (List Int)) : Option cmp_Or_int__R :=
  cmp_Or_int__1 N (0 : Int) vals_0 (vals_0.length : Int) (0 : Int)
noncomputable def cmp_Or_int__C (N : Nat) : Ctx := ⟨18, G_tys, [], G_globs, G_ifs⟩
noncomputable def cmp_Or_int__S0 : Spec := ⟨[.val .i64, .val (.sl .i64), .val .i64, .val .i64], []⟩
noncomputable def cmp_Or_int__S1 : Spec := ⟨[.val .i64], []⟩
noncomputable def cmp_Or_int__S2 : Spec := ⟨[.val (.sl .i64)], []⟩
noncomputable def cmp_Or_int__K (_N : Nat) : XE → GS → Option cmp_Or_int__R := retK 0 [2] [false] cmp_Or_int__S1
noncomputable def cmp_Or_int__L : List Code := (bodyOf (some Try.f146))
noncomputable def cmp_Or_int__L2 : List Code := (loopOf (cmp_Or_int__L[3]?))
noncomputable def cmp_Or_int__K2 (N : Nat) : XE → GS → Option (Lo ((Int × (List Int) × Int × Int × Unit) × (Unit)) ((Int × Unit) × (Unit)) cmp_Or_int__R) := roundK (some 0) (fit 0 [3, 6, 7, 8] cmp_Or_int__S0) (fit 0 [3] cmp_Or_int__S1) (cmp_Or_int__K N)
theorem cmp_Or_int__s2_b {E : Env} (N : Nat) (hb : Base Try.prog (cmp_Or_int__C N) E 0) : Blk Try.prog (cmp_Or_int__C N) E [3, 6, 7, 8] cmp_Or_int__S0 (cmp_Or_int__L2.drop 0) (fun y => cmp_Or_int__s2 N y.1.1 y.1.2.1 y.1.2.2.1 y.1.2.2.2.1) (cmp_Or_int__K2 N) :=
  Blk.chunkAt hb 4 (X := (cmp_Or_int__K2 N .normal)) (NxOk.end (by kernel_rfl)) rfl (fun x => by kernel_rfl)
theorem cmp_Or_int__3_b {E : Env} (N : Nat) (hb : Base Try.prog (cmp_Or_int__C N) E 0) : Blk Try.prog (cmp_Or_int__C N) E [3] cmp_Or_int__S1 (cmp_Or_int__L.drop 4) (fun y => cmp_Or_int__3 N y.1.1) (cmp_Or_int__K N) :=
  Blk.chunkAt hb 2 (X := (cmp_Or_int__K N .normal)) (NxOk.end (by kernel_rfl)) rfl (fun x => by kernel_rfl)
theorem cmp_Or_int__1_b {E : Env} (N : Nat) (hb : Base Try.prog (cmp_Or_int__C N) E 0) : Blk Try.prog (cmp_Or_int__C N) E [3, 6, 7, 8] cmp_Or_int__S0 (cmp_Or_int__L.drop 3) (fun y => cmp_Or_int__1 N y.1.1 y.1.2.1 y.1.2.2.1 y.1.2.2.2.1) (cmp_Or_int__K N) :=
  Blk.loopAt (Nf := N) (hns := [3, 6, 7, 8]) (ans := [3]) (hc := cmp_Or_int__S0) (ac := cmp_Or_int__S1) (bid := 0) (step := (fun y => cmp_Or_int__s2 N y.1.1 y.1.2.1 y.1.2.2.1 y.1.2.2.2.1)) (J := (fun e => (goK 0 [3] cmp_Or_int__S1 (fun y => cmp_Or_int__3 N y.1.1)) (cmp_Or_int__S1.st [3] e))) hb (by kernel_rfl) (Blk.into (X := (goK 0 [3] cmp_Or_int__S1 (fun y => cmp_Or_int__3 N y.1.1))) (NxOk.go hb (cmp_Or_int__3_b N hb)) (fun x => by kernel_rfl)) (cmp_Or_int__s2_b N hb) (fun x => by kernel_rfl)
theorem cmp_Or_int__b {E : Env} (N : Nat) (hb : Base Try.prog (cmp_Or_int__C N) E 0) : Blk Try.prog (cmp_Or_int__C N) E (List.range cmp_Or_int__S2.ks.length) cmp_Or_int__S2 (cmp_Or_int__L.drop 0) (fun y => cmp_Or_int_ N y.1.1) (cmp_Or_int__K N) :=
  Blk.chunkAt hb 3 (X := (goK 0 [3, 6, 7, 8] cmp_Or_int__S0 (fun y => cmp_Or_int__1 N y.1.1 y.1.2.1 y.1.2.2.1 y.1.2.2.2.1))) (NxOk.go hb (cmp_Or_int__1_b N hb)) rfl (fun x => by kernel_rfl)
noncomputable def cmp_Or_int__ctr (N : Nat) : Ctr := ⟨cmp_Or_int__S2, cmp_Or_int__S1.un [false], 0, (fun y => cmp_Or_int_ N y.1.1)⟩
theorem cmp_Or_int__ctrs (N : Nat) : CtrsOk Try.prog (cmp_Or_int__C N) := ctrs_nil G_ifs_ok rfl
theorem cmp_Or_int__ok (N : Nat) : Ctr.ok Try.prog G_globs 146 (cmp_Or_int__ctr N) :=
  ctr_fn (Γ := cmp_Or_int__C N) (rfit := cmp_Or_int__S1) (bs := [false]) (res := [2]) (by kernel_rfl) (tys_ok G_tys_ok) (cmp_Or_int__ctrs N) Try.func146 (by kernel_rfl) (by kernel_rfl) Try.ntmps146 (by kernel_rfl) (by kernel_rfl) (by kernel_rfl) (by kernel_rfl) (fun E hb => cmp_Or_int__b N hb)
end Go.Proofs.Ytgbkkfpheahdfaa
namespace Go.Proofs.Ytgbkkfpheahdfaa
open Go
set_option maxRecDepth 100000
set_option linter.unusedVariables false
/-! (ipsecgate/decorrelate.value).compare -/
abbrev decorrelate_value_compare_R : Type := ((Int × Unit) × (Unit))
noncomputable def decorrelate_value_compare (N : Nat) (a_0 : D27) (b_1 : D27) : Option decorrelate_value_compare_R :=
  Option.bind (cmp_Compare_int_ N a_0.1 b_1.1) fun y1 =>
  Option.bind (cmp_Compare_uint64_ N a_0.2.1 b_1.2.1) fun y2 =>
  Option.bind (cmp_Compare_uint64_ N a_0.2.2.1 b_1.2.2.1) fun y3 =>
  Option.bind (cmp_Or_int_ N ([y1.1.1, y2.1.1, y3.1.1] : List Int)) fun y4 =>
  some ((y4.1.1, ()), (()))
noncomputable def decorrelate_value_compare_C (N : Nat) : Ctx := ⟨22, G_tys, [(147, cmp_Compare_int__ctr N), (148, cmp_Compare_uint64__ctr N), (146, cmp_Or_int__ctr N)], G_globs, G_ifs⟩
noncomputable def decorrelate_value_compare_S0 : Spec := ⟨[.val T27, .val T27], []⟩
noncomputable def decorrelate_value_compare_S1 : Spec := ⟨[.val .i64], []⟩
noncomputable def decorrelate_value_compare_K (_N : Nat) : XE → GS → Option decorrelate_value_compare_R := retK 0 [4] [false] decorrelate_value_compare_S1
noncomputable def decorrelate_value_compare_L : List Code := (bodyOf (some Try.f81))
theorem decorrelate_value_compare_b {E : Env} (N : Nat) (hb : Base Try.prog (decorrelate_value_compare_C N) E 0) : Blk Try.prog (decorrelate_value_compare_C N) E (List.range decorrelate_value_compare_S0.ks.length) decorrelate_value_compare_S0 (decorrelate_value_compare_L.drop 0) (fun y => decorrelate_value_compare N y.1.1 y.1.2.1) (decorrelate_value_compare_K N) :=
  Blk.chunkAt hb 3 (X := (decorrelate_value_compare_K N .normal)) (NxOk.end (by kernel_rfl)) rfl (fun x => by kernel_rfl)
noncomputable def decorrelate_value_compare_ctr (N : Nat) : Ctr := ⟨decorrelate_value_compare_S0, decorrelate_value_compare_S1.un [false], 0, (fun y => decorrelate_value_compare N y.1.1 y.1.2.1)⟩
theorem decorrelate_value_compare_ctrs (N : Nat) : CtrsOk Try.prog (decorrelate_value_compare_C N) := ctrs_of (Γ := decorrelate_value_compare_C N) G_ifs_ok (by
  intro p hp
  simp only [decorrelate_value_compare_C, List.mem_cons, List.not_mem_nil, or_false] at hp
  rcases hp with rfl | rfl | rfl
  · exact cmp_Compare_int__ok N
  · exact cmp_Compare_uint64__ok N
  · exact cmp_Or_int__ok N)
theorem decorrelate_value_compare_ok (N : Nat) : Ctr.ok Try.prog G_globs 81 (decorrelate_value_compare_ctr N) :=
  ctr_fn (Γ := decorrelate_value_compare_C N) (rfit := decorrelate_value_compare_S1) (bs := [false]) (res := [4]) (by kernel_rfl) (tys_ok G_tys_ok) (decorrelate_value_compare_ctrs N) Try.func81 (by kernel_rfl) (by kernel_rfl) Try.ntmps81 (by kernel_rfl) (by kernel_rfl) (by kernel_rfl) (by kernel_rfl) (fun E hb => decorrelate_value_compare_b N hb)
end Go.Proofs.Ytgbkkfpheahdfaa
namespace Go.Proofs.Ytgbkkfpheahdfaa
open Go
set_option maxRecDepth 100000
set_option linter.unusedVariables false
/-! (ipsecgate/decorrelate.side).has -/
abbrev decorrelate_side_has_R : Type := ((Bool × Unit) × (Unit))
noncomputable def decorrelate_side_has (N : Nat) (s_0 : D119) (v_1 : D27) : Option decorrelate_side_has_R :=
  Option.bind (decorrelate_value_compare N s_0.1 v_1) fun y1 =>
  bif (decide (y1.1.1 ≤ (0 : Int))) then
    Option.bind (decorrelate_value_compare N v_1 s_0.2.1) fun y3 =>
    some (((decide (y3.1.1 ≤ (0 : Int))), ()), (()))
  else
    some ((false, ()), (()))
noncomputable def decorrelate_side_has_C (N : Nat) : Ctx := ⟨17, G_tys, [(81, decorrelate_value_compare_ctr N)], G_globs, G_ifs⟩
noncomputable def decorrelate_side_has_S0 : Spec := ⟨[.val T119, .val T27], []⟩
noncomputable def decorrelate_side_has_S1 : Spec := ⟨[.val .bool], []⟩
noncomputable def decorrelate_side_has_K (_N : Nat) : XE → GS → Option decorrelate_side_has_R := retK 0 [4] [false] decorrelate_side_has_S1
noncomputable def decorrelate_side_has_L : List Code := (bodyOf (some Try.f105))
theorem decorrelate_side_has_b {E : Env} (N : Nat) (hb : Base Try.prog (decorrelate_side_has_C N) E 0) : Blk Try.prog (decorrelate_side_has_C N) E (List.range decorrelate_side_has_S0.ks.length) decorrelate_side_has_S0 (decorrelate_side_has_L.drop 0) (fun y => decorrelate_side_has N y.1.1 y.1.2.1) (decorrelate_side_has_K N) :=
  Blk.chunkAt hb 3 (X := (decorrelate_side_has_K N .normal)) (NxOk.end (by kernel_rfl)) rfl (fun x => by kernel_rfl)
noncomputable def decorrelate_side_has_ctr (N : Nat) : Ctr := ⟨decorrelate_side_has_S0, decorrelate_side_has_S1.un [false], 0, (fun y => decorrelate_side_has N y.1.1 y.1.2.1)⟩
theorem decorrelate_side_has_ctrs (N : Nat) : CtrsOk Try.prog (decorrelate_side_has_C N) := ctrs_of (Γ := decorrelate_side_has_C N) G_ifs_ok (by
  intro p hp
  simp only [decorrelate_side_has_C, List.mem_cons, List.not_mem_nil, or_false] at hp
  rcases hp with rfl
  · exact decorrelate_value_compare_ok N)
theorem decorrelate_side_has_ok (N : Nat) : Ctr.ok Try.prog G_globs 105 (decorrelate_side_has_ctr N) :=
  ctr_fn (Γ := decorrelate_side_has_C N) (rfit := decorrelate_side_has_S1) (bs := [false]) (res := [4]) (by kernel_rfl) (tys_ok G_tys_ok) (decorrelate_side_has_ctrs N) Try.func105 (by kernel_rfl) (by kernel_rfl) Try.ntmps105 (by kernel_rfl) (by kernel_rfl) (by kernel_rfl) (by kernel_rfl) (fun E hb => decorrelate_side_has_b N hb)
end Go.Proofs.Ytgbkkfpheahdfaa
namespace Go.Proofs.Ytgbkkfpheahdfaa
open Go
set_option maxRecDepth 100000
set_option linter.unusedVariables false
/-! ipsecgate/decorrelate.Has -/
abbrev decorrelate_Has_R : Type := ((Bool × Unit) × (Unit))
noncomputable def decorrelate_Has_s3 (N : Nat) (t_41 : (List D119)) (t_42 : Int) (at_7 : (List D27)) : Option (Lo (((List D119) × Int × Unit) × ((List D27) × Unit)) ((Unit) × (Unit)) decorrelate_Has_R) :=
  bif (decide (t_42 < (5 : Int))) then
    bif inR t_42 5 then
    bif inR t_42 5 then
    Option.bind (decorrelate_side_has N (t_41.getD t_42.toNat (((0 : Int), (0 : UInt64), (0 : UInt64), ()), ((0 : Int), (0 : UInt64), (0 : UInt64), ()), ())) (at_7.getD t_42.toNat ((0 : Int), (0 : UInt64), (0 : UInt64), ()))) fun y12 =>
    bif (!y12.1.1) then
      some (.rt ((false, ()), (())))
    else
      some (.go ((t_41, (w64 (t_42 + (1 : Int))), ()), (at_7, ())))
    else none
    else none
  else
    some (.br ((()), (())))
noncomputable def decorrelate_Has_4 (N : Nat) : Option decorrelate_Has_R :=
  some ((true, ()), (()))
noncomputable def decorrelate_Has_2 (N : Nat) (t_41 : (List D119)) (t_42 : Int) (at_7 : (List D27)) : Option decorrelate_Has_R :=
  loopK N (fun y => decorrelate_Has_s3 N y.1.1 y.1.2.1 y.2.1) (fun (e : ((Unit) × (Unit))) => decorrelate_Has_4 N) ((t_41, t_42, ()), (at_7, ()))
noncomputable def decorrelate_Has_1 (N : Nat) (b_3 : D45) (p_4 : D29) : Option decorrelate_Has_R :=
  Option.bind (decorrelate_ofAddress N p_4.1) fun y2 =>
  Option.bind (decorrelate_ofAddress N p_4.2.1) fun y3 =>
  Option.bind (decorrelate_ofNumber N p_4.2.2.1) fun y4 =>
  Option.bind (decorrelate_ofNumber N p_4.2.2.2.1) fun y5 =>
  Option.bind (decorrelate_ofNumber N p_4.2.2.2.2.1) fun y6 =>
  Option.bind (decorrelate_ofBox N b_3) fun y8 =>
  decorrelate_Has_2 N y8.1.1 (0 : Int) ([y2.1.1, y3.1.1, y4.1.1, y5.1.1, y6.1.1] : List D27)
noncomputable def decorrelate_Has (N : Nat) (b_0 : D45) (p_1 : D29) (outbound_2 : Bool) : Option decorrelate_Has_R :=
  bif (!outbound_2) then
    decorrelate_Has_1 N b_0 (p_1.2.1, p_1.1, p_1.2.2.1, p_1.2.2.2.2.1, p_1.2.2.2.1, ())
  else
    decorrelate_Has_1 N b_0 p_1
noncomputable def decorrelate_Has_C (N : Nat) : Ctx := ⟨53, G_tys, [(103, decorrelate_ofAddress_ctr N), (104, decorrelate_ofNumber_ctr N), (79, decorrelate_ofBox_ctr N), (105, decorrelate_side_has_ctr N)], G_globs, G_ifs⟩
noncomputable def decorrelate_Has_S0 : Spec := ⟨[.ref 0 (.arr 5 T27), .val (.arr 5 T119), .val .i64], [(.box 143 (.arr 5 T27), .pos 0)]⟩
noncomputable def decorrelate_Has_S1 : Spec := ⟨[], []⟩
noncomputable def decorrelate_Has_S2 : Spec := ⟨[.ref 0 T45, .ref 1 T29], [(.box 46 T45, .pos 0), (.box 30 T29, .pos 1)]⟩
noncomputable def decorrelate_Has_S3 : Spec := ⟨[.val T45, .val T29, .val .bool], []⟩
noncomputable def decorrelate_Has_S4 : Spec := ⟨[.val .bool], []⟩
noncomputable def decorrelate_Has_K (_N : Nat) : XE → GS → Option decorrelate_Has_R := retK 0 [6] [false] decorrelate_Has_S4
noncomputable def decorrelate_Has_L : List Code := (bodyOf (some Try.f51))
noncomputable def decorrelate_Has_L3 : List Code := (loopOf (decorrelate_Has_L[5]?))
noncomputable def decorrelate_Has_K3 (N : Nat) : XE → GS → Option (Lo (((List D119) × Int × Unit) × ((List D27) × Unit)) ((Unit) × (Unit)) decorrelate_Has_R) := roundK (some 0) (fit 0 [7, 41, 42] decorrelate_Has_S0) (fit 0 [] decorrelate_Has_S1) (decorrelate_Has_K N)
theorem decorrelate_Has_s3_b {E : Env} (N : Nat) (hb : Base Try.prog (decorrelate_Has_C N) E 0) : Blk Try.prog (decorrelate_Has_C N) E [7, 41, 42] decorrelate_Has_S0 (decorrelate_Has_L3.drop 0) (fun y => decorrelate_Has_s3 N y.1.1 y.1.2.1 y.2.1) (decorrelate_Has_K3 N) :=
  Blk.chunkAt hb 4 (X := (decorrelate_Has_K3 N .normal)) (NxOk.end (by kernel_rfl)) rfl (fun x => by kernel_rfl)
theorem decorrelate_Has_4_b {E : Env} (N : Nat) (hb : Base Try.prog (decorrelate_Has_C N) E 0) : Blk Try.prog (decorrelate_Has_C N) E [] decorrelate_Has_S1 (decorrelate_Has_L.drop 6) (fun y => decorrelate_Has_4 N) (decorrelate_Has_K N) :=
  Blk.chunkAt hb 2 (X := (decorrelate_Has_K N .normal)) (NxOk.end (by kernel_rfl)) rfl (fun x => by kernel_rfl)
theorem decorrelate_Has_2_b {E : Env} (N : Nat) (hb : Base Try.prog (decorrelate_Has_C N) E 0) : Blk Try.prog (decorrelate_Has_C N) E [7, 41, 42] decorrelate_Has_S0 (decorrelate_Has_L.drop 5) (fun y => decorrelate_Has_2 N y.1.1 y.1.2.1 y.2.1) (decorrelate_Has_K N) :=
  Blk.loopAt (Nf := N) (hns := [7, 41, 42]) (ans := []) (hc := decorrelate_Has_S0) (ac := decorrelate_Has_S1) (bid := 0) (step := (fun y => decorrelate_Has_s3 N y.1.1 y.1.2.1 y.2.1)) (J := (fun e => (goK 0 [] decorrelate_Has_S1 (fun y => decorrelate_Has_4 N)) (decorrelate_Has_S1.st [] e))) hb (by kernel_rfl) (Blk.into (X := (goK 0 [] decorrelate_Has_S1 (fun y => decorrelate_Has_4 N))) (NxOk.go hb (decorrelate_Has_4_b N hb)) (fun x => by kernel_rfl)) (decorrelate_Has_s3_b N hb) (fun x => by kernel_rfl)
theorem decorrelate_Has_1_b {E : Env} (N : Nat) (hb : Base Try.prog (decorrelate_Has_C N) E 0) : Blk Try.prog (decorrelate_Has_C N) E [3, 4] decorrelate_Has_S2 (decorrelate_Has_L.drop 3) (fun y => decorrelate_Has_1 N y.2.1 y.2.2.1) (decorrelate_Has_K N) :=
  Blk.chunkAt hb 2 (X := (goK 0 [7, 41, 42] decorrelate_Has_S0 (fun y => decorrelate_Has_2 N y.1.1 y.1.2.1 y.2.1))) (NxOk.go hb (decorrelate_Has_2_b N hb)) rfl (fun x => by kernel_rfl)
theorem decorrelate_Has_b {E : Env} (N : Nat) (hb : Base Try.prog (decorrelate_Has_C N) E 0) : Blk Try.prog (decorrelate_Has_C N) E (List.range decorrelate_Has_S3.ks.length) decorrelate_Has_S3 (decorrelate_Has_L.drop 0) (fun y => decorrelate_Has N y.1.1 y.1.2.1 y.1.2.2.1) (decorrelate_Has_K N) :=
  Blk.chunkAt hb 3 (X := (goK 0 [3, 4] decorrelate_Has_S2 (fun y => decorrelate_Has_1 N y.2.1 y.2.2.1))) (NxOk.go hb (decorrelate_Has_1_b N hb)) rfl (fun x => by kernel_rfl)
noncomputable def decorrelate_Has_ctr (N : Nat) : Ctr := ⟨decorrelate_Has_S3, decorrelate_Has_S4.un [false], 0, (fun y => decorrelate_Has N y.1.1 y.1.2.1 y.1.2.2.1)⟩
theorem decorrelate_Has_ctrs (N : Nat) : CtrsOk Try.prog (decorrelate_Has_C N) := ctrs_of (Γ := decorrelate_Has_C N) G_ifs_ok (by
  intro p hp
  simp only [decorrelate_Has_C, List.mem_cons, List.not_mem_nil, or_false] at hp
  rcases hp with rfl | rfl | rfl | rfl
  · exact decorrelate_ofAddress_ok N
  · exact decorrelate_ofNumber_ok N
  · exact decorrelate_ofBox_ok N
  · exact decorrelate_side_has_ok N)
theorem decorrelate_Has_ok (N : Nat) : Ctr.ok Try.prog G_globs 51 (decorrelate_Has_ctr N) :=
  ctr_fn (Γ := decorrelate_Has_C N) (rfit := decorrelate_Has_S4) (bs := [false]) (res := [6]) (by kernel_rfl) (tys_ok G_tys_ok) (decorrelate_Has_ctrs N) Try.func51 (by kernel_rfl) (by kernel_rfl) Try.ntmps51 (by kernel_rfl) (by kernel_rfl) (by kernel_rfl) (by kernel_rfl) (fun E hb => decorrelate_Has_b N hb)
end Go.Proofs.Ytgbkkfpheahdfaa
namespace Go.Proofs.Ytgbkkfpheahdfaa
open Go
set_option maxRecDepth 100000
set_option linter.unusedVariables false
/-! ipsecgate/lookup.Rule -/
abbrev lookup_Rule_R : Type := ((Int × Bool × Unit) × (Unit))
noncomputable def lookup_Rule_s7 (N : Nat) (outbound_2 : Bool) (i_8 : Int) (t_12 : (List D59)) (t_13 : Int) (t_14 : Int) (t_20 : (List D45)) (t_21 : Int) (t_22 : Int) (p_4 : D29) : Option (Lo ((Bool × Int × (List D59) × Int × Int × (List D45) × Int × Int × Unit) × (D29 × Unit)) ((Bool × (List D59) × Int × Int × Unit) × (D29 × Unit)) (Lo ((Bool × (List D59) × Int × Int × Unit) × (D29 × Unit)) ((Unit) × (Unit)) lookup_Rule_R)) :=
  bif (decide (t_22 < t_21)) then
    bif inR t_22 t_20.length then
    Option.bind (decorrelate_Has N (t_20.getD t_22.toNat (((0 : Int), (0 : UInt64), (0 : UInt64), ()), ((0 : Int), (0 : UInt64), (0 : UInt64), ()), ((0 : Int), (0 : UInt64), (0 : UInt64), ()), ((0 : Int), (0 : UInt64), (0 : UInt64), ()), (0 : Int), (0 : Int), (List.replicate 2 (0 : Int)), (List.replicate 2 (0 : Int)), ())) p_4 outbound_2) fun y7 =>
    bif y7.1.1 then
      some (.rt (.rt ((i_8, true, ()), (()))))
    else
      some (.go ((outbound_2, i_8, t_12, t_13, t_14, t_20, t_21, (w64 (t_22 + (1 : Int))), ()), (p_4, ())))
    else none
  else
    some (.br ((outbound_2, t_12, t_13, t_14, ()), (p_4, ())))
noncomputable def lookup_Rule_8 (N : Nat) (outbound_2 : Bool) (t_12 : (List D59)) (t_13 : Int) (t_14 : Int) (p_4 : D29) : Option (Lo ((Bool × (List D59) × Int × Int × Unit) × (D29 × Unit)) ((Unit) × (Unit)) lookup_Rule_R) :=
  some (.go ((outbound_2, t_12, t_13, (w64 (t_14 + (1 : Int))), ()), (p_4, ())))
noncomputable def lookup_Rule_6 (N : Nat) (outbound_2 : Bool) (i_8 : Int) (t_12 : (List D59)) (t_13 : Int) (t_14 : Int) (t_20 : (List D45)) (t_21 : Int) (t_22 : Int) (p_4 : D29) : Option (Lo ((Bool × (List D59) × Int × Int × Unit) × (D29 × Unit)) ((Unit) × (Unit)) lookup_Rule_R) :=
  loopK N (fun y => lookup_Rule_s7 N y.1.1 y.1.2.1 y.1.2.2.1 y.1.2.2.2.1 y.1.2.2.2.2.1 y.1.2.2.2.2.2.1 y.1.2.2.2.2.2.2.1 y.1.2.2.2.2.2.2.2.1 y.2.1) (fun (e : ((Bool × (List D59) × Int × Int × Unit) × (D29 × Unit))) => lookup_Rule_8 N e.1.1 e.1.2.1 e.1.2.2.1 e.1.2.2.2.1 e.2.1) ((outbound_2, i_8, t_12, t_13, t_14, t_20, t_21, t_22, ()), (p_4, ()))
noncomputable def lookup_Rule_5 (N : Nat) (outbound_2 : Bool) (t_12 : (List D59)) (t_13 : Int) (t_14 : Int) (p_4 : D29) : Option (Lo ((Bool × (List D59) × Int × Int × Unit) × (D29 × Unit)) ((Unit) × (Unit)) lookup_Rule_R) :=
  bif inR t_14 t_12.length then
  let x3 := t_12.getD t_14.toNat ((0 : Int), ([] : List UInt8), ([] : List D45), ())
  lookup_Rule_6 N outbound_2 t_14 t_12 t_13 t_14 x3.2.2.1 (x3.2.2.1.length : Int) (0 : Int) p_4
  else none
noncomputable def lookup_Rule_3 (N : Nat) (outbound_2 : Bool) (t_12 : (List D59)) (t_13 : Int) (t_14 : Int) (p_4 : D29) : Option (Lo ((Bool × (List D59) × Int × Int × Unit) × (D29 × Unit)) ((Unit) × (Unit)) lookup_Rule_R) :=
  lookup_Rule_5 N outbound_2 t_12 t_13 t_14 p_4
noncomputable def lookup_Rule_s2 (N : Nat) (outbound_2 : Bool) (t_12 : (List D59)) (t_13 : Int) (t_14 : Int) (p_4 : D29) : Option (Lo ((Bool × (List D59) × Int × Int × Unit) × (D29 × Unit)) ((Unit) × (Unit)) lookup_Rule_R) :=
  bif (decide (t_14 < t_13)) then
    lookup_Rule_3 N outbound_2 t_12 t_13 t_14 p_4
  else
    some (.br ((()), (())))
noncomputable def lookup_Rule_9 (N : Nat) : Option lookup_Rule_R :=
  some (((0 : Int), false, ()), (()))
noncomputable def lookup_Rule_1 (N : Nat) (outbound_2 : Bool) (t_12 : (List D59)) (t_13 : Int) (t_14 : Int) (p_4 : D29) : Option lookup_Rule_R :=
  loopK N (fun y => lookup_Rule_s2 N y.1.1 y.1.2.1 y.1.2.2.1 y.1.2.2.2.1 y.2.1) (fun (e : ((Unit) × (Unit))) => lookup_Rule_9 N) ((outbound_2, t_12, t_13, t_14, ()), (p_4, ()))
noncomputable def lookup_Rule (N : Nat) (l_0 : (List D59)) (p_1 : D29) (outbound_2 : Bool) : Option lookup_Rule_R :=
  lookup_Rule_1 N outbound_2 l_0 (l_0.length : Int) (0 : Int) p_1
noncomputable def lookup_Rule_C (N : Nat) : Ctx := ⟨33, G_tys, [(51, decorrelate_Has_ctr N)], G_globs, G_ifs⟩
noncomputable def lookup_Rule_S0 : Spec := ⟨[.val .bool, .ref 0 T29, .val .i64, .val (.sl T59), .val .i64, .val .i64, .val (.sl T45), .val .i64, .val .i64], [(.box 30 T29, .pos 1)]⟩
noncomputable def lookup_Rule_S1 : Spec := ⟨[.val .bool, .ref 0 T29, .val (.sl T59), .val .i64, .val .i64], [(.box 30 T29, .pos 1)]⟩
noncomputable def lookup_Rule_S2 : Spec := ⟨[], []⟩
noncomputable def lookup_Rule_S3 : Spec := ⟨[.val (.sl T59), .val T29, .val .bool], []⟩
noncomputable def lookup_Rule_S4 : Spec := ⟨[.val .i64, .val .bool], []⟩
noncomputable def lookup_Rule_K (_N : Nat) : XE → GS → Option lookup_Rule_R := retK 0 [6, 7] [false, false] lookup_Rule_S4
noncomputable def lookup_Rule_L : List Code := (bodyOf (some Try.f38))
noncomputable def lookup_Rule_L2 : List Code := (loopOf (lookup_Rule_L[2]?))
noncomputable def lookup_Rule_L4b : List Code := (blockOf (lookup_Rule_L2[2]?))
noncomputable def lookup_Rule_L7 : List Code := (loopOf (lookup_Rule_L4b[2]?))
noncomputable def lookup_Rule_K2 (N : Nat) : XE → GS → Option (Lo ((Bool × (List D59) × Int × Int × Unit) × (D29 × Unit)) ((Unit) × (Unit)) lookup_Rule_R) := roundK (some 0) (fit 0 [2, 4, 12, 13, 14] lookup_Rule_S1) (fit 0 [] lookup_Rule_S2) (lookup_Rule_K N)
noncomputable def lookup_Rule_K4 (N : Nat) : XE → GS → Option (Lo ((Bool × (List D59) × Int × Int × Unit) × (D29 × Unit)) ((Unit) × (Unit)) lookup_Rule_R) := blockK 1 (goK 0 [2, 4, 12, 13, 14] lookup_Rule_S1 (fun y => lookup_Rule_8 N y.1.1 y.1.2.1 y.1.2.2.1 y.1.2.2.2.1 y.2.1)) (lookup_Rule_K2 N)
noncomputable def lookup_Rule_K7 (N : Nat) : XE → GS → Option (Lo ((Bool × Int × (List D59) × Int × Int × (List D45) × Int × Int × Unit) × (D29 × Unit)) ((Bool × (List D59) × Int × Int × Unit) × (D29 × Unit)) (Lo ((Bool × (List D59) × Int × Int × Unit) × (D29 × Unit)) ((Unit) × (Unit)) lookup_Rule_R)) := roundK (some 2) (fit 0 [2, 4, 8, 12, 13, 14, 20, 21, 22] lookup_Rule_S0) (fit 0 [2, 4, 12, 13, 14] lookup_Rule_S1) (lookup_Rule_K4 N)
theorem lookup_Rule_s7_b {E : Env} (N : Nat) (hb : Base Try.prog (lookup_Rule_C N) E 0) : Blk Try.prog (lookup_Rule_C N) E [2, 4, 8, 12, 13, 14, 20, 21, 22] lookup_Rule_S0 (lookup_Rule_L7.drop 0) (fun y => lookup_Rule_s7 N y.1.1 y.1.2.1 y.1.2.2.1 y.1.2.2.2.1 y.1.2.2.2.2.1 y.1.2.2.2.2.2.1 y.1.2.2.2.2.2.2.1 y.1.2.2.2.2.2.2.2.1 y.2.1) (lookup_Rule_K7 N) :=
  Blk.chunkAt hb 4 (X := (lookup_Rule_K7 N .normal)) (NxOk.end (by kernel_rfl)) rfl (fun x => by kernel_rfl)
theorem lookup_Rule_8_b {E : Env} (N : Nat) (hb : Base Try.prog (lookup_Rule_C N) E 0) : Blk Try.prog (lookup_Rule_C N) E [2, 4, 12, 13, 14] lookup_Rule_S1 (lookup_Rule_L2.drop 3) (fun y => lookup_Rule_8 N y.1.1 y.1.2.1 y.1.2.2.1 y.1.2.2.2.1 y.2.1) (lookup_Rule_K2 N) :=
  Blk.chunkAt hb 1 (X := (lookup_Rule_K2 N .normal)) (NxOk.end (by kernel_rfl)) rfl (fun x => by kernel_rfl)
theorem lookup_Rule_6_b {E : Env} (N : Nat) (hb : Base Try.prog (lookup_Rule_C N) E 0) : Blk Try.prog (lookup_Rule_C N) E [2, 4, 8, 12, 13, 14, 20, 21, 22] lookup_Rule_S0 (lookup_Rule_L4b.drop 2) (fun y => lookup_Rule_6 N y.1.1 y.1.2.1 y.1.2.2.1 y.1.2.2.2.1 y.1.2.2.2.2.1 y.1.2.2.2.2.2.1 y.1.2.2.2.2.2.2.1 y.1.2.2.2.2.2.2.2.1 y.2.1) (lookup_Rule_K4 N) :=
  Blk.loopAt (Nf := N) (hns := [2, 4, 8, 12, 13, 14, 20, 21, 22]) (ans := [2, 4, 12, 13, 14]) (hc := lookup_Rule_S0) (ac := lookup_Rule_S1) (bid := 2) (step := (fun y => lookup_Rule_s7 N y.1.1 y.1.2.1 y.1.2.2.1 y.1.2.2.2.1 y.1.2.2.2.2.1 y.1.2.2.2.2.2.1 y.1.2.2.2.2.2.2.1 y.1.2.2.2.2.2.2.2.1 y.2.1)) (J := (fun e => (lookup_Rule_K4 N .normal) (lookup_Rule_S1.st [2, 4, 12, 13, 14] e))) hb (by kernel_rfl) (Blk.into (X := (lookup_Rule_K4 N .normal)) (NxOk.end (by kernel_rfl)) (fun x => by kernel_rfl)) (lookup_Rule_s7_b N hb) (fun x => by kernel_rfl)
theorem lookup_Rule_5_b {E : Env} (N : Nat) (hb : Base Try.prog (lookup_Rule_C N) E 0) : Blk Try.prog (lookup_Rule_C N) E [2, 4, 12, 13, 14] lookup_Rule_S1 (lookup_Rule_L4b.drop 0) (fun y => lookup_Rule_5 N y.1.1 y.1.2.1 y.1.2.2.1 y.1.2.2.2.1 y.2.1) (lookup_Rule_K4 N) :=
  Blk.chunkAt hb 2 (X := (goK 0 [2, 4, 8, 12, 13, 14, 20, 21, 22] lookup_Rule_S0 (fun y => lookup_Rule_6 N y.1.1 y.1.2.1 y.1.2.2.1 y.1.2.2.2.1 y.1.2.2.2.2.1 y.1.2.2.2.2.2.1 y.1.2.2.2.2.2.2.1 y.1.2.2.2.2.2.2.2.1 y.2.1))) (NxOk.go hb (lookup_Rule_6_b N hb)) rfl (fun x => by kernel_rfl)
theorem lookup_Rule_3_b {E : Env} (N : Nat) (hb : Base Try.prog (lookup_Rule_C N) E 0) : Blk Try.prog (lookup_Rule_C N) E [2, 4, 12, 13, 14] lookup_Rule_S1 (lookup_Rule_L2.drop 2) (fun y => lookup_Rule_3 N y.1.1 y.1.2.1 y.1.2.2.1 y.1.2.2.2.1 y.2.1) (lookup_Rule_K2 N) :=
  Blk.blockAt (bid := 1) (X := (goK 0 [2, 4, 12, 13, 14] lookup_Rule_S1 (fun y => lookup_Rule_8 N y.1.1 y.1.2.1 y.1.2.2.1 y.1.2.2.2.1 y.2.1))) (Y := (goK 0 [2, 4, 12, 13, 14] lookup_Rule_S1 (fun y => lookup_Rule_5 N y.1.1 y.1.2.1 y.1.2.2.1 y.1.2.2.2.1 y.2.1))) (by kernel_rfl) (NxOk.go hb (lookup_Rule_8_b N hb)) (NxOk.go hb (lookup_Rule_5_b N hb)) (fun x => by kernel_rfl)
theorem lookup_Rule_s2_b {E : Env} (N : Nat) (hb : Base Try.prog (lookup_Rule_C N) E 0) : Blk Try.prog (lookup_Rule_C N) E [2, 4, 12, 13, 14] lookup_Rule_S1 (lookup_Rule_L2.drop 0) (fun y => lookup_Rule_s2 N y.1.1 y.1.2.1 y.1.2.2.1 y.1.2.2.2.1 y.2.1) (lookup_Rule_K2 N) :=
  Blk.chunkAt hb 2 (X := (goK 0 [2, 4, 12, 13, 14] lookup_Rule_S1 (fun y => lookup_Rule_3 N y.1.1 y.1.2.1 y.1.2.2.1 y.1.2.2.2.1 y.2.1))) (NxOk.go hb (lookup_Rule_3_b N hb)) rfl (fun x => by kernel_rfl)
theorem lookup_Rule_9_b {E : Env} (N : Nat) (hb : Base Try.prog (lookup_Rule_C N) E 0) : Blk Try.prog (lookup_Rule_C N) E [] lookup_Rule_S2 (lookup_Rule_L.drop 3) (fun y => lookup_Rule_9 N) (lookup_Rule_K N) :=
  Blk.chunkAt hb 2 (X := (lookup_Rule_K N .normal)) (NxOk.end (by kernel_rfl)) rfl (fun x => by kernel_rfl)
theorem lookup_Rule_1_b {E : Env} (N : Nat) (hb : Base Try.prog (lookup_Rule_C N) E 0) : Blk Try.prog (lookup_Rule_C N) E [2, 4, 12, 13, 14] lookup_Rule_S1 (lookup_Rule_L.drop 2) (fun y => lookup_Rule_1 N y.1.1 y.1.2.1 y.1.2.2.1 y.1.2.2.2.1 y.2.1) (lookup_Rule_K N) :=
  Blk.loopAt (Nf := N) (hns := [2, 4, 12, 13, 14]) (ans := []) (hc := lookup_Rule_S1) (ac := lookup_Rule_S2) (bid := 0) (step := (fun y => lookup_Rule_s2 N y.1.1 y.1.2.1 y.1.2.2.1 y.1.2.2.2.1 y.2.1)) (J := (fun e => (goK 0 [] lookup_Rule_S2 (fun y => lookup_Rule_9 N)) (lookup_Rule_S2.st [] e))) hb (by kernel_rfl) (Blk.into (X := (goK 0 [] lookup_Rule_S2 (fun y => lookup_Rule_9 N))) (NxOk.go hb (lookup_Rule_9_b N hb)) (fun x => by kernel_rfl)) (lookup_Rule_s2_b N hb) (fun x => by kernel_rfl)
theorem lookup_Rule_b {E : Env} (N : Nat) (hb : Base Try.prog (lookup_Rule_C N) E 0) : Blk Try.prog (lookup_Rule_C N) E (List.range lookup_Rule_S3.ks.length) lookup_Rule_S3 (lookup_Rule_L.drop 0) (fun y => lookup_Rule N y.1.1 y.1.2.1 y.1.2.2.1) (lookup_Rule_K N) :=
  Blk.chunkAt hb 2 (X := (goK 0 [2, 4, 12, 13, 14] lookup_Rule_S1 (fun y => lookup_Rule_1 N y.1.1 y.1.2.1 y.1.2.2.1 y.1.2.2.2.1 y.2.1))) (NxOk.go hb (lookup_Rule_1_b N hb)) rfl (fun x => by kernel_rfl)
noncomputable def lookup_Rule_ctr (N : Nat) : Ctr := ⟨lookup_Rule_S3, lookup_Rule_S4.un [false, false], 0, (fun y => lookup_Rule N y.1.1 y.1.2.1 y.1.2.2.1)⟩
theorem lookup_Rule_ctrs (N : Nat) : CtrsOk Try.prog (lookup_Rule_C N) := ctrs_of (Γ := lookup_Rule_C N) G_ifs_ok (by
  intro p hp
  simp only [lookup_Rule_C, List.mem_cons, List.not_mem_nil, or_false] at hp
  rcases hp with rfl
  · exact decorrelate_Has_ok N)
theorem lookup_Rule_ok (N : Nat) : Ctr.ok Try.prog G_globs 38 (lookup_Rule_ctr N) :=
  ctr_fn (Γ := lookup_Rule_C N) (rfit := lookup_Rule_S4) (bs := [false, false]) (res := [6, 7]) (by kernel_rfl) (tys_ok G_tys_ok) (lookup_Rule_ctrs N) Try.func38 (by kernel_rfl) (by kernel_rfl) Try.ntmps38 (by kernel_rfl) (by kernel_rfl) (by kernel_rfl) (by kernel_rfl) (fun E hb => lookup_Rule_b N hb)
end Go.Proofs.Ytgbkkfpheahdfaa
namespace Go.Proofs.Ytgbkkfpheahdfaa
open Go
set_option maxRecDepth 100000
set_option linter.unusedVariables false
/-! ipsecgate/lookup.hidden -/
abbrev lookup_hidden_R : Type := ((Bool × Bool × Unit) × (Unit))
noncomputable def lookup_hidden (N : Nat) (p_0 : D29) : Option lookup_hidden_R :=
  let x1 := decide (p_0.2.2.2.1 = (-1 : Int))
  let x2 := decide (p_0.2.2.2.2.1 = (-1 : Int))
  bif (decide (p_0.2.2.1 = (6 : Int))) then
    some ((x1, x2, ()), (()))
  else
    bif (decide (p_0.2.2.1 = (17 : Int))) then
      some ((x1, x2, ()), (()))
    else
      bif (decide (p_0.2.2.1 = (1 : Int))) then
        some ((x1, false, ()), (()))
      else
        bif (decide (p_0.2.2.1 = (58 : Int))) then
          some ((x1, false, ()), (()))
        else
          some ((false, false, ()), (()))
noncomputable def lookup_hidden_C (N : Nat) : Ctx := ⟨21, G_tys, [], G_globs, G_ifs⟩
noncomputable def lookup_hidden_S0 : Spec := ⟨[.val T29], []⟩
noncomputable def lookup_hidden_S1 : Spec := ⟨[.val .bool, .val .bool], []⟩
noncomputable def lookup_hidden_K (_N : Nat) : XE → GS → Option lookup_hidden_R := retK 0 [2, 3] [false, false] lookup_hidden_S1
noncomputable def lookup_hidden_L : List Code := (bodyOf (some Try.f87))
theorem lookup_hidden_b {E : Env} (N : Nat) (hb : Base Try.prog (lookup_hidden_C N) E 0) : Blk Try.prog (lookup_hidden_C N) E (List.range lookup_hidden_S0.ks.length) lookup_hidden_S0 (lookup_hidden_L.drop 0) (fun y => lookup_hidden N y.1.1) (lookup_hidden_K N) :=
  Blk.chunkAt hb 6 (X := (lookup_hidden_K N .normal)) (NxOk.end (by kernel_rfl)) rfl (fun x => by kernel_rfl)
noncomputable def lookup_hidden_ctr (N : Nat) : Ctr := ⟨lookup_hidden_S0, lookup_hidden_S1.un [false, false], 0, (fun y => lookup_hidden N y.1.1)⟩
theorem lookup_hidden_ctrs (N : Nat) : CtrsOk Try.prog (lookup_hidden_C N) := ctrs_nil G_ifs_ok rfl
theorem lookup_hidden_ok (N : Nat) : Ctr.ok Try.prog G_globs 87 (lookup_hidden_ctr N) :=
  ctr_fn (Γ := lookup_hidden_C N) (rfit := lookup_hidden_S1) (bs := [false, false]) (res := [2, 3]) (by kernel_rfl) (tys_ok G_tys_ok) (lookup_hidden_ctrs N) Try.func87 (by kernel_rfl) (by kernel_rfl) Try.ntmps87 (by kernel_rfl) (by kernel_rfl) (by kernel_rfl) (by kernel_rfl) (fun E hb => lookup_hidden_b N hb)
end Go.Proofs.Ytgbkkfpheahdfaa
namespace Go.Proofs.Ytgbkkfpheahdfaa
open Go
set_option maxRecDepth 100000
set_option linter.unusedVariables false
/-! ipsecgate/lookup.could -/
abbrev lookup_could_R : Type := ((Bool × Unit) × (Unit))
noncomputable def lookup_could (N : Nat) (b_0 : D45) (p_1 : D29) (outbound_2 : Bool) : Option lookup_could_R :=
  Option.bind (lookup_hidden N p_1) fun y1 =>
  bif (!outbound_2) then
    bif y1.1.2.1 then
      let x3 := (b_0.2.2.2.2.2.2.1.getD 1 (0 : Int))
      bif y1.1.1 then
        let x4 := (b_0.2.2.2.2.2.2.2.1.getD 1 (0 : Int))
        bif (!y1.1.2.1) then
          bif (!y1.1.1) then
            Option.bind (decorrelate_Has N b_0 (p_1.1, p_1.2.1, p_1.2.2.1, x4, x3, ()) outbound_2) fun y7 =>
            some ((y7.1.1, ()), (()))
          else
            bif (decide ((0 : Int) ≤ x4)) then
              Option.bind (decorrelate_Has N b_0 (p_1.1, p_1.2.1, p_1.2.2.1, x4, x3, ()) outbound_2) fun y9 =>
              some ((y9.1.1, ()), (()))
            else
              some ((false, ()), (()))
        else
          bif (decide ((0 : Int) ≤ x3)) then
            bif (!y1.1.1) then
              Option.bind (decorrelate_Has N b_0 (p_1.1, p_1.2.1, p_1.2.2.1, x4, x3, ()) outbound_2) fun y12 =>
              some ((y12.1.1, ()), (()))
            else
              bif (decide ((0 : Int) ≤ x4)) then
                Option.bind (decorrelate_Has N b_0 (p_1.1, p_1.2.1, p_1.2.2.1, x4, x3, ()) outbound_2) fun y14 =>
                some ((y14.1.1, ()), (()))
              else
                some ((false, ()), (()))
          else
            some ((false, ()), (()))
      else
        bif (!y1.1.2.1) then
          bif (!y1.1.1) then
            Option.bind (decorrelate_Has N b_0 (p_1.1, p_1.2.1, p_1.2.2.1, p_1.2.2.2.1, x3, ()) outbound_2) fun y17 =>
            some ((y17.1.1, ()), (()))
          else
            bif (decide ((0 : Int) ≤ p_1.2.2.2.1)) then
              Option.bind (decorrelate_Has N b_0 (p_1.1, p_1.2.1, p_1.2.2.1, p_1.2.2.2.1, x3, ()) outbound_2) fun y19 =>
              some ((y19.1.1, ()), (()))
            else
              some ((false, ()), (()))
        else
          bif (decide ((0 : Int) ≤ x3)) then
            bif (!y1.1.1) then
              Option.bind (decorrelate_Has N b_0 (p_1.1, p_1.2.1, p_1.2.2.1, p_1.2.2.2.1, x3, ()) outbound_2) fun y22 =>
              some ((y22.1.1, ()), (()))
            else
              bif (decide ((0 : Int) ≤ p_1.2.2.2.1)) then
                Option.bind (decorrelate_Has N b_0 (p_1.1, p_1.2.1, p_1.2.2.1, p_1.2.2.2.1, x3, ()) outbound_2) fun y24 =>
                some ((y24.1.1, ()), (()))
              else
                some ((false, ()), (()))
          else
            some ((false, ()), (()))
    else
      bif y1.1.1 then
        let x25 := (b_0.2.2.2.2.2.2.2.1.getD 1 (0 : Int))
        bif (!y1.1.2.1) then
          bif (!y1.1.1) then
            Option.bind (decorrelate_Has N b_0 (p_1.1, p_1.2.1, p_1.2.2.1, x25, p_1.2.2.2.2.1, ()) outbound_2) fun y28 =>
            some ((y28.1.1, ()), (()))
          else
            bif (decide ((0 : Int) ≤ x25)) then
              Option.bind (decorrelate_Has N b_0 (p_1.1, p_1.2.1, p_1.2.2.1, x25, p_1.2.2.2.2.1, ()) outbound_2) fun y30 =>
              some ((y30.1.1, ()), (()))
            else
              some ((false, ()), (()))
        else
          bif (decide ((0 : Int) ≤ p_1.2.2.2.2.1)) then
            bif (!y1.1.1) then
              Option.bind (decorrelate_Has N b_0 (p_1.1, p_1.2.1, p_1.2.2.1, x25, p_1.2.2.2.2.1, ()) outbound_2) fun y33 =>
              some ((y33.1.1, ()), (()))
            else
              bif (decide ((0 : Int) ≤ x25)) then
                Option.bind (decorrelate_Has N b_0 (p_1.1, p_1.2.1, p_1.2.2.1, x25, p_1.2.2.2.2.1, ()) outbound_2) fun y35 =>
                some ((y35.1.1, ()), (()))
              else
                some ((false, ()), (()))
          else
            some ((false, ()), (()))
      else
        bif (!y1.1.2.1) then
          bif (!y1.1.1) then
            Option.bind (decorrelate_Has N b_0 p_1 outbound_2) fun y38 =>
            some ((y38.1.1, ()), (()))
          else
            bif (decide ((0 : Int) ≤ p_1.2.2.2.1)) then
              Option.bind (decorrelate_Has N b_0 p_1 outbound_2) fun y40 =>
              some ((y40.1.1, ()), (()))
            else
              some ((false, ()), (()))
        else
          bif (decide ((0 : Int) ≤ p_1.2.2.2.2.1)) then
            bif (!y1.1.1) then
              Option.bind (decorrelate_Has N b_0 p_1 outbound_2) fun y43 =>
              some ((y43.1.1, ()), (()))
            else
              bif (decide ((0 : Int) ≤ p_1.2.2.2.1)) then
                Option.bind (decorrelate_Has N b_0 p_1 outbound_2) fun y45 =>
                some ((y45.1.1, ()), (()))
              else
                some ((false, ()), (()))
          else
            some ((false, ()), (()))
  else
    bif y1.1.1 then
      let x46 := (b_0.2.2.2.2.2.2.1.getD 1 (0 : Int))
      bif y1.1.2.1 then
        let x47 := (b_0.2.2.2.2.2.2.2.1.getD 1 (0 : Int))
        bif (!y1.1.1) then
          bif (!y1.1.2.1) then
            Option.bind (decorrelate_Has N b_0 (p_1.1, p_1.2.1, p_1.2.2.1, x46, x47, ()) outbound_2) fun y50 =>
            some ((y50.1.1, ()), (()))
          else
            bif (decide ((0 : Int) ≤ x47)) then
              Option.bind (decorrelate_Has N b_0 (p_1.1, p_1.2.1, p_1.2.2.1, x46, x47, ()) outbound_2) fun y52 =>
              some ((y52.1.1, ()), (()))
            else
              some ((false, ()), (()))
        else
          bif (decide ((0 : Int) ≤ x46)) then
            bif (!y1.1.2.1) then
              Option.bind (decorrelate_Has N b_0 (p_1.1, p_1.2.1, p_1.2.2.1, x46, x47, ()) outbound_2) fun y55 =>
              some ((y55.1.1, ()), (()))
            else
              bif (decide ((0 : Int) ≤ x47)) then
                Option.bind (decorrelate_Has N b_0 (p_1.1, p_1.2.1, p_1.2.2.1, x46, x47, ()) outbound_2) fun y57 =>
                some ((y57.1.1, ()), (()))
              else
                some ((false, ()), (()))
          else
            some ((false, ()), (()))
      else
        bif (!y1.1.1) then
          bif (!y1.1.2.1) then
            Option.bind (decorrelate_Has N b_0 (p_1.1, p_1.2.1, p_1.2.2.1, x46, p_1.2.2.2.2.1, ()) outbound_2) fun y60 =>
            some ((y60.1.1, ()), (()))
          else
            bif (decide ((0 : Int) ≤ p_1.2.2.2.2.1)) then
              Option.bind (decorrelate_Has N b_0 (p_1.1, p_1.2.1, p_1.2.2.1, x46, p_1.2.2.2.2.1, ()) outbound_2) fun y62 =>
              some ((y62.1.1, ()), (()))
            else
              some ((false, ()), (()))
        else
          bif (decide ((0 : Int) ≤ x46)) then
            bif (!y1.1.2.1) then
              Option.bind (decorrelate_Has N b_0 (p_1.1, p_1.2.1, p_1.2.2.1, x46, p_1.2.2.2.2.1, ()) outbound_2) fun y65 =>
              some ((y65.1.1, ()), (()))
            else
              bif (decide ((0 : Int) ≤ p_1.2.2.2.2.1)) then
                Option.bind (decorrelate_Has N b_0 (p_1.1, p_1.2.1, p_1.2.2.1, x46, p_1.2.2.2.2.1, ()) outbound_2) fun y67 =>
                some ((y67.1.1, ()), (()))
              else
                some ((false, ()), (()))
          else
            some ((false, ()), (()))
    else
      bif y1.1.2.1 then
        let x68 := (b_0.2.2.2.2.2.2.2.1.getD 1 (0 : Int))
        bif (!y1.1.1) then
          bif (!y1.1.2.1) then
            Option.bind (decorrelate_Has N b_0 (p_1.1, p_1.2.1, p_1.2.2.1, p_1.2.2.2.1, x68, ()) outbound_2) fun y71 =>
            some ((y71.1.1, ()), (()))
          else
            bif (decide ((0 : Int) ≤ x68)) then
              Option.bind (decorrelate_Has N b_0 (p_1.1, p_1.2.1, p_1.2.2.1, p_1.2.2.2.1, x68, ()) outbound_2) fun y73 =>
              some ((y73.1.1, ()), (()))
            else
              some ((false, ()), (()))
        else
          bif (decide ((0 : Int) ≤ p_1.2.2.2.1)) then
            bif (!y1.1.2.1) then
              Option.bind (decorrelate_Has N b_0 (p_1.1, p_1.2.1, p_1.2.2.1, p_1.2.2.2.1, x68, ()) outbound_2) fun y76 =>
              some ((y76.1.1, ()), (()))
            else
              bif (decide ((0 : Int) ≤ x68)) then
                Option.bind (decorrelate_Has N b_0 (p_1.1, p_1.2.1, p_1.2.2.1, p_1.2.2.2.1, x68, ()) outbound_2) fun y78 =>
                some ((y78.1.1, ()), (()))
              else
                some ((false, ()), (()))
          else
            some ((false, ()), (()))
      else
        bif (!y1.1.1) then
          bif (!y1.1.2.1) then
            Option.bind (decorrelate_Has N b_0 p_1 outbound_2) fun y81 =>
            some ((y81.1.1, ()), (()))
          else
            bif (decide ((0 : Int) ≤ p_1.2.2.2.2.1)) then
              Option.bind (decorrelate_Has N b_0 p_1 outbound_2) fun y83 =>
              some ((y83.1.1, ()), (()))
            else
              some ((false, ()), (()))
        else
          bif (decide ((0 : Int) ≤ p_1.2.2.2.1)) then
            bif (!y1.1.2.1) then
              Option.bind (decorrelate_Has N b_0 p_1 outbound_2) fun y86 =>
              some ((y86.1.1, ()), (()))
            else
              bif (decide ((0 : Int) ≤ p_1.2.2.2.2.1)) then
                Option.bind (decorrelate_Has N b_0 p_1 outbound_2) fun y88 =>
                some ((y88.1.1, ()), (()))
              else
                some ((false, ()), (()))
          else
            some ((false, ()), (()))
noncomputable def lookup_could_C (N : Nat) : Ctx := ⟨60, G_tys, [(87, lookup_hidden_ctr N), (51, decorrelate_Has_ctr N)], G_globs, G_ifs⟩
noncomputable def lookup_could_S0 : Spec := ⟨[.val T45, .val T29, .val .bool], []⟩
noncomputable def lookup_could_S1 : Spec := ⟨[.val .bool], []⟩
noncomputable def lookup_could_K (_N : Nat) : XE → GS → Option lookup_could_R := retK 0 [6] [false] lookup_could_S1
noncomputable def lookup_could_L : List Code := (bodyOf (some Try.f88))
theorem lookup_could_b {E : Env} (N : Nat) (hb : Base Try.prog (lookup_could_C N) E 0) : Blk Try.prog (lookup_could_C N) E (List.range lookup_could_S0.ks.length) lookup_could_S0 (lookup_could_L.drop 0) (fun y => lookup_could N y.1.1 y.1.2.1 y.1.2.2.1) (lookup_could_K N) :=
  Blk.chunkAt hb 11 (X := (lookup_could_K N .normal)) (NxOk.end (by kernel_rfl)) rfl (fun x => by kernel_rfl)
noncomputable def lookup_could_ctr (N : Nat) : Ctr := ⟨lookup_could_S0, lookup_could_S1.un [false], 0, (fun y => lookup_could N y.1.1 y.1.2.1 y.1.2.2.1)⟩
theorem lookup_could_ctrs (N : Nat) : CtrsOk Try.prog (lookup_could_C N) := ctrs_of (Γ := lookup_could_C N) G_ifs_ok (by
  intro p hp
  simp only [lookup_could_C, List.mem_cons, List.not_mem_nil, or_false] at hp
  rcases hp with rfl | rfl
  · exact lookup_hidden_ok N
  · exact decorrelate_Has_ok N)
theorem lookup_could_ok (N : Nat) : Ctr.ok Try.prog G_globs 88 (lookup_could_ctr N) :=
  ctr_fn (Γ := lookup_could_C N) (rfit := lookup_could_S1) (bs := [false]) (res := [6]) (by kernel_rfl) (tys_ok G_tys_ok) (lookup_could_ctrs N) Try.func88 (by kernel_rfl) (by kernel_rfl) Try.ntmps88 (by kernel_rfl) (by kernel_rfl) (by kernel_rfl) (by kernel_rfl) (fun E hb => lookup_could_b N hb)
end Go.Proofs.Ytgbkkfpheahdfaa
namespace Go.Proofs.Ytgbkkfpheahdfaa
open Go
set_option maxRecDepth 100000
set_option linter.unusedVariables false
/-! ipsecgate/lookup.Action -/
abbrev lookup_Action_R : Type := ((Int × Int × Unit) × (Unit))
noncomputable def lookup_Action_s12 (N : Nat) (outbound_2 : Bool) (r_8 : Int) (ok_9 : Bool) (i_13 : Int) (t_53 : (List D59)) (t_54 : Int) (t_55 : Int) (t_61 : (List D45)) (t_62 : Int) (t_63 : Int) (p_4 : D29) (x_14 : D59) : Option (Lo ((Bool × Int × Bool × Int × (List D59) × Int × Int × (List D45) × Int × Int × Unit) × (D29 × D59 × Unit)) ((Bool × Int × Bool × (List D59) × Int × Int × Unit) × (D29 × Unit)) (Lo ((Bool × Int × Bool × (List D59) × Int × Int × Unit) × (D29 × Unit)) ((Int × Bool × Unit) × (Unit)) lookup_Action_R)) :=
  bif (decide (t_63 < t_62)) then
    bif inR t_63 t_61.length then
    bif (!(decide (x_14.1 = (1 : Int)))) then
      Option.bind (lookup_could N (t_61.getD t_63.toNat (((0 : Int), (0 : UInt64), (0 : UInt64), ()), ((0 : Int), (0 : UInt64), (0 : UInt64), ()), ((0 : Int), (0 : UInt64), (0 : UInt64), ()), ((0 : Int), (0 : UInt64), (0 : UInt64), ()), (0 : Int), (0 : Int), (List.replicate 2 (0 : Int)), (List.replicate 2 (0 : Int)), ())) p_4 outbound_2) fun y14 =>
      bif y14.1.1 then
        some (.rt (.rt (((0 : Int), i_13, ()), (()))))
      else
        some (.go ((outbound_2, r_8, ok_9, i_13, t_53, t_54, t_55, t_61, t_62, (w64 (t_63 + (1 : Int))), ()), (p_4, x_14, ())))
    else
      some (.go ((outbound_2, r_8, ok_9, i_13, t_53, t_54, t_55, t_61, t_62, (w64 (t_63 + (1 : Int))), ()), (p_4, x_14, ())))
    else none
  else
    some (.br ((outbound_2, r_8, ok_9, t_53, t_54, t_55, ()), (p_4, ())))
noncomputable def lookup_Action_13 (N : Nat) (outbound_2 : Bool) (r_8 : Int) (ok_9 : Bool) (t_53 : (List D59)) (t_54 : Int) (t_55 : Int) (p_4 : D29) : Option (Lo ((Bool × Int × Bool × (List D59) × Int × Int × Unit) × (D29 × Unit)) ((Int × Bool × Unit) × (Unit)) lookup_Action_R) :=
  some (.go ((outbound_2, r_8, ok_9, t_53, t_54, (w64 (t_55 + (1 : Int))), ()), (p_4, ())))
noncomputable def lookup_Action_11 (N : Nat) (outbound_2 : Bool) (r_8 : Int) (ok_9 : Bool) (i_13 : Int) (t_53 : (List D59)) (t_54 : Int) (t_55 : Int) (t_61 : (List D45)) (t_62 : Int) (t_63 : Int) (p_4 : D29) (x_14 : D59) : Option (Lo ((Bool × Int × Bool × (List D59) × Int × Int × Unit) × (D29 × Unit)) ((Int × Bool × Unit) × (Unit)) lookup_Action_R) :=
  loopK N (fun y => lookup_Action_s12 N y.1.1 y.1.2.1 y.1.2.2.1 y.1.2.2.2.1 y.1.2.2.2.2.1 y.1.2.2.2.2.2.1 y.1.2.2.2.2.2.2.1 y.1.2.2.2.2.2.2.2.1 y.1.2.2.2.2.2.2.2.2.1 y.1.2.2.2.2.2.2.2.2.2.1 y.2.1 y.2.2.1) (fun (e : ((Bool × Int × Bool × (List D59) × Int × Int × Unit) × (D29 × Unit))) => lookup_Action_13 N e.1.1 e.1.2.1 e.1.2.2.1 e.1.2.2.2.1 e.1.2.2.2.2.1 e.1.2.2.2.2.2.1 e.2.1) ((outbound_2, r_8, ok_9, i_13, t_53, t_54, t_55, t_61, t_62, t_63, ()), (p_4, x_14, ()))
noncomputable def lookup_Action_10 (N : Nat) (outbound_2 : Bool) (r_8 : Int) (ok_9 : Bool) (t_53 : (List D59)) (t_54 : Int) (t_55 : Int) (p_4 : D29) : Option (Lo ((Bool × Int × Bool × (List D59) × Int × Int × Unit) × (D29 × Unit)) ((Int × Bool × Unit) × (Unit)) lookup_Action_R) :=
  bif inR t_55 t_53.length then
  let x9 := t_53.getD t_55.toNat ((0 : Int), ([] : List UInt8), ([] : List D45), ())
  lookup_Action_11 N outbound_2 r_8 ok_9 t_55 t_53 t_54 t_55 x9.2.2.1 (x9.2.2.1.length : Int) (0 : Int) p_4 x9
  else none
noncomputable def lookup_Action_8 (N : Nat) (outbound_2 : Bool) (r_8 : Int) (ok_9 : Bool) (t_53 : (List D59)) (t_54 : Int) (t_55 : Int) (p_4 : D29) : Option (Lo ((Bool × Int × Bool × (List D59) × Int × Int × Unit) × (D29 × Unit)) ((Int × Bool × Unit) × (Unit)) lookup_Action_R) :=
  lookup_Action_10 N outbound_2 r_8 ok_9 t_53 t_54 t_55 p_4
noncomputable def lookup_Action_s7 (N : Nat) (outbound_2 : Bool) (r_8 : Int) (ok_9 : Bool) (t_53 : (List D59)) (t_54 : Int) (t_55 : Int) (p_4 : D29) : Option (Lo ((Bool × Int × Bool × (List D59) × Int × Int × Unit) × (D29 × Unit)) ((Int × Bool × Unit) × (Unit)) lookup_Action_R) :=
  bif (decide (t_55 < t_54)) then
    lookup_Action_8 N outbound_2 r_8 ok_9 t_53 t_54 t_55 p_4
  else
    some (.br ((r_8, ok_9, ()), (())))
noncomputable def lookup_Action_14 (N : Nat) (r_8 : Int) (ok_9 : Bool) : Option lookup_Action_R :=
  bif !ok_9 then
    some (((0 : Int), (-1 : Int), ()), (()))
  else
    some (((1 : Int), r_8, ()), (()))
noncomputable def lookup_Action_6 (N : Nat) (outbound_2 : Bool) (r_8 : Int) (ok_9 : Bool) (t_53 : (List D59)) (t_54 : Int) (t_55 : Int) (p_4 : D29) : Option lookup_Action_R :=
  loopK N (fun y => lookup_Action_s7 N y.1.1 y.1.2.1 y.1.2.2.1 y.1.2.2.2.1 y.1.2.2.2.2.1 y.1.2.2.2.2.2.1 y.2.1) (fun (e : ((Int × Bool × Unit) × (Unit))) => lookup_Action_14 N e.1.1 e.1.2.1) ((outbound_2, r_8, ok_9, t_53, t_54, t_55, ()), (p_4, ()))
noncomputable def lookup_Action_5 (N : Nat) (outbound_2 : Bool) (r_8 : Int) (ok_9 : Bool) (ahead_10 : (List D59)) (p_4 : D29) : Option lookup_Action_R :=
  lookup_Action_6 N outbound_2 r_8 ok_9 ahead_10 (ahead_10.length : Int) (0 : Int) p_4
noncomputable def lookup_Action_3 (N : Nat) (outbound_2 : Bool) (r_8 : Int) (ok_9 : Bool) (ahead_10 : (List D59)) (t_52 : Bool) (p_4 : D29) : Option lookup_Action_R :=
  bif t_52 then
    lookup_Action_5 N outbound_2 r_8 ok_9 ahead_10 p_4
  else
    lookup_Action_14 N r_8 ok_9
noncomputable def lookup_Action_2 (N : Nat) (outbound_2 : Bool) (r_8 : Int) (ok_9 : Bool) (ahead_10 : (List D59)) (p_4 : D29) : Option lookup_Action_R :=
  Option.bind (lookup_hidden N p_4) fun y6 =>
  bif y6.1.1 then
    lookup_Action_3 N outbound_2 r_8 ok_9 ahead_10 true p_4
  else
    lookup_Action_3 N outbound_2 r_8 ok_9 ahead_10 y6.1.2.1 p_4
noncomputable def lookup_Action_1 (N : Nat) (l_0 : (List D59)) (outbound_2 : Bool) (r_8 : Int) (ok_9 : Bool) (t_32 : Bool) (p_4 : D29) : Option lookup_Action_R :=
  bif t_32 then
    bif inR r_8 l_0.length then
    some (((l_0.getD r_8.toNat ((0 : Int), ([] : List UInt8), ([] : List D45), ())).1, r_8, ()), (()))
    else none
  else
    bif ok_9 then
      bif decide (0 ≤ (0 : Int)) && decide ((0 : Int) ≤ r_8) && decide (r_8 ≤ (l_0.length : Int)) && true then
      lookup_Action_2 N outbound_2 r_8 ok_9 (cut l_0 0 r_8.toNat) p_4
      else none
    else
      lookup_Action_2 N outbound_2 r_8 ok_9 l_0 p_4
noncomputable def lookup_Action (N : Nat) (l_0 : (List D59)) (p_1 : D29) (outbound_2 : Bool) : Option lookup_Action_R :=
  Option.bind (lookup_Rule N l_0 p_1 outbound_2) fun y1 =>
  bif y1.1.2.1 then
    bif inR y1.1.1 l_0.length then
    lookup_Action_1 N l_0 outbound_2 y1.1.1 y1.1.2.1 (!(decide ((l_0.getD y1.1.1.toNat ((0 : Int), ([] : List UInt8), ([] : List D45), ())).1 = (1 : Int)))) p_1
    else none
  else
    lookup_Action_1 N l_0 outbound_2 y1.1.1 y1.1.2.1 false p_1
noncomputable def lookup_Action_C (N : Nat) : Ctx := ⟨82, G_tys, [(38, lookup_Rule_ctr N), (87, lookup_hidden_ctr N), (88, lookup_could_ctr N)], G_globs, G_ifs⟩
noncomputable def lookup_Action_S0 : Spec := ⟨[.val .bool, .ref 0 T29, .val .i64, .val .bool, .val .i64, .ref 1 T59, .val (.sl T59), .val .i64, .val .i64, .val (.sl T45), .val .i64, .val .i64], [(.box 30 T29, .pos 1), (.box 60 T59, .pos 5)]⟩
noncomputable def lookup_Action_S1 : Spec := ⟨[.val .bool, .ref 0 T29, .val .i64, .val .bool, .val (.sl T59), .val .i64, .val .i64], [(.box 30 T29, .pos 1)]⟩
noncomputable def lookup_Action_S2 : Spec := ⟨[.val .i64, .val .bool], []⟩
noncomputable def lookup_Action_S3 : Spec := ⟨[.val .bool, .ref 0 T29, .val .i64, .val .bool, .val (.sl T59)], [(.box 30 T29, .pos 1)]⟩
noncomputable def lookup_Action_S4 : Spec := ⟨[.val .bool, .ref 0 T29, .val .i64, .val .bool, .val (.sl T59), .val .bool], [(.box 30 T29, .pos 1)]⟩
noncomputable def lookup_Action_S5 : Spec := ⟨[.val (.sl T59), .val .bool, .ref 0 T29, .val .i64, .val .bool, .val .bool], [(.box 30 T29, .pos 2)]⟩
noncomputable def lookup_Action_S6 : Spec := ⟨[.val (.sl T59), .val T29, .val .bool], []⟩
noncomputable def lookup_Action_S7 : Spec := ⟨[.val .i64, .val .i64], []⟩
noncomputable def lookup_Action_K (_N : Nat) : XE → GS → Option lookup_Action_R := retK 0 [6, 7] [false, false] lookup_Action_S7
noncomputable def lookup_Action_L : List Code := (bodyOf (some Try.f37))
noncomputable def lookup_Action_L4t : List Code := (thenOf (lookup_Action_L[9]?))
noncomputable def lookup_Action_L7 : List Code := (loopOf (lookup_Action_L4t[1]?))
noncomputable def lookup_Action_L9b : List Code := (blockOf (lookup_Action_L7[2]?))
noncomputable def lookup_Action_L12 : List Code := (loopOf (lookup_Action_L9b[2]?))
noncomputable def lookup_Action_L4e : List Code := (elseOf (lookup_Action_L[9]?))
noncomputable def lookup_Action_K4 (N : Nat) : XE → GS → Option lookup_Action_R := nextK (goK 0 [8, 9] lookup_Action_S2 (fun y => lookup_Action_14 N y.1.1 y.1.2.1)) (lookup_Action_K N)
noncomputable def lookup_Action_K7 (N : Nat) : XE → GS → Option (Lo ((Bool × Int × Bool × (List D59) × Int × Int × Unit) × (D29 × Unit)) ((Int × Bool × Unit) × (Unit)) lookup_Action_R) := roundK (some 0) (fit 0 [2, 4, 8, 9, 53, 54, 55] lookup_Action_S1) (fit 0 [8, 9] lookup_Action_S2) (lookup_Action_K4 N)
noncomputable def lookup_Action_K9 (N : Nat) : XE → GS → Option (Lo ((Bool × Int × Bool × (List D59) × Int × Int × Unit) × (D29 × Unit)) ((Int × Bool × Unit) × (Unit)) lookup_Action_R) := blockK 1 (goK 0 [2, 4, 8, 9, 53, 54, 55] lookup_Action_S1 (fun y => lookup_Action_13 N y.1.1 y.1.2.1 y.1.2.2.1 y.1.2.2.2.1 y.1.2.2.2.2.1 y.1.2.2.2.2.2.1 y.2.1)) (lookup_Action_K7 N)
noncomputable def lookup_Action_K12 (N : Nat) : XE → GS → Option (Lo ((Bool × Int × Bool × Int × (List D59) × Int × Int × (List D45) × Int × Int × Unit) × (D29 × D59 × Unit)) ((Bool × Int × Bool × (List D59) × Int × Int × Unit) × (D29 × Unit)) (Lo ((Bool × Int × Bool × (List D59) × Int × Int × Unit) × (D29 × Unit)) ((Int × Bool × Unit) × (Unit)) lookup_Action_R)) := roundK (some 2) (fit 0 [2, 4, 8, 9, 13, 14, 53, 54, 55, 61, 62, 63] lookup_Action_S0) (fit 0 [2, 4, 8, 9, 53, 54, 55] lookup_Action_S1) (lookup_Action_K9 N)
theorem lookup_Action_s12_b {E : Env} (N : Nat) (hb : Base Try.prog (lookup_Action_C N) E 0) : Blk Try.prog (lookup_Action_C N) E [2, 4, 8, 9, 13, 14, 53, 54, 55, 61, 62, 63] lookup_Action_S0 (lookup_Action_L12.drop 0) (fun y => lookup_Action_s12 N y.1.1 y.1.2.1 y.1.2.2.1 y.1.2.2.2.1 y.1.2.2.2.2.1 y.1.2.2.2.2.2.1 y.1.2.2.2.2.2.2.1 y.1.2.2.2.2.2.2.2.1 y.1.2.2.2.2.2.2.2.2.1 y.1.2.2.2.2.2.2.2.2.2.1 y.2.1 y.2.2.1) (lookup_Action_K12 N) :=
  Blk.chunkAt hb 4 (X := (lookup_Action_K12 N .normal)) (NxOk.end (by kernel_rfl)) rfl (fun x => by kernel_rfl)
theorem lookup_Action_13_b {E : Env} (N : Nat) (hb : Base Try.prog (lookup_Action_C N) E 0) : Blk Try.prog (lookup_Action_C N) E [2, 4, 8, 9, 53, 54, 55] lookup_Action_S1 (lookup_Action_L7.drop 3) (fun y => lookup_Action_13 N y.1.1 y.1.2.1 y.1.2.2.1 y.1.2.2.2.1 y.1.2.2.2.2.1 y.1.2.2.2.2.2.1 y.2.1) (lookup_Action_K7 N) :=
  Blk.chunkAt hb 1 (X := (lookup_Action_K7 N .normal)) (NxOk.end (by kernel_rfl)) rfl (fun x => by kernel_rfl)
theorem lookup_Action_11_b {E : Env} (N : Nat) (hb : Base Try.prog (lookup_Action_C N) E 0) : Blk Try.prog (lookup_Action_C N) E [2, 4, 8, 9, 13, 14, 53, 54, 55, 61, 62, 63] lookup_Action_S0 (lookup_Action_L9b.drop 2) (fun y => lookup_Action_11 N y.1.1 y.1.2.1 y.1.2.2.1 y.1.2.2.2.1 y.1.2.2.2.2.1 y.1.2.2.2.2.2.1 y.1.2.2.2.2.2.2.1 y.1.2.2.2.2.2.2.2.1 y.1.2.2.2.2.2.2.2.2.1 y.1.2.2.2.2.2.2.2.2.2.1 y.2.1 y.2.2.1) (lookup_Action_K9 N) :=
  Blk.loopAt (Nf := N) (hns := [2, 4, 8, 9, 13, 14, 53, 54, 55, 61, 62, 63]) (ans := [2, 4, 8, 9, 53, 54, 55]) (hc := lookup_Action_S0) (ac := lookup_Action_S1) (bid := 2) (step := (fun y => lookup_Action_s12 N y.1.1 y.1.2.1 y.1.2.2.1 y.1.2.2.2.1 y.1.2.2.2.2.1 y.1.2.2.2.2.2.1 y.1.2.2.2.2.2.2.1 y.1.2.2.2.2.2.2.2.1 y.1.2.2.2.2.2.2.2.2.1 y.1.2.2.2.2.2.2.2.2.2.1 y.2.1 y.2.2.1)) (J := (fun e => (lookup_Action_K9 N .normal) (lookup_Action_S1.st [2, 4, 8, 9, 53, 54, 55] e))) hb (by kernel_rfl) (Blk.into (X := (lookup_Action_K9 N .normal)) (NxOk.end (by kernel_rfl)) (fun x => by kernel_rfl)) (lookup_Action_s12_b N hb) (fun x => by kernel_rfl)
theorem lookup_Action_10_b {E : Env} (N : Nat) (hb : Base Try.prog (lookup_Action_C N) E 0) : Blk Try.prog (lookup_Action_C N) E [2, 4, 8, 9, 53, 54, 55] lookup_Action_S1 (lookup_Action_L9b.drop 0) (fun y => lookup_Action_10 N y.1.1 y.1.2.1 y.1.2.2.1 y.1.2.2.2.1 y.1.2.2.2.2.1 y.1.2.2.2.2.2.1 y.2.1) (lookup_Action_K9 N) :=
  Blk.chunkAt hb 2 (X := (goK 0 [2, 4, 8, 9, 13, 14, 53, 54, 55, 61, 62, 63] lookup_Action_S0 (fun y => lookup_Action_11 N y.1.1 y.1.2.1 y.1.2.2.1 y.1.2.2.2.1 y.1.2.2.2.2.1 y.1.2.2.2.2.2.1 y.1.2.2.2.2.2.2.1 y.1.2.2.2.2.2.2.2.1 y.1.2.2.2.2.2.2.2.2.1 y.1.2.2.2.2.2.2.2.2.2.1 y.2.1 y.2.2.1))) (NxOk.go hb (lookup_Action_11_b N hb)) rfl (fun x => by kernel_rfl)
theorem lookup_Action_8_b {E : Env} (N : Nat) (hb : Base Try.prog (lookup_Action_C N) E 0) : Blk Try.prog (lookup_Action_C N) E [2, 4, 8, 9, 53, 54, 55] lookup_Action_S1 (lookup_Action_L7.drop 2) (fun y => lookup_Action_8 N y.1.1 y.1.2.1 y.1.2.2.1 y.1.2.2.2.1 y.1.2.2.2.2.1 y.1.2.2.2.2.2.1 y.2.1) (lookup_Action_K7 N) :=
  Blk.blockAt (bid := 1) (X := (goK 0 [2, 4, 8, 9, 53, 54, 55] lookup_Action_S1 (fun y => lookup_Action_13 N y.1.1 y.1.2.1 y.1.2.2.1 y.1.2.2.2.1 y.1.2.2.2.2.1 y.1.2.2.2.2.2.1 y.2.1))) (Y := (goK 0 [2, 4, 8, 9, 53, 54, 55] lookup_Action_S1 (fun y => lookup_Action_10 N y.1.1 y.1.2.1 y.1.2.2.1 y.1.2.2.2.1 y.1.2.2.2.2.1 y.1.2.2.2.2.2.1 y.2.1))) (by kernel_rfl) (NxOk.go hb (lookup_Action_13_b N hb)) (NxOk.go hb (lookup_Action_10_b N hb)) (fun x => by kernel_rfl)
theorem lookup_Action_s7_b {E : Env} (N : Nat) (hb : Base Try.prog (lookup_Action_C N) E 0) : Blk Try.prog (lookup_Action_C N) E [2, 4, 8, 9, 53, 54, 55] lookup_Action_S1 (lookup_Action_L7.drop 0) (fun y => lookup_Action_s7 N y.1.1 y.1.2.1 y.1.2.2.1 y.1.2.2.2.1 y.1.2.2.2.2.1 y.1.2.2.2.2.2.1 y.2.1) (lookup_Action_K7 N) :=
  Blk.chunkAt hb 2 (X := (goK 0 [2, 4, 8, 9, 53, 54, 55] lookup_Action_S1 (fun y => lookup_Action_8 N y.1.1 y.1.2.1 y.1.2.2.1 y.1.2.2.2.1 y.1.2.2.2.2.1 y.1.2.2.2.2.2.1 y.2.1))) (NxOk.go hb (lookup_Action_8_b N hb)) rfl (fun x => by kernel_rfl)
theorem lookup_Action_14_b {E : Env} (N : Nat) (hb : Base Try.prog (lookup_Action_C N) E 0) : Blk Try.prog (lookup_Action_C N) E [8, 9] lookup_Action_S2 (lookup_Action_L.drop 10) (fun y => lookup_Action_14 N y.1.1 y.1.2.1) (lookup_Action_K N) :=
  Blk.chunkAt hb 4 (X := (lookup_Action_K N .normal)) (NxOk.end (by kernel_rfl)) rfl (fun x => by kernel_rfl)
theorem lookup_Action_6_b {E : Env} (N : Nat) (hb : Base Try.prog (lookup_Action_C N) E 0) : Blk Try.prog (lookup_Action_C N) E [2, 4, 8, 9, 53, 54, 55] lookup_Action_S1 (lookup_Action_L4t.drop 1) (fun y => lookup_Action_6 N y.1.1 y.1.2.1 y.1.2.2.1 y.1.2.2.2.1 y.1.2.2.2.2.1 y.1.2.2.2.2.2.1 y.2.1) (lookup_Action_K4 N) :=
  Blk.loopAt (Nf := N) (hns := [2, 4, 8, 9, 53, 54, 55]) (ans := [8, 9]) (hc := lookup_Action_S1) (ac := lookup_Action_S2) (bid := 0) (step := (fun y => lookup_Action_s7 N y.1.1 y.1.2.1 y.1.2.2.1 y.1.2.2.2.1 y.1.2.2.2.2.1 y.1.2.2.2.2.2.1 y.2.1)) (J := (fun e => (lookup_Action_K4 N .normal) (lookup_Action_S2.st [8, 9] e))) hb (by kernel_rfl) (Blk.into (X := (lookup_Action_K4 N .normal)) (NxOk.end (by kernel_rfl)) (fun x => by kernel_rfl)) (lookup_Action_s7_b N hb) (fun x => by kernel_rfl)
theorem lookup_Action_5_b {E : Env} (N : Nat) (hb : Base Try.prog (lookup_Action_C N) E 0) : Blk Try.prog (lookup_Action_C N) E [2, 4, 8, 9, 10] lookup_Action_S3 (lookup_Action_L4t.drop 0) (fun y => lookup_Action_5 N y.1.1 y.1.2.1 y.1.2.2.1 y.1.2.2.2.1 y.2.1) (lookup_Action_K4 N) :=
  Blk.chunkAt hb 1 (X := (goK 0 [2, 4, 8, 9, 53, 54, 55] lookup_Action_S1 (fun y => lookup_Action_6 N y.1.1 y.1.2.1 y.1.2.2.1 y.1.2.2.2.1 y.1.2.2.2.2.1 y.1.2.2.2.2.2.1 y.2.1))) (NxOk.go hb (lookup_Action_6_b N hb)) rfl (fun x => by kernel_rfl)
theorem lookup_Action_3_b {E : Env} (N : Nat) (hb : Base Try.prog (lookup_Action_C N) E 0) : Blk Try.prog (lookup_Action_C N) E [2, 4, 8, 9, 10, 52] lookup_Action_S4 (lookup_Action_L.drop 9) (fun y => lookup_Action_3 N y.1.1 y.1.2.1 y.1.2.2.1 y.1.2.2.2.1 y.1.2.2.2.2.1 y.2.1) (lookup_Action_K N) :=
  Blk.condAt (n := 52) (X := (goK 0 [8, 9] lookup_Action_S2 (fun y => lookup_Action_14 N y.1.1 y.1.2.1))) (A := (goK 0 [2, 4, 8, 9, 10] lookup_Action_S3 (fun y => lookup_Action_5 N y.1.1 y.1.2.1 y.1.2.2.1 y.1.2.2.2.1 y.2.1))) (B := (lookup_Action_K4 N .normal)) (by kernel_rfl) (NxOk.go hb (lookup_Action_14_b N hb)) (NxOk.go hb (lookup_Action_5_b N hb)) (NxOk.skipAt (by kernel_rfl)) (fun x => by kernel_rfl)
theorem lookup_Action_2_b {E : Env} (N : Nat) (hb : Base Try.prog (lookup_Action_C N) E 0) : Blk Try.prog (lookup_Action_C N) E [2, 4, 8, 9, 10] lookup_Action_S3 (lookup_Action_L.drop 7) (fun y => lookup_Action_2 N y.1.1 y.1.2.1 y.1.2.2.1 y.1.2.2.2.1 y.2.1) (lookup_Action_K N) :=
  Blk.chunkAt hb 2 (X := (goK 0 [2, 4, 8, 9, 10, 52] lookup_Action_S4 (fun y => lookup_Action_3 N y.1.1 y.1.2.1 y.1.2.2.1 y.1.2.2.2.1 y.1.2.2.2.2.1 y.2.1))) (NxOk.go hb (lookup_Action_3_b N hb)) rfl (fun x => by kernel_rfl)
theorem lookup_Action_1_b {E : Env} (N : Nat) (hb : Base Try.prog (lookup_Action_C N) E 0) : Blk Try.prog (lookup_Action_C N) E [0, 2, 4, 8, 9, 32] lookup_Action_S5 (lookup_Action_L.drop 3) (fun y => lookup_Action_1 N y.1.1 y.1.2.1 y.1.2.2.1 y.1.2.2.2.1 y.1.2.2.2.2.1 y.2.1) (lookup_Action_K N) :=
  Blk.chunkAt hb 4 (X := (goK 0 [2, 4, 8, 9, 10] lookup_Action_S3 (fun y => lookup_Action_2 N y.1.1 y.1.2.1 y.1.2.2.1 y.1.2.2.2.1 y.2.1))) (NxOk.go hb (lookup_Action_2_b N hb)) rfl (fun x => by kernel_rfl)
theorem lookup_Action_b {E : Env} (N : Nat) (hb : Base Try.prog (lookup_Action_C N) E 0) : Blk Try.prog (lookup_Action_C N) E (List.range lookup_Action_S6.ks.length) lookup_Action_S6 (lookup_Action_L.drop 0) (fun y => lookup_Action N y.1.1 y.1.2.1 y.1.2.2.1) (lookup_Action_K N) :=
  Blk.chunkAt hb 3 (X := (goK 0 [0, 2, 4, 8, 9, 32] lookup_Action_S5 (fun y => lookup_Action_1 N y.1.1 y.1.2.1 y.1.2.2.1 y.1.2.2.2.1 y.1.2.2.2.2.1 y.2.1))) (NxOk.go hb (lookup_Action_1_b N hb)) rfl (fun x => by kernel_rfl)
noncomputable def lookup_Action_ctr (N : Nat) : Ctr := ⟨lookup_Action_S6, lookup_Action_S7.un [false, false], 0, (fun y => lookup_Action N y.1.1 y.1.2.1 y.1.2.2.1)⟩
theorem lookup_Action_ctrs (N : Nat) : CtrsOk Try.prog (lookup_Action_C N) := ctrs_of (Γ := lookup_Action_C N) G_ifs_ok (by
  intro p hp
  simp only [lookup_Action_C, List.mem_cons, List.not_mem_nil, or_false] at hp
  rcases hp with rfl | rfl | rfl
  · exact lookup_Rule_ok N
  · exact lookup_hidden_ok N
  · exact lookup_could_ok N)
theorem lookup_Action_ok (N : Nat) : Ctr.ok Try.prog G_globs 37 (lookup_Action_ctr N) :=
  ctr_fn (Γ := lookup_Action_C N) (rfit := lookup_Action_S7) (bs := [false, false]) (res := [6, 7]) (by kernel_rfl) (tys_ok G_tys_ok) (lookup_Action_ctrs N) Try.func37 (by kernel_rfl) (by kernel_rfl) Try.ntmps37 (by kernel_rfl) (by kernel_rfl) (by kernel_rfl) (by kernel_rfl) (fun E hb => lookup_Action_b N hb)
end Go.Proofs.Ytgbkkfpheahdfaa
namespace Go.Proofs.Ytgbkkfpheahdfaa
open Go
set_option maxRecDepth 100000
set_option linter.unusedVariables false
/-! ipsecgate/ipsecgatelaw22.awake -/
abbrev law22_awake_R : Type := ((Bool × Unit) × (Unit))
noncomputable def law22_awake (N : Nat) : Option law22_awake_R :=
  let x1 := ([(-1 : Int), (65535 : Int)] : List Int)
  let x2 := ([(80 : Int), (80 : Int)] : List Int)
  let x3 := ([(-1 : Int), (65535 : Int)] : List Int)
  Option.bind (lookup_Action N ([((2 : Int), ([103, 111, 108, 100] : List UInt8), ([(((4 : Int), (0 : UInt64), (0 : UInt64), ()), ((4 : Int), (0 : UInt64), (4294967295 : UInt64), ()), ((4 : Int), (0 : UInt64), (0 : UInt64), ()), ((4 : Int), (0 : UInt64), (4294967295 : UInt64), ()), (0 : Int), (255 : Int), x1, x2, ())] : List D45), ()), ((1 : Int), ([] : List UInt8), ([(((4 : Int), (0 : UInt64), (0 : UInt64), ()), ((4 : Int), (0 : UInt64), (4294967295 : UInt64), ()), ((4 : Int), (0 : UInt64), (0 : UInt64), ()), ((4 : Int), (0 : UInt64), (4294967295 : UInt64), ()), (0 : Int), (255 : Int), x1, x3, ())] : List D45), ())] : List D59) (((4 : Int), (0 : UInt64), (4294967295 : UInt64), ()), ((4 : Int), (0 : UInt64), (4294967295 : UInt64), ()), (6 : Int), (-1 : Int), (-1 : Int), ()) true) fun y4 =>
  Option.bind (lookup_Action N ([((2 : Int), ([103, 111, 108, 100] : List UInt8), ([(((4 : Int), (0 : UInt64), (0 : UInt64), ()), ((4 : Int), (0 : UInt64), (4294967295 : UInt64), ()), ((4 : Int), (0 : UInt64), (0 : UInt64), ()), ((4 : Int), (0 : UInt64), (4294967295 : UInt64), ()), (0 : Int), (255 : Int), x1, x2, ())] : List D45), ()), ((1 : Int), ([] : List UInt8), ([(((4 : Int), (0 : UInt64), (0 : UInt64), ()), ((4 : Int), (0 : UInt64), (4294967295 : UInt64), ()), ((4 : Int), (0 : UInt64), (0 : UInt64), ()), ((4 : Int), (0 : UInt64), (4294967295 : UInt64), ()), (0 : Int), (255 : Int), x1, x3, ())] : List D45), ())] : List D59) (((4 : Int), (0 : UInt64), (4294967295 : UInt64), ()), ((4 : Int), (0 : UInt64), (4294967295 : UInt64), ()), (6 : Int), (1 : Int), (81 : Int), ()) true) fun y5 =>
  bif (decide (y4.1.1 = (0 : Int))) then
    bif (decide (y4.1.2.1 = (0 : Int))) then
      bif (decide (y5.1.1 = (1 : Int))) then
        some (((decide (y5.1.2.1 = (1 : Int))), ()), (()))
      else
        some ((false, ()), (()))
    else
      some ((false, ()), (()))
  else
    some ((false, ()), (()))
noncomputable def law22_awake_C (N : Nat) : Ctx := ⟨59, G_tys, [(37, lookup_Action_ctr N)], G_globs, G_ifs⟩
noncomputable def law22_awake_S0 : Spec := ⟨[], []⟩
noncomputable def law22_awake_S1 : Spec := ⟨[.val .bool], []⟩
noncomputable def law22_awake_K (_N : Nat) : XE → GS → Option law22_awake_R := retK 0 [0] [false] law22_awake_S1
noncomputable def law22_awake_L : List Code := (bodyOf (some Try.f33))
theorem law22_awake_b {E : Env} (N : Nat) (hb : Base Try.prog (law22_awake_C N) E 0) : Blk Try.prog (law22_awake_C N) E (List.range law22_awake_S0.ks.length) law22_awake_S0 (law22_awake_L.drop 0) (fun y => law22_awake N) (law22_awake_K N) :=
  Blk.chunkAt hb 12 (X := (law22_awake_K N .normal)) (NxOk.end (by kernel_rfl)) rfl (fun x => by kernel_rfl)
noncomputable def law22_awake_ctr (N : Nat) : Ctr := ⟨law22_awake_S0, law22_awake_S1.un [false], 0, (fun y => law22_awake N)⟩
theorem law22_awake_ctrs (N : Nat) : CtrsOk Try.prog (law22_awake_C N) := ctrs_of (Γ := law22_awake_C N) G_ifs_ok (by
  intro p hp
  simp only [law22_awake_C, List.mem_cons, List.not_mem_nil, or_false] at hp
  rcases hp with rfl
  · exact lookup_Action_ok N)
theorem law22_awake_ok (N : Nat) : Ctr.ok Try.prog G_globs 33 (law22_awake_ctr N) :=
  ctr_fn (Γ := law22_awake_C N) (rfit := law22_awake_S1) (bs := [false]) (res := [0]) (by kernel_rfl) (tys_ok G_tys_ok) (law22_awake_ctrs N) Try.func33 (by kernel_rfl) (by kernel_rfl) Try.ntmps33 (by kernel_rfl) (by kernel_rfl) (by kernel_rfl) (by kernel_rfl) (fun E hb => law22_awake_b N hb)
end Go.Proofs.Ytgbkkfpheahdfaa
namespace Go.Proofs.Ytgbkkfpheahdfaa
open Go
set_option maxRecDepth 100000
set_option linter.unusedVariables false
/-! ipsecgate/ipsecgatemake.New -/
abbrev make_New_R : Type := ((Unit) × (((List UInt8) × (Int × Unit)) × Unit))
noncomputable def make_New_1 (N : Nat) (list_0 : (List UInt8)) : Option make_New_R :=
  some ((()), ((list_0, (0 : Int), ()), ()))
noncomputable def make_New (N : Nat) (list_0 : (List UInt8)) (most_1 : Int) : Option make_New_R :=
  bif (decide (most_1 < (list_0.length : Int))) then
    bif decide (0 ≤ (0 : Int)) && decide ((0 : Int) ≤ most_1) && decide (most_1 ≤ (list_0.length : Int)) && true then
    make_New_1 N (cut list_0 0 most_1.toNat)
    else none
  else
    make_New_1 N list_0
noncomputable def make_New_C (N : Nat) : Ctx := ⟨15, G_tys, [], G_globs, G_ifs⟩
noncomputable def make_New_S0 : Spec := ⟨[.val (.sl .u8)], []⟩
noncomputable def make_New_S1 : Spec := ⟨[.val (.sl .u8), .val .i64], []⟩
noncomputable def make_New_S2 : Spec := ⟨[.ref 0 (.pair (.sl .u8) (.pair .i64 .unit))], [(.box 113 (.pair (.sl .u8) (.pair .i64 .unit)), .pos 0)]⟩
noncomputable def make_New_K (_N : Nat) : XE → GS → Option make_New_R := retK 0 [4] [false] make_New_S2
noncomputable def make_New_L : List Code := (bodyOf (some Try.f28))
theorem make_New_1_b {E : Env} (N : Nat) (hb : Base Try.prog (make_New_C N) E 0) : Blk Try.prog (make_New_C N) E [0] make_New_S0 (make_New_L.drop 3) (fun y => make_New_1 N y.1.1) (make_New_K N) :=
  Blk.chunkAt hb 2 (X := (make_New_K N .normal)) (NxOk.end (by kernel_rfl)) rfl (fun x => by kernel_rfl)
theorem make_New_b {E : Env} (N : Nat) (hb : Base Try.prog (make_New_C N) E 0) : Blk Try.prog (make_New_C N) E (List.range make_New_S1.ks.length) make_New_S1 (make_New_L.drop 0) (fun y => make_New N y.1.1 y.1.2.1) (make_New_K N) :=
  Blk.chunkAt hb 3 (X := (goK 0 [0] make_New_S0 (fun y => make_New_1 N y.1.1))) (NxOk.go hb (make_New_1_b N hb)) rfl (fun x => by kernel_rfl)
noncomputable def make_New_ctr (N : Nat) : Ctr := ⟨make_New_S1, make_New_S2.un [false], 0, (fun y => make_New N y.1.1 y.1.2.1)⟩
theorem make_New_ctrs (N : Nat) : CtrsOk Try.prog (make_New_C N) := ctrs_nil G_ifs_ok rfl
theorem make_New_ok (N : Nat) : Ctr.ok Try.prog G_globs 28 (make_New_ctr N) :=
  ctr_fn (Γ := make_New_C N) (rfit := make_New_S2) (bs := [false]) (res := [4]) (by kernel_rfl) (tys_ok G_tys_ok) (make_New_ctrs N) Try.func28 (by kernel_rfl) (by kernel_rfl) Try.ntmps28 (by kernel_rfl) (by kernel_rfl) (by kernel_rfl) (by kernel_rfl) (fun E hb => make_New_b N hb)
end Go.Proofs.Ytgbkkfpheahdfaa
namespace Go.Proofs.Ytgbkkfpheahdfaa
open Go
set_option maxRecDepth 100000
set_option linter.unusedVariables false
/-! (*ipsecgate/ipsecgatemake.Codes).Left -/
abbrev make_Codes_Left_R : Type := ((Bool × Unit) × (Unit))
noncomputable def make_Codes_Left (N : Nat) (c_0 : ((List UInt8) × (Int × Unit))) : Option make_Codes_Left_R :=
  some (((decide (c_0.2.1 < (c_0.1.length : Int))), ()), (()))
noncomputable def make_Codes_Left_C (N : Nat) : Ctx := ⟨13, G_tys, [], G_globs, G_ifs⟩
noncomputable def make_Codes_Left_S0 : Spec := ⟨[.fp (.pair (.sl .u8) (.pair .i64 .unit))], []⟩
noncomputable def make_Codes_Left_S1 : Spec := ⟨[.val .bool], []⟩
noncomputable def make_Codes_Left_K (_N : Nat) : XE → GS → Option make_Codes_Left_R := retK 0 [2] [false] make_Codes_Left_S1
noncomputable def make_Codes_Left_L : List Code := (bodyOf (some Try.f86))
theorem make_Codes_Left_b {E : Env} (N : Nat) (hb : Base Try.prog (make_Codes_Left_C N) E 0) : Blk Try.prog (make_Codes_Left_C N) E (List.range make_Codes_Left_S0.ks.length) make_Codes_Left_S0 (make_Codes_Left_L.drop 0) (fun y => make_Codes_Left N y.1.1) (make_Codes_Left_K N) :=
  Blk.chunkAt hb 3 (X := (make_Codes_Left_K N .normal)) (NxOk.end (by kernel_rfl)) rfl (fun x => by kernel_rfl)
noncomputable def make_Codes_Left_ctr (N : Nat) : Ctr := ⟨make_Codes_Left_S0, make_Codes_Left_S1.un [false], 0, (fun y => make_Codes_Left N y.1.1)⟩
theorem make_Codes_Left_ctrs (N : Nat) : CtrsOk Try.prog (make_Codes_Left_C N) := ctrs_nil G_ifs_ok rfl
theorem make_Codes_Left_ok (N : Nat) : Ctr.ok Try.prog G_globs 86 (make_Codes_Left_ctr N) :=
  ctr_fn (Γ := make_Codes_Left_C N) (rfit := make_Codes_Left_S1) (bs := [false]) (res := [2]) (by kernel_rfl) (tys_ok G_tys_ok) (make_Codes_Left_ctrs N) Try.func86 (by kernel_rfl) (by kernel_rfl) Try.ntmps86 (by kernel_rfl) (by kernel_rfl) (by kernel_rfl) (by kernel_rfl) (fun E hb => make_Codes_Left_b N hb)
end Go.Proofs.Ytgbkkfpheahdfaa
namespace Go.Proofs.Ytgbkkfpheahdfaa
open Go
set_option maxRecDepth 100000
set_option linter.unusedVariables false
/-! (*ipsecgate/ipsecgatemake.Codes).Next -/
abbrev make_Codes_Next_R : Type := ((Int × Unit) × (((List UInt8) × (Int × Unit)) × Unit))
noncomputable def make_Codes_Next (N : Nat) (n_1 : Int) (c_0 : ((List UInt8) × (Int × Unit))) : Option make_Codes_Next_R :=
  Option.bind (make_Codes_Left N c_0) fun y1 =>
  bif (!y1.1.1) then
    some (((0 : Int), ()), (c_0, ()))
  else
    let x3 := w64 (c_0.2.1 + (1 : Int))
    let x4 := w64 (x3 - (1 : Int))
    bif inR x4 c_0.1.length then
    bif !(decide (n_1 = 0)) then
    some (((((c_0.1.getD x4.toNat (0 : UInt8)).toNat : Int).tmod n_1), ()), ((c_0.1, x3, ()), ()))
    else none
    else none
noncomputable def make_Codes_Next_C (N : Nat) : Ctx := ⟨29, G_tys, [(86, make_Codes_Left_ctr N)], G_globs, G_ifs⟩
noncomputable def make_Codes_Next_S0 : Spec := ⟨[.ref 0 (.pair (.sl .u8) (.pair .i64 .unit)), .val .i64], [(.box 113 (.pair (.sl .u8) (.pair .i64 .unit)), .pos 0)]⟩
noncomputable def make_Codes_Next_S1 : Spec := ⟨[.val .i64], [(.box 113 (.pair (.sl .u8) (.pair .i64 .unit)), .fix 0)]⟩
noncomputable def make_Codes_Next_K (_N : Nat) : XE → GS → Option make_Codes_Next_R := retK 1 [4] [false] make_Codes_Next_S1
noncomputable def make_Codes_Next_L : List Code := (bodyOf (some Try.f36))
theorem make_Codes_Next_b {E : Env} (N : Nat) (hb : Base Try.prog (make_Codes_Next_C N) E 1) : Blk Try.prog (make_Codes_Next_C N) E (List.range make_Codes_Next_S0.ks.length) make_Codes_Next_S0 (make_Codes_Next_L.drop 0) (fun y => make_Codes_Next N y.1.1 y.2.1) (make_Codes_Next_K N) :=
  Blk.chunkAt hb 6 (X := (make_Codes_Next_K N .normal)) (NxOk.end (by kernel_rfl)) rfl (fun x => by kernel_rfl)
noncomputable def make_Codes_Next_ctr (N : Nat) : Ctr := ⟨make_Codes_Next_S0, make_Codes_Next_S1.un [false], 1, (fun y => make_Codes_Next N y.1.1 y.2.1)⟩
theorem make_Codes_Next_ctrs (N : Nat) : CtrsOk Try.prog (make_Codes_Next_C N) := ctrs_of (Γ := make_Codes_Next_C N) G_ifs_ok (by
  intro p hp
  simp only [make_Codes_Next_C, List.mem_cons, List.not_mem_nil, or_false] at hp
  rcases hp with rfl
  · exact make_Codes_Left_ok N)
theorem make_Codes_Next_ok (N : Nat) : Ctr.ok Try.prog G_globs 36 (make_Codes_Next_ctr N) :=
  ctr_fn (Γ := make_Codes_Next_C N) (rfit := make_Codes_Next_S1) (bs := [false]) (res := [4]) (by kernel_rfl) (tys_ok G_tys_ok) (make_Codes_Next_ctrs N) Try.func36 (by kernel_rfl) (by kernel_rfl) Try.ntmps36 (by kernel_rfl) (by kernel_rfl) (by kernel_rfl) (by kernel_rfl) (fun E hb => make_Codes_Next_b N hb)
end Go.Proofs.Ytgbkkfpheahdfaa
namespace Go.Proofs.Ytgbkkfpheahdfaa
open Go
set_option maxRecDepth 100000
set_option linter.unusedVariables false
/-! (*ipsecgate/ipsecgatemake.Codes).Address -/
abbrev make_Codes_Address_R : Type := ((D27 × Unit) × (((List UInt8) × (Int × Unit)) × Unit))
noncomputable def make_Codes_Address (N : Nat) (family_1 : Int) (c_0 : ((List UInt8) × (Int × Unit))) : Option make_Codes_Address_R :=
  bif (decide (family_1 = (4 : Int))) then
    Option.bind (make_Codes_Next N (4 : Int) c_0) fun y2 =>
    bif inR y2.1.1 (([(167772160 : UInt64), (3232235520 : UInt64), (0 : UInt64), (4294967288 : UInt64)] : List UInt64).length) then
    Option.bind (make_Codes_Next N (8 : Int) y2.2.1) fun y4 =>
    some (((family_1, (0 : UInt64), ((([(167772160 : UInt64), (3232235520 : UInt64), (0 : UInt64), (4294967288 : UInt64)] : List UInt64).getD y2.1.1.toNat (0 : UInt64)) + (iu64 y4.1.1)), ()), ()), (y4.2.1, ()))
    else none
  else
    Option.bind (make_Codes_Next N (3 : Int) c_0) fun y7 =>
    bif inR y7.1.1 (([(2306139568115548160 : UInt64), (0 : UInt64), (18446744073709551615 : UInt64)] : List UInt64).length) then
    Option.bind (make_Codes_Next N (3 : Int) y7.2.1) fun y9 =>
    bif inR y9.1.1 (([(0 : UInt64), (18446744073709551608 : UInt64), (9223372036854775808 : UInt64)] : List UInt64).length) then
    Option.bind (make_Codes_Next N (8 : Int) y9.2.1) fun y11 =>
    some (((family_1, (([(2306139568115548160 : UInt64), (0 : UInt64), (18446744073709551615 : UInt64)] : List UInt64).getD y7.1.1.toNat (0 : UInt64)), ((([(0 : UInt64), (18446744073709551608 : UInt64), (9223372036854775808 : UInt64)] : List UInt64).getD y9.1.1.toNat (0 : UInt64)) + (iu64 y11.1.1)), ()), ()), (y11.2.1, ()))
    else none
    else none
noncomputable def make_Codes_Address_C (N : Nat) : Ctx := ⟨38, G_tys, [(36, make_Codes_Next_ctr N)], G_globs, G_ifs⟩
noncomputable def make_Codes_Address_S0 : Spec := ⟨[.ref 0 (.pair (.sl .u8) (.pair .i64 .unit)), .val .i64], [(.box 113 (.pair (.sl .u8) (.pair .i64 .unit)), .pos 0)]⟩
noncomputable def make_Codes_Address_S1 : Spec := ⟨[.fp T27], [(.box 113 (.pair (.sl .u8) (.pair .i64 .unit)), .fix 0)]⟩
noncomputable def make_Codes_Address_K (_N : Nat) : XE → GS → Option make_Codes_Address_R := retK 1 [4] [true] make_Codes_Address_S1
noncomputable def make_Codes_Address_L : List Code := (bodyOf (some Try.f55))
theorem make_Codes_Address_b {E : Env} (N : Nat) (hb : Base Try.prog (make_Codes_Address_C N) E 1) : Blk Try.prog (make_Codes_Address_C N) E (List.range make_Codes_Address_S0.ks.length) make_Codes_Address_S0 (make_Codes_Address_L.drop 0) (fun y => make_Codes_Address N y.1.1 y.2.1) (make_Codes_Address_K N) :=
  Blk.chunkAt hb 8 (X := (make_Codes_Address_K N .normal)) (NxOk.end (by kernel_rfl)) rfl (fun x => by kernel_rfl)
noncomputable def make_Codes_Address_ctr (N : Nat) : Ctr := ⟨make_Codes_Address_S0, make_Codes_Address_S1.un [true], 1, (fun y => make_Codes_Address N y.1.1 y.2.1)⟩
theorem make_Codes_Address_ctrs (N : Nat) : CtrsOk Try.prog (make_Codes_Address_C N) := ctrs_of (Γ := make_Codes_Address_C N) G_ifs_ok (by
  intro p hp
  simp only [make_Codes_Address_C, List.mem_cons, List.not_mem_nil, or_false] at hp
  rcases hp with rfl
  · exact make_Codes_Next_ok N)
theorem make_Codes_Address_ok (N : Nat) : Ctr.ok Try.prog G_globs 55 (make_Codes_Address_ctr N) :=
  ctr_fn (Γ := make_Codes_Address_C N) (rfit := make_Codes_Address_S1) (bs := [true]) (res := [4]) (by kernel_rfl) (tys_ok G_tys_ok) (make_Codes_Address_ctrs N) Try.func55 (by kernel_rfl) (by kernel_rfl) Try.ntmps55 (by kernel_rfl) (by kernel_rfl) (by kernel_rfl) (by kernel_rfl) (fun E hb => make_Codes_Address_b N hb)
end Go.Proofs.Ytgbkkfpheahdfaa
namespace Go.Proofs.Ytgbkkfpheahdfaa
open Go
set_option maxRecDepth 100000
set_option linter.unusedVariables false
/-! (*ipsecgate/ipsecgatemake.Codes).port -/
abbrev make_Codes_port_R : Type := ((Int × Unit) × (((List UInt8) × (Int × Unit)) × Unit))
noncomputable def make_Codes_port (N : Nat) (c_0 : ((List UInt8) × (Int × Unit))) : Option make_Codes_port_R :=
  Option.bind (make_Codes_Next N (5 : Int) c_0) fun y1 =>
  bif inR y1.1.1 (([(0 : Int), (80 : Int), (443 : Int), (65530 : Int), (1 : Int)] : List Int).length) then
  Option.bind (make_Codes_Next N (6 : Int) y1.2.1) fun y3 =>
  some (((w64 ((([(0 : Int), (80 : Int), (443 : Int), (65530 : Int), (1 : Int)] : List Int).getD y1.1.1.toNat (0 : Int)) + y3.1.1)), ()), (y3.2.1, ()))
  else none
noncomputable def make_Codes_port_C (N : Nat) : Ctx := ⟨11, G_tys, [(36, make_Codes_Next_ctr N)], G_globs, G_ifs⟩
noncomputable def make_Codes_port_S0 : Spec := ⟨[.ref 0 (.pair (.sl .u8) (.pair .i64 .unit))], [(.box 113 (.pair (.sl .u8) (.pair .i64 .unit)), .pos 0)]⟩
noncomputable def make_Codes_port_S1 : Spec := ⟨[.val .i64], [(.box 113 (.pair (.sl .u8) (.pair .i64 .unit)), .fix 0)]⟩
noncomputable def make_Codes_port_K (_N : Nat) : XE → GS → Option make_Codes_port_R := retK 1 [2] [false] make_Codes_port_S1
noncomputable def make_Codes_port_L : List Code := (bodyOf (some Try.f85))
theorem make_Codes_port_b {E : Env} (N : Nat) (hb : Base Try.prog (make_Codes_port_C N) E 1) : Blk Try.prog (make_Codes_port_C N) E (List.range make_Codes_port_S0.ks.length) make_Codes_port_S0 (make_Codes_port_L.drop 0) (fun y => make_Codes_port N y.2.1) (make_Codes_port_K N) :=
  Blk.chunkAt hb 3 (X := (make_Codes_port_K N .normal)) (NxOk.end (by kernel_rfl)) rfl (fun x => by kernel_rfl)
noncomputable def make_Codes_port_ctr (N : Nat) : Ctr := ⟨make_Codes_port_S0, make_Codes_port_S1.un [false], 1, (fun y => make_Codes_port N y.2.1)⟩
theorem make_Codes_port_ctrs (N : Nat) : CtrsOk Try.prog (make_Codes_port_C N) := ctrs_of (Γ := make_Codes_port_C N) G_ifs_ok (by
  intro p hp
  simp only [make_Codes_port_C, List.mem_cons, List.not_mem_nil, or_false] at hp
  rcases hp with rfl
  · exact make_Codes_Next_ok N)
theorem make_Codes_port_ok (N : Nat) : Ctr.ok Try.prog G_globs 85 (make_Codes_port_ctr N) :=
  ctr_fn (Γ := make_Codes_port_C N) (rfit := make_Codes_port_S1) (bs := [false]) (res := [2]) (by kernel_rfl) (tys_ok G_tys_ok) (make_Codes_port_ctrs N) Try.func85 (by kernel_rfl) (by kernel_rfl) Try.ntmps85 (by kernel_rfl) (by kernel_rfl) (by kernel_rfl) (by kernel_rfl) (fun E hb => make_Codes_port_b N hb)
end Go.Proofs.Ytgbkkfpheahdfaa
namespace Go.Proofs.Ytgbkkfpheahdfaa
open Go
set_option maxRecDepth 100000
set_option linter.unusedVariables false
/-! (*ipsecgate/ipsecgatemake.Codes).Packet -/
abbrev make_Codes_Packet_R : Type := ((D29 × Unit) × (((List UInt8) × (Int × Unit)) × Unit))
noncomputable def make_Codes_Packet_1 (N : Nat) (family_3 : Int) (p0 : ((List UInt8) × (Int × Unit))) (t_2 : D29) : Option make_Codes_Packet_R :=
  Option.bind (make_Codes_Address N family_3 p0) fun y3 =>
  Option.bind (make_Codes_Address N family_3 y3.2.1) fun y4 =>
  Option.bind (make_Codes_Next N (8 : Int) y4.2.1) fun y5 =>
  bif inR y5.1.1 (([(6 : Int), (17 : Int), (1 : Int), (58 : Int), (0 : Int), (255 : Int), (8 : Int), (3 : Int)] : List Int).length) then
  let x6 := (([(6 : Int), (17 : Int), (1 : Int), (58 : Int), (0 : Int), (255 : Int), (8 : Int), (3 : Int)] : List Int).getD y5.1.1.toNat (0 : Int))
  Option.bind (make_Codes_Next N (4 : Int) y5.2.1) fun y7 =>
  bif (decide (y7.1.1 = (0 : Int))) then
    some (((y3.1.1, y4.1.1, x6, (-1 : Int), (-1 : Int), ()), ()), (y7.2.1, ()))
  else
    bif (decide (y7.1.1 = (1 : Int))) then
      Option.bind (make_Codes_port N y7.2.1) fun y10 =>
      some (((y3.1.1, y4.1.1, x6, y10.1.1, (-1 : Int), ()), ()), (y10.2.1, ()))
    else
      Option.bind (make_Codes_port N y7.2.1) fun y11 =>
      Option.bind (make_Codes_port N y11.2.1) fun y12 =>
      some (((y3.1.1, y4.1.1, x6, y11.1.1, y12.1.1, ()), ()), (y12.2.1, ()))
  else none
noncomputable def make_Codes_Packet (N : Nat) (c_0 : ((List UInt8) × (Int × Unit))) : Option make_Codes_Packet_R :=
  Option.bind (make_Codes_Next N (4 : Int) c_0) fun y1 =>
  bif (decide (y1.1.1 = (3 : Int))) then
    make_Codes_Packet_1 N (6 : Int) y1.2.1 (((0 : Int), (0 : UInt64), (0 : UInt64), ()), ((0 : Int), (0 : UInt64), (0 : UInt64), ()), (0 : Int), (0 : Int), (0 : Int), ())
  else
    make_Codes_Packet_1 N (4 : Int) y1.2.1 (((0 : Int), (0 : UInt64), (0 : UInt64), ()), ((0 : Int), (0 : UInt64), (0 : UInt64), ()), (0 : Int), (0 : Int), (0 : Int), ())
noncomputable def make_Codes_Packet_C (N : Nat) : Ctx := ⟨38, G_tys, [(36, make_Codes_Next_ctr N), (55, make_Codes_Address_ctr N), (85, make_Codes_port_ctr N)], G_globs, G_ifs⟩
noncomputable def make_Codes_Packet_S0 : Spec := ⟨[.ref 0 (.pair (.sl .u8) (.pair .i64 .unit)), .ref 1 T29, .val .i64], [(.box 113 (.pair (.sl .u8) (.pair .i64 .unit)), .fix 0), (.box 30 T29, .pos 1)]⟩
noncomputable def make_Codes_Packet_S1 : Spec := ⟨[.ref 0 (.pair (.sl .u8) (.pair .i64 .unit))], [(.box 113 (.pair (.sl .u8) (.pair .i64 .unit)), .pos 0)]⟩
noncomputable def make_Codes_Packet_S2 : Spec := ⟨[.fp T29], [(.box 113 (.pair (.sl .u8) (.pair .i64 .unit)), .fix 0)]⟩
noncomputable def make_Codes_Packet_K (_N : Nat) : XE → GS → Option make_Codes_Packet_R := retK 1 [2] [true] make_Codes_Packet_S2
noncomputable def make_Codes_Packet_L : List Code := (bodyOf (some Try.f35))
theorem make_Codes_Packet_1_b {E : Env} (N : Nat) (hb : Base Try.prog (make_Codes_Packet_C N) E 1) : Blk Try.prog (make_Codes_Packet_C N) E [0, 2, 3] make_Codes_Packet_S0 (make_Codes_Packet_L.drop 4) (fun y => make_Codes_Packet_1 N y.1.1 y.2.1 y.2.2.1) (make_Codes_Packet_K N) :=
  Blk.chunkAt hb 6 (X := (make_Codes_Packet_K N .normal)) (NxOk.end (by kernel_rfl)) rfl (fun x => by kernel_rfl)
theorem make_Codes_Packet_b {E : Env} (N : Nat) (hb : Base Try.prog (make_Codes_Packet_C N) E 1) : Blk Try.prog (make_Codes_Packet_C N) E (List.range make_Codes_Packet_S1.ks.length) make_Codes_Packet_S1 (make_Codes_Packet_L.drop 0) (fun y => make_Codes_Packet N y.2.1) (make_Codes_Packet_K N) :=
  Blk.chunkAt hb 4 (X := (goK 1 [0, 2, 3] make_Codes_Packet_S0 (fun y => make_Codes_Packet_1 N y.1.1 y.2.1 y.2.2.1))) (NxOk.go hb (make_Codes_Packet_1_b N hb)) rfl (fun x => by kernel_rfl)
noncomputable def make_Codes_Packet_ctr (N : Nat) : Ctr := ⟨make_Codes_Packet_S1, make_Codes_Packet_S2.un [true], 1, (fun y => make_Codes_Packet N y.2.1)⟩
theorem make_Codes_Packet_ctrs (N : Nat) : CtrsOk Try.prog (make_Codes_Packet_C N) := ctrs_of (Γ := make_Codes_Packet_C N) G_ifs_ok (by
  intro p hp
  simp only [make_Codes_Packet_C, List.mem_cons, List.not_mem_nil, or_false] at hp
  rcases hp with rfl | rfl | rfl
  · exact make_Codes_Next_ok N
  · exact make_Codes_Address_ok N
  · exact make_Codes_port_ok N)
theorem make_Codes_Packet_ok (N : Nat) : Ctr.ok Try.prog G_globs 35 (make_Codes_Packet_ctr N) :=
  ctr_fn (Γ := make_Codes_Packet_C N) (rfit := make_Codes_Packet_S2) (bs := [true]) (res := [2]) (by kernel_rfl) (tys_ok G_tys_ok) (make_Codes_Packet_ctrs N) Try.func35 (by kernel_rfl) (by kernel_rfl) Try.ntmps35 (by kernel_rfl) (by kernel_rfl) (by kernel_rfl) (by kernel_rfl) (fun E hb => make_Codes_Packet_b N hb)
end Go.Proofs.Ytgbkkfpheahdfaa
namespace Go.Proofs.Ytgbkkfpheahdfaa
open Go
set_option maxRecDepth 100000
set_option linter.unusedVariables false
/-! (*ipsecgate/ipsecgatemake.Codes).Bytes -/
abbrev make_Codes_Bytes_R : Type := ((Unit) × (((List UInt8) × (Int × Unit)) × (List UInt8) × Unit))
noncomputable def make_Codes_Bytes_s2 (N : Nat) (n_1 : Int) (i_6 : Int) (p0 : ((List UInt8) × (Int × Unit))) (out_5 : (List UInt8)) : Option (Lo ((Int × Int × Unit) × (((List UInt8) × (Int × Unit)) × (List UInt8) × Unit)) ((Unit) × (((List UInt8) × (Int × Unit)) × (List UInt8) × Unit)) make_Codes_Bytes_R) :=
  bif (decide (i_6 < n_1)) then
    Option.bind (make_Codes_Next N (256 : Int) p0) fun y2 =>
    let x4 := w64 (y2.1.1 + (w64 (i_6 * (7 : Int))))
    bif room (out_5.length + ([iu8 x4] : List UInt8).length) 1 then
    some (.go ((n_1, (w64 (i_6 + (1 : Int))), ()), (y2.2.1, (out_5 ++ ([iu8 x4] : List UInt8)), ())))
    else none
  else
    some (.br ((()), (p0, out_5, ())))
noncomputable def make_Codes_Bytes_3 (N : Nat) (p0 : ((List UInt8) × (Int × Unit))) (out_5 : (List UInt8)) : Option make_Codes_Bytes_R :=
  some ((()), (p0, out_5, ()))
noncomputable def make_Codes_Bytes_1 (N : Nat) (n_1 : Int) (i_6 : Int) (p0 : ((List UInt8) × (Int × Unit))) (out_5 : (List UInt8)) : Option make_Codes_Bytes_R :=
  loopK N (fun y => make_Codes_Bytes_s2 N y.1.1 y.1.2.1 y.2.1 y.2.2.1) (fun (e : ((Unit) × (((List UInt8) × (Int × Unit)) × (List UInt8) × Unit))) => make_Codes_Bytes_3 N e.2.1 e.2.2.1) ((n_1, i_6, ()), (p0, out_5, ()))
noncomputable def make_Codes_Bytes (N : Nat) (n_1 : Int) (c_0 : ((List UInt8) × (Int × Unit))) : Option make_Codes_Bytes_R :=
  make_Codes_Bytes_1 N n_1 (0 : Int) c_0 ([] : List UInt8)
noncomputable def make_Codes_Bytes_C (N : Nat) : Ctx := ⟨22, G_tys, [(36, make_Codes_Next_ctr N)], G_globs, G_ifs⟩
noncomputable def make_Codes_Bytes_S0 : Spec := ⟨[.ref 0 (.pair (.sl .u8) (.pair .i64 .unit)), .val .i64, .row 1, .val .i64], [(.box 113 (.pair (.sl .u8) (.pair .i64 .unit)), .fix 0), (.row 5 .u8, .pos 2)]⟩
noncomputable def make_Codes_Bytes_S1 : Spec := ⟨[.row 1], [(.box 113 (.pair (.sl .u8) (.pair .i64 .unit)), .fix 0), (.row 5 .u8, .pos 0)]⟩
noncomputable def make_Codes_Bytes_S2 : Spec := ⟨[.ref 0 (.pair (.sl .u8) (.pair .i64 .unit)), .val .i64], [(.box 113 (.pair (.sl .u8) (.pair .i64 .unit)), .pos 0)]⟩
noncomputable def make_Codes_Bytes_K (_N : Nat) : XE → GS → Option make_Codes_Bytes_R := retK 1 [4] [false] make_Codes_Bytes_S1
noncomputable def make_Codes_Bytes_L : List Code := (bodyOf (some Try.f56))
noncomputable def make_Codes_Bytes_L2 : List Code := (loopOf (make_Codes_Bytes_L[3]?))
noncomputable def make_Codes_Bytes_K2 (N : Nat) : XE → GS → Option (Lo ((Int × Int × Unit) × (((List UInt8) × (Int × Unit)) × (List UInt8) × Unit)) ((Unit) × (((List UInt8) × (Int × Unit)) × (List UInt8) × Unit)) make_Codes_Bytes_R) := roundK (some 0) (fit 1 [0, 1, 5, 6] make_Codes_Bytes_S0) (fit 1 [5] make_Codes_Bytes_S1) (make_Codes_Bytes_K N)
theorem make_Codes_Bytes_s2_b {E : Env} (N : Nat) (hb : Base Try.prog (make_Codes_Bytes_C N) E 1) : Blk Try.prog (make_Codes_Bytes_C N) E [0, 1, 5, 6] make_Codes_Bytes_S0 (make_Codes_Bytes_L2.drop 0) (fun y => make_Codes_Bytes_s2 N y.1.1 y.1.2.1 y.2.1 y.2.2.1) (make_Codes_Bytes_K2 N) :=
  Blk.chunkAt hb 4 (X := (make_Codes_Bytes_K2 N .normal)) (NxOk.end (by kernel_rfl)) rfl (fun x => by kernel_rfl)
theorem make_Codes_Bytes_3_b {E : Env} (N : Nat) (hb : Base Try.prog (make_Codes_Bytes_C N) E 1) : Blk Try.prog (make_Codes_Bytes_C N) E [5] make_Codes_Bytes_S1 (make_Codes_Bytes_L.drop 4) (fun y => make_Codes_Bytes_3 N y.2.1 y.2.2.1) (make_Codes_Bytes_K N) :=
  Blk.chunkAt hb 2 (X := (make_Codes_Bytes_K N .normal)) (NxOk.end (by kernel_rfl)) rfl (fun x => by kernel_rfl)
theorem make_Codes_Bytes_1_b {E : Env} (N : Nat) (hb : Base Try.prog (make_Codes_Bytes_C N) E 1) : Blk Try.prog (make_Codes_Bytes_C N) E [0, 1, 5, 6] make_Codes_Bytes_S0 (make_Codes_Bytes_L.drop 3) (fun y => make_Codes_Bytes_1 N y.1.1 y.1.2.1 y.2.1 y.2.2.1) (make_Codes_Bytes_K N) :=
  Blk.loopAt (Nf := N) (hns := [0, 1, 5, 6]) (ans := [5]) (hc := make_Codes_Bytes_S0) (ac := make_Codes_Bytes_S1) (bid := 0) (step := (fun y => make_Codes_Bytes_s2 N y.1.1 y.1.2.1 y.2.1 y.2.2.1)) (J := (fun e => (goK 1 [5] make_Codes_Bytes_S1 (fun y => make_Codes_Bytes_3 N y.2.1 y.2.2.1)) (make_Codes_Bytes_S1.st [5] e))) hb (by kernel_rfl) (Blk.into (X := (goK 1 [5] make_Codes_Bytes_S1 (fun y => make_Codes_Bytes_3 N y.2.1 y.2.2.1))) (NxOk.go hb (make_Codes_Bytes_3_b N hb)) (fun x => by kernel_rfl)) (make_Codes_Bytes_s2_b N hb) (fun x => by kernel_rfl)
theorem make_Codes_Bytes_b {E : Env} (N : Nat) (hb : Base Try.prog (make_Codes_Bytes_C N) E 1) : Blk Try.prog (make_Codes_Bytes_C N) E (List.range make_Codes_Bytes_S2.ks.length) make_Codes_Bytes_S2 (make_Codes_Bytes_L.drop 0) (fun y => make_Codes_Bytes N y.1.1 y.2.1) (make_Codes_Bytes_K N) :=
  Blk.chunkAt hb 3 (X := (goK 1 [0, 1, 5, 6] make_Codes_Bytes_S0 (fun y => make_Codes_Bytes_1 N y.1.1 y.1.2.1 y.2.1 y.2.2.1))) (NxOk.go hb (make_Codes_Bytes_1_b N hb)) rfl (fun x => by kernel_rfl)
noncomputable def make_Codes_Bytes_ctr (N : Nat) : Ctr := ⟨make_Codes_Bytes_S2, make_Codes_Bytes_S1.un [false], 1, (fun y => make_Codes_Bytes N y.1.1 y.2.1)⟩
theorem make_Codes_Bytes_ctrs (N : Nat) : CtrsOk Try.prog (make_Codes_Bytes_C N) := ctrs_of (Γ := make_Codes_Bytes_C N) G_ifs_ok (by
  intro p hp
  simp only [make_Codes_Bytes_C, List.mem_cons, List.not_mem_nil, or_false] at hp
  rcases hp with rfl
  · exact make_Codes_Next_ok N)
theorem make_Codes_Bytes_ok (N : Nat) : Ctr.ok Try.prog G_globs 56 (make_Codes_Bytes_ctr N) :=
  ctr_fn (Γ := make_Codes_Bytes_C N) (rfit := make_Codes_Bytes_S1) (bs := [false]) (res := [4]) (by kernel_rfl) (tys_ok G_tys_ok) (make_Codes_Bytes_ctrs N) Try.func56 (by kernel_rfl) (by kernel_rfl) Try.ntmps56 (by kernel_rfl) (by kernel_rfl) (by kernel_rfl) (by kernel_rfl) (fun E hb => make_Codes_Bytes_b N hb)
end Go.Proofs.Ytgbkkfpheahdfaa
namespace Go.Proofs.Ytgbkkfpheahdfaa
open Go
set_option maxRecDepth 100000
set_option linter.unusedVariables false
/-! ipsecgate/ipsecgateref05.Valid -/
abbrev ref05_Valid_R : Type := ((Bool × Unit) × (Unit))
noncomputable def ref05_Valid (N : Nat) (a_0 : D27) : Option ref05_Valid_R :=
  bif (decide (a_0.1 = (4 : Int))) then
    bif (decide (a_0.2.1 = (0 : UInt64))) then
      bif (decide (a_0.2.2.1 < (4294967296 : UInt64))) then
        some ((true, ()), (()))
      else
        some (((decide (a_0.1 = (6 : Int))), ()), (()))
    else
      some (((decide (a_0.1 = (6 : Int))), ()), (()))
  else
    some (((decide (a_0.1 = (6 : Int))), ()), (()))
noncomputable def ref05_Valid_C (N : Nat) : Ctx := ⟨21, G_tys, [], G_globs, G_ifs⟩
noncomputable def ref05_Valid_S0 : Spec := ⟨[.val T27], []⟩
noncomputable def ref05_Valid_S1 : Spec := ⟨[.val .bool], []⟩
noncomputable def ref05_Valid_K (_N : Nat) : XE → GS → Option ref05_Valid_R := retK 0 [2] [false] ref05_Valid_S1
noncomputable def ref05_Valid_L : List Code := (bodyOf (some Try.f99))
theorem ref05_Valid_b {E : Env} (N : Nat) (hb : Base Try.prog (ref05_Valid_C N) E 0) : Blk Try.prog (ref05_Valid_C N) E (List.range ref05_Valid_S0.ks.length) ref05_Valid_S0 (ref05_Valid_L.drop 0) (fun y => ref05_Valid N y.1.1) (ref05_Valid_K N) :=
  Blk.chunkAt hb 3 (X := (ref05_Valid_K N .normal)) (NxOk.end (by kernel_rfl)) rfl (fun x => by kernel_rfl)
noncomputable def ref05_Valid_ctr (N : Nat) : Ctr := ⟨ref05_Valid_S0, ref05_Valid_S1.un [false], 0, (fun y => ref05_Valid N y.1.1)⟩
theorem ref05_Valid_ctrs (N : Nat) : CtrsOk Try.prog (ref05_Valid_C N) := ctrs_nil G_ifs_ok rfl
theorem ref05_Valid_ok (N : Nat) : Ctr.ok Try.prog G_globs 99 (ref05_Valid_ctr N) :=
  ctr_fn (Γ := ref05_Valid_C N) (rfit := ref05_Valid_S1) (bs := [false]) (res := [2]) (by kernel_rfl) (tys_ok G_tys_ok) (ref05_Valid_ctrs N) Try.func99 (by kernel_rfl) (by kernel_rfl) Try.ntmps99 (by kernel_rfl) (by kernel_rfl) (by kernel_rfl) (by kernel_rfl) (fun E hb => ref05_Valid_b N hb)
end Go.Proofs.Ytgbkkfpheahdfaa
namespace Go.Proofs.Ytgbkkfpheahdfaa
open Go
set_option maxRecDepth 100000
set_option linter.unusedVariables false
/-! ipsecgate/ipsecgateref01.Put -/
abbrev ref01_Put_R : Type := ((Unit) × ((List UInt8) × Unit))
noncomputable def ref01_Put_s3 (N : Nat) (v_1 : UInt64) (i_8 : Int) (out_7 : (List UInt8)) : Option (Lo ((UInt64 × Int × Unit) × ((List UInt8) × Unit)) ((Unit) × ((List UInt8) × Unit)) ref01_Put_R) :=
  bif (decide ((0 : Int) ≤ i_8)) then
    let x6 := shr64 v_1 (iu64 (w64 ((8 : Int) * i_8))).toNat
    bif room (out_7.length + ([x6.toUInt8] : List UInt8).length) 1 then
    some (.go ((v_1, (w64 (i_8 - (1 : Int))), ()), ((out_7 ++ ([x6.toUInt8] : List UInt8)), ())))
    else none
  else
    some (.br ((()), (out_7, ())))
noncomputable def ref01_Put_4 (N : Nat) (out_7 : (List UInt8)) : Option ref01_Put_R :=
  some ((()), (out_7, ()))
noncomputable def ref01_Put_2 (N : Nat) (v_1 : UInt64) (i_8 : Int) (out_7 : (List UInt8)) : Option ref01_Put_R :=
  loopK N (fun y => ref01_Put_s3 N y.1.1 y.1.2.1 y.2.1) (fun (e : ((Unit) × ((List UInt8) × Unit))) => ref01_Put_4 N e.2.1) ((v_1, i_8, ()), (out_7, ()))
noncomputable def ref01_Put_1 (N : Nat) (v_1 : UInt64) (width_2 : Int) (t_16 : Bool) (out_7 : (List UInt8)) : Option ref01_Put_R :=
  bif t_16 then
    some ((()), (out_7, ()))
  else
    ref01_Put_2 N v_1 (w64 (width_2 - (1 : Int))) out_7
noncomputable def ref01_Put (N : Nat) (b_0 : (List UInt8)) (v_1 : UInt64) (width_2 : Int) : Option ref01_Put_R :=
  bif room (0 + b_0.length) 1 then
  bif (decide (width_2 < (1 : Int))) then
    ref01_Put_1 N v_1 width_2 true b_0
  else
    ref01_Put_1 N v_1 width_2 (decide ((8 : Int) < width_2)) b_0
  else none
noncomputable def ref01_Put_C (N : Nat) : Ctx := ⟨34, G_tys, [], G_globs, G_ifs⟩
noncomputable def ref01_Put_S0 : Spec := ⟨[.val .u64, .row 0, .val .i64], [(.row 5 .u8, .pos 1)]⟩
noncomputable def ref01_Put_S1 : Spec := ⟨[.row 0], [(.row 5 .u8, .pos 0)]⟩
noncomputable def ref01_Put_S2 : Spec := ⟨[.val .u64, .val .i64, .row 0, .val .bool], [(.row 5 .u8, .pos 2)]⟩
noncomputable def ref01_Put_S3 : Spec := ⟨[.val (.sl .u8), .val .u64, .val .i64], []⟩
noncomputable def ref01_Put_K (_N : Nat) : XE → GS → Option ref01_Put_R := retK 0 [6] [false] ref01_Put_S1
noncomputable def ref01_Put_L : List Code := (bodyOf (some Try.f113))
noncomputable def ref01_Put_L3 : List Code := (loopOf (ref01_Put_L[5]?))
noncomputable def ref01_Put_K3 (N : Nat) : XE → GS → Option (Lo ((UInt64 × Int × Unit) × ((List UInt8) × Unit)) ((Unit) × ((List UInt8) × Unit)) ref01_Put_R) := roundK (some 0) (fit 0 [1, 7, 8] ref01_Put_S0) (fit 0 [7] ref01_Put_S1) (ref01_Put_K N)
theorem ref01_Put_s3_b {E : Env} (N : Nat) (hb : Base Try.prog (ref01_Put_C N) E 0) : Blk Try.prog (ref01_Put_C N) E [1, 7, 8] ref01_Put_S0 (ref01_Put_L3.drop 0) (fun y => ref01_Put_s3 N y.1.1 y.1.2.1 y.2.1) (ref01_Put_K3 N) :=
  Blk.chunkAt hb 4 (X := (ref01_Put_K3 N .normal)) (NxOk.end (by kernel_rfl)) rfl (fun x => by kernel_rfl)
theorem ref01_Put_4_b {E : Env} (N : Nat) (hb : Base Try.prog (ref01_Put_C N) E 0) : Blk Try.prog (ref01_Put_C N) E [7] ref01_Put_S1 (ref01_Put_L.drop 6) (fun y => ref01_Put_4 N y.2.1) (ref01_Put_K N) :=
  Blk.chunkAt hb 2 (X := (ref01_Put_K N .normal)) (NxOk.end (by kernel_rfl)) rfl (fun x => by kernel_rfl)
theorem ref01_Put_2_b {E : Env} (N : Nat) (hb : Base Try.prog (ref01_Put_C N) E 0) : Blk Try.prog (ref01_Put_C N) E [1, 7, 8] ref01_Put_S0 (ref01_Put_L.drop 5) (fun y => ref01_Put_2 N y.1.1 y.1.2.1 y.2.1) (ref01_Put_K N) :=
  Blk.loopAt (Nf := N) (hns := [1, 7, 8]) (ans := [7]) (hc := ref01_Put_S0) (ac := ref01_Put_S1) (bid := 0) (step := (fun y => ref01_Put_s3 N y.1.1 y.1.2.1 y.2.1)) (J := (fun e => (goK 0 [7] ref01_Put_S1 (fun y => ref01_Put_4 N y.2.1)) (ref01_Put_S1.st [7] e))) hb (by kernel_rfl) (Blk.into (X := (goK 0 [7] ref01_Put_S1 (fun y => ref01_Put_4 N y.2.1))) (NxOk.go hb (ref01_Put_4_b N hb)) (fun x => by kernel_rfl)) (ref01_Put_s3_b N hb) (fun x => by kernel_rfl)
theorem ref01_Put_1_b {E : Env} (N : Nat) (hb : Base Try.prog (ref01_Put_C N) E 0) : Blk Try.prog (ref01_Put_C N) E [1, 2, 7, 16] ref01_Put_S2 (ref01_Put_L.drop 3) (fun y => ref01_Put_1 N y.1.1 y.1.2.1 y.1.2.2.1 y.2.1) (ref01_Put_K N) :=
  Blk.chunkAt hb 2 (X := (goK 0 [1, 7, 8] ref01_Put_S0 (fun y => ref01_Put_2 N y.1.1 y.1.2.1 y.2.1))) (NxOk.go hb (ref01_Put_2_b N hb)) rfl (fun x => by kernel_rfl)
theorem ref01_Put_b {E : Env} (N : Nat) (hb : Base Try.prog (ref01_Put_C N) E 0) : Blk Try.prog (ref01_Put_C N) E (List.range ref01_Put_S3.ks.length) ref01_Put_S3 (ref01_Put_L.drop 0) (fun y => ref01_Put N y.1.1 y.1.2.1 y.1.2.2.1) (ref01_Put_K N) :=
  Blk.chunkAt hb 3 (X := (goK 0 [1, 2, 7, 16] ref01_Put_S2 (fun y => ref01_Put_1 N y.1.1 y.1.2.1 y.1.2.2.1 y.2.1))) (NxOk.go hb (ref01_Put_1_b N hb)) rfl (fun x => by kernel_rfl)
noncomputable def ref01_Put_ctr (N : Nat) : Ctr := ⟨ref01_Put_S3, ref01_Put_S1.un [false], 0, (fun y => ref01_Put N y.1.1 y.1.2.1 y.1.2.2.1)⟩
theorem ref01_Put_ctrs (N : Nat) : CtrsOk Try.prog (ref01_Put_C N) := ctrs_nil G_ifs_ok rfl
theorem ref01_Put_ok (N : Nat) : Ctr.ok Try.prog G_globs 113 (ref01_Put_ctr N) :=
  ctr_fn (Γ := ref01_Put_C N) (rfit := ref01_Put_S1) (bs := [false]) (res := [6]) (by kernel_rfl) (tys_ok G_tys_ok) (ref01_Put_ctrs N) Try.func113 (by kernel_rfl) (by kernel_rfl) Try.ntmps113 (by kernel_rfl) (by kernel_rfl) (by kernel_rfl) (by kernel_rfl) (fun E hb => ref01_Put_b N hb)
end Go.Proofs.Ytgbkkfpheahdfaa
namespace Go.Proofs.Ytgbkkfpheahdfaa
open Go
set_option maxRecDepth 100000
set_option linter.unusedVariables false
/-! ipsecgate/ipsecgateref05.PutAddress -/
abbrev ref05_PutAddress_R : Type := ((Unit) × ((List UInt8) × Unit))
noncomputable def ref05_PutAddress (N : Nat) (b_0 : (List UInt8)) (a_1 : D27) : Option ref05_PutAddress_R :=
  bif (decide (a_1.1 = (4 : Int))) then
    Option.bind (ref01_Put N b_0 a_1.2.2.1 (4 : Int)) fun y2 =>
    some ((()), (y2.2.1, ()))
  else
    Option.bind (ref01_Put N b_0 a_1.2.1 (8 : Int)) fun y3 =>
    Option.bind (ref01_Put N y3.2.1 a_1.2.2.1 (8 : Int)) fun y4 =>
    some ((()), (y4.2.1, ()))
noncomputable def ref05_PutAddress_C (N : Nat) : Ctx := ⟨19, G_tys, [(113, ref01_Put_ctr N)], G_globs, G_ifs⟩
noncomputable def ref05_PutAddress_S0 : Spec := ⟨[.val (.sl .u8), .val T27], []⟩
noncomputable def ref05_PutAddress_S1 : Spec := ⟨[.row 0], [(.row 5 .u8, .pos 0)]⟩
noncomputable def ref05_PutAddress_K (_N : Nat) : XE → GS → Option ref05_PutAddress_R := retK 0 [4] [false] ref05_PutAddress_S1
noncomputable def ref05_PutAddress_L : List Code := (bodyOf (some Try.f114))
theorem ref05_PutAddress_b {E : Env} (N : Nat) (hb : Base Try.prog (ref05_PutAddress_C N) E 0) : Blk Try.prog (ref05_PutAddress_C N) E (List.range ref05_PutAddress_S0.ks.length) ref05_PutAddress_S0 (ref05_PutAddress_L.drop 0) (fun y => ref05_PutAddress N y.1.1 y.1.2.1) (ref05_PutAddress_K N) :=
  Blk.chunkAt hb 5 (X := (ref05_PutAddress_K N .normal)) (NxOk.end (by kernel_rfl)) rfl (fun x => by kernel_rfl)
noncomputable def ref05_PutAddress_ctr (N : Nat) : Ctr := ⟨ref05_PutAddress_S0, ref05_PutAddress_S1.un [false], 0, (fun y => ref05_PutAddress N y.1.1 y.1.2.1)⟩
theorem ref05_PutAddress_ctrs (N : Nat) : CtrsOk Try.prog (ref05_PutAddress_C N) := ctrs_of (Γ := ref05_PutAddress_C N) G_ifs_ok (by
  intro p hp
  simp only [ref05_PutAddress_C, List.mem_cons, List.not_mem_nil, or_false] at hp
  rcases hp with rfl
  · exact ref01_Put_ok N)
theorem ref05_PutAddress_ok (N : Nat) : Ctr.ok Try.prog G_globs 114 (ref05_PutAddress_ctr N) :=
  ctr_fn (Γ := ref05_PutAddress_C N) (rfit := ref05_PutAddress_S1) (bs := [false]) (res := [4]) (by kernel_rfl) (tys_ok G_tys_ok) (ref05_PutAddress_ctrs N) Try.func114 (by kernel_rfl) (by kernel_rfl) Try.ntmps114 (by kernel_rfl) (by kernel_rfl) (by kernel_rfl) (by kernel_rfl) (fun E hb => ref05_PutAddress_b N hb)
end Go.Proofs.Ytgbkkfpheahdfaa
namespace Go.Proofs.Ytgbkkfpheahdfaa
open Go
set_option maxRecDepth 100000
set_option linter.unusedVariables false
/-! ipsecgate/ipsecgateref01.Checksum -/
abbrev ref01_Checksum_R : Type := ((Int × Unit) × (Unit))
noncomputable def ref01_Checksum_s2 (N : Nat) (b_0 : (List UInt8)) (sum_3 : Int) (i_4 : Int) : Option (Lo (((List UInt8) × Int × Int × Unit) × (Unit)) ((Int × Unit) × (Unit)) ref01_Checksum_R) :=
  bif (decide (i_4 < (b_0.length : Int))) then
    bif (decide ((i_4.tmod (2 : Int)) = (0 : Int))) then
      bif inR i_4 b_0.length then
      some (.go ((b_0, (w64 (sum_3 + (shlI ((b_0.getD i_4.toNat (0 : UInt8)).toNat : Int) 8))), (w64 (i_4 + (1 : Int))), ()), (())))
      else none
    else
      bif inR i_4 b_0.length then
      some (.go ((b_0, (w64 (sum_3 + ((b_0.getD i_4.toNat (0 : UInt8)).toNat : Int))), (w64 (i_4 + (1 : Int))), ()), (())))
      else none
  else
    some (.br ((sum_3, ()), (())))
noncomputable def ref01_Checksum_s4 (N : Nat) (sum_3 : Int) : Option (Lo ((Int × Unit) × (Unit)) ((Int × Unit) × (Unit)) ref01_Checksum_R) :=
  bif (decide ((65535 : Int) < sum_3)) then
    some (.go (((w64 ((and64 sum_3 (65535 : Int)) + (shrI sum_3 16))), ()), (())))
  else
    some (.br ((sum_3, ()), (())))
noncomputable def ref01_Checksum_5 (N : Nat) (sum_3 : Int) : Option ref01_Checksum_R :=
  some (((w64 ((65535 : Int) - sum_3)), ()), (()))
noncomputable def ref01_Checksum_3 (N : Nat) (sum_3 : Int) : Option ref01_Checksum_R :=
  loopK N (fun y => ref01_Checksum_s4 N y.1.1) (fun (e : ((Int × Unit) × (Unit))) => ref01_Checksum_5 N e.1.1) ((sum_3, ()), (()))
noncomputable def ref01_Checksum_1 (N : Nat) (b_0 : (List UInt8)) (sum_3 : Int) (i_4 : Int) : Option ref01_Checksum_R :=
  loopK N (fun y => ref01_Checksum_s2 N y.1.1 y.1.2.1 y.1.2.2.1) (fun (e : ((Int × Unit) × (Unit))) => ref01_Checksum_3 N e.1.1) ((b_0, sum_3, i_4, ()), (()))
noncomputable def ref01_Checksum (N : Nat) (b_0 : (List UInt8)) : Option ref01_Checksum_R :=
  ref01_Checksum_1 N b_0 (0 : Int) (0 : Int)
noncomputable def ref01_Checksum_C (N : Nat) : Ctx := ⟨38, G_tys, [], G_globs, G_ifs⟩
noncomputable def ref01_Checksum_S0 : Spec := ⟨[.val (.sl .u8), .val .i64, .val .i64], []⟩
noncomputable def ref01_Checksum_S1 : Spec := ⟨[.val .i64], []⟩
noncomputable def ref01_Checksum_S2 : Spec := ⟨[.val (.sl .u8)], []⟩
noncomputable def ref01_Checksum_K (_N : Nat) : XE → GS → Option ref01_Checksum_R := retK 0 [2] [false] ref01_Checksum_S1
noncomputable def ref01_Checksum_L : List Code := (bodyOf (some Try.f115))
noncomputable def ref01_Checksum_L2 : List Code := (loopOf (ref01_Checksum_L[3]?))
noncomputable def ref01_Checksum_L4 : List Code := (loopOf (ref01_Checksum_L[4]?))
noncomputable def ref01_Checksum_K2 (N : Nat) : XE → GS → Option (Lo (((List UInt8) × Int × Int × Unit) × (Unit)) ((Int × Unit) × (Unit)) ref01_Checksum_R) := roundK (some 0) (fit 0 [0, 3, 4] ref01_Checksum_S0) (fit 0 [3] ref01_Checksum_S1) (ref01_Checksum_K N)
noncomputable def ref01_Checksum_K4 (N : Nat) : XE → GS → Option (Lo ((Int × Unit) × (Unit)) ((Int × Unit) × (Unit)) ref01_Checksum_R) := roundK (some 2) (fit 0 [3] ref01_Checksum_S1) (fit 0 [3] ref01_Checksum_S1) (ref01_Checksum_K N)
theorem ref01_Checksum_s2_b {E : Env} (N : Nat) (hb : Base Try.prog (ref01_Checksum_C N) E 0) : Blk Try.prog (ref01_Checksum_C N) E [0, 3, 4] ref01_Checksum_S0 (ref01_Checksum_L2.drop 0) (fun y => ref01_Checksum_s2 N y.1.1 y.1.2.1 y.1.2.2.1) (ref01_Checksum_K2 N) :=
  Blk.chunkAt hb 4 (X := (ref01_Checksum_K2 N .normal)) (NxOk.end (by kernel_rfl)) rfl (fun x => by kernel_rfl)
theorem ref01_Checksum_s4_b {E : Env} (N : Nat) (hb : Base Try.prog (ref01_Checksum_C N) E 0) : Blk Try.prog (ref01_Checksum_C N) E [3] ref01_Checksum_S1 (ref01_Checksum_L4.drop 0) (fun y => ref01_Checksum_s4 N y.1.1) (ref01_Checksum_K4 N) :=
  Blk.chunkAt hb 3 (X := (ref01_Checksum_K4 N .normal)) (NxOk.end (by kernel_rfl)) rfl (fun x => by kernel_rfl)
theorem ref01_Checksum_5_b {E : Env} (N : Nat) (hb : Base Try.prog (ref01_Checksum_C N) E 0) : Blk Try.prog (ref01_Checksum_C N) E [3] ref01_Checksum_S1 (ref01_Checksum_L.drop 5) (fun y => ref01_Checksum_5 N y.1.1) (ref01_Checksum_K N) :=
  Blk.chunkAt hb 2 (X := (ref01_Checksum_K N .normal)) (NxOk.end (by kernel_rfl)) rfl (fun x => by kernel_rfl)
theorem ref01_Checksum_3_b {E : Env} (N : Nat) (hb : Base Try.prog (ref01_Checksum_C N) E 0) : Blk Try.prog (ref01_Checksum_C N) E [3] ref01_Checksum_S1 (ref01_Checksum_L.drop 4) (fun y => ref01_Checksum_3 N y.1.1) (ref01_Checksum_K N) :=
  Blk.loopAt (Nf := N) (hns := [3]) (ans := [3]) (hc := ref01_Checksum_S1) (ac := ref01_Checksum_S1) (bid := 2) (step := (fun y => ref01_Checksum_s4 N y.1.1)) (J := (fun e => (goK 0 [3] ref01_Checksum_S1 (fun y => ref01_Checksum_5 N y.1.1)) (ref01_Checksum_S1.st [3] e))) hb (by kernel_rfl) (Blk.into (X := (goK 0 [3] ref01_Checksum_S1 (fun y => ref01_Checksum_5 N y.1.1))) (NxOk.go hb (ref01_Checksum_5_b N hb)) (fun x => by kernel_rfl)) (ref01_Checksum_s4_b N hb) (fun x => by kernel_rfl)
theorem ref01_Checksum_1_b {E : Env} (N : Nat) (hb : Base Try.prog (ref01_Checksum_C N) E 0) : Blk Try.prog (ref01_Checksum_C N) E [0, 3, 4] ref01_Checksum_S0 (ref01_Checksum_L.drop 3) (fun y => ref01_Checksum_1 N y.1.1 y.1.2.1 y.1.2.2.1) (ref01_Checksum_K N) :=
  Blk.loopAt (Nf := N) (hns := [0, 3, 4]) (ans := [3]) (hc := ref01_Checksum_S0) (ac := ref01_Checksum_S1) (bid := 0) (step := (fun y => ref01_Checksum_s2 N y.1.1 y.1.2.1 y.1.2.2.1)) (J := (fun e => (goK 0 [3] ref01_Checksum_S1 (fun y => ref01_Checksum_3 N y.1.1)) (ref01_Checksum_S1.st [3] e))) hb (by kernel_rfl) (Blk.into (X := (goK 0 [3] ref01_Checksum_S1 (fun y => ref01_Checksum_3 N y.1.1))) (NxOk.go hb (ref01_Checksum_3_b N hb)) (fun x => by kernel_rfl)) (ref01_Checksum_s2_b N hb) (fun x => by kernel_rfl)
theorem ref01_Checksum_b {E : Env} (N : Nat) (hb : Base Try.prog (ref01_Checksum_C N) E 0) : Blk Try.prog (ref01_Checksum_C N) E (List.range ref01_Checksum_S2.ks.length) ref01_Checksum_S2 (ref01_Checksum_L.drop 0) (fun y => ref01_Checksum N y.1.1) (ref01_Checksum_K N) :=
  Blk.chunkAt hb 3 (X := (goK 0 [0, 3, 4] ref01_Checksum_S0 (fun y => ref01_Checksum_1 N y.1.1 y.1.2.1 y.1.2.2.1))) (NxOk.go hb (ref01_Checksum_1_b N hb)) rfl (fun x => by kernel_rfl)
noncomputable def ref01_Checksum_ctr (N : Nat) : Ctr := ⟨ref01_Checksum_S2, ref01_Checksum_S1.un [false], 0, (fun y => ref01_Checksum N y.1.1)⟩
theorem ref01_Checksum_ctrs (N : Nat) : CtrsOk Try.prog (ref01_Checksum_C N) := ctrs_nil G_ifs_ok rfl
theorem ref01_Checksum_ok (N : Nat) : Ctr.ok Try.prog G_globs 115 (ref01_Checksum_ctr N) :=
  ctr_fn (Γ := ref01_Checksum_C N) (rfit := ref01_Checksum_S1) (bs := [false]) (res := [2]) (by kernel_rfl) (tys_ok G_tys_ok) (ref01_Checksum_ctrs N) Try.func115 (by kernel_rfl) (by kernel_rfl) Try.ntmps115 (by kernel_rfl) (by kernel_rfl) (by kernel_rfl) (by kernel_rfl) (fun E hb => ref01_Checksum_b N hb)
end Go.Proofs.Ytgbkkfpheahdfaa
namespace Go.Proofs.Ytgbkkfpheahdfaa
open Go
set_option maxRecDepth 100000
set_option linter.unusedVariables false
/-! ipsecgate/ipsecgateref22.port -/
abbrev ref22_port_R : Type := ((Bool × Unit) × (Unit))
noncomputable def ref22_port (N : Nat) (n_0 : Int) : Option ref22_port_R :=
  bif (decide ((-1 : Int) ≤ n_0)) then
    some (((decide (n_0 ≤ (65535 : Int))), ()), (()))
  else
    some ((false, ()), (()))
noncomputable def ref22_port_C (N : Nat) : Ctx := ⟨9, G_tys, [], G_globs, G_ifs⟩
noncomputable def ref22_port_S0 : Spec := ⟨[.val .i64], []⟩
noncomputable def ref22_port_S1 : Spec := ⟨[.val .bool], []⟩
noncomputable def ref22_port_K (_N : Nat) : XE → GS → Option ref22_port_R := retK 0 [2] [false] ref22_port_S1
noncomputable def ref22_port_L : List Code := (bodyOf (some Try.f112))
theorem ref22_port_b {E : Env} (N : Nat) (hb : Base Try.prog (ref22_port_C N) E 0) : Blk Try.prog (ref22_port_C N) E (List.range ref22_port_S0.ks.length) ref22_port_S0 (ref22_port_L.drop 0) (fun y => ref22_port N y.1.1) (ref22_port_K N) :=
  Blk.chunkAt hb 3 (X := (ref22_port_K N .normal)) (NxOk.end (by kernel_rfl)) rfl (fun x => by kernel_rfl)
noncomputable def ref22_port_ctr (N : Nat) : Ctr := ⟨ref22_port_S0, ref22_port_S1.un [false], 0, (fun y => ref22_port N y.1.1)⟩
theorem ref22_port_ctrs (N : Nat) : CtrsOk Try.prog (ref22_port_C N) := ctrs_nil G_ifs_ok rfl
theorem ref22_port_ok (N : Nat) : Ctr.ok Try.prog G_globs 112 (ref22_port_ctr N) :=
  ctr_fn (Γ := ref22_port_C N) (rfit := ref22_port_S1) (bs := [false]) (res := [2]) (by kernel_rfl) (tys_ok G_tys_ok) (ref22_port_ctrs N) Try.func112 (by kernel_rfl) (by kernel_rfl) Try.ntmps112 (by kernel_rfl) (by kernel_rfl) (by kernel_rfl) (by kernel_rfl) (fun E hb => ref22_port_b N hb)
end Go.Proofs.Ytgbkkfpheahdfaa
namespace Go.Proofs.Ytgbkkfpheahdfaa
open Go
set_option maxRecDepth 100000
set_option linter.unusedVariables false
/-! ipsecgate/ipsecgateref22.Build -/
abbrev ref22_Build_R : Type := ((Int × Unit) × ((List UInt8) × Unit))
noncomputable def ref22_Build_6 (N : Nat) (data_1 : (List UInt8)) (b_7 : (List UInt8)) : Option ref22_Build_R :=
  bif room (b_7.length + data_1.length) 1 then
  some (((0 : Int), ()), ((b_7 ++ data_1), ()))
  else none
noncomputable def ref22_Build_5 (N : Nat) (n_6 : Int) (data_1 : (List UInt8)) (p_2 : D29) : Option ref22_Build_R :=
  bif (decide ((4096 : Int) < (w64 (n_6 + (data_1.length : Int))))) then
    some (((11 : Int), ()), (([] : List UInt8), ()))
  else
    bif (decide (n_6 = (20 : Int))) then
      Option.bind (ref01_Put N ([(69 : UInt8), (0 : UInt8)] : List UInt8) (iu64 (w64 ((20 : Int) + (data_1.length : Int)))) (2 : Int)) fun y27 =>
      bif room (y27.2.1.length + ([(0 : UInt8), (0 : UInt8), (0 : UInt8), (0 : UInt8), (64 : UInt8), (iu8 p_2.2.2.1), (0 : UInt8), (0 : UInt8)] : List UInt8).length) 1 then
      Option.bind (ref05_PutAddress N (y27.2.1 ++ ([(0 : UInt8), (0 : UInt8), (0 : UInt8), (0 : UInt8), (64 : UInt8), (iu8 p_2.2.2.1), (0 : UInt8), (0 : UInt8)] : List UInt8)) p_2.1) fun y30 =>
      Option.bind (ref05_PutAddress N y30.2.1 p_2.2.1) fun y31 =>
      Option.bind (ref01_Checksum N y31.2.1) fun y32 =>
      bif inR (10 : Int) y31.2.1.length then
      let x36 := (y31.2.1.set 10 (iu8 (shrI y32.1.1 8)))
      bif inR (11 : Int) x36.length then
      ref22_Build_6 N data_1 (x36.set 11 (iu8 y32.1.1))
      else none
      else none
      else none
    else
      Option.bind (ref01_Put N ([(96 : UInt8), (0 : UInt8), (0 : UInt8), (0 : UInt8)] : List UInt8) (iu64 (data_1.length : Int)) (2 : Int)) fun y41 =>
      bif room (y41.2.1.length + ([(iu8 p_2.2.2.1), (64 : UInt8)] : List UInt8).length) 1 then
      Option.bind (ref05_PutAddress N (y41.2.1 ++ ([(iu8 p_2.2.2.1), (64 : UInt8)] : List UInt8)) p_2.1) fun y44 =>
      Option.bind (ref05_PutAddress N y44.2.1 p_2.2.1) fun y45 =>
      ref22_Build_6 N data_1 y45.2.1
      else none
noncomputable def ref22_Build_4 (N : Nat) (data_1 : (List UInt8)) (p_2 : D29) : Option ref22_Build_R :=
  bif (decide (p_2.1.1 = (6 : Int))) then
    ref22_Build_5 N (40 : Int) data_1 p_2
  else
    ref22_Build_5 N (20 : Int) data_1 p_2
noncomputable def ref22_Build_3 (N : Nat) (t_68 : Bool) (data_1 : (List UInt8)) (p_2 : D29) : Option ref22_Build_R :=
  bif t_68 then
    bif (decide ((0 : Int) ≤ p_2.2.2.2.1)) then
      bif (decide ((data_1.length : Int) < (4 : Int))) then
        some (((1 : Int), ()), (([] : List UInt8), ()))
      else
        bif (decide ((0 : Int) ≤ p_2.2.2.2.1)) then
          bif inR (0 : Int) data_1.length then
          let x11 := (data_1.set 0 (iu8 (shrI p_2.2.2.2.1 8)))
          bif inR (1 : Int) x11.length then
          let x12 := (x11.set 1 (iu8 p_2.2.2.2.1))
          bif (decide ((0 : Int) ≤ p_2.2.2.2.2.1)) then
            bif inR (2 : Int) x12.length then
            let x17 := (x12.set 2 (iu8 (shrI p_2.2.2.2.2.1 8)))
            bif inR (3 : Int) x17.length then
            ref22_Build_4 N (x17.set 3 (iu8 p_2.2.2.2.2.1)) p_2
            else none
            else none
          else
            ref22_Build_4 N x12 p_2
          else none
          else none
        else
          bif (decide ((0 : Int) ≤ p_2.2.2.2.2.1)) then
            bif inR (2 : Int) data_1.length then
            let x50 := (data_1.set 2 (iu8 (shrI p_2.2.2.2.2.1 8)))
            bif inR (3 : Int) x50.length then
            ref22_Build_4 N (x50.set 3 (iu8 p_2.2.2.2.2.1)) p_2
            else none
            else none
          else
            ref22_Build_4 N data_1 p_2
    else
      bif (decide ((0 : Int) ≤ p_2.2.2.2.2.1)) then
        bif (decide ((data_1.length : Int) < (4 : Int))) then
          some (((1 : Int), ()), (([] : List UInt8), ()))
        else
          bif (decide ((0 : Int) ≤ p_2.2.2.2.1)) then
            bif inR (0 : Int) data_1.length then
            let x59 := (data_1.set 0 (iu8 (shrI p_2.2.2.2.1 8)))
            bif inR (1 : Int) x59.length then
            let x60 := (x59.set 1 (iu8 p_2.2.2.2.1))
            bif (decide ((0 : Int) ≤ p_2.2.2.2.2.1)) then
              bif inR (2 : Int) x60.length then
              let x65 := (x60.set 2 (iu8 (shrI p_2.2.2.2.2.1 8)))
              bif inR (3 : Int) x65.length then
              ref22_Build_4 N (x65.set 3 (iu8 p_2.2.2.2.2.1)) p_2
              else none
              else none
            else
              ref22_Build_4 N x60 p_2
            else none
            else none
          else
            bif (decide ((0 : Int) ≤ p_2.2.2.2.2.1)) then
              bif inR (2 : Int) data_1.length then
              let x71 := (data_1.set 2 (iu8 (shrI p_2.2.2.2.2.1 8)))
              bif inR (3 : Int) x71.length then
              ref22_Build_4 N (x71.set 3 (iu8 p_2.2.2.2.2.1)) p_2
              else none
              else none
            else
              ref22_Build_4 N data_1 p_2
      else
        bif (decide ((0 : Int) ≤ p_2.2.2.2.1)) then
          bif inR (0 : Int) data_1.length then
          let x77 := (data_1.set 0 (iu8 (shrI p_2.2.2.2.1 8)))
          bif inR (1 : Int) x77.length then
          let x78 := (x77.set 1 (iu8 p_2.2.2.2.1))
          bif (decide ((0 : Int) ≤ p_2.2.2.2.2.1)) then
            bif inR (2 : Int) x78.length then
            let x83 := (x78.set 2 (iu8 (shrI p_2.2.2.2.2.1 8)))
            bif inR (3 : Int) x83.length then
            ref22_Build_4 N (x83.set 3 (iu8 p_2.2.2.2.2.1)) p_2
            else none
            else none
          else
            ref22_Build_4 N x78 p_2
          else none
          else none
        else
          bif (decide ((0 : Int) ≤ p_2.2.2.2.2.1)) then
            bif inR (2 : Int) data_1.length then
            let x89 := (data_1.set 2 (iu8 (shrI p_2.2.2.2.2.1 8)))
            bif inR (3 : Int) x89.length then
            ref22_Build_4 N (x89.set 3 (iu8 p_2.2.2.2.2.1)) p_2
            else none
            else none
          else
            ref22_Build_4 N data_1 p_2
  else
    ref22_Build_4 N data_1 p_2
noncomputable def ref22_Build_2 (N : Nat) (data_1 : (List UInt8)) (t_58 : Bool) (p_2 : D29) : Option ref22_Build_R :=
  bif t_58 then
    some (((5 : Int), ()), (([] : List UInt8), ()))
  else
    bif room (0 + data_1.length) 1 then
    bif (decide (p_2.2.2.1 = (6 : Int))) then
      ref22_Build_3 N true data_1 p_2
    else
      ref22_Build_3 N (decide (p_2.2.2.1 = (17 : Int))) data_1 p_2
    else none
noncomputable def ref22_Build_1 (N : Nat) (data_1 : (List UInt8)) (t_27 : Bool) (p_2 : D29) : Option ref22_Build_R :=
  bif t_27 then
    some (((15 : Int), ()), (([] : List UInt8), ()))
  else
    bif (decide (p_2.2.2.1 < (0 : Int))) then
      ref22_Build_2 N data_1 true p_2
    else
      bif (decide ((255 : Int) < p_2.2.2.1)) then
        ref22_Build_2 N data_1 true p_2
      else
        bif (decide (p_2.1.1 = (6 : Int))) then
          bif (decide (p_2.2.2.1 = (44 : Int))) then
            ref22_Build_2 N data_1 true p_2
          else
            Option.bind (ref22_port N p_2.2.2.2.1) fun y95 =>
            bif (!y95.1.1) then
              ref22_Build_2 N data_1 true p_2
            else
              Option.bind (ref22_port N p_2.2.2.2.2.1) fun y97 =>
              ref22_Build_2 N data_1 (!y97.1.1) p_2
        else
          Option.bind (ref22_port N p_2.2.2.2.1) fun y99 =>
          bif (!y99.1.1) then
            ref22_Build_2 N data_1 true p_2
          else
            Option.bind (ref22_port N p_2.2.2.2.2.1) fun y101 =>
            ref22_Build_2 N data_1 (!y101.1.1) p_2
noncomputable def ref22_Build (N : Nat) (p_0 : D29) (data_1 : (List UInt8)) : Option ref22_Build_R :=
  Option.bind (ref05_Valid N p_0.1) fun y1 =>
  bif (!y1.1.1) then
    ref22_Build_1 N data_1 true p_0
  else
    Option.bind (ref05_Valid N p_0.2.1) fun y103 =>
    bif (!y103.1.1) then
      ref22_Build_1 N data_1 true p_0
    else
      ref22_Build_1 N data_1 (!(decide (p_0.1.1 = p_0.2.1.1))) p_0
noncomputable def ref22_Build_C (N : Nat) : Ctx := ⟨172, G_tys, [(99, ref05_Valid_ctr N), (113, ref01_Put_ctr N), (114, ref05_PutAddress_ctr N), (115, ref01_Checksum_ctr N), (112, ref22_port_ctr N)], G_globs, G_ifs⟩
noncomputable def ref22_Build_S0 : Spec := ⟨[.row 0, .row 1], [(.row 5 .u8, .pos 0), (.row 5 .u8, .pos 1)]⟩
noncomputable def ref22_Build_S1 : Spec := ⟨[.row 0, .ref 1 T29, .val .i64], [(.row 5 .u8, .pos 0), (.box 30 T29, .pos 1)]⟩
noncomputable def ref22_Build_S2 : Spec := ⟨[.row 0, .ref 1 T29], [(.row 5 .u8, .pos 0), (.box 30 T29, .pos 1)]⟩
noncomputable def ref22_Build_S3 : Spec := ⟨[.row 0, .ref 1 T29, .val .bool], [(.row 5 .u8, .pos 0), (.box 30 T29, .pos 1)]⟩
noncomputable def ref22_Build_S4 : Spec := ⟨[.val (.sl .u8), .ref 0 T29, .val .bool], [(.box 30 T29, .pos 1)]⟩
noncomputable def ref22_Build_S5 : Spec := ⟨[.val T29, .val (.sl .u8)], []⟩
noncomputable def ref22_Build_S6 : Spec := ⟨[.row 0, .val .i64], [(.row 5 .u8, .pos 0)]⟩
noncomputable def ref22_Build_K (_N : Nat) : XE → GS → Option ref22_Build_R := retK 0 [4, 5] [false, false] ref22_Build_S6
noncomputable def ref22_Build_L : List Code := (bodyOf (some Try.f58))
theorem ref22_Build_6_b {E : Env} (N : Nat) (hb : Base Try.prog (ref22_Build_C N) E 0) : Blk Try.prog (ref22_Build_C N) E [1, 7] ref22_Build_S0 (ref22_Build_L.drop 16) (fun y => ref22_Build_6 N y.2.1 y.2.2.1) (ref22_Build_K N) :=
  Blk.chunkAt hb 2 (X := (ref22_Build_K N .normal)) (NxOk.end (by kernel_rfl)) rfl (fun x => by kernel_rfl)
theorem ref22_Build_5_b {E : Env} (N : Nat) (hb : Base Try.prog (ref22_Build_C N) E 0) : Blk Try.prog (ref22_Build_C N) E [1, 2, 6] ref22_Build_S1 (ref22_Build_L.drop 11) (fun y => ref22_Build_5 N y.1.1 y.2.1 y.2.2.1) (ref22_Build_K N) :=
  Blk.chunkAt hb 5 (X := (goK 0 [1, 7] ref22_Build_S0 (fun y => ref22_Build_6 N y.2.1 y.2.2.1))) (NxOk.go hb (ref22_Build_6_b N hb)) rfl (fun x => by kernel_rfl)
theorem ref22_Build_4_b {E : Env} (N : Nat) (hb : Base Try.prog (ref22_Build_C N) E 0) : Blk Try.prog (ref22_Build_C N) E [1, 2] ref22_Build_S2 (ref22_Build_L.drop 8) (fun y => ref22_Build_4 N y.2.1 y.2.2.1) (ref22_Build_K N) :=
  Blk.chunkAt hb 3 (X := (goK 0 [1, 2, 6] ref22_Build_S1 (fun y => ref22_Build_5 N y.1.1 y.2.1 y.2.2.1))) (NxOk.go hb (ref22_Build_5_b N hb)) rfl (fun x => by kernel_rfl)
theorem ref22_Build_3_b {E : Env} (N : Nat) (hb : Base Try.prog (ref22_Build_C N) E 0) : Blk Try.prog (ref22_Build_C N) E [1, 2, 68] ref22_Build_S3 (ref22_Build_L.drop 7) (fun y => ref22_Build_3 N y.1.1 y.2.1 y.2.2.1) (ref22_Build_K N) :=
  Blk.chunkAt hb 1 (X := (goK 0 [1, 2] ref22_Build_S2 (fun y => ref22_Build_4 N y.2.1 y.2.2.1))) (NxOk.go hb (ref22_Build_4_b N hb)) rfl (fun x => by kernel_rfl)
theorem ref22_Build_2_b {E : Env} (N : Nat) (hb : Base Try.prog (ref22_Build_C N) E 0) : Blk Try.prog (ref22_Build_C N) E [1, 2, 58] ref22_Build_S4 (ref22_Build_L.drop 4) (fun y => ref22_Build_2 N y.1.1 y.1.2.1 y.2.1) (ref22_Build_K N) :=
  Blk.chunkAt hb 3 (X := (goK 0 [1, 2, 68] ref22_Build_S3 (fun y => ref22_Build_3 N y.1.1 y.2.1 y.2.2.1))) (NxOk.go hb (ref22_Build_3_b N hb)) rfl (fun x => by kernel_rfl)
theorem ref22_Build_1_b {E : Env} (N : Nat) (hb : Base Try.prog (ref22_Build_C N) E 0) : Blk Try.prog (ref22_Build_C N) E [1, 2, 27] ref22_Build_S4 (ref22_Build_L.drop 2) (fun y => ref22_Build_1 N y.1.1 y.1.2.1 y.2.1) (ref22_Build_K N) :=
  Blk.chunkAt hb 2 (X := (goK 0 [1, 2, 58] ref22_Build_S4 (fun y => ref22_Build_2 N y.1.1 y.1.2.1 y.2.1))) (NxOk.go hb (ref22_Build_2_b N hb)) rfl (fun x => by kernel_rfl)
theorem ref22_Build_b {E : Env} (N : Nat) (hb : Base Try.prog (ref22_Build_C N) E 0) : Blk Try.prog (ref22_Build_C N) E (List.range ref22_Build_S5.ks.length) ref22_Build_S5 (ref22_Build_L.drop 0) (fun y => ref22_Build N y.1.1 y.1.2.1) (ref22_Build_K N) :=
  Blk.chunkAt hb 2 (X := (goK 0 [1, 2, 27] ref22_Build_S4 (fun y => ref22_Build_1 N y.1.1 y.1.2.1 y.2.1))) (NxOk.go hb (ref22_Build_1_b N hb)) rfl (fun x => by kernel_rfl)
noncomputable def ref22_Build_ctr (N : Nat) : Ctr := ⟨ref22_Build_S5, ref22_Build_S6.un [false, false], 0, (fun y => ref22_Build N y.1.1 y.1.2.1)⟩
theorem ref22_Build_ctrs (N : Nat) : CtrsOk Try.prog (ref22_Build_C N) := ctrs_of (Γ := ref22_Build_C N) G_ifs_ok (by
  intro p hp
  simp only [ref22_Build_C, List.mem_cons, List.not_mem_nil, or_false] at hp
  rcases hp with rfl | rfl | rfl | rfl | rfl
  · exact ref05_Valid_ok N
  · exact ref01_Put_ok N
  · exact ref05_PutAddress_ok N
  · exact ref01_Checksum_ok N
  · exact ref22_port_ok N)
theorem ref22_Build_ok (N : Nat) : Ctr.ok Try.prog G_globs 58 (ref22_Build_ctr N) :=
  ctr_fn (Γ := ref22_Build_C N) (rfit := ref22_Build_S6) (bs := [false, false]) (res := [4, 5]) (by kernel_rfl) (tys_ok G_tys_ok) (ref22_Build_ctrs N) Try.func58 (by kernel_rfl) (by kernel_rfl) Try.ntmps58 (by kernel_rfl) (by kernel_rfl) (by kernel_rfl) (by kernel_rfl) (fun E hb => ref22_Build_b N hb)
end Go.Proofs.Ytgbkkfpheahdfaa
namespace Go.Proofs.Ytgbkkfpheahdfaa
open Go
set_option maxRecDepth 100000
set_option linter.unusedVariables false
/-! ipsecgate/ipsecgatelaw22.fragment -/
abbrev law22_fragment_R : Type := ((Unit) × (((List UInt8) × (Int × Unit)) × (List UInt8) × Unit))
noncomputable def law22_fragment (N : Nat) (x_1 : (List UInt8)) (c_0 : ((List UInt8) × (Int × Unit))) : Option law22_fragment_R :=
  bif room (0 + x_1.length) 1 then
  bif (decide ((x_1.length : Int) < (20 : Int))) then
    some ((()), (c_0, x_1, ()))
  else
    Option.bind (make_Codes_Next N (4 : Int) c_0) fun y3 =>
    bif inR y3.1.1 (([(8192 : Int), (5 : Int), (8195 : Int), (16384 : Int)] : List Int).length) then
    let x4 := (([(8192 : Int), (5 : Int), (8195 : Int), (16384 : Int)] : List Int).getD y3.1.1.toNat (0 : Int))
    bif inR (0 : Int) x_1.length then
    bif (decide ((shr8 (x_1.getD 0 (0 : UInt8)) 4) = (4 : UInt8))) then
      bif inR (6 : Int) x_1.length then
      let x9 := (x_1.set 6 (iu8 (shrI x4 8)))
      bif inR (7 : Int) x9.length then
      let x10 := (x9.set 7 (iu8 x4))
      Option.bind (make_Codes_Next N (3 : Int) y3.2.1) fun y11 =>
      bif (decide (y11.1.1 = (2 : Int))) then
        bif inR (0 : Int) x10.length then
        bif inR (0 : Int) x10.length then
        let x15 := (x10.set 0 ((x10.getD 0 (0 : UInt8)) + (1 : UInt8)))
        bif decide (0 ≤ (0 : Int)) && decide ((0 : Int) ≤ (20 : Int)) && decide ((20 : Int) ≤ (x15.length : Int)) && true then
        bif room (0 + (cut x15 0 20).length) 1 then
        bif room ((cut x15 0 20).length + ([(1 : UInt8), (1 : UInt8), (1 : UInt8), (0 : UInt8)] : List UInt8).length) 1 then
        let x17 := (cut x15 0 20) ++ ([(1 : UInt8), (1 : UInt8), (1 : UInt8), (0 : UInt8)] : List UInt8)
        bif decide (0 ≤ (20 : Int)) && decide ((20 : Int) ≤ (x15.length : Int)) && decide ((x15.length : Int) ≤ (x15.length : Int)) && true then
        bif room (x17.length + (cut x15 20 x15.length).length) 1 then
        let x18 := x17 ++ (cut x15 20 x15.length)
        bif inR (2 : Int) x18.length then
        let x24 := (x18.set 2 (iu8 (shrI (x18.length : Int) 8)))
        bif inR (3 : Int) x24.length then
        let x25 := (x24.set 3 (iu8 (x18.length : Int)))
        bif inR (10 : Int) x25.length then
        let x26 := (x25.set 10 (0 : UInt8))
        bif inR (11 : Int) x26.length then
        let x27 := (x26.set 11 (0 : UInt8))
        bif inR (0 : Int) x27.length then
        let x31 := w64 ((((x27.getD 0 (0 : UInt8)) &&& (15 : UInt8)).toNat : Int) * (4 : Int))
        bif decide (0 ≤ (0 : Int)) && decide ((0 : Int) ≤ x31) && decide (x31 ≤ (x27.length : Int)) && true then
        Option.bind (ref01_Checksum N (cut x27 0 x31.toNat)) fun y32 =>
        bif inR (10 : Int) x27.length then
        let x36 := (x27.set 10 (iu8 (shrI y32.1.1 8)))
        bif inR (11 : Int) x36.length then
        some ((()), (y11.2.1, (x36.set 11 (iu8 y32.1.1)), ()))
        else none
        else none
        else none
        else none
        else none
        else none
        else none
        else none
        else none
        else none
        else none
        else none
        else none
        else none
        else none
      else
        bif inR (10 : Int) x10.length then
        let x38 := (x10.set 10 (0 : UInt8))
        bif inR (11 : Int) x38.length then
        let x39 := (x38.set 11 (0 : UInt8))
        bif inR (0 : Int) x39.length then
        let x43 := w64 ((((x39.getD 0 (0 : UInt8)) &&& (15 : UInt8)).toNat : Int) * (4 : Int))
        bif decide (0 ≤ (0 : Int)) && decide ((0 : Int) ≤ x43) && decide (x43 ≤ (x39.length : Int)) && true then
        Option.bind (ref01_Checksum N (cut x39 0 x43.toNat)) fun y44 =>
        bif inR (10 : Int) x39.length then
        let x48 := (x39.set 10 (iu8 (shrI y44.1.1 8)))
        bif inR (11 : Int) x48.length then
        some ((()), (y11.2.1, (x48.set 11 (iu8 y44.1.1)), ()))
        else none
        else none
        else none
        else none
        else none
        else none
      else none
      else none
    else
      bif (decide ((x_1.length : Int) < (40 : Int))) then
        some ((()), (y3.2.1, x_1, ()))
      else
        bif inR (6 : Int) x_1.length then
        let x52 := (x_1.getD 6 (0 : UInt8))
        let x53 := and64 x4 (4095 : Int)
        Option.bind (make_Codes_Next N (2 : Int) y3.2.1) fun y57 =>
        let x58 := or64 (shlI x4 3) y57.1.1
        bif inR (6 : Int) x_1.length then
        let x60 := (x_1.set 6 (44 : UInt8))
        bif decide (0 ≤ (0 : Int)) && decide ((0 : Int) ≤ (40 : Int)) && decide ((40 : Int) ≤ (x60.length : Int)) && true then
        bif room (0 + (cut x60 0 40).length) 1 then
        bif room ((cut x60 0 40).length + ([x52, (0 : UInt8), (iu8 (shrI x53 5)), (iu8 x58), (0 : UInt8), (0 : UInt8), (0 : UInt8), (1 : UInt8)] : List UInt8).length) 1 then
        let x62 := (cut x60 0 40) ++ ([x52, (0 : UInt8), (iu8 (shrI x53 5)), (iu8 x58), (0 : UInt8), (0 : UInt8), (0 : UInt8), (1 : UInt8)] : List UInt8)
        bif decide (0 ≤ (40 : Int)) && decide ((40 : Int) ≤ (x60.length : Int)) && decide ((x60.length : Int) ≤ (x60.length : Int)) && true then
        bif room (x62.length + (cut x60 40 x60.length).length) 1 then
        let x63 := x62 ++ (cut x60 40 x60.length)
        bif inR (4 : Int) x63.length then
        let x71 := (x63.set 4 (iu8 (shrI (w64 ((x63.length : Int) - (40 : Int))) 8)))
        bif inR (5 : Int) x71.length then
        some ((()), (y57.2.1, (x71.set 5 (iu8 (w64 ((x63.length : Int) - (40 : Int))))), ()))
        else none
        else none
        else none
        else none
        else none
        else none
        else none
        else none
        else none
    else none
    else none
  else none
noncomputable def law22_fragment_C (N : Nat) : Ctx := ⟨125, G_tys, [(36, make_Codes_Next_ctr N), (115, ref01_Checksum_ctr N)], G_globs, ⟨G_ifs.emp, G_ifs.mets, [42, 47, 71, 104, 109]⟩⟩
noncomputable def law22_fragment_S0 : Spec := ⟨[.ref 0 (.pair (.sl .u8) (.pair .i64 .unit)), .val (.sl .u8)], [(.box 113 (.pair (.sl .u8) (.pair .i64 .unit)), .pos 0)]⟩
noncomputable def law22_fragment_S1 : Spec := ⟨[.row 1], [(.box 113 (.pair (.sl .u8) (.pair .i64 .unit)), .fix 0), (.row 5 .u8, .pos 0)]⟩
noncomputable def law22_fragment_K (_N : Nat) : XE → GS → Option law22_fragment_R := retK 1 [4] [false] law22_fragment_S1
noncomputable def law22_fragment_L : List Code := (bodyOf (some Try.f61))
theorem law22_fragment_b {E : Env} (N : Nat) (hb : Base Try.prog (law22_fragment_C N) E 1) : Blk Try.prog (law22_fragment_C N) E (List.range law22_fragment_S0.ks.length) law22_fragment_S0 (law22_fragment_L.drop 0) (fun y => law22_fragment N y.1.1 y.2.1) (law22_fragment_K N) :=
  Blk.chunkAt hb 15 (X := (law22_fragment_K N .normal)) (NxOk.end (by kernel_rfl)) rfl (fun x => by kernel_rfl)
noncomputable def law22_fragment_ctr (N : Nat) : Ctr := ⟨law22_fragment_S0, law22_fragment_S1.un [false], 1, (fun y => law22_fragment N y.1.1 y.2.1)⟩
theorem law22_fragment_ctrs (N : Nat) : CtrsOk Try.prog (law22_fragment_C N) := ctrs_of (Γ := law22_fragment_C N) G_ifs_ok (by
  intro p hp
  simp only [law22_fragment_C, List.mem_cons, List.not_mem_nil, or_false] at hp
  rcases hp with rfl | rfl
  · exact make_Codes_Next_ok N
  · exact ref01_Checksum_ok N)
theorem law22_fragment_ok (N : Nat) : Ctr.ok Try.prog G_globs 61 (law22_fragment_ctr N) :=
  ctr_fn (Γ := law22_fragment_C N) (rfit := law22_fragment_S1) (bs := [false]) (res := [4]) (by kernel_rfl) (tys_ok G_tys_ok) (law22_fragment_ctrs N) Try.func61 (by kernel_rfl) (by kernel_rfl) Try.ntmps61 (by kernel_rfl) (by kernel_rfl) (by kernel_rfl) (by kernel_rfl) (fun E hb => law22_fragment_b N hb)
end Go.Proofs.Ytgbkkfpheahdfaa
namespace Go.Proofs.Ytgbkkfpheahdfaa
open Go
set_option maxRecDepth 100000
set_option linter.unusedVariables false
/-! (*ipsecgate/ipsecgatemake.Codes).Change -/
abbrev make_Codes_Change_R : Type := (((List UInt8) × Unit) × (((List UInt8) × (Int × Unit)) × Unit))
noncomputable def make_Codes_Change (N : Nat) (b_1 : (List UInt8)) (c_0 : ((List UInt8) × (Int × Unit))) : Option make_Codes_Change_R :=
  bif room (0 + b_1.length) 1 then
  Option.bind (make_Codes_Next N (5 : Int) c_0) fun y1 =>
  bif (decide (y1.1.1 = (0 : Int))) then
    Option.bind (make_Codes_Next N (256 : Int) y1.2.1) fun y3 =>
    bif room (b_1.length + ([(iu8 y3.1.1)] : List UInt8).length) 1 then
    some (((b_1 ++ ([(iu8 y3.1.1)] : List UInt8)), ()), (y3.2.1, ()))
    else none
  else
    bif (decide (y1.1.1 = (1 : Int))) then
      Option.bind (make_Codes_Next N (9 : Int) y1.2.1) fun y8 =>
      let x10 := w64 ((w64 ((b_1.length : Int) * y8.1.1)).tdiv (9 : Int))
      bif decide (0 ≤ (0 : Int)) && decide ((0 : Int) ≤ x10) && decide (x10 ≤ (b_1.length : Int)) && true then
      some (((cut b_1 0 x10.toNat), ()), (y8.2.1, ()))
      else none
    else
      bif (decide ((0 : Int) < (b_1.length : Int))) then
        Option.bind (make_Codes_Next N (256 : Int) y1.2.1) fun y14 =>
        Option.bind (make_Codes_Next N (256 : Int) y14.2.1) fun y16 =>
        let x17 := or64 (shlI y14.1.1 8) y16.1.1
        let x18 := (b_1.length : Int)
        bif !(decide (x18 = 0)) then
        bif inR (x17.tmod x18) b_1.length then
        Option.bind (make_Codes_Next N (255 : Int) y16.2.1) fun y21 =>
        bif inR (x17.tmod x18) b_1.length then
        some (((b_1.set (x17.tmod x18).toNat ((b_1.getD (x17.tmod x18).toNat (0 : UInt8)) ^^^ (iu8 (w64 ((1 : Int) + y21.1.1))))), ()), (y21.2.1, ()))
        else none
        else none
        else none
      else
        some ((b_1, ()), (y1.2.1, ()))
  else none
noncomputable def make_Codes_Change_C (N : Nat) : Ctx := ⟨51, G_tys, [(36, make_Codes_Next_ctr N)], G_globs, G_ifs⟩
noncomputable def make_Codes_Change_S0 : Spec := ⟨[.ref 0 (.pair (.sl .u8) (.pair .i64 .unit)), .val (.sl .u8)], [(.box 113 (.pair (.sl .u8) (.pair .i64 .unit)), .pos 0)]⟩
noncomputable def make_Codes_Change_S1 : Spec := ⟨[.val (.sl .u8)], [(.box 113 (.pair (.sl .u8) (.pair .i64 .unit)), .fix 0)]⟩
noncomputable def make_Codes_Change_K (_N : Nat) : XE → GS → Option make_Codes_Change_R := retK 1 [4] [false] make_Codes_Change_S1
noncomputable def make_Codes_Change_L : List Code := (bodyOf (some Try.f62))
theorem make_Codes_Change_b {E : Env} (N : Nat) (hb : Base Try.prog (make_Codes_Change_C N) E 1) : Blk Try.prog (make_Codes_Change_C N) E (List.range make_Codes_Change_S0.ks.length) make_Codes_Change_S0 (make_Codes_Change_L.drop 0) (fun y => make_Codes_Change N y.1.1 y.2.1) (make_Codes_Change_K N) :=
  Blk.chunkAt hb 8 (X := (make_Codes_Change_K N .normal)) (NxOk.end (by kernel_rfl)) rfl (fun x => by kernel_rfl)
noncomputable def make_Codes_Change_ctr (N : Nat) : Ctr := ⟨make_Codes_Change_S0, make_Codes_Change_S1.un [false], 1, (fun y => make_Codes_Change N y.1.1 y.2.1)⟩
theorem make_Codes_Change_ctrs (N : Nat) : CtrsOk Try.prog (make_Codes_Change_C N) := ctrs_of (Γ := make_Codes_Change_C N) G_ifs_ok (by
  intro p hp
  simp only [make_Codes_Change_C, List.mem_cons, List.not_mem_nil, or_false] at hp
  rcases hp with rfl
  · exact make_Codes_Next_ok N)
theorem make_Codes_Change_ok (N : Nat) : Ctr.ok Try.prog G_globs 62 (make_Codes_Change_ctr N) :=
  ctr_fn (Γ := make_Codes_Change_C N) (rfit := make_Codes_Change_S1) (bs := [false]) (res := [4]) (by kernel_rfl) (tys_ok G_tys_ok) (make_Codes_Change_ctrs N) Try.func62 (by kernel_rfl) (by kernel_rfl) Try.ntmps62 (by kernel_rfl) (by kernel_rfl) (by kernel_rfl) (by kernel_rfl) (fun E hb => make_Codes_Change_b N hb)
end Go.Proofs.Ytgbkkfpheahdfaa
namespace Go.Proofs.Ytgbkkfpheahdfaa
open Go
set_option maxRecDepth 100000
set_option linter.unusedVariables false
/-! ipsecgate/ipsecgateref01.Number -/
abbrev ref01_Number_R : Type := ((UInt64 × Bool × Unit) × (Unit))
noncomputable def ref01_Number_s3 (N : Nat) (b_0 : (List UInt8)) (at_1 : Int) (width_2 : Int) (v_8 : UInt64) (i_9 : Int) : Option (Lo (((List UInt8) × Int × Int × UInt64 × Int × Unit) × (Unit)) ((UInt64 × Unit) × (Unit)) ref01_Number_R) :=
  bif (decide (i_9 < (w64 (at_1 + width_2)))) then
    bif inR i_9 b_0.length then
    some (.go ((b_0, at_1, width_2, ((shl64 v_8 8) ||| (b_0.getD i_9.toNat (0 : UInt8)).toUInt64), (w64 (i_9 + (1 : Int))), ()), (())))
    else none
  else
    some (.br ((v_8, ()), (())))
noncomputable def ref01_Number_4 (N : Nat) (v_8 : UInt64) : Option ref01_Number_R :=
  some ((v_8, true, ()), (()))
noncomputable def ref01_Number_2 (N : Nat) (b_0 : (List UInt8)) (at_1 : Int) (width_2 : Int) (v_8 : UInt64) (i_9 : Int) : Option ref01_Number_R :=
  loopK N (fun y => ref01_Number_s3 N y.1.1 y.1.2.1 y.1.2.2.1 y.1.2.2.2.1 y.1.2.2.2.2.1) (fun (e : ((UInt64 × Unit) × (Unit))) => ref01_Number_4 N e.1.1) ((b_0, at_1, width_2, v_8, i_9, ()), (()))
noncomputable def ref01_Number_1 (N : Nat) (b_0 : (List UInt8)) (at_1 : Int) (width_2 : Int) (t_33 : Bool) : Option ref01_Number_R :=
  bif t_33 then
    some (((0 : UInt64), false, ()), (()))
  else
    ref01_Number_2 N b_0 at_1 width_2 (0 : UInt64) at_1
noncomputable def ref01_Number (N : Nat) (b_0 : (List UInt8)) (at_1 : Int) (width_2 : Int) : Option ref01_Number_R :=
  bif (decide (width_2 < (1 : Int))) then
    ref01_Number_1 N b_0 at_1 width_2 true
  else
    bif (decide ((8 : Int) < width_2)) then
      ref01_Number_1 N b_0 at_1 width_2 true
    else
      bif (decide (at_1 < (0 : Int))) then
        ref01_Number_1 N b_0 at_1 width_2 true
      else
        bif (decide ((b_0.length : Int) < at_1)) then
          ref01_Number_1 N b_0 at_1 width_2 true
        else
          ref01_Number_1 N b_0 at_1 width_2 (decide ((w64 ((b_0.length : Int) - at_1)) < width_2))
noncomputable def ref01_Number_C (N : Nat) : Ctx := ⟨51, G_tys, [], G_globs, G_ifs⟩
noncomputable def ref01_Number_S0 : Spec := ⟨[.val (.sl .u8), .val .i64, .val .i64, .val .u64, .val .i64], []⟩
noncomputable def ref01_Number_S1 : Spec := ⟨[.val .u64], []⟩
noncomputable def ref01_Number_S2 : Spec := ⟨[.val (.sl .u8), .val .i64, .val .i64, .val .bool], []⟩
noncomputable def ref01_Number_S3 : Spec := ⟨[.val (.sl .u8), .val .i64, .val .i64], []⟩
noncomputable def ref01_Number_S4 : Spec := ⟨[.val .u64, .val .bool], []⟩
noncomputable def ref01_Number_K (_N : Nat) : XE → GS → Option ref01_Number_R := retK 0 [6, 7] [false, false] ref01_Number_S4
noncomputable def ref01_Number_L : List Code := (bodyOf (some Try.f157))
noncomputable def ref01_Number_L3 : List Code := (loopOf (ref01_Number_L[5]?))
noncomputable def ref01_Number_K3 (N : Nat) : XE → GS → Option (Lo (((List UInt8) × Int × Int × UInt64 × Int × Unit) × (Unit)) ((UInt64 × Unit) × (Unit)) ref01_Number_R) := roundK (some 0) (fit 0 [0, 1, 2, 8, 9] ref01_Number_S0) (fit 0 [8] ref01_Number_S1) (ref01_Number_K N)
theorem ref01_Number_s3_b {E : Env} (N : Nat) (hb : Base Try.prog (ref01_Number_C N) E 0) : Blk Try.prog (ref01_Number_C N) E [0, 1, 2, 8, 9] ref01_Number_S0 (ref01_Number_L3.drop 0) (fun y => ref01_Number_s3 N y.1.1 y.1.2.1 y.1.2.2.1 y.1.2.2.2.1 y.1.2.2.2.2.1) (ref01_Number_K3 N) :=
  Blk.chunkAt hb 4 (X := (ref01_Number_K3 N .normal)) (NxOk.end (by kernel_rfl)) rfl (fun x => by kernel_rfl)
theorem ref01_Number_4_b {E : Env} (N : Nat) (hb : Base Try.prog (ref01_Number_C N) E 0) : Blk Try.prog (ref01_Number_C N) E [8] ref01_Number_S1 (ref01_Number_L.drop 6) (fun y => ref01_Number_4 N y.1.1) (ref01_Number_K N) :=
  Blk.chunkAt hb 2 (X := (ref01_Number_K N .normal)) (NxOk.end (by kernel_rfl)) rfl (fun x => by kernel_rfl)
theorem ref01_Number_2_b {E : Env} (N : Nat) (hb : Base Try.prog (ref01_Number_C N) E 0) : Blk Try.prog (ref01_Number_C N) E [0, 1, 2, 8, 9] ref01_Number_S0 (ref01_Number_L.drop 5) (fun y => ref01_Number_2 N y.1.1 y.1.2.1 y.1.2.2.1 y.1.2.2.2.1 y.1.2.2.2.2.1) (ref01_Number_K N) :=
  Blk.loopAt (Nf := N) (hns := [0, 1, 2, 8, 9]) (ans := [8]) (hc := ref01_Number_S0) (ac := ref01_Number_S1) (bid := 0) (step := (fun y => ref01_Number_s3 N y.1.1 y.1.2.1 y.1.2.2.1 y.1.2.2.2.1 y.1.2.2.2.2.1)) (J := (fun e => (goK 0 [8] ref01_Number_S1 (fun y => ref01_Number_4 N y.1.1)) (ref01_Number_S1.st [8] e))) hb (by kernel_rfl) (Blk.into (X := (goK 0 [8] ref01_Number_S1 (fun y => ref01_Number_4 N y.1.1))) (NxOk.go hb (ref01_Number_4_b N hb)) (fun x => by kernel_rfl)) (ref01_Number_s3_b N hb) (fun x => by kernel_rfl)
theorem ref01_Number_1_b {E : Env} (N : Nat) (hb : Base Try.prog (ref01_Number_C N) E 0) : Blk Try.prog (ref01_Number_C N) E [0, 1, 2, 33] ref01_Number_S2 (ref01_Number_L.drop 2) (fun y => ref01_Number_1 N y.1.1 y.1.2.1 y.1.2.2.1 y.1.2.2.2.1) (ref01_Number_K N) :=
  Blk.chunkAt hb 3 (X := (goK 0 [0, 1, 2, 8, 9] ref01_Number_S0 (fun y => ref01_Number_2 N y.1.1 y.1.2.1 y.1.2.2.1 y.1.2.2.2.1 y.1.2.2.2.2.1))) (NxOk.go hb (ref01_Number_2_b N hb)) rfl (fun x => by kernel_rfl)
theorem ref01_Number_b {E : Env} (N : Nat) (hb : Base Try.prog (ref01_Number_C N) E 0) : Blk Try.prog (ref01_Number_C N) E (List.range ref01_Number_S3.ks.length) ref01_Number_S3 (ref01_Number_L.drop 0) (fun y => ref01_Number N y.1.1 y.1.2.1 y.1.2.2.1) (ref01_Number_K N) :=
  Blk.chunkAt hb 2 (X := (goK 0 [0, 1, 2, 33] ref01_Number_S2 (fun y => ref01_Number_1 N y.1.1 y.1.2.1 y.1.2.2.1 y.1.2.2.2.1))) (NxOk.go hb (ref01_Number_1_b N hb)) rfl (fun x => by kernel_rfl)
noncomputable def ref01_Number_ctr (N : Nat) : Ctr := ⟨ref01_Number_S3, ref01_Number_S4.un [false, false], 0, (fun y => ref01_Number N y.1.1 y.1.2.1 y.1.2.2.1)⟩
theorem ref01_Number_ctrs (N : Nat) : CtrsOk Try.prog (ref01_Number_C N) := ctrs_nil G_ifs_ok rfl
theorem ref01_Number_ok (N : Nat) : Ctr.ok Try.prog G_globs 157 (ref01_Number_ctr N) :=
  ctr_fn (Γ := ref01_Number_C N) (rfit := ref01_Number_S4) (bs := [false, false]) (res := [6, 7]) (by kernel_rfl) (tys_ok G_tys_ok) (ref01_Number_ctrs N) Try.func157 (by kernel_rfl) (by kernel_rfl) Try.ntmps157 (by kernel_rfl) (by kernel_rfl) (by kernel_rfl) (by kernel_rfl) (fun E hb => ref01_Number_b N hb)
end Go.Proofs.Ytgbkkfpheahdfaa
namespace Go.Proofs.Ytgbkkfpheahdfaa
open Go
set_option maxRecDepth 100000
set_option linter.unusedVariables false
/-! ipsecgate/ipsecgateref22.word -/
abbrev ref22_word_R : Type := ((Int × Unit) × (Unit))
noncomputable def ref22_word (N : Nat) (b_0 : (List UInt8)) (at_1 : Int) : Option ref22_word_R :=
  Option.bind (ref01_Number N b_0 at_1 (2 : Int)) fun y1 =>
  some (((w64 (y1.1.1.toNat : Int)), ()), (()))
noncomputable def ref22_word_C (N : Nat) : Ctx := ⟨15, G_tys, [(157, ref01_Number_ctr N)], G_globs, G_ifs⟩
noncomputable def ref22_word_S0 : Spec := ⟨[.val (.sl .u8), .val .i64], []⟩
noncomputable def ref22_word_S1 : Spec := ⟨[.val .i64], []⟩
noncomputable def ref22_word_K (_N : Nat) : XE → GS → Option ref22_word_R := retK 0 [4] [false] ref22_word_S1
noncomputable def ref22_word_L : List Code := (bodyOf (some Try.f122))
theorem ref22_word_b {E : Env} (N : Nat) (hb : Base Try.prog (ref22_word_C N) E 0) : Blk Try.prog (ref22_word_C N) E (List.range ref22_word_S0.ks.length) ref22_word_S0 (ref22_word_L.drop 0) (fun y => ref22_word N y.1.1 y.1.2.1) (ref22_word_K N) :=
  Blk.chunkAt hb 4 (X := (ref22_word_K N .normal)) (NxOk.end (by kernel_rfl)) rfl (fun x => by kernel_rfl)
noncomputable def ref22_word_ctr (N : Nat) : Ctr := ⟨ref22_word_S0, ref22_word_S1.un [false], 0, (fun y => ref22_word N y.1.1 y.1.2.1)⟩
theorem ref22_word_ctrs (N : Nat) : CtrsOk Try.prog (ref22_word_C N) := ctrs_of (Γ := ref22_word_C N) G_ifs_ok (by
  intro p hp
  simp only [ref22_word_C, List.mem_cons, List.not_mem_nil, or_false] at hp
  rcases hp with rfl
  · exact ref01_Number_ok N)
theorem ref22_word_ok (N : Nat) : Ctr.ok Try.prog G_globs 122 (ref22_word_ctr N) :=
  ctr_fn (Γ := ref22_word_C N) (rfit := ref22_word_S1) (bs := [false]) (res := [4]) (by kernel_rfl) (tys_ok G_tys_ok) (ref22_word_ctrs N) Try.func122 (by kernel_rfl) (by kernel_rfl) Try.ntmps122 (by kernel_rfl) (by kernel_rfl) (by kernel_rfl) (by kernel_rfl) (fun E hb => ref22_word_b N hb)
end Go.Proofs.Ytgbkkfpheahdfaa
namespace Go.Proofs.Ytgbkkfpheahdfaa
open Go
set_option maxRecDepth 100000
set_option linter.unusedVariables false
/-! ipsecgate/ipsecgateref05.GetAddress -/
abbrev ref05_GetAddress_R : Type := ((D27 × Bool × Unit) × (Unit))
noncomputable def ref05_GetAddress (N : Nat) (b_0 : (List UInt8)) (at_1 : Int) (family_2 : Int) : Option ref05_GetAddress_R :=
  bif (decide (family_2 = (4 : Int))) then
    Option.bind (ref01_Number N b_0 at_1 (4 : Int)) fun y2 =>
    some ((((4 : Int), (0 : UInt64), y2.1.1, ()), y2.1.2.1, ()), (()))
  else
    Option.bind (ref01_Number N b_0 at_1 (8 : Int)) fun y3 =>
    Option.bind (ref01_Number N b_0 (w64 (at_1 + (8 : Int))) (8 : Int)) fun y5 =>
    bif y3.1.2.1 then
      some ((((6 : Int), y3.1.1, y5.1.1, ()), y5.1.2.1, ()), (()))
    else
      some ((((6 : Int), y3.1.1, y5.1.1, ()), false, ()), (()))
noncomputable def ref05_GetAddress_C (N : Nat) : Ctx := ⟨45, G_tys, [(157, ref01_Number_ctr N)], G_globs, G_ifs⟩
noncomputable def ref05_GetAddress_S0 : Spec := ⟨[.val (.sl .u8), .val .i64, .val .i64], []⟩
noncomputable def ref05_GetAddress_S1 : Spec := ⟨[.fp T27, .val .bool], []⟩
noncomputable def ref05_GetAddress_K (_N : Nat) : XE → GS → Option ref05_GetAddress_R := retK 0 [6, 7] [true, false] ref05_GetAddress_S1
noncomputable def ref05_GetAddress_L : List Code := (bodyOf (some Try.f156))
theorem ref05_GetAddress_b {E : Env} (N : Nat) (hb : Base Try.prog (ref05_GetAddress_C N) E 0) : Blk Try.prog (ref05_GetAddress_C N) E (List.range ref05_GetAddress_S0.ks.length) ref05_GetAddress_S0 (ref05_GetAddress_L.drop 0) (fun y => ref05_GetAddress N y.1.1 y.1.2.1 y.1.2.2.1) (ref05_GetAddress_K N) :=
  Blk.chunkAt hb 7 (X := (ref05_GetAddress_K N .normal)) (NxOk.end (by kernel_rfl)) rfl (fun x => by kernel_rfl)
noncomputable def ref05_GetAddress_ctr (N : Nat) : Ctr := ⟨ref05_GetAddress_S0, ref05_GetAddress_S1.un [true, false], 0, (fun y => ref05_GetAddress N y.1.1 y.1.2.1 y.1.2.2.1)⟩
theorem ref05_GetAddress_ctrs (N : Nat) : CtrsOk Try.prog (ref05_GetAddress_C N) := ctrs_of (Γ := ref05_GetAddress_C N) G_ifs_ok (by
  intro p hp
  simp only [ref05_GetAddress_C, List.mem_cons, List.not_mem_nil, or_false] at hp
  rcases hp with rfl
  · exact ref01_Number_ok N)
theorem ref05_GetAddress_ok (N : Nat) : Ctr.ok Try.prog G_globs 156 (ref05_GetAddress_ctr N) :=
  ctr_fn (Γ := ref05_GetAddress_C N) (rfit := ref05_GetAddress_S1) (bs := [true, false]) (res := [6, 7]) (by kernel_rfl) (tys_ok G_tys_ok) (ref05_GetAddress_ctrs N) Try.func156 (by kernel_rfl) (by kernel_rfl) Try.ntmps156 (by kernel_rfl) (by kernel_rfl) (by kernel_rfl) (by kernel_rfl) (fun E hb => ref05_GetAddress_b N hb)
end Go.Proofs.Ytgbkkfpheahdfaa
namespace Go.Proofs.Ytgbkkfpheahdfaa
open Go
set_option maxRecDepth 100000
set_option linter.unusedVariables false
/-! ipsecgate/ipsecgateref22.four -/
abbrev ref22_four_R : Type := ((D90 × Int × Unit) × (Unit))
noncomputable def ref22_four_1 (N : Nat) (b_0 : (List UInt8)) (n_4 : Int) (t_31 : Bool) (t_2 : D90) : Option ref22_four_R :=
  bif t_31 then
    some ((((((0 : Int), (0 : UInt64), (0 : UInt64), ()), ((0 : Int), (0 : UInt64), (0 : UInt64), ()), (0 : Int), (0 : Int), (0 : Int), ()), (0 : Int), false, false, (0 : Int), ()), (2 : Int), ()), (()))
  else
    bif decide (0 ≤ (0 : Int)) && decide ((0 : Int) ≤ n_4) && decide (n_4 ≤ (b_0.length : Int)) && true then
    Option.bind (ref01_Checksum N (cut b_0 0 n_4.toNat)) fun y9 =>
    bif (!(decide (y9.1.1 = (0 : Int)))) then
      some ((((((0 : Int), (0 : UInt64), (0 : UInt64), ()), ((0 : Int), (0 : UInt64), (0 : UInt64), ()), (0 : Int), (0 : Int), (0 : Int), ()), (0 : Int), false, false, (0 : Int), ()), (12 : Int), ()), (()))
    else
      Option.bind (ref22_word N b_0 (6 : Int)) fun y11 =>
      bif inR (9 : Int) b_0.length then
      Option.bind (ref05_GetAddress N b_0 (12 : Int) (4 : Int)) fun y18 =>
      Option.bind (ref05_GetAddress N b_0 (16 : Int) (4 : Int)) fun y19 =>
      some ((((y18.1.1, y19.1.1, ((b_0.getD 9 (0 : UInt8)).toNat : Int), (0 : Int), (0 : Int), ()), (w64 ((and64 y11.1.1 (8191 : Int)) * (8 : Int))), (!(decide ((and64 y11.1.1 (8192 : Int)) = (0 : Int)))), false, n_4, ()), (0 : Int), ()), (()))
      else none
    else none
noncomputable def ref22_four (N : Nat) (b_0 : (List UInt8)) : Option ref22_four_R :=
  bif (decide ((b_0.length : Int) < (20 : Int))) then
    some ((((((0 : Int), (0 : UInt64), (0 : UInt64), ()), ((0 : Int), (0 : UInt64), (0 : UInt64), ()), (0 : Int), (0 : Int), (0 : Int), ()), (0 : Int), false, false, (0 : Int), ()), (1 : Int), ()), (()))
  else
    bif inR (0 : Int) b_0.length then
    let x6 := w64 ((((b_0.getD 0 (0 : UInt8)) &&& (15 : UInt8)).toNat : Int) * (4 : Int))
    bif (decide (x6 < (20 : Int))) then
      ref22_four_1 N b_0 x6 true ((((0 : Int), (0 : UInt64), (0 : UInt64), ()), ((0 : Int), (0 : UInt64), (0 : UInt64), ()), (0 : Int), (0 : Int), (0 : Int), ()), (0 : Int), false, false, (0 : Int), ())
    else
      bif (decide ((b_0.length : Int) < x6)) then
        ref22_four_1 N b_0 x6 true ((((0 : Int), (0 : UInt64), (0 : UInt64), ()), ((0 : Int), (0 : UInt64), (0 : UInt64), ()), (0 : Int), (0 : Int), (0 : Int), ()), (0 : Int), false, false, (0 : Int), ())
      else
        Option.bind (ref22_word N b_0 (2 : Int)) fun y22 =>
        ref22_four_1 N b_0 x6 (!(decide (y22.1.1 = (b_0.length : Int)))) ((((0 : Int), (0 : UInt64), (0 : UInt64), ()), ((0 : Int), (0 : UInt64), (0 : UInt64), ()), (0 : Int), (0 : Int), (0 : Int), ()), (0 : Int), false, false, (0 : Int), ())
    else none
noncomputable def ref22_four_C (N : Nat) : Ctx := ⟨70, G_tys, [(115, ref01_Checksum_ctr N), (122, ref22_word_ctr N), (156, ref05_GetAddress_ctr N)], G_globs, G_ifs⟩
noncomputable def ref22_four_S0 : Spec := ⟨[.val (.sl .u8), .ref 0 T90, .val .i64, .val .bool], [(.box 91 T90, .pos 1)]⟩
noncomputable def ref22_four_S1 : Spec := ⟨[.val (.sl .u8)], []⟩
noncomputable def ref22_four_S2 : Spec := ⟨[.fp T90, .val .i64], []⟩
noncomputable def ref22_four_K (_N : Nat) : XE → GS → Option ref22_four_R := retK 0 [2, 3] [true, false] ref22_four_S2
noncomputable def ref22_four_L : List Code := (bodyOf (some Try.f120))
theorem ref22_four_1_b {E : Env} (N : Nat) (hb : Base Try.prog (ref22_four_C N) E 0) : Blk Try.prog (ref22_four_C N) E [0, 2, 4, 31] ref22_four_S0 (ref22_four_L.drop 5) (fun y => ref22_four_1 N y.1.1 y.1.2.1 y.1.2.2.1 y.2.1) (ref22_four_K N) :=
  Blk.chunkAt hb 10 (X := (ref22_four_K N .normal)) (NxOk.end (by kernel_rfl)) rfl (fun x => by kernel_rfl)
theorem ref22_four_b {E : Env} (N : Nat) (hb : Base Try.prog (ref22_four_C N) E 0) : Blk Try.prog (ref22_four_C N) E (List.range ref22_four_S1.ks.length) ref22_four_S1 (ref22_four_L.drop 0) (fun y => ref22_four N y.1.1) (ref22_four_K N) :=
  Blk.chunkAt hb 5 (X := (goK 0 [0, 2, 4, 31] ref22_four_S0 (fun y => ref22_four_1 N y.1.1 y.1.2.1 y.1.2.2.1 y.2.1))) (NxOk.go hb (ref22_four_1_b N hb)) rfl (fun x => by kernel_rfl)
noncomputable def ref22_four_ctr (N : Nat) : Ctr := ⟨ref22_four_S1, ref22_four_S2.un [true, false], 0, (fun y => ref22_four N y.1.1)⟩
theorem ref22_four_ctrs (N : Nat) : CtrsOk Try.prog (ref22_four_C N) := ctrs_of (Γ := ref22_four_C N) G_ifs_ok (by
  intro p hp
  simp only [ref22_four_C, List.mem_cons, List.not_mem_nil, or_false] at hp
  rcases hp with rfl | rfl | rfl
  · exact ref01_Checksum_ok N
  · exact ref22_word_ok N
  · exact ref05_GetAddress_ok N)
theorem ref22_four_ok (N : Nat) : Ctr.ok Try.prog G_globs 120 (ref22_four_ctr N) :=
  ctr_fn (Γ := ref22_four_C N) (rfit := ref22_four_S2) (bs := [true, false]) (res := [2, 3]) (by kernel_rfl) (tys_ok G_tys_ok) (ref22_four_ctrs N) Try.func120 (by kernel_rfl) (by kernel_rfl) Try.ntmps120 (by kernel_rfl) (by kernel_rfl) (by kernel_rfl) (by kernel_rfl) (fun E hb => ref22_four_b N hb)
end Go.Proofs.Ytgbkkfpheahdfaa
namespace Go.Proofs.Ytgbkkfpheahdfaa
open Go
set_option maxRecDepth 100000
set_option linter.unusedVariables false
/-! ipsecgate/ipsecgateref22.six -/
abbrev ref22_six_R : Type := ((D90 × Int × Unit) × (Unit))
noncomputable def ref22_six_1 (N : Nat) (b_0 : (List UInt8)) (t_19 : Bool) (t_2 : D90) : Option ref22_six_R :=
  bif t_19 then
    some ((((((0 : Int), (0 : UInt64), (0 : UInt64), ()), ((0 : Int), (0 : UInt64), (0 : UInt64), ()), (0 : Int), (0 : Int), (0 : Int), ()), (0 : Int), false, false, (0 : Int), ()), (1 : Int), ()), (()))
  else
    Option.bind (ref22_word N b_0 (4 : Int)) fun y3 =>
    bif (!(decide (y3.1.1 = (w64 ((b_0.length : Int) - (40 : Int)))))) then
      some ((((((0 : Int), (0 : UInt64), (0 : UInt64), ()), ((0 : Int), (0 : UInt64), (0 : UInt64), ()), (0 : Int), (0 : Int), (0 : Int), ()), (0 : Int), false, false, (0 : Int), ()), (2 : Int), ()), (()))
    else
      bif inR (6 : Int) b_0.length then
      Option.bind (ref05_GetAddress N b_0 (8 : Int) (6 : Int)) fun y9 =>
      Option.bind (ref05_GetAddress N b_0 (24 : Int) (6 : Int)) fun y10 =>
      bif inR (6 : Int) b_0.length then
      bif (decide ((b_0.getD 6 (0 : UInt8)) = (44 : UInt8))) then
        Option.bind (ref22_word N b_0 (42 : Int)) fun y13 =>
        bif inR (40 : Int) b_0.length then
        some ((((y9.1.1, y10.1.1, ((b_0.getD 40 (0 : UInt8)).toNat : Int), (0 : Int), (0 : Int), ()), (andNot64 y13.1.1 (7 : Int)), (decide ((and64 y13.1.1 (1 : Int)) = (1 : Int))), false, (48 : Int), ()), (0 : Int), ()), (()))
        else none
      else
        some ((((y9.1.1, y10.1.1, ((b_0.getD 6 (0 : UInt8)).toNat : Int), (0 : Int), (0 : Int), ()), (0 : Int), false, false, (40 : Int), ()), (0 : Int), ()), (()))
      else none
      else none
noncomputable def ref22_six (N : Nat) (b_0 : (List UInt8)) : Option ref22_six_R :=
  bif (decide ((b_0.length : Int) < (40 : Int))) then
    ref22_six_1 N b_0 true ((((0 : Int), (0 : UInt64), (0 : UInt64), ()), ((0 : Int), (0 : UInt64), (0 : UInt64), ()), (0 : Int), (0 : Int), (0 : Int), ()), (0 : Int), false, false, (0 : Int), ())
  else
    bif inR (6 : Int) b_0.length then
    bif (decide ((b_0.getD 6 (0 : UInt8)) = (44 : UInt8))) then
      ref22_six_1 N b_0 (decide ((b_0.length : Int) < (48 : Int))) ((((0 : Int), (0 : UInt64), (0 : UInt64), ()), ((0 : Int), (0 : UInt64), (0 : UInt64), ()), (0 : Int), (0 : Int), (0 : Int), ()), (0 : Int), false, false, (0 : Int), ())
    else
      ref22_six_1 N b_0 false ((((0 : Int), (0 : UInt64), (0 : UInt64), ()), ((0 : Int), (0 : UInt64), (0 : UInt64), ()), (0 : Int), (0 : Int), (0 : Int), ()), (0 : Int), false, false, (0 : Int), ())
    else none
noncomputable def ref22_six_C (N : Nat) : Ctx := ⟨70, G_tys, [(122, ref22_word_ctr N), (156, ref05_GetAddress_ctr N)], G_globs, G_ifs⟩
noncomputable def ref22_six_S0 : Spec := ⟨[.val (.sl .u8), .ref 0 T90, .val .bool], [(.box 91 T90, .pos 1)]⟩
noncomputable def ref22_six_S1 : Spec := ⟨[.val (.sl .u8)], []⟩
noncomputable def ref22_six_S2 : Spec := ⟨[.fp T90, .val .i64], []⟩
noncomputable def ref22_six_K (_N : Nat) : XE → GS → Option ref22_six_R := retK 0 [2, 3] [true, false] ref22_six_S2
noncomputable def ref22_six_L : List Code := (bodyOf (some Try.f121))
theorem ref22_six_1_b {E : Env} (N : Nat) (hb : Base Try.prog (ref22_six_C N) E 0) : Blk Try.prog (ref22_six_C N) E [0, 2, 19] ref22_six_S0 (ref22_six_L.drop 2) (fun y => ref22_six_1 N y.1.1 y.1.2.1 y.2.1) (ref22_six_K N) :=
  Blk.chunkAt hb 11 (X := (ref22_six_K N .normal)) (NxOk.end (by kernel_rfl)) rfl (fun x => by kernel_rfl)
theorem ref22_six_b {E : Env} (N : Nat) (hb : Base Try.prog (ref22_six_C N) E 0) : Blk Try.prog (ref22_six_C N) E (List.range ref22_six_S1.ks.length) ref22_six_S1 (ref22_six_L.drop 0) (fun y => ref22_six N y.1.1) (ref22_six_K N) :=
  Blk.chunkAt hb 2 (X := (goK 0 [0, 2, 19] ref22_six_S0 (fun y => ref22_six_1 N y.1.1 y.1.2.1 y.2.1))) (NxOk.go hb (ref22_six_1_b N hb)) rfl (fun x => by kernel_rfl)
noncomputable def ref22_six_ctr (N : Nat) : Ctr := ⟨ref22_six_S1, ref22_six_S2.un [true, false], 0, (fun y => ref22_six N y.1.1)⟩
theorem ref22_six_ctrs (N : Nat) : CtrsOk Try.prog (ref22_six_C N) := ctrs_of (Γ := ref22_six_C N) G_ifs_ok (by
  intro p hp
  simp only [ref22_six_C, List.mem_cons, List.not_mem_nil, or_false] at hp
  rcases hp with rfl | rfl
  · exact ref22_word_ok N
  · exact ref05_GetAddress_ok N)
theorem ref22_six_ok (N : Nat) : Ctr.ok Try.prog G_globs 121 (ref22_six_ctr N) :=
  ctr_fn (Γ := ref22_six_C N) (rfit := ref22_six_S2) (bs := [true, false]) (res := [2, 3]) (by kernel_rfl) (tys_ok G_tys_ok) (ref22_six_ctrs N) Try.func121 (by kernel_rfl) (by kernel_rfl) Try.ntmps121 (by kernel_rfl) (by kernel_rfl) (by kernel_rfl) (by kernel_rfl) (fun E hb => ref22_six_b N hb)
end Go.Proofs.Ytgbkkfpheahdfaa
namespace Go.Proofs.Ytgbkkfpheahdfaa
open Go
set_option maxRecDepth 100000
set_option linter.unusedVariables false
/-! ipsecgate/ipsecgateref22.See -/
abbrev ref22_See_R : Type := ((D90 × Int × Unit) × (Unit))
noncomputable def ref22_See_4 (N : Nat) (b_0 : (List UInt8)) (t_2 : D90) (s_4 : D90) : Option ref22_See_R :=
  let x12 := w64 ((b_0.length : Int) - s_4.2.2.2.2.1)
  bif (decide (s_4.1.2.2.1 = (6 : Int))) then
    bif (decide (s_4.2.1 = (0 : Int))) then
      bif (decide ((4 : Int) ≤ x12)) then
        Option.bind (ref22_word N b_0 s_4.2.2.2.2.1) fun y16 =>
        Option.bind (ref22_word N b_0 (w64 (s_4.2.2.2.2.1 + (2 : Int)))) fun y18 =>
        some ((((s_4.1.1, s_4.1.2.1, s_4.1.2.2.1, y16.1.1, y18.1.1, ()), s_4.2.1, s_4.2.2.1, s_4.2.2.2.1, s_4.2.2.2.2.1, ()), (0 : Int), ()), (()))
      else
        some ((((s_4.1.1, s_4.1.2.1, s_4.1.2.2.1, (-1 : Int), (-1 : Int), ()), s_4.2.1, s_4.2.2.1, s_4.2.2.2.1, s_4.2.2.2.2.1, ()), (0 : Int), ()), (()))
    else
      some ((((s_4.1.1, s_4.1.2.1, s_4.1.2.2.1, (-1 : Int), (-1 : Int), ()), s_4.2.1, s_4.2.2.1, s_4.2.2.2.1, s_4.2.2.2.2.1, ()), (0 : Int), ()), (()))
  else
    bif (decide (s_4.1.2.2.1 = (17 : Int))) then
      bif (decide (s_4.2.1 = (0 : Int))) then
        bif (decide ((4 : Int) ≤ x12)) then
          Option.bind (ref22_word N b_0 s_4.2.2.2.2.1) fun y22 =>
          Option.bind (ref22_word N b_0 (w64 (s_4.2.2.2.2.1 + (2 : Int)))) fun y24 =>
          some ((((s_4.1.1, s_4.1.2.1, s_4.1.2.2.1, y22.1.1, y24.1.1, ()), s_4.2.1, s_4.2.2.1, s_4.2.2.2.1, s_4.2.2.2.2.1, ()), (0 : Int), ()), (()))
        else
          some ((((s_4.1.1, s_4.1.2.1, s_4.1.2.2.1, (-1 : Int), (-1 : Int), ()), s_4.2.1, s_4.2.2.1, s_4.2.2.2.1, s_4.2.2.2.2.1, ()), (0 : Int), ()), (()))
      else
        some ((((s_4.1.1, s_4.1.2.1, s_4.1.2.2.1, (-1 : Int), (-1 : Int), ()), s_4.2.1, s_4.2.2.1, s_4.2.2.2.1, s_4.2.2.2.2.1, ()), (0 : Int), ()), (()))
    else
      bif (decide (s_4.1.2.2.1 = (1 : Int))) then
        bif (decide (s_4.2.1 = (0 : Int))) then
          bif (decide ((2 : Int) ≤ x12)) then
            Option.bind (ref22_word N b_0 s_4.2.2.2.2.1) fun y28 =>
            some ((((s_4.1.1, s_4.1.2.1, s_4.1.2.2.1, y28.1.1, (-1 : Int), ()), s_4.2.1, s_4.2.2.1, s_4.2.2.2.1, s_4.2.2.2.2.1, ()), (0 : Int), ()), (()))
          else
            some ((((s_4.1.1, s_4.1.2.1, s_4.1.2.2.1, (-1 : Int), (-1 : Int), ()), s_4.2.1, s_4.2.2.1, s_4.2.2.2.1, s_4.2.2.2.2.1, ()), (0 : Int), ()), (()))
        else
          some ((((s_4.1.1, s_4.1.2.1, s_4.1.2.2.1, (-1 : Int), (-1 : Int), ()), s_4.2.1, s_4.2.2.1, s_4.2.2.2.1, s_4.2.2.2.2.1, ()), (0 : Int), ()), (()))
      else
        bif (decide (s_4.1.2.2.1 = (58 : Int))) then
          bif (decide (s_4.2.1 = (0 : Int))) then
            bif (decide ((2 : Int) ≤ x12)) then
              Option.bind (ref22_word N b_0 s_4.2.2.2.2.1) fun y32 =>
              some ((((s_4.1.1, s_4.1.2.1, s_4.1.2.2.1, y32.1.1, (-1 : Int), ()), s_4.2.1, s_4.2.2.1, s_4.2.2.2.1, s_4.2.2.2.2.1, ()), (0 : Int), ()), (()))
            else
              some ((((s_4.1.1, s_4.1.2.1, s_4.1.2.2.1, (-1 : Int), (-1 : Int), ()), s_4.2.1, s_4.2.2.1, s_4.2.2.2.1, s_4.2.2.2.2.1, ()), (0 : Int), ()), (()))
          else
            some ((((s_4.1.1, s_4.1.2.1, s_4.1.2.2.1, (-1 : Int), (-1 : Int), ()), s_4.2.1, s_4.2.2.1, s_4.2.2.2.1, s_4.2.2.2.2.1, ()), (0 : Int), ()), (()))
        else
          some ((((s_4.1.1, s_4.1.2.1, s_4.1.2.2.1, (-1 : Int), (-1 : Int), ()), s_4.2.1, s_4.2.2.1, s_4.2.2.2.1, s_4.2.2.2.2.1, ()), (0 : Int), ()), (()))
noncomputable def ref22_See_3 (N : Nat) (b_0 : (List UInt8)) (e_5 : Int) (t_2 : D90) (s_4 : D90) : Option ref22_See_R :=
  bif (!(decide (e_5 = (0 : Int)))) then
    some ((((((0 : Int), (0 : UInt64), (0 : UInt64), ()), ((0 : Int), (0 : UInt64), (0 : UInt64), ()), (0 : Int), (0 : Int), (0 : Int), ()), (0 : Int), false, false, (0 : Int), ()), e_5, ()), (()))
  else
    bif s_4.2.2.1 then
      ref22_See_4 N b_0 t_2 (s_4.1, s_4.2.1, s_4.2.2.1, true, s_4.2.2.2.2.1, ())
    else
      ref22_See_4 N b_0 t_2 (s_4.1, s_4.2.1, s_4.2.2.1, (!(decide (s_4.2.1 = (0 : Int)))), s_4.2.2.2.2.1, ())
noncomputable def ref22_See_2 (N : Nat) (b_0 : (List UInt8)) (e_5 : Int) (t_35 : Bool) (t_2 : D90) (s_4 : D90) : Option ref22_See_R :=
  bif t_35 then
    ref22_See_3 N b_0 (11 : Int) t_2 s_4
  else
    ref22_See_3 N b_0 e_5 t_2 s_4
noncomputable def ref22_See_1 (N : Nat) (b_0 : (List UInt8)) (e_5 : Int) (t_2 : D90) (s_4 : D90) : Option ref22_See_R :=
  bif (decide (e_5 = (0 : Int))) then
    ref22_See_2 N b_0 e_5 (decide ((4096 : Int) < (b_0.length : Int))) t_2 s_4
  else
    ref22_See_2 N b_0 e_5 false t_2 s_4
noncomputable def ref22_See (N : Nat) (b_0 : (List UInt8)) : Option ref22_See_R :=
  bif (decide ((b_0.length : Int) = (0 : Int))) then
    some ((((((0 : Int), (0 : UInt64), (0 : UInt64), ()), ((0 : Int), (0 : UInt64), (0 : UInt64), ()), (0 : Int), (0 : Int), (0 : Int), ()), (0 : Int), false, false, (0 : Int), ()), (1 : Int), ()), (()))
  else
    bif inR (0 : Int) b_0.length then
    let x3 := b_0.getD 0 (0 : UInt8)
    bif (decide ((shr8 x3 4) = (4 : UInt8))) then
      Option.bind (ref22_four N b_0) fun y6 =>
      ref22_See_1 N b_0 y6.1.2.1 ((((0 : Int), (0 : UInt64), (0 : UInt64), ()), ((0 : Int), (0 : UInt64), (0 : UInt64), ()), (0 : Int), (0 : Int), (0 : Int), ()), (0 : Int), false, false, (0 : Int), ()) y6.1.1
    else
      bif (decide ((shr8 x3 4) = (6 : UInt8))) then
        Option.bind (ref22_six N b_0) fun y35 =>
        ref22_See_1 N b_0 y35.1.2.1 ((((0 : Int), (0 : UInt64), (0 : UInt64), ()), ((0 : Int), (0 : UInt64), (0 : UInt64), ()), (0 : Int), (0 : Int), (0 : Int), ()), (0 : Int), false, false, (0 : Int), ()) y35.1.1
      else
        ref22_See_1 N b_0 (3 : Int) ((((0 : Int), (0 : UInt64), (0 : UInt64), ()), ((0 : Int), (0 : UInt64), (0 : UInt64), ()), (0 : Int), (0 : Int), (0 : Int), ()), (0 : Int), false, false, (0 : Int), ()) ((((0 : Int), (0 : UInt64), (0 : UInt64), ()), ((0 : Int), (0 : UInt64), (0 : UInt64), ()), (0 : Int), (0 : Int), (0 : Int), ()), (0 : Int), false, false, (0 : Int), ())
    else none
noncomputable def ref22_See_C (N : Nat) : Ctx := ⟨100, G_tys, [(120, ref22_four_ctr N), (122, ref22_word_ctr N), (121, ref22_six_ctr N)], G_globs, G_ifs⟩
noncomputable def ref22_See_S0 : Spec := ⟨[.val (.sl .u8), .ref 0 T90, .ref 1 T90], [(.box 91 T90, .pos 1), (.box 91 T90, .pos 2)]⟩
noncomputable def ref22_See_S1 : Spec := ⟨[.val (.sl .u8), .ref 0 T90, .ref 1 T90, .val .i64], [(.box 91 T90, .pos 1), (.box 91 T90, .pos 2)]⟩
noncomputable def ref22_See_S2 : Spec := ⟨[.val (.sl .u8), .ref 0 T90, .ref 1 T90, .val .i64, .val .bool], [(.box 91 T90, .pos 1), (.box 91 T90, .pos 2)]⟩
noncomputable def ref22_See_S3 : Spec := ⟨[.val (.sl .u8)], []⟩
noncomputable def ref22_See_S4 : Spec := ⟨[.fp T90, .val .i64], []⟩
noncomputable def ref22_See_K (_N : Nat) : XE → GS → Option ref22_See_R := retK 0 [2, 3] [true, false] ref22_See_S4
noncomputable def ref22_See_L : List Code := (bodyOf (some Try.f65))
theorem ref22_See_4_b {E : Env} (N : Nat) (hb : Base Try.prog (ref22_See_C N) E 0) : Blk Try.prog (ref22_See_C N) E [0, 2, 4] ref22_See_S0 (ref22_See_L.drop 12) (fun y => ref22_See_4 N y.1.1 y.2.1 y.2.2.1) (ref22_See_K N) :=
  Blk.chunkAt hb 6 (X := (ref22_See_K N .normal)) (NxOk.end (by kernel_rfl)) rfl (fun x => by kernel_rfl)
theorem ref22_See_3_b {E : Env} (N : Nat) (hb : Base Try.prog (ref22_See_C N) E 0) : Blk Try.prog (ref22_See_C N) E [0, 2, 4, 5] ref22_See_S1 (ref22_See_L.drop 9) (fun y => ref22_See_3 N y.1.1 y.1.2.1 y.2.1 y.2.2.1) (ref22_See_K N) :=
  Blk.chunkAt hb 3 (X := (goK 0 [0, 2, 4] ref22_See_S0 (fun y => ref22_See_4 N y.1.1 y.2.1 y.2.2.1))) (NxOk.go hb (ref22_See_4_b N hb)) rfl (fun x => by kernel_rfl)
theorem ref22_See_2_b {E : Env} (N : Nat) (hb : Base Try.prog (ref22_See_C N) E 0) : Blk Try.prog (ref22_See_C N) E [0, 2, 4, 5, 35] ref22_See_S2 (ref22_See_L.drop 8) (fun y => ref22_See_2 N y.1.1 y.1.2.1 y.1.2.2.1 y.2.1 y.2.2.1) (ref22_See_K N) :=
  Blk.chunkAt hb 1 (X := (goK 0 [0, 2, 4, 5] ref22_See_S1 (fun y => ref22_See_3 N y.1.1 y.1.2.1 y.2.1 y.2.2.1))) (NxOk.go hb (ref22_See_3_b N hb)) rfl (fun x => by kernel_rfl)
theorem ref22_See_1_b {E : Env} (N : Nat) (hb : Base Try.prog (ref22_See_C N) E 0) : Blk Try.prog (ref22_See_C N) E [0, 2, 4, 5] ref22_See_S1 (ref22_See_L.drop 7) (fun y => ref22_See_1 N y.1.1 y.1.2.1 y.2.1 y.2.2.1) (ref22_See_K N) :=
  Blk.chunkAt hb 1 (X := (goK 0 [0, 2, 4, 5, 35] ref22_See_S2 (fun y => ref22_See_2 N y.1.1 y.1.2.1 y.1.2.2.1 y.2.1 y.2.2.1))) (NxOk.go hb (ref22_See_2_b N hb)) rfl (fun x => by kernel_rfl)
theorem ref22_See_b {E : Env} (N : Nat) (hb : Base Try.prog (ref22_See_C N) E 0) : Blk Try.prog (ref22_See_C N) E (List.range ref22_See_S3.ks.length) ref22_See_S3 (ref22_See_L.drop 0) (fun y => ref22_See N y.1.1) (ref22_See_K N) :=
  Blk.chunkAt hb 7 (X := (goK 0 [0, 2, 4, 5] ref22_See_S1 (fun y => ref22_See_1 N y.1.1 y.1.2.1 y.2.1 y.2.2.1))) (NxOk.go hb (ref22_See_1_b N hb)) rfl (fun x => by kernel_rfl)
noncomputable def ref22_See_ctr (N : Nat) : Ctr := ⟨ref22_See_S3, ref22_See_S4.un [true, false], 0, (fun y => ref22_See N y.1.1)⟩
theorem ref22_See_ctrs (N : Nat) : CtrsOk Try.prog (ref22_See_C N) := ctrs_of (Γ := ref22_See_C N) G_ifs_ok (by
  intro p hp
  simp only [ref22_See_C, List.mem_cons, List.not_mem_nil, or_false] at hp
  rcases hp with rfl | rfl | rfl
  · exact ref22_four_ok N
  · exact ref22_word_ok N
  · exact ref22_six_ok N)
theorem ref22_See_ok (N : Nat) : Ctr.ok Try.prog G_globs 65 (ref22_See_ctr N) :=
  ctr_fn (Γ := ref22_See_C N) (rfit := ref22_See_S4) (bs := [true, false]) (res := [2, 3]) (by kernel_rfl) (tys_ok G_tys_ok) (ref22_See_ctrs N) Try.func65 (by kernel_rfl) (by kernel_rfl) Try.ntmps65 (by kernel_rfl) (by kernel_rfl) (by kernel_rfl) (by kernel_rfl) (fun E hb => ref22_See_b N hb)
end Go.Proofs.Ytgbkkfpheahdfaa
namespace Go.Proofs.Ytgbkkfpheahdfaa
open Go
set_option maxRecDepth 100000
set_option linter.unusedVariables false
/-! ipsecgate/ipsecgatelaw22.shorter -/
abbrev law22_shorter_R : Type := ((Unit) × (((List UInt8) × (Int × Unit)) × (List UInt8) × Unit))
noncomputable def law22_shorter (N : Nat) (x_1 : (List UInt8)) (c_0 : ((List UInt8) × (Int × Unit))) : Option law22_shorter_R :=
  Option.bind (ref22_See N x_1) fun y1 =>
  bif (!(decide (y1.1.2.1 = (0 : Int)))) then
    some ((()), (c_0, ([] : List UInt8), ()))
  else
    Option.bind (make_Codes_Next N (5 : Int) c_0) fun y3 =>
    Option.bind (make_Codes_Bytes N y3.1.1 y3.2.1) fun y4 =>
    Option.bind (ref22_Build N (y1.1.1.1.1, y1.1.1.1.2.1, y1.1.1.1.2.2.1, (-1 : Int), (-1 : Int), ()) y4.2.2.1) fun y5 =>
    some ((()), (y4.2.1, y5.2.1, ()))
noncomputable def law22_shorter_C (N : Nat) : Ctx := ⟨31, G_tys, [(65, ref22_See_ctr N), (36, make_Codes_Next_ctr N), (56, make_Codes_Bytes_ctr N), (58, ref22_Build_ctr N)], G_globs, G_ifs⟩
noncomputable def law22_shorter_S0 : Spec := ⟨[.ref 0 (.pair (.sl .u8) (.pair .i64 .unit)), .val (.sl .u8)], [(.box 113 (.pair (.sl .u8) (.pair .i64 .unit)), .pos 0)]⟩
noncomputable def law22_shorter_S1 : Spec := ⟨[.row 1], [(.box 113 (.pair (.sl .u8) (.pair .i64 .unit)), .fix 0), (.row 5 .u8, .pos 0)]⟩
noncomputable def law22_shorter_K (_N : Nat) : XE → GS → Option law22_shorter_R := retK 1 [4] [false] law22_shorter_S1
noncomputable def law22_shorter_L : List Code := (bodyOf (some Try.f63))
theorem law22_shorter_b {E : Env} (N : Nat) (hb : Base Try.prog (law22_shorter_C N) E 1) : Blk Try.prog (law22_shorter_C N) E (List.range law22_shorter_S0.ks.length) law22_shorter_S0 (law22_shorter_L.drop 0) (fun y => law22_shorter N y.1.1 y.2.1) (law22_shorter_K N) :=
  Blk.chunkAt hb 8 (X := (law22_shorter_K N .normal)) (NxOk.end (by kernel_rfl)) rfl (fun x => by kernel_rfl)
noncomputable def law22_shorter_ctr (N : Nat) : Ctr := ⟨law22_shorter_S0, law22_shorter_S1.un [false], 1, (fun y => law22_shorter N y.1.1 y.2.1)⟩
theorem law22_shorter_ctrs (N : Nat) : CtrsOk Try.prog (law22_shorter_C N) := ctrs_of (Γ := law22_shorter_C N) G_ifs_ok (by
  intro p hp
  simp only [law22_shorter_C, List.mem_cons, List.not_mem_nil, or_false] at hp
  rcases hp with rfl | rfl | rfl | rfl
  · exact ref22_See_ok N
  · exact make_Codes_Next_ok N
  · exact make_Codes_Bytes_ok N
  · exact ref22_Build_ok N)
theorem law22_shorter_ok (N : Nat) : Ctr.ok Try.prog G_globs 63 (law22_shorter_ctr N) :=
  ctr_fn (Γ := law22_shorter_C N) (rfit := law22_shorter_S1) (bs := [false]) (res := [4]) (by kernel_rfl) (tys_ok G_tys_ok) (law22_shorter_ctrs N) Try.func63 (by kernel_rfl) (by kernel_rfl) Try.ntmps63 (by kernel_rfl) (by kernel_rfl) (by kernel_rfl) (by kernel_rfl) (fun E hb => law22_shorter_b N hb)
end Go.Proofs.Ytgbkkfpheahdfaa
namespace Go.Proofs.Ytgbkkfpheahdfaa
open Go
set_option maxRecDepth 100000
set_option linter.unusedVariables false
/-! (ipsecgate/lookup.four).least -/
abbrev lookup_four_least_R : Type := ((Int × Unit) × (Unit))
noncomputable def lookup_four_least (N : Nat) (t_0 : Unit) (t_1 : ((List UInt8) × Unit)) : Option lookup_four_least_R :=
  some (((20 : Int), ()), (()))
noncomputable def lookup_four_least_C (N : Nat) : Ctx := ⟨5, G_tys, [], G_globs, G_ifs⟩
noncomputable def lookup_four_least_S0 : Spec := ⟨[.val .unit, .val (.pair (.sl .u8) .unit)], []⟩
noncomputable def lookup_four_least_S1 : Spec := ⟨[.val .i64], []⟩
noncomputable def lookup_four_least_K (_N : Nat) : XE → GS → Option lookup_four_least_R := retK 0 [4] [false] lookup_four_least_S1
noncomputable def lookup_four_least_L : List Code := (bodyOf (some Try.f198))
theorem lookup_four_least_b {E : Env} (N : Nat) (hb : Base Try.prog (lookup_four_least_C N) E 0) : Blk Try.prog (lookup_four_least_C N) E (List.range lookup_four_least_S0.ks.length) lookup_four_least_S0 (lookup_four_least_L.drop 0) (fun y => lookup_four_least N y.1.1 y.1.2.1) (lookup_four_least_K N) :=
  Blk.chunkAt hb 3 (X := (lookup_four_least_K N .normal)) (NxOk.end (by kernel_rfl)) rfl (fun x => by kernel_rfl)
noncomputable def lookup_four_least_ctr (N : Nat) : Ctr := ⟨lookup_four_least_S0, lookup_four_least_S1.un [false], 0, (fun y => lookup_four_least N y.1.1 y.1.2.1)⟩
theorem lookup_four_least_ctrs (N : Nat) : CtrsOk Try.prog (lookup_four_least_C N) := ctrs_nil G_ifs_ok rfl
theorem lookup_four_least_ok (N : Nat) : Ctr.ok Try.prog G_globs 198 (lookup_four_least_ctr N) :=
  ctr_fn (Γ := lookup_four_least_C N) (rfit := lookup_four_least_S1) (bs := [false]) (res := [4]) (by kernel_rfl) (tys_ok G_tys_ok) (lookup_four_least_ctrs N) Try.func198 (by kernel_rfl) (by kernel_rfl) Try.ntmps198 (by kernel_rfl) (by kernel_rfl) (by kernel_rfl) (by kernel_rfl) (fun E hb => lookup_four_least_b N hb)
end Go.Proofs.Ytgbkkfpheahdfaa
namespace Go.Proofs.Ytgbkkfpheahdfaa
open Go
set_option maxRecDepth 100000
set_option linter.unusedVariables false
/-! ipsecgate/wire.Checksum -/
abbrev wire_Checksum_R : Type := ((Int × Unit) × (Unit))
noncomputable def wire_Checksum_s2 (N : Nat) (sum_3 : Int) (t_6 : (List UInt8)) (t_7 : Int) (t_8 : Int) : Option (Lo ((Int × (List UInt8) × Int × Int × Unit) × (Unit)) ((Int × Unit) × (Unit)) wire_Checksum_R) :=
  bif (decide (t_8 < t_7)) then
    bif inR t_8 t_6.length then
    let x3 := t_6.getD t_8.toNat (0 : UInt8)
    bif (decide ((t_8.tmod (2 : Int)) = (0 : Int))) then
      some (.go (((w64 (sum_3 + (shlI (x3.toNat : Int) 8))), t_6, t_7, (w64 (t_8 + (1 : Int))), ()), (())))
    else
      some (.go (((w64 (sum_3 + (x3.toNat : Int))), t_6, t_7, (w64 (t_8 + (1 : Int))), ()), (())))
    else none
  else
    some (.br ((sum_3, ()), (())))
noncomputable def wire_Checksum_s4 (N : Nat) (sum_3 : Int) : Option (Lo ((Int × Unit) × (Unit)) ((Int × Unit) × (Unit)) wire_Checksum_R) :=
  bif (decide ((65535 : Int) < sum_3)) then
    some (.go (((w64 ((and64 sum_3 (65535 : Int)) + (shrI sum_3 16))), ()), (())))
  else
    some (.br ((sum_3, ()), (())))
noncomputable def wire_Checksum_5 (N : Nat) (sum_3 : Int) : Option wire_Checksum_R :=
  some (((w64 ((65535 : Int) - sum_3)), ()), (()))
noncomputable def wire_Checksum_3 (N : Nat) (sum_3 : Int) : Option wire_Checksum_R :=
  loopK N (fun y => wire_Checksum_s4 N y.1.1) (fun (e : ((Int × Unit) × (Unit))) => wire_Checksum_5 N e.1.1) ((sum_3, ()), (()))
noncomputable def wire_Checksum_1 (N : Nat) (sum_3 : Int) (t_6 : (List UInt8)) (t_7 : Int) (t_8 : Int) : Option wire_Checksum_R :=
  loopK N (fun y => wire_Checksum_s2 N y.1.1 y.1.2.1 y.1.2.2.1 y.1.2.2.2.1) (fun (e : ((Int × Unit) × (Unit))) => wire_Checksum_3 N e.1.1) ((sum_3, t_6, t_7, t_8, ()), (()))
noncomputable def wire_Checksum (N : Nat) (b_0 : (List UInt8)) : Option wire_Checksum_R :=
  wire_Checksum_1 N (0 : Int) b_0 (b_0.length : Int) (0 : Int)
noncomputable def wire_Checksum_C (N : Nat) : Ctx := ⟨35, G_tys, [], G_globs, G_ifs⟩
noncomputable def wire_Checksum_S0 : Spec := ⟨[.val .i64, .val (.sl .u8), .val .i64, .val .i64], []⟩
noncomputable def wire_Checksum_S1 : Spec := ⟨[.val .i64], []⟩
noncomputable def wire_Checksum_S2 : Spec := ⟨[.val (.sl .u8)], []⟩
noncomputable def wire_Checksum_K (_N : Nat) : XE → GS → Option wire_Checksum_R := retK 0 [2] [false] wire_Checksum_S1
noncomputable def wire_Checksum_L : List Code := (bodyOf (some Try.f71))
noncomputable def wire_Checksum_L2 : List Code := (loopOf (wire_Checksum_L[3]?))
noncomputable def wire_Checksum_L4 : List Code := (loopOf (wire_Checksum_L[4]?))
noncomputable def wire_Checksum_K2 (N : Nat) : XE → GS → Option (Lo ((Int × (List UInt8) × Int × Int × Unit) × (Unit)) ((Int × Unit) × (Unit)) wire_Checksum_R) := roundK (some 0) (fit 0 [3, 6, 7, 8] wire_Checksum_S0) (fit 0 [3] wire_Checksum_S1) (wire_Checksum_K N)
noncomputable def wire_Checksum_K4 (N : Nat) : XE → GS → Option (Lo ((Int × Unit) × (Unit)) ((Int × Unit) × (Unit)) wire_Checksum_R) := roundK (some 2) (fit 0 [3] wire_Checksum_S1) (fit 0 [3] wire_Checksum_S1) (wire_Checksum_K N)
theorem wire_Checksum_s2_b {E : Env} (N : Nat) (hb : Base Try.prog (wire_Checksum_C N) E 0) : Blk Try.prog (wire_Checksum_C N) E [3, 6, 7, 8] wire_Checksum_S0 (wire_Checksum_L2.drop 0) (fun y => wire_Checksum_s2 N y.1.1 y.1.2.1 y.1.2.2.1 y.1.2.2.2.1) (wire_Checksum_K2 N) :=
  Blk.chunkAt hb 4 (X := (wire_Checksum_K2 N .normal)) (NxOk.end (by kernel_rfl)) rfl (fun x => by kernel_rfl)
theorem wire_Checksum_s4_b {E : Env} (N : Nat) (hb : Base Try.prog (wire_Checksum_C N) E 0) : Blk Try.prog (wire_Checksum_C N) E [3] wire_Checksum_S1 (wire_Checksum_L4.drop 0) (fun y => wire_Checksum_s4 N y.1.1) (wire_Checksum_K4 N) :=
  Blk.chunkAt hb 3 (X := (wire_Checksum_K4 N .normal)) (NxOk.end (by kernel_rfl)) rfl (fun x => by kernel_rfl)
theorem wire_Checksum_5_b {E : Env} (N : Nat) (hb : Base Try.prog (wire_Checksum_C N) E 0) : Blk Try.prog (wire_Checksum_C N) E [3] wire_Checksum_S1 (wire_Checksum_L.drop 5) (fun y => wire_Checksum_5 N y.1.1) (wire_Checksum_K N) :=
  Blk.chunkAt hb 2 (X := (wire_Checksum_K N .normal)) (NxOk.end (by kernel_rfl)) rfl (fun x => by kernel_rfl)
theorem wire_Checksum_3_b {E : Env} (N : Nat) (hb : Base Try.prog (wire_Checksum_C N) E 0) : Blk Try.prog (wire_Checksum_C N) E [3] wire_Checksum_S1 (wire_Checksum_L.drop 4) (fun y => wire_Checksum_3 N y.1.1) (wire_Checksum_K N) :=
  Blk.loopAt (Nf := N) (hns := [3]) (ans := [3]) (hc := wire_Checksum_S1) (ac := wire_Checksum_S1) (bid := 2) (step := (fun y => wire_Checksum_s4 N y.1.1)) (J := (fun e => (goK 0 [3] wire_Checksum_S1 (fun y => wire_Checksum_5 N y.1.1)) (wire_Checksum_S1.st [3] e))) hb (by kernel_rfl) (Blk.into (X := (goK 0 [3] wire_Checksum_S1 (fun y => wire_Checksum_5 N y.1.1))) (NxOk.go hb (wire_Checksum_5_b N hb)) (fun x => by kernel_rfl)) (wire_Checksum_s4_b N hb) (fun x => by kernel_rfl)
theorem wire_Checksum_1_b {E : Env} (N : Nat) (hb : Base Try.prog (wire_Checksum_C N) E 0) : Blk Try.prog (wire_Checksum_C N) E [3, 6, 7, 8] wire_Checksum_S0 (wire_Checksum_L.drop 3) (fun y => wire_Checksum_1 N y.1.1 y.1.2.1 y.1.2.2.1 y.1.2.2.2.1) (wire_Checksum_K N) :=
  Blk.loopAt (Nf := N) (hns := [3, 6, 7, 8]) (ans := [3]) (hc := wire_Checksum_S0) (ac := wire_Checksum_S1) (bid := 0) (step := (fun y => wire_Checksum_s2 N y.1.1 y.1.2.1 y.1.2.2.1 y.1.2.2.2.1)) (J := (fun e => (goK 0 [3] wire_Checksum_S1 (fun y => wire_Checksum_3 N y.1.1)) (wire_Checksum_S1.st [3] e))) hb (by kernel_rfl) (Blk.into (X := (goK 0 [3] wire_Checksum_S1 (fun y => wire_Checksum_3 N y.1.1))) (NxOk.go hb (wire_Checksum_3_b N hb)) (fun x => by kernel_rfl)) (wire_Checksum_s2_b N hb) (fun x => by kernel_rfl)
theorem wire_Checksum_b {E : Env} (N : Nat) (hb : Base Try.prog (wire_Checksum_C N) E 0) : Blk Try.prog (wire_Checksum_C N) E (List.range wire_Checksum_S2.ks.length) wire_Checksum_S2 (wire_Checksum_L.drop 0) (fun y => wire_Checksum N y.1.1) (wire_Checksum_K N) :=
  Blk.chunkAt hb 3 (X := (goK 0 [3, 6, 7, 8] wire_Checksum_S0 (fun y => wire_Checksum_1 N y.1.1 y.1.2.1 y.1.2.2.1 y.1.2.2.2.1))) (NxOk.go hb (wire_Checksum_1_b N hb)) rfl (fun x => by kernel_rfl)
noncomputable def wire_Checksum_ctr (N : Nat) : Ctr := ⟨wire_Checksum_S2, wire_Checksum_S1.un [false], 0, (fun y => wire_Checksum N y.1.1)⟩
theorem wire_Checksum_ctrs (N : Nat) : CtrsOk Try.prog (wire_Checksum_C N) := ctrs_nil G_ifs_ok rfl
theorem wire_Checksum_ok (N : Nat) : Ctr.ok Try.prog G_globs 71 (wire_Checksum_ctr N) :=
  ctr_fn (Γ := wire_Checksum_C N) (rfit := wire_Checksum_S1) (bs := [false]) (res := [2]) (by kernel_rfl) (tys_ok G_tys_ok) (wire_Checksum_ctrs N) Try.func71 (by kernel_rfl) (by kernel_rfl) Try.ntmps71 (by kernel_rfl) (by kernel_rfl) (by kernel_rfl) (by kernel_rfl) (fun E hb => wire_Checksum_b N hb)
end Go.Proofs.Ytgbkkfpheahdfaa
namespace Go.Proofs.Ytgbkkfpheahdfaa
open Go
set_option maxRecDepth 100000
set_option linter.unusedVariables false
/-! ipsecgate/wire.Slice -/
abbrev wire_Slice_R : Type := (((List UInt8) × Bool × Unit) × (Unit))
noncomputable def wire_Slice_1 (N : Nat) (b_0 : (List UInt8)) (at_1 : Int) (n_2 : Int) (t_27 : Bool) : Option wire_Slice_R :=
  bif t_27 then
    some ((([] : List UInt8), false, ()), (()))
  else
    let x2 := w64 (at_1 + n_2)
    let x3 := w64 (at_1 + n_2)
    bif decide (0 ≤ at_1) && decide (at_1 ≤ x2) && decide (x2 ≤ (b_0.length : Int)) && (decide (x2 ≤ x3) && decide (x3 ≤ (b_0.length : Int))) then
    some (((cut b_0 at_1.toNat x2.toNat), true, ()), (()))
    else none
noncomputable def wire_Slice (N : Nat) (b_0 : (List UInt8)) (at_1 : Int) (n_2 : Int) : Option wire_Slice_R :=
  bif (decide (at_1 < (0 : Int))) then
    wire_Slice_1 N b_0 at_1 n_2 true
  else
    bif (decide (n_2 < (0 : Int))) then
      wire_Slice_1 N b_0 at_1 n_2 true
    else
      bif (decide ((b_0.length : Int) < at_1)) then
        wire_Slice_1 N b_0 at_1 n_2 true
      else
        wire_Slice_1 N b_0 at_1 n_2 (decide ((w64 ((b_0.length : Int) - at_1)) < n_2))
noncomputable def wire_Slice_C (N : Nat) : Ctx := ⟨37, G_tys, [], G_globs, G_ifs⟩
noncomputable def wire_Slice_S0 : Spec := ⟨[.val (.sl .u8), .val .i64, .val .i64, .val .bool], []⟩
noncomputable def wire_Slice_S1 : Spec := ⟨[.val (.sl .u8), .val .i64, .val .i64], []⟩
noncomputable def wire_Slice_S2 : Spec := ⟨[.val (.sl .u8), .val .bool], []⟩
noncomputable def wire_Slice_K (_N : Nat) : XE → GS → Option wire_Slice_R := retK 0 [6, 7] [false, false] wire_Slice_S2
noncomputable def wire_Slice_L : List Code := (bodyOf (some Try.f178))
theorem wire_Slice_1_b {E : Env} (N : Nat) (hb : Base Try.prog (wire_Slice_C N) E 0) : Blk Try.prog (wire_Slice_C N) E [0, 1, 2, 27] wire_Slice_S0 (wire_Slice_L.drop 2) (fun y => wire_Slice_1 N y.1.1 y.1.2.1 y.1.2.2.1 y.1.2.2.2.1) (wire_Slice_K N) :=
  Blk.chunkAt hb 3 (X := (wire_Slice_K N .normal)) (NxOk.end (by kernel_rfl)) rfl (fun x => by kernel_rfl)
theorem wire_Slice_b {E : Env} (N : Nat) (hb : Base Try.prog (wire_Slice_C N) E 0) : Blk Try.prog (wire_Slice_C N) E (List.range wire_Slice_S1.ks.length) wire_Slice_S1 (wire_Slice_L.drop 0) (fun y => wire_Slice N y.1.1 y.1.2.1 y.1.2.2.1) (wire_Slice_K N) :=
  Blk.chunkAt hb 2 (X := (goK 0 [0, 1, 2, 27] wire_Slice_S0 (fun y => wire_Slice_1 N y.1.1 y.1.2.1 y.1.2.2.1 y.1.2.2.2.1))) (NxOk.go hb (wire_Slice_1_b N hb)) rfl (fun x => by kernel_rfl)
noncomputable def wire_Slice_ctr (N : Nat) : Ctr := ⟨wire_Slice_S1, wire_Slice_S2.un [false, false], 0, (fun y => wire_Slice N y.1.1 y.1.2.1 y.1.2.2.1)⟩
theorem wire_Slice_ctrs (N : Nat) : CtrsOk Try.prog (wire_Slice_C N) := ctrs_nil G_ifs_ok rfl
theorem wire_Slice_ok (N : Nat) : Ctr.ok Try.prog G_globs 178 (wire_Slice_ctr N) :=
  ctr_fn (Γ := wire_Slice_C N) (rfit := wire_Slice_S2) (bs := [false, false]) (res := [6, 7]) (by kernel_rfl) (tys_ok G_tys_ok) (wire_Slice_ctrs N) Try.func178 (by kernel_rfl) (by kernel_rfl) Try.ntmps178 (by kernel_rfl) (by kernel_rfl) (by kernel_rfl) (by kernel_rfl) (fun E hb => wire_Slice_b N hb)
end Go.Proofs.Ytgbkkfpheahdfaa
namespace Go.Proofs.Ytgbkkfpheahdfaa
open Go
set_option maxRecDepth 100000
set_option linter.unusedVariables false
/-! ipsecgate/wire.Number -/
abbrev wire_Number_R : Type := ((UInt64 × Bool × Unit) × (Unit))
noncomputable def wire_Number_s3 (N : Nat) (v_10 : UInt64) (t_28 : (List UInt8)) (t_29 : Int) (t_30 : Int) : Option (Lo ((UInt64 × (List UInt8) × Int × Int × Unit) × (Unit)) ((UInt64 × Unit) × (Unit)) wire_Number_R) :=
  bif (decide (t_30 < t_29)) then
    bif inR t_30 t_28.length then
    some (.go ((((shl64 v_10 8) ||| (t_28.getD t_30.toNat (0 : UInt8)).toUInt64), t_28, t_29, (w64 (t_30 + (1 : Int))), ()), (())))
    else none
  else
    some (.br ((v_10, ()), (())))
noncomputable def wire_Number_4 (N : Nat) (v_10 : UInt64) : Option wire_Number_R :=
  some ((v_10, true, ()), (()))
noncomputable def wire_Number_2 (N : Nat) (v_10 : UInt64) (t_28 : (List UInt8)) (t_29 : Int) (t_30 : Int) : Option wire_Number_R :=
  loopK N (fun y => wire_Number_s3 N y.1.1 y.1.2.1 y.1.2.2.1 y.1.2.2.2.1) (fun (e : ((UInt64 × Unit) × (Unit))) => wire_Number_4 N e.1.1) ((v_10, t_28, t_29, t_30, ()), (()))
noncomputable def wire_Number_1 (N : Nat) (b_0 : (List UInt8)) (at_1 : Int) (width_2 : Int) (t_18 : Bool) : Option wire_Number_R :=
  bif t_18 then
    some (((0 : UInt64), false, ()), (()))
  else
    Option.bind (wire_Slice N b_0 at_1 width_2) fun y2 =>
    bif (!y2.1.2.1) then
      some (((0 : UInt64), false, ()), (()))
    else
      wire_Number_2 N (0 : UInt64) y2.1.1 (y2.1.1.length : Int) (0 : Int)
noncomputable def wire_Number (N : Nat) (b_0 : (List UInt8)) (at_1 : Int) (width_2 : Int) : Option wire_Number_R :=
  bif (decide (width_2 < (1 : Int))) then
    wire_Number_1 N b_0 at_1 width_2 true
  else
    wire_Number_1 N b_0 at_1 width_2 (decide ((8 : Int) < width_2))
noncomputable def wire_Number_C (N : Nat) : Ctx := ⟨41, G_tys, [(178, wire_Slice_ctr N)], G_globs, G_ifs⟩
noncomputable def wire_Number_S0 : Spec := ⟨[.val .u64, .val (.sl .u8), .val .i64, .val .i64], []⟩
noncomputable def wire_Number_S1 : Spec := ⟨[.val .u64], []⟩
noncomputable def wire_Number_S2 : Spec := ⟨[.val (.sl .u8), .val .i64, .val .i64, .val .bool], []⟩
noncomputable def wire_Number_S3 : Spec := ⟨[.val (.sl .u8), .val .i64, .val .i64], []⟩
noncomputable def wire_Number_S4 : Spec := ⟨[.val .u64, .val .bool], []⟩
noncomputable def wire_Number_K (_N : Nat) : XE → GS → Option wire_Number_R := retK 0 [6, 7] [false, false] wire_Number_S4
noncomputable def wire_Number_L : List Code := (bodyOf (some Try.f175))
noncomputable def wire_Number_L3 : List Code := (loopOf (wire_Number_L[8]?))
noncomputable def wire_Number_K3 (N : Nat) : XE → GS → Option (Lo ((UInt64 × (List UInt8) × Int × Int × Unit) × (Unit)) ((UInt64 × Unit) × (Unit)) wire_Number_R) := roundK (some 0) (fit 0 [10, 28, 29, 30] wire_Number_S0) (fit 0 [10] wire_Number_S1) (wire_Number_K N)
theorem wire_Number_s3_b {E : Env} (N : Nat) (hb : Base Try.prog (wire_Number_C N) E 0) : Blk Try.prog (wire_Number_C N) E [10, 28, 29, 30] wire_Number_S0 (wire_Number_L3.drop 0) (fun y => wire_Number_s3 N y.1.1 y.1.2.1 y.1.2.2.1 y.1.2.2.2.1) (wire_Number_K3 N) :=
  Blk.chunkAt hb 4 (X := (wire_Number_K3 N .normal)) (NxOk.end (by kernel_rfl)) rfl (fun x => by kernel_rfl)
theorem wire_Number_4_b {E : Env} (N : Nat) (hb : Base Try.prog (wire_Number_C N) E 0) : Blk Try.prog (wire_Number_C N) E [10] wire_Number_S1 (wire_Number_L.drop 9) (fun y => wire_Number_4 N y.1.1) (wire_Number_K N) :=
  Blk.chunkAt hb 2 (X := (wire_Number_K N .normal)) (NxOk.end (by kernel_rfl)) rfl (fun x => by kernel_rfl)
theorem wire_Number_2_b {E : Env} (N : Nat) (hb : Base Try.prog (wire_Number_C N) E 0) : Blk Try.prog (wire_Number_C N) E [10, 28, 29, 30] wire_Number_S0 (wire_Number_L.drop 8) (fun y => wire_Number_2 N y.1.1 y.1.2.1 y.1.2.2.1 y.1.2.2.2.1) (wire_Number_K N) :=
  Blk.loopAt (Nf := N) (hns := [10, 28, 29, 30]) (ans := [10]) (hc := wire_Number_S0) (ac := wire_Number_S1) (bid := 0) (step := (fun y => wire_Number_s3 N y.1.1 y.1.2.1 y.1.2.2.1 y.1.2.2.2.1)) (J := (fun e => (goK 0 [10] wire_Number_S1 (fun y => wire_Number_4 N y.1.1)) (wire_Number_S1.st [10] e))) hb (by kernel_rfl) (Blk.into (X := (goK 0 [10] wire_Number_S1 (fun y => wire_Number_4 N y.1.1))) (NxOk.go hb (wire_Number_4_b N hb)) (fun x => by kernel_rfl)) (wire_Number_s3_b N hb) (fun x => by kernel_rfl)
theorem wire_Number_1_b {E : Env} (N : Nat) (hb : Base Try.prog (wire_Number_C N) E 0) : Blk Try.prog (wire_Number_C N) E [0, 1, 2, 18] wire_Number_S2 (wire_Number_L.drop 2) (fun y => wire_Number_1 N y.1.1 y.1.2.1 y.1.2.2.1 y.1.2.2.2.1) (wire_Number_K N) :=
  Blk.chunkAt hb 6 (X := (goK 0 [10, 28, 29, 30] wire_Number_S0 (fun y => wire_Number_2 N y.1.1 y.1.2.1 y.1.2.2.1 y.1.2.2.2.1))) (NxOk.go hb (wire_Number_2_b N hb)) rfl (fun x => by kernel_rfl)
theorem wire_Number_b {E : Env} (N : Nat) (hb : Base Try.prog (wire_Number_C N) E 0) : Blk Try.prog (wire_Number_C N) E (List.range wire_Number_S3.ks.length) wire_Number_S3 (wire_Number_L.drop 0) (fun y => wire_Number N y.1.1 y.1.2.1 y.1.2.2.1) (wire_Number_K N) :=
  Blk.chunkAt hb 2 (X := (goK 0 [0, 1, 2, 18] wire_Number_S2 (fun y => wire_Number_1 N y.1.1 y.1.2.1 y.1.2.2.1 y.1.2.2.2.1))) (NxOk.go hb (wire_Number_1_b N hb)) rfl (fun x => by kernel_rfl)
noncomputable def wire_Number_ctr (N : Nat) : Ctr := ⟨wire_Number_S3, wire_Number_S4.un [false, false], 0, (fun y => wire_Number N y.1.1 y.1.2.1 y.1.2.2.1)⟩
theorem wire_Number_ctrs (N : Nat) : CtrsOk Try.prog (wire_Number_C N) := ctrs_of (Γ := wire_Number_C N) G_ifs_ok (by
  intro p hp
  simp only [wire_Number_C, List.mem_cons, List.not_mem_nil, or_false] at hp
  rcases hp with rfl
  · exact wire_Slice_ok N)
theorem wire_Number_ok (N : Nat) : Ctr.ok Try.prog G_globs 175 (wire_Number_ctr N) :=
  ctr_fn (Γ := wire_Number_C N) (rfit := wire_Number_S4) (bs := [false, false]) (res := [6, 7]) (by kernel_rfl) (tys_ok G_tys_ok) (wire_Number_ctrs N) Try.func175 (by kernel_rfl) (by kernel_rfl) Try.ntmps175 (by kernel_rfl) (by kernel_rfl) (by kernel_rfl) (by kernel_rfl) (fun E hb => wire_Number_b N hb)
end Go.Proofs.Ytgbkkfpheahdfaa
namespace Go.Proofs.Ytgbkkfpheahdfaa
open Go
set_option maxRecDepth 100000
set_option linter.unusedVariables false
/-! (ipsecgate/lookup.cursor).number -/
abbrev lookup_cursor_number_R : Type := ((UInt64 × Unit) × (Unit))
noncomputable def lookup_cursor_number (N : Nat) (c_0 : ((List UInt8) × Unit)) (at_1 : Int) (width_2 : Int) : Option lookup_cursor_number_R :=
  Option.bind (wire_Number N c_0.1 at_1 width_2) fun y1 =>
  some ((y1.1.1, ()), (()))
noncomputable def lookup_cursor_number_C (N : Nat) : Ctx := ⟨18, G_tys, [(175, wire_Number_ctr N)], G_globs, G_ifs⟩
noncomputable def lookup_cursor_number_S0 : Spec := ⟨[.val (.pair (.sl .u8) .unit), .val .i64, .val .i64], []⟩
noncomputable def lookup_cursor_number_S1 : Spec := ⟨[.val .u64], []⟩
noncomputable def lookup_cursor_number_K (_N : Nat) : XE → GS → Option lookup_cursor_number_R := retK 0 [6] [false] lookup_cursor_number_S1
noncomputable def lookup_cursor_number_L : List Code := (bodyOf (some Try.f170))
theorem lookup_cursor_number_b {E : Env} (N : Nat) (hb : Base Try.prog (lookup_cursor_number_C N) E 0) : Blk Try.prog (lookup_cursor_number_C N) E (List.range lookup_cursor_number_S0.ks.length) lookup_cursor_number_S0 (lookup_cursor_number_L.drop 0) (fun y => lookup_cursor_number N y.1.1 y.1.2.1 y.1.2.2.1) (lookup_cursor_number_K N) :=
  Blk.chunkAt hb 4 (X := (lookup_cursor_number_K N .normal)) (NxOk.end (by kernel_rfl)) rfl (fun x => by kernel_rfl)
noncomputable def lookup_cursor_number_ctr (N : Nat) : Ctr := ⟨lookup_cursor_number_S0, lookup_cursor_number_S1.un [false], 0, (fun y => lookup_cursor_number N y.1.1 y.1.2.1 y.1.2.2.1)⟩
theorem lookup_cursor_number_ctrs (N : Nat) : CtrsOk Try.prog (lookup_cursor_number_C N) := ctrs_of (Γ := lookup_cursor_number_C N) G_ifs_ok (by
  intro p hp
  simp only [lookup_cursor_number_C, List.mem_cons, List.not_mem_nil, or_false] at hp
  rcases hp with rfl
  · exact wire_Number_ok N)
theorem lookup_cursor_number_ok (N : Nat) : Ctr.ok Try.prog G_globs 170 (lookup_cursor_number_ctr N) :=
  ctr_fn (Γ := lookup_cursor_number_C N) (rfit := lookup_cursor_number_S1) (bs := [false]) (res := [6]) (by kernel_rfl) (tys_ok G_tys_ok) (lookup_cursor_number_ctrs N) Try.func170 (by kernel_rfl) (by kernel_rfl) Try.ntmps170 (by kernel_rfl) (by kernel_rfl) (by kernel_rfl) (by kernel_rfl) (fun E hb => lookup_cursor_number_b N hb)
end Go.Proofs.Ytgbkkfpheahdfaa
namespace Go.Proofs.Ytgbkkfpheahdfaa
open Go
set_option maxRecDepth 100000
set_option linter.unusedVariables false
/-! (ipsecgate/lookup.cursor).int -/
abbrev lookup_cursor_int_R : Type := ((Int × Unit) × (Unit))
noncomputable def lookup_cursor_int (N : Nat) (c_0 : ((List UInt8) × Unit)) (at_1 : Int) (width_2 : Int) : Option lookup_cursor_int_R :=
  Option.bind (lookup_cursor_number N c_0 at_1 width_2) fun y1 =>
  some (((w64 (y1.1.1.toNat : Int)), ()), (()))
noncomputable def lookup_cursor_int_C (N : Nat) : Ctx := ⟨12, G_tys, [(170, lookup_cursor_number_ctr N)], G_globs, G_ifs⟩
noncomputable def lookup_cursor_int_S0 : Spec := ⟨[.val (.pair (.sl .u8) .unit), .val .i64, .val .i64], []⟩
noncomputable def lookup_cursor_int_S1 : Spec := ⟨[.val .i64], []⟩
noncomputable def lookup_cursor_int_K (_N : Nat) : XE → GS → Option lookup_cursor_int_R := retK 0 [6] [false] lookup_cursor_int_S1
noncomputable def lookup_cursor_int_L : List Code := (bodyOf (some Try.f155))
theorem lookup_cursor_int_b {E : Env} (N : Nat) (hb : Base Try.prog (lookup_cursor_int_C N) E 0) : Blk Try.prog (lookup_cursor_int_C N) E (List.range lookup_cursor_int_S0.ks.length) lookup_cursor_int_S0 (lookup_cursor_int_L.drop 0) (fun y => lookup_cursor_int N y.1.1 y.1.2.1 y.1.2.2.1) (lookup_cursor_int_K N) :=
  Blk.chunkAt hb 3 (X := (lookup_cursor_int_K N .normal)) (NxOk.end (by kernel_rfl)) rfl (fun x => by kernel_rfl)
noncomputable def lookup_cursor_int_ctr (N : Nat) : Ctr := ⟨lookup_cursor_int_S0, lookup_cursor_int_S1.un [false], 0, (fun y => lookup_cursor_int N y.1.1 y.1.2.1 y.1.2.2.1)⟩
theorem lookup_cursor_int_ctrs (N : Nat) : CtrsOk Try.prog (lookup_cursor_int_C N) := ctrs_of (Γ := lookup_cursor_int_C N) G_ifs_ok (by
  intro p hp
  simp only [lookup_cursor_int_C, List.mem_cons, List.not_mem_nil, or_false] at hp
  rcases hp with rfl
  · exact lookup_cursor_number_ok N)
theorem lookup_cursor_int_ok (N : Nat) : Ctr.ok Try.prog G_globs 155 (lookup_cursor_int_ctr N) :=
  ctr_fn (Γ := lookup_cursor_int_C N) (rfit := lookup_cursor_int_S1) (bs := [false]) (res := [6]) (by kernel_rfl) (tys_ok G_tys_ok) (lookup_cursor_int_ctrs N) Try.func155 (by kernel_rfl) (by kernel_rfl) Try.ntmps155 (by kernel_rfl) (by kernel_rfl) (by kernel_rfl) (by kernel_rfl) (fun E hb => lookup_cursor_int_b N hb)
end Go.Proofs.Ytgbkkfpheahdfaa
namespace Go.Proofs.Ytgbkkfpheahdfaa
open Go
set_option maxRecDepth 100000
set_option linter.unusedVariables false
/-! (ipsecgate/lookup.four).see -/
abbrev lookup_four_see_R : Type := ((D90 × Int × Unit) × (Unit))
noncomputable def lookup_four_see_1 (N : Nat) (n_6 : Int) (t_32 : Bool) (c_3 : ((List UInt8) × Unit)) (t_4 : D90) : Option lookup_four_see_R :=
  bif t_32 then
    some ((((((0 : Int), (0 : UInt64), (0 : UInt64), ()), ((0 : Int), (0 : UInt64), (0 : UInt64), ()), (0 : Int), (0 : Int), (0 : Int), ()), (0 : Int), false, false, (0 : Int), ()), (2 : Int), ()), (()))
  else
    bif decide (0 ≤ (0 : Int)) && decide ((0 : Int) ≤ n_6) && decide (n_6 ≤ (c_3.1.length : Int)) && true then
    Option.bind (wire_Checksum N (cut c_3.1 0 n_6.toNat)) fun y7 =>
    bif (!(decide (y7.1.1 = (0 : Int)))) then
      some ((((((0 : Int), (0 : UInt64), (0 : UInt64), ()), ((0 : Int), (0 : UInt64), (0 : UInt64), ()), (0 : Int), (0 : Int), (0 : Int), ()), (0 : Int), false, false, (0 : Int), ()), (12 : Int), ()), (()))
    else
      Option.bind (lookup_cursor_int N c_3 (6 : Int) (2 : Int)) fun y9 =>
      Option.bind (lookup_cursor_number N c_3 (12 : Int) (4 : Int)) fun y10 =>
      Option.bind (lookup_cursor_number N c_3 (16 : Int) (4 : Int)) fun y11 =>
      Option.bind (lookup_cursor_int N c_3 (9 : Int) (1 : Int)) fun y12 =>
      some ((((((4 : Int), (0 : UInt64), y10.1.1, ()), ((4 : Int), (0 : UInt64), y11.1.1, ()), y12.1.1, (0 : Int), (0 : Int), ()), (w64 ((and64 y9.1.1 (8191 : Int)) * (8 : Int))), (!(decide ((and64 y9.1.1 (8192 : Int)) = (0 : Int)))), false, n_6, ()), (0 : Int), ()), (()))
    else none
noncomputable def lookup_four_see (N : Nat) (t_0 : Unit) (c_1 : ((List UInt8) × Unit)) : Option lookup_four_see_R :=
  bif inR (0 : Int) c_1.1.length then
  let x4 := w64 ((((c_1.1.getD 0 (0 : UInt8)) &&& (15 : UInt8)).toNat : Int) * (4 : Int))
  bif (decide (x4 < (20 : Int))) then
    lookup_four_see_1 N x4 true c_1 ((((0 : Int), (0 : UInt64), (0 : UInt64), ()), ((0 : Int), (0 : UInt64), (0 : UInt64), ()), (0 : Int), (0 : Int), (0 : Int), ()), (0 : Int), false, false, (0 : Int), ())
  else
    bif (decide ((c_1.1.length : Int) < x4)) then
      lookup_four_see_1 N x4 true c_1 ((((0 : Int), (0 : UInt64), (0 : UInt64), ()), ((0 : Int), (0 : UInt64), (0 : UInt64), ()), (0 : Int), (0 : Int), (0 : Int), ()), (0 : Int), false, false, (0 : Int), ())
    else
      Option.bind (lookup_cursor_int N c_1 (2 : Int) (2 : Int)) fun y19 =>
      lookup_four_see_1 N x4 (!(decide (y19.1.1 = (c_1.1.length : Int)))) c_1 ((((0 : Int), (0 : UInt64), (0 : UInt64), ()), ((0 : Int), (0 : UInt64), (0 : UInt64), ()), (0 : Int), (0 : Int), (0 : Int), ()), (0 : Int), false, false, (0 : Int), ())
  else none
noncomputable def lookup_four_see_C (N : Nat) : Ctx := ⟨61, G_tys, [(71, wire_Checksum_ctr N), (155, lookup_cursor_int_ctr N), (170, lookup_cursor_number_ctr N)], G_globs, G_ifs⟩
noncomputable def lookup_four_see_S0 : Spec := ⟨[.ref 0 (.pair (.sl .u8) .unit), .ref 1 T90, .val .i64, .val .bool], [(.box 160 (.pair (.sl .u8) .unit), .pos 0), (.box 91 T90, .pos 1)]⟩
noncomputable def lookup_four_see_S1 : Spec := ⟨[.val .unit, .val (.pair (.sl .u8) .unit)], []⟩
noncomputable def lookup_four_see_S2 : Spec := ⟨[.fp T90, .val .i64], []⟩
noncomputable def lookup_four_see_K (_N : Nat) : XE → GS → Option lookup_four_see_R := retK 0 [4, 5] [true, false] lookup_four_see_S2
noncomputable def lookup_four_see_L : List Code := (bodyOf (some Try.f199))
theorem lookup_four_see_1_b {E : Env} (N : Nat) (hb : Base Try.prog (lookup_four_see_C N) E 0) : Blk Try.prog (lookup_four_see_C N) E [3, 4, 6, 32] lookup_four_see_S0 (lookup_four_see_L.drop 3) (fun y => lookup_four_see_1 N y.1.1 y.1.2.1 y.2.1 y.2.2.1) (lookup_four_see_K N) :=
  Blk.chunkAt hb 7 (X := (lookup_four_see_K N .normal)) (NxOk.end (by kernel_rfl)) rfl (fun x => by kernel_rfl)
theorem lookup_four_see_b {E : Env} (N : Nat) (hb : Base Try.prog (lookup_four_see_C N) E 0) : Blk Try.prog (lookup_four_see_C N) E (List.range lookup_four_see_S1.ks.length) lookup_four_see_S1 (lookup_four_see_L.drop 0) (fun y => lookup_four_see N y.1.1 y.1.2.1) (lookup_four_see_K N) :=
  Blk.chunkAt hb 3 (X := (goK 0 [3, 4, 6, 32] lookup_four_see_S0 (fun y => lookup_four_see_1 N y.1.1 y.1.2.1 y.2.1 y.2.2.1))) (NxOk.go hb (lookup_four_see_1_b N hb)) rfl (fun x => by kernel_rfl)
noncomputable def lookup_four_see_ctr (N : Nat) : Ctr := ⟨lookup_four_see_S1, lookup_four_see_S2.un [true, false], 0, (fun y => lookup_four_see N y.1.1 y.1.2.1)⟩
theorem lookup_four_see_ctrs (N : Nat) : CtrsOk Try.prog (lookup_four_see_C N) := ctrs_of (Γ := lookup_four_see_C N) G_ifs_ok (by
  intro p hp
  simp only [lookup_four_see_C, List.mem_cons, List.not_mem_nil, or_false] at hp
  rcases hp with rfl | rfl | rfl
  · exact wire_Checksum_ok N
  · exact lookup_cursor_int_ok N
  · exact lookup_cursor_number_ok N)
theorem lookup_four_see_ok (N : Nat) : Ctr.ok Try.prog G_globs 199 (lookup_four_see_ctr N) :=
  ctr_fn (Γ := lookup_four_see_C N) (rfit := lookup_four_see_S2) (bs := [true, false]) (res := [4, 5]) (by kernel_rfl) (tys_ok G_tys_ok) (lookup_four_see_ctrs N) Try.func199 (by kernel_rfl) (by kernel_rfl) Try.ntmps199 (by kernel_rfl) (by kernel_rfl) (by kernel_rfl) (by kernel_rfl) (fun E hb => lookup_four_see_b N hb)
end Go.Proofs.Ytgbkkfpheahdfaa
namespace Go.Proofs.Ytgbkkfpheahdfaa
open Go
set_option maxRecDepth 100000
set_option linter.unusedVariables false
/-! (ipsecgate/lookup.cursor).ports -/
abbrev lookup_cursor_ports_R : Type := ((Unit) × (D90 × Unit))
noncomputable def lookup_cursor_ports (N : Nat) (c_0 : ((List UInt8) × Unit)) (s_1 : D90) : Option lookup_cursor_ports_R :=
  let x2 := w64 ((c_0.1.length : Int) - s_1.2.2.2.2.1)
  bif (!(decide (s_1.2.1 = (0 : Int)))) then
    some ((()), (((s_1.1.1, s_1.1.2.1, s_1.1.2.2.1, (-1 : Int), (-1 : Int), ()), s_1.2.1, s_1.2.2.1, s_1.2.2.2.1, s_1.2.2.2.2.1, ()), ()))
  else
    bif (decide (s_1.1.2.2.1 = (6 : Int))) then
      bif (decide ((4 : Int) ≤ x2)) then
        Option.bind (lookup_cursor_int N c_0 s_1.2.2.2.2.1 (2 : Int)) fun y6 =>
        Option.bind (lookup_cursor_int N c_0 (w64 (s_1.2.2.2.2.1 + (2 : Int))) (2 : Int)) fun y8 =>
        some ((()), (((s_1.1.1, s_1.1.2.1, s_1.1.2.2.1, y6.1.1, y8.1.1, ()), s_1.2.1, s_1.2.2.1, s_1.2.2.2.1, s_1.2.2.2.2.1, ()), ()))
      else
        some ((()), (((s_1.1.1, s_1.1.2.1, s_1.1.2.2.1, (-1 : Int), (-1 : Int), ()), s_1.2.1, s_1.2.2.1, s_1.2.2.2.1, s_1.2.2.2.2.1, ()), ()))
    else
      bif (decide (s_1.1.2.2.1 = (17 : Int))) then
        bif (decide ((4 : Int) ≤ x2)) then
          Option.bind (lookup_cursor_int N c_0 s_1.2.2.2.2.1 (2 : Int)) fun y11 =>
          Option.bind (lookup_cursor_int N c_0 (w64 (s_1.2.2.2.2.1 + (2 : Int))) (2 : Int)) fun y13 =>
          some ((()), (((s_1.1.1, s_1.1.2.1, s_1.1.2.2.1, y11.1.1, y13.1.1, ()), s_1.2.1, s_1.2.2.1, s_1.2.2.2.1, s_1.2.2.2.2.1, ()), ()))
        else
          some ((()), (((s_1.1.1, s_1.1.2.1, s_1.1.2.2.1, (-1 : Int), (-1 : Int), ()), s_1.2.1, s_1.2.2.1, s_1.2.2.2.1, s_1.2.2.2.2.1, ()), ()))
      else
        bif (decide (s_1.1.2.2.1 = (1 : Int))) then
          bif (decide ((2 : Int) ≤ x2)) then
            Option.bind (lookup_cursor_int N c_0 s_1.2.2.2.2.1 (2 : Int)) fun y16 =>
            some ((()), (((s_1.1.1, s_1.1.2.1, s_1.1.2.2.1, y16.1.1, (-1 : Int), ()), s_1.2.1, s_1.2.2.1, s_1.2.2.2.1, s_1.2.2.2.2.1, ()), ()))
          else
            some ((()), (((s_1.1.1, s_1.1.2.1, s_1.1.2.2.1, (-1 : Int), (-1 : Int), ()), s_1.2.1, s_1.2.2.1, s_1.2.2.2.1, s_1.2.2.2.2.1, ()), ()))
        else
          bif (decide (s_1.1.2.2.1 = (58 : Int))) then
            bif (decide ((2 : Int) ≤ x2)) then
              Option.bind (lookup_cursor_int N c_0 s_1.2.2.2.2.1 (2 : Int)) fun y19 =>
              some ((()), (((s_1.1.1, s_1.1.2.1, s_1.1.2.2.1, y19.1.1, (-1 : Int), ()), s_1.2.1, s_1.2.2.1, s_1.2.2.2.1, s_1.2.2.2.2.1, ()), ()))
            else
              some ((()), (((s_1.1.1, s_1.1.2.1, s_1.1.2.2.1, (-1 : Int), (-1 : Int), ()), s_1.2.1, s_1.2.2.1, s_1.2.2.2.1, s_1.2.2.2.2.1, ()), ()))
          else
            some ((()), (((s_1.1.1, s_1.1.2.1, s_1.1.2.2.1, (-1 : Int), (-1 : Int), ()), s_1.2.1, s_1.2.2.1, s_1.2.2.2.1, s_1.2.2.2.2.1, ()), ()))
noncomputable def lookup_cursor_ports_C (N : Nat) : Ctx := ⟨72, G_tys, [(155, lookup_cursor_int_ctr N)], G_globs, G_ifs⟩
noncomputable def lookup_cursor_ports_S0 : Spec := ⟨[.val (.pair (.sl .u8) .unit), .ref 0 T90], [(.box 91 T90, .pos 1)]⟩
noncomputable def lookup_cursor_ports_S1 : Spec := ⟨[], [(.box 91 T90, .fix 0)]⟩
noncomputable def lookup_cursor_ports_K (_N : Nat) : XE → GS → Option lookup_cursor_ports_R := retK 1 [] [] lookup_cursor_ports_S1
noncomputable def lookup_cursor_ports_L : List Code := (bodyOf (some Try.f119))
theorem lookup_cursor_ports_b {E : Env} (N : Nat) (hb : Base Try.prog (lookup_cursor_ports_C N) E 1) : Blk Try.prog (lookup_cursor_ports_C N) E (List.range lookup_cursor_ports_S0.ks.length) lookup_cursor_ports_S0 (lookup_cursor_ports_L.drop 0) (fun y => lookup_cursor_ports N y.1.1 y.2.1) (lookup_cursor_ports_K N) :=
  Blk.chunkAt hb 7 (X := (lookup_cursor_ports_K N .normal)) (NxOk.end (by kernel_rfl)) rfl (fun x => by kernel_rfl)
noncomputable def lookup_cursor_ports_ctr (N : Nat) : Ctr := ⟨lookup_cursor_ports_S0, lookup_cursor_ports_S1.un [], 1, (fun y => lookup_cursor_ports N y.1.1 y.2.1)⟩
theorem lookup_cursor_ports_ctrs (N : Nat) : CtrsOk Try.prog (lookup_cursor_ports_C N) := ctrs_of (Γ := lookup_cursor_ports_C N) G_ifs_ok (by
  intro p hp
  simp only [lookup_cursor_ports_C, List.mem_cons, List.not_mem_nil, or_false] at hp
  rcases hp with rfl
  · exact lookup_cursor_int_ok N)
theorem lookup_cursor_ports_ok (N : Nat) : Ctr.ok Try.prog G_globs 119 (lookup_cursor_ports_ctr N) :=
  ctr_fn (Γ := lookup_cursor_ports_C N) (rfit := lookup_cursor_ports_S1) (bs := []) (res := []) (by kernel_rfl) (tys_ok G_tys_ok) (lookup_cursor_ports_ctrs N) Try.func119 (by kernel_rfl) (by kernel_rfl) Try.ntmps119 (by kernel_rfl) (by kernel_rfl) (by kernel_rfl) (by kernel_rfl) (fun E hb => lookup_cursor_ports_b N hb)
end Go.Proofs.Ytgbkkfpheahdfaa
namespace Go.Proofs.Ytgbkkfpheahdfaa
open Go
set_option maxRecDepth 100000
set_option linter.unusedVariables false
/-! (ipsecgate/lookup.six).least -/
abbrev lookup_six_least_R : Type := ((Int × Unit) × (Unit))
noncomputable def lookup_six_least (N : Nat) (t_0 : Unit) (c_1 : ((List UInt8) × Unit)) : Option lookup_six_least_R :=
  bif (decide ((6 : Int) < (c_1.1.length : Int))) then
    bif inR (6 : Int) c_1.1.length then
    bif (decide ((c_1.1.getD 6 (0 : UInt8)) = (44 : UInt8))) then
      some (((48 : Int), ()), (()))
    else
      some (((40 : Int), ()), (()))
    else none
  else
    some (((40 : Int), ()), (()))
noncomputable def lookup_six_least_C (N : Nat) : Ctx := ⟨16, G_tys, [], G_globs, G_ifs⟩
noncomputable def lookup_six_least_S0 : Spec := ⟨[.val .unit, .val (.pair (.sl .u8) .unit)], []⟩
noncomputable def lookup_six_least_S1 : Spec := ⟨[.val .i64], []⟩
noncomputable def lookup_six_least_K (_N : Nat) : XE → GS → Option lookup_six_least_R := retK 0 [4] [false] lookup_six_least_S1
noncomputable def lookup_six_least_L : List Code := (bodyOf (some Try.f200))
theorem lookup_six_least_b {E : Env} (N : Nat) (hb : Base Try.prog (lookup_six_least_C N) E 0) : Blk Try.prog (lookup_six_least_C N) E (List.range lookup_six_least_S0.ks.length) lookup_six_least_S0 (lookup_six_least_L.drop 0) (fun y => lookup_six_least N y.1.1 y.1.2.1) (lookup_six_least_K N) :=
  Blk.chunkAt hb 5 (X := (lookup_six_least_K N .normal)) (NxOk.end (by kernel_rfl)) rfl (fun x => by kernel_rfl)
noncomputable def lookup_six_least_ctr (N : Nat) : Ctr := ⟨lookup_six_least_S0, lookup_six_least_S1.un [false], 0, (fun y => lookup_six_least N y.1.1 y.1.2.1)⟩
theorem lookup_six_least_ctrs (N : Nat) : CtrsOk Try.prog (lookup_six_least_C N) := ctrs_nil G_ifs_ok rfl
theorem lookup_six_least_ok (N : Nat) : Ctr.ok Try.prog G_globs 200 (lookup_six_least_ctr N) :=
  ctr_fn (Γ := lookup_six_least_C N) (rfit := lookup_six_least_S1) (bs := [false]) (res := [4]) (by kernel_rfl) (tys_ok G_tys_ok) (lookup_six_least_ctrs N) Try.func200 (by kernel_rfl) (by kernel_rfl) Try.ntmps200 (by kernel_rfl) (by kernel_rfl) (by kernel_rfl) (by kernel_rfl) (fun E hb => lookup_six_least_b N hb)
end Go.Proofs.Ytgbkkfpheahdfaa
namespace Go.Proofs.Ytgbkkfpheahdfaa
open Go
set_option maxRecDepth 100000
set_option linter.unusedVariables false
/-! (ipsecgate/lookup.six).see$1 -/
abbrev lookup_six_see_f1_R : Type := ((D27 × Unit) × (Unit))
noncomputable def lookup_six_see_f1 (N : Nat) (from_0 : Int) (t_1 : ((List UInt8) × Unit)) : Option lookup_six_see_f1_R :=
  Option.bind (lookup_cursor_number N t_1 from_0 (8 : Int)) fun y1 =>
  Option.bind (lookup_cursor_number N t_1 (w64 (from_0 + (8 : Int))) (8 : Int)) fun y3 =>
  some ((((6 : Int), y1.1.1, y3.1.1, ()), ()), (()))
noncomputable def lookup_six_see_f1_C (N : Nat) : Ctx := ⟨12, G_tys, [(170, lookup_cursor_number_ctr N)], G_globs, G_ifs⟩
noncomputable def lookup_six_see_f1_S0 : Spec := ⟨[.val .i64, .fp (.pair (.sl .u8) .unit)], []⟩
noncomputable def lookup_six_see_f1_S1 : Spec := ⟨[.fp T27], []⟩
noncomputable def lookup_six_see_f1_K (_N : Nat) : XE → GS → Option lookup_six_see_f1_R := retK 0 [3] [true] lookup_six_see_f1_S1
noncomputable def lookup_six_see_f1_L : List Code := (bodyOf (some Try.f202))
theorem lookup_six_see_f1_b {E : Env} (N : Nat) (hb : Base Try.prog (lookup_six_see_f1_C N) E 0) : Blk Try.prog (lookup_six_see_f1_C N) E (List.range lookup_six_see_f1_S0.ks.length) lookup_six_see_f1_S0 (lookup_six_see_f1_L.drop 0) (fun y => lookup_six_see_f1 N y.1.1 y.1.2.1) (lookup_six_see_f1_K N) :=
  Blk.chunkAt hb 3 (X := (lookup_six_see_f1_K N .normal)) (NxOk.end (by kernel_rfl)) rfl (fun x => by kernel_rfl)
noncomputable def lookup_six_see_f1_ctr (N : Nat) : Ctr := ⟨lookup_six_see_f1_S0, lookup_six_see_f1_S1.un [true], 0, (fun y => lookup_six_see_f1 N y.1.1 y.1.2.1)⟩
theorem lookup_six_see_f1_ctrs (N : Nat) : CtrsOk Try.prog (lookup_six_see_f1_C N) := ctrs_of (Γ := lookup_six_see_f1_C N) G_ifs_ok (by
  intro p hp
  simp only [lookup_six_see_f1_C, List.mem_cons, List.not_mem_nil, or_false] at hp
  rcases hp with rfl
  · exact lookup_cursor_number_ok N)
theorem lookup_six_see_f1_ok (N : Nat) : Ctr.ok Try.prog G_globs 202 (lookup_six_see_f1_ctr N) :=
  ctr_fn (Γ := lookup_six_see_f1_C N) (rfit := lookup_six_see_f1_S1) (bs := [true]) (res := [3]) (by kernel_rfl) (tys_ok G_tys_ok) (lookup_six_see_f1_ctrs N) Try.func202 (by kernel_rfl) (by kernel_rfl) Try.ntmps202 (by kernel_rfl) (by kernel_rfl) (by kernel_rfl) (by kernel_rfl) (fun E hb => lookup_six_see_f1_b N hb)
end Go.Proofs.Ytgbkkfpheahdfaa
namespace Go.Proofs.Ytgbkkfpheahdfaa
open Go
set_option maxRecDepth 100000
set_option linter.unusedVariables false
/-! (ipsecgate/lookup.six).see -/
abbrev lookup_six_see_R : Type := ((D90 × Int × Unit) × (Unit))
noncomputable def lookup_six_see (N : Nat) (t_0 : Unit) (c_1 : ((List UInt8) × Unit)) : Option lookup_six_see_R :=
  Option.bind (lookup_cursor_int N c_1 (4 : Int) (2 : Int)) fun y1 =>
  bif (!(decide ((w64 (y1.1.1 + (40 : Int))) = (c_1.1.length : Int)))) then
    some ((((((0 : Int), (0 : UInt64), (0 : UInt64), ()), ((0 : Int), (0 : UInt64), (0 : UInt64), ()), (0 : Int), (0 : Int), (0 : Int), ()), (0 : Int), false, false, (0 : Int), ()), (2 : Int), ()), (()))
  else
    Option.bind (lookup_six_see_f1 N (8 : Int) c_1) fun y5 =>
    Option.bind (lookup_six_see_f1 N (24 : Int) c_1) fun y6 =>
    Option.bind (lookup_cursor_int N c_1 (6 : Int) (1 : Int)) fun y7 =>
    bif (decide (y7.1.1 = (44 : Int))) then
      Option.bind (lookup_cursor_int N c_1 (42 : Int) (2 : Int)) fun y9 =>
      Option.bind (lookup_cursor_int N c_1 (40 : Int) (1 : Int)) fun y10 =>
      some ((((y5.1.1, y6.1.1, y10.1.1, (0 : Int), (0 : Int), ()), (andNot64 y9.1.1 (7 : Int)), (!(decide ((and64 y9.1.1 (1 : Int)) = (0 : Int)))), false, (48 : Int), ()), (0 : Int), ()), (()))
    else
      some ((((y5.1.1, y6.1.1, y7.1.1, (0 : Int), (0 : Int), ()), (0 : Int), false, false, (40 : Int), ()), (0 : Int), ()), (()))
noncomputable def lookup_six_see_C (N : Nat) : Ctx := ⟨45, G_tys, [(155, lookup_cursor_int_ctr N), (202, lookup_six_see_f1_ctr N)], G_globs, G_ifs⟩
noncomputable def lookup_six_see_S0 : Spec := ⟨[.val .unit, .val (.pair (.sl .u8) .unit)], []⟩
noncomputable def lookup_six_see_S1 : Spec := ⟨[.fp T90, .val .i64], []⟩
noncomputable def lookup_six_see_K (_N : Nat) : XE → GS → Option lookup_six_see_R := retK 0 [4, 5] [true, false] lookup_six_see_S1
noncomputable def lookup_six_see_L : List Code := (bodyOf (some Try.f201))
theorem lookup_six_see_b {E : Env} (N : Nat) (hb : Base Try.prog (lookup_six_see_C N) E 0) : Blk Try.prog (lookup_six_see_C N) E (List.range lookup_six_see_S0.ks.length) lookup_six_see_S0 (lookup_six_see_L.drop 0) (fun y => lookup_six_see N y.1.1 y.1.2.1) (lookup_six_see_K N) :=
  Blk.chunkAt hb 9 (X := (lookup_six_see_K N .normal)) (NxOk.end (by kernel_rfl)) rfl (fun x => by kernel_rfl)
noncomputable def lookup_six_see_ctr (N : Nat) : Ctr := ⟨lookup_six_see_S0, lookup_six_see_S1.un [true, false], 0, (fun y => lookup_six_see N y.1.1 y.1.2.1)⟩
theorem lookup_six_see_ctrs (N : Nat) : CtrsOk Try.prog (lookup_six_see_C N) := ctrs_of (Γ := lookup_six_see_C N) G_ifs_ok (by
  intro p hp
  simp only [lookup_six_see_C, List.mem_cons, List.not_mem_nil, or_false] at hp
  rcases hp with rfl | rfl
  · exact lookup_cursor_int_ok N
  · exact lookup_six_see_f1_ok N)
theorem lookup_six_see_ok (N : Nat) : Ctr.ok Try.prog G_globs 201 (lookup_six_see_ctr N) :=
  ctr_fn (Γ := lookup_six_see_C N) (rfit := lookup_six_see_S1) (bs := [true, false]) (res := [4, 5]) (by kernel_rfl) (tys_ok G_tys_ok) (lookup_six_see_ctrs N) Try.func201 (by kernel_rfl) (by kernel_rfl) Try.ntmps201 (by kernel_rfl) (by kernel_rfl) (by kernel_rfl) (by kernel_rfl) (fun E hb => lookup_six_see_b N hb)
end Go.Proofs.Ytgbkkfpheahdfaa
namespace Go.Proofs.Ytgbkkfpheahdfaa
open Go
set_option maxRecDepth 100000
set_option linter.unusedVariables false
/-! ipsecgate/lookup.See -/
abbrev lookup_See_R : Type := ((D90 × Int × Unit) × (Unit))
noncomputable def lookup_See (N : Nat) (b_0 : (List UInt8)) : Option lookup_See_R :=
  bif (decide ((b_0.length : Int) = (0 : Int))) then
    some ((((((0 : Int), (0 : UInt64), (0 : UInt64), ()), ((0 : Int), (0 : UInt64), (0 : UInt64), ()), (0 : Int), (0 : Int), (0 : Int), ()), (0 : Int), false, false, (0 : Int), ()), (1 : Int), ()), (()))
  else
    bif inR (0 : Int) b_0.length then
    let x3 := b_0.getD 0 (0 : UInt8)
    bif (decide ((shr8 x3 4) = (4 : UInt8))) then
      Option.bind (lookup_four_least N () (b_0, ())) fun y7 =>
      bif (decide ((b_0.length : Int) < y7.1.1)) then
        some ((((((0 : Int), (0 : UInt64), (0 : UInt64), ()), ((0 : Int), (0 : UInt64), (0 : UInt64), ()), (0 : Int), (0 : Int), (0 : Int), ()), (0 : Int), false, false, (0 : Int), ()), (1 : Int), ()), (()))
      else
        Option.bind (lookup_four_see N () (b_0, ())) fun y9 =>
        bif (!(decide (y9.1.2.1 = (0 : Int)))) then
          some ((((((0 : Int), (0 : UInt64), (0 : UInt64), ()), ((0 : Int), (0 : UInt64), (0 : UInt64), ()), (0 : Int), (0 : Int), (0 : Int), ()), (0 : Int), false, false, (0 : Int), ()), y9.1.2.1, ()), (()))
        else
          bif (decide ((4096 : Int) < (b_0.length : Int))) then
            some ((((((0 : Int), (0 : UInt64), (0 : UInt64), ()), ((0 : Int), (0 : UInt64), (0 : UInt64), ()), (0 : Int), (0 : Int), (0 : Int), ()), (0 : Int), false, false, (0 : Int), ()), (11 : Int), ()), (()))
          else
            Option.bind (lookup_cursor_ports N (b_0, ()) y9.1.1) fun y13 =>
            bif y13.2.1.2.2.1 then
              some (((y13.2.1.1, y13.2.1.2.1, y13.2.1.2.2.1, true, y13.2.1.2.2.2.2.1, ()), (0 : Int), ()), (()))
            else
              some (((y13.2.1.1, y13.2.1.2.1, y13.2.1.2.2.1, (!(decide (y13.2.1.2.1 = (0 : Int)))), y13.2.1.2.2.2.2.1, ()), (0 : Int), ()), (()))
    else
      bif (decide ((shr8 x3 4) = (6 : UInt8))) then
        Option.bind (lookup_six_least N () (b_0, ())) fun y17 =>
        bif (decide ((b_0.length : Int) < y17.1.1)) then
          some ((((((0 : Int), (0 : UInt64), (0 : UInt64), ()), ((0 : Int), (0 : UInt64), (0 : UInt64), ()), (0 : Int), (0 : Int), (0 : Int), ()), (0 : Int), false, false, (0 : Int), ()), (1 : Int), ()), (()))
        else
          Option.bind (lookup_six_see N () (b_0, ())) fun y19 =>
          bif (!(decide (y19.1.2.1 = (0 : Int)))) then
            some ((((((0 : Int), (0 : UInt64), (0 : UInt64), ()), ((0 : Int), (0 : UInt64), (0 : UInt64), ()), (0 : Int), (0 : Int), (0 : Int), ()), (0 : Int), false, false, (0 : Int), ()), y19.1.2.1, ()), (()))
          else
            bif (decide ((4096 : Int) < (b_0.length : Int))) then
              some ((((((0 : Int), (0 : UInt64), (0 : UInt64), ()), ((0 : Int), (0 : UInt64), (0 : UInt64), ()), (0 : Int), (0 : Int), (0 : Int), ()), (0 : Int), false, false, (0 : Int), ()), (11 : Int), ()), (()))
            else
              Option.bind (lookup_cursor_ports N (b_0, ()) y19.1.1) fun y23 =>
              bif y23.2.1.2.2.1 then
                some (((y23.2.1.1, y23.2.1.2.1, y23.2.1.2.2.1, true, y23.2.1.2.2.2.2.1, ()), (0 : Int), ()), (()))
              else
                some (((y23.2.1.1, y23.2.1.2.1, y23.2.1.2.2.1, (!(decide (y23.2.1.2.1 = (0 : Int)))), y23.2.1.2.2.2.2.1, ()), (0 : Int), ()), (()))
      else
        some ((((((0 : Int), (0 : UInt64), (0 : UInt64), ()), ((0 : Int), (0 : UInt64), (0 : UInt64), ()), (0 : Int), (0 : Int), (0 : Int), ()), (0 : Int), false, false, (0 : Int), ()), (3 : Int), ()), (()))
    else none
noncomputable def lookup_See_C (N : Nat) : Ctx := ⟨59, G_tys, [(198, lookup_four_least_ctr N), (199, lookup_four_see_ctr N), (119, lookup_cursor_ports_ctr N), (200, lookup_six_least_ctr N), (201, lookup_six_see_ctr N)], G_globs, G_ifs⟩
noncomputable def lookup_See_S0 : Spec := ⟨[.val (.sl .u8)], []⟩
noncomputable def lookup_See_S1 : Spec := ⟨[.fp T90, .val .i64], []⟩
noncomputable def lookup_See_K (_N : Nat) : XE → GS → Option lookup_See_R := retK 0 [2, 3] [true, false] lookup_See_S1
noncomputable def lookup_See_L : List Code := (bodyOf (some Try.f64))
theorem lookup_See_b {E : Env} (N : Nat) (hb : Base Try.prog (lookup_See_C N) E 0) : Blk Try.prog (lookup_See_C N) E (List.range lookup_See_S0.ks.length) lookup_See_S0 (lookup_See_L.drop 0) (fun y => lookup_See N y.1.1) (lookup_See_K N) :=
  Blk.chunkAt hb 18 (X := (lookup_See_K N .normal)) (NxOk.end (by kernel_rfl)) rfl (fun x => by kernel_rfl)
noncomputable def lookup_See_ctr (N : Nat) : Ctr := ⟨lookup_See_S0, lookup_See_S1.un [true, false], 0, (fun y => lookup_See N y.1.1)⟩
theorem lookup_See_ctrs (N : Nat) : CtrsOk Try.prog (lookup_See_C N) := ctrs_of (Γ := lookup_See_C N) G_ifs_ok (by
  intro p hp
  simp only [lookup_See_C, List.mem_cons, List.not_mem_nil, or_false] at hp
  rcases hp with rfl | rfl | rfl | rfl | rfl
  · exact lookup_four_least_ok N
  · exact lookup_four_see_ok N
  · exact lookup_cursor_ports_ok N
  · exact lookup_six_least_ok N
  · exact lookup_six_see_ok N)
theorem lookup_See_ok (N : Nat) : Ctr.ok Try.prog G_globs 64 (lookup_See_ctr N) :=
  ctr_fn (Γ := lookup_See_C N) (rfit := lookup_See_S1) (bs := [true, false]) (res := [2, 3]) (by kernel_rfl) (tys_ok G_tys_ok) (lookup_See_ctrs N) Try.func64 (by kernel_rfl) (by kernel_rfl) Try.ntmps64 (by kernel_rfl) (by kernel_rfl) (by kernel_rfl) (by kernel_rfl) (fun E hb => lookup_See_b N hb)
end Go.Proofs.Ytgbkkfpheahdfaa
namespace Go.Proofs.Ytgbkkfpheahdfaa
open Go
set_option maxRecDepth 100000
set_option linter.unusedVariables false
/-! ipsecgate/ipsecgatelaw22.LookupSees -/
abbrev law22_LookupSees_R : Type := ((Bool × Unit) × (Unit))
noncomputable def law22_LookupSees_s2 (N : Nat) (t_46 : Int) (t_47 : Int) (t_45 : (List (List UInt8))) : Option (Lo ((Int × Int × Unit) × ((List (List UInt8)) × Unit)) ((Unit) × (Unit)) law22_LookupSees_R) :=
  bif (decide (t_47 < t_46)) then
    bif inR t_47 t_45.length then
    let x15 := (t_45.getD t_47.toNat ([] : List UInt8))
    Option.bind (lookup_See N x15) fun y16 =>
    Option.bind (ref22_See N x15) fun y17 =>
    bif (!(decide (y16.1.2.1 = y17.1.2.1))) then
      some (.rt ((false, ()), (())))
    else
      bif (!(dq T90 y16.1.1 y17.1.1)) then
        some (.rt ((false, ()), (())))
      else
        some (.go ((t_46, (w64 (t_47 + (1 : Int))), ()), (t_45, ())))
    else none
  else
    some (.br ((()), (())))
noncomputable def law22_LookupSees_3 (N : Nat) : Option law22_LookupSees_R :=
  some ((true, ()), (()))
noncomputable def law22_LookupSees_1 (N : Nat) (t_46 : Int) (t_47 : Int) (t_45 : (List (List UInt8))) : Option law22_LookupSees_R :=
  loopK N (fun y => law22_LookupSees_s2 N y.1.1 y.1.2.1 y.2.1) (fun (e : ((Unit) × (Unit))) => law22_LookupSees_3 N) ((t_46, t_47, ()), (t_45, ()))
noncomputable def law22_LookupSees (N : Nat) (b_0 : (List UInt8)) (codes_1 : (List UInt8)) : Option law22_LookupSees_R :=
  Option.bind (law22_awake N) fun y1 =>
  bif (!y1.1.1) then
    some ((false, ()), (()))
  else
    Option.bind (make_New N codes_1 (160 : Int)) fun y3 =>
    Option.bind (make_Codes_Packet N y3.2.1) fun y4 =>
    Option.bind (make_Codes_Next N (12 : Int) y4.2.1) fun y5 =>
    Option.bind (make_Codes_Bytes N (w64 ((4 : Int) + y5.1.1)) y5.2.1) fun y7 =>
    Option.bind (ref22_Build N y4.1.1 y7.2.2.1) fun y8 =>
    Option.bind (law22_fragment N y8.2.1 y7.2.1) fun y9 =>
    Option.bind (make_Codes_Change N y8.2.1 y9.2.1) fun y10 =>
    Option.bind (make_Codes_Change N y9.2.2.1 y10.2.1) fun y11 =>
    Option.bind (law22_shorter N y8.2.1 y11.2.1) fun y12 =>
    law22_LookupSees_1 N (([b_0, y8.2.1, y9.2.2.1, y10.1.1, y11.1.1, y12.2.2.1] : List (List UInt8)).length : Int) (0 : Int) ([b_0, y8.2.1, y9.2.2.1, y10.1.1, y11.1.1, y12.2.2.1] : List (List UInt8))
noncomputable def law22_LookupSees_C (N : Nat) : Ctx := ⟨70, G_tys, [(33, law22_awake_ctr N), (28, make_New_ctr N), (35, make_Codes_Packet_ctr N), (36, make_Codes_Next_ctr N), (56, make_Codes_Bytes_ctr N), (58, ref22_Build_ctr N), (61, law22_fragment_ctr N), (62, make_Codes_Change_ctr N), (63, law22_shorter_ctr N), (64, lookup_See_ctr N), (65, ref22_See_ctr N)], G_globs, G_ifs⟩
noncomputable def law22_LookupSees_S0 : Spec := ⟨[.row 0, .val .i64, .val .i64], [(.row 22 (.sl .u8), .pos 0)]⟩
noncomputable def law22_LookupSees_S1 : Spec := ⟨[], []⟩
noncomputable def law22_LookupSees_S2 : Spec := ⟨[.val (.sl .u8), .val (.sl .u8)], []⟩
noncomputable def law22_LookupSees_S3 : Spec := ⟨[.val .bool], []⟩
noncomputable def law22_LookupSees_K (_N : Nat) : XE → GS → Option law22_LookupSees_R := retK 0 [4] [false] law22_LookupSees_S3
noncomputable def law22_LookupSees_L : List Code := (bodyOf (some Try.f13))
noncomputable def law22_LookupSees_L2 : List Code := (loopOf (law22_LookupSees_L[7]?))
noncomputable def law22_LookupSees_K2 (N : Nat) : XE → GS → Option (Lo ((Int × Int × Unit) × ((List (List UInt8)) × Unit)) ((Unit) × (Unit)) law22_LookupSees_R) := roundK (some 0) (fit 0 [45, 46, 47] law22_LookupSees_S0) (fit 0 [] law22_LookupSees_S1) (law22_LookupSees_K N)
theorem law22_LookupSees_s2_b {E : Env} (N : Nat) (hb : Base Try.prog (law22_LookupSees_C N) E 0) : Blk Try.prog (law22_LookupSees_C N) E [45, 46, 47] law22_LookupSees_S0 (law22_LookupSees_L2.drop 0) (fun y => law22_LookupSees_s2 N y.1.1 y.1.2.1 y.2.1) (law22_LookupSees_K2 N) :=
  Blk.chunkAt hb 4 (X := (law22_LookupSees_K2 N .normal)) (NxOk.end (by kernel_rfl)) rfl (fun x => by kernel_rfl)
theorem law22_LookupSees_3_b {E : Env} (N : Nat) (hb : Base Try.prog (law22_LookupSees_C N) E 0) : Blk Try.prog (law22_LookupSees_C N) E [] law22_LookupSees_S1 (law22_LookupSees_L.drop 8) (fun y => law22_LookupSees_3 N) (law22_LookupSees_K N) :=
  Blk.chunkAt hb 2 (X := (law22_LookupSees_K N .normal)) (NxOk.end (by kernel_rfl)) rfl (fun x => by kernel_rfl)
theorem law22_LookupSees_1_b {E : Env} (N : Nat) (hb : Base Try.prog (law22_LookupSees_C N) E 0) : Blk Try.prog (law22_LookupSees_C N) E [45, 46, 47] law22_LookupSees_S0 (law22_LookupSees_L.drop 7) (fun y => law22_LookupSees_1 N y.1.1 y.1.2.1 y.2.1) (law22_LookupSees_K N) :=
  Blk.loopAt (Nf := N) (hns := [45, 46, 47]) (ans := []) (hc := law22_LookupSees_S0) (ac := law22_LookupSees_S1) (bid := 0) (step := (fun y => law22_LookupSees_s2 N y.1.1 y.1.2.1 y.2.1)) (J := (fun e => (goK 0 [] law22_LookupSees_S1 (fun y => law22_LookupSees_3 N)) (law22_LookupSees_S1.st [] e))) hb (by kernel_rfl) (Blk.into (X := (goK 0 [] law22_LookupSees_S1 (fun y => law22_LookupSees_3 N))) (NxOk.go hb (law22_LookupSees_3_b N hb)) (fun x => by kernel_rfl)) (law22_LookupSees_s2_b N hb) (fun x => by kernel_rfl)
theorem law22_LookupSees_b {E : Env} (N : Nat) (hb : Base Try.prog (law22_LookupSees_C N) E 0) : Blk Try.prog (law22_LookupSees_C N) E (List.range law22_LookupSees_S2.ks.length) law22_LookupSees_S2 (law22_LookupSees_L.drop 0) (fun y => law22_LookupSees N y.1.1 y.1.2.1) (law22_LookupSees_K N) :=
  Blk.chunkAt hb 7 (X := (goK 0 [45, 46, 47] law22_LookupSees_S0 (fun y => law22_LookupSees_1 N y.1.1 y.1.2.1 y.2.1))) (NxOk.go hb (law22_LookupSees_1_b N hb)) rfl (fun x => by kernel_rfl)
noncomputable def law22_LookupSees_ctr (N : Nat) : Ctr := ⟨law22_LookupSees_S2, law22_LookupSees_S3.un [false], 0, (fun y => law22_LookupSees N y.1.1 y.1.2.1)⟩
theorem law22_LookupSees_ctrs (N : Nat) : CtrsOk Try.prog (law22_LookupSees_C N) := ctrs_of (Γ := law22_LookupSees_C N) G_ifs_ok (by
  intro p hp
  simp only [law22_LookupSees_C, List.mem_cons, List.not_mem_nil, or_false] at hp
  rcases hp with rfl | rfl | rfl | rfl | rfl | rfl | rfl | rfl | rfl | rfl | rfl
  · exact law22_awake_ok N
  · exact make_New_ok N
  · exact make_Codes_Packet_ok N
  · exact make_Codes_Next_ok N
  · exact make_Codes_Bytes_ok N
  · exact ref22_Build_ok N
  · exact law22_fragment_ok N
  · exact make_Codes_Change_ok N
  · exact law22_shorter_ok N
  · exact lookup_See_ok N
  · exact ref22_See_ok N)
theorem law22_LookupSees_ok (N : Nat) : Ctr.ok Try.prog G_globs 13 (law22_LookupSees_ctr N) :=
  ctr_fn (Γ := law22_LookupSees_C N) (rfit := law22_LookupSees_S3) (bs := [false]) (res := [4]) (by kernel_rfl) (tys_ok G_tys_ok) (law22_LookupSees_ctrs N) Try.func13 (by kernel_rfl) (by kernel_rfl) Try.ntmps13 (by kernel_rfl) (by kernel_rfl) (by kernel_rfl) (by kernel_rfl) (fun E hb => law22_LookupSees_b N hb)
end Go.Proofs.Ytgbkkfpheahdfaa