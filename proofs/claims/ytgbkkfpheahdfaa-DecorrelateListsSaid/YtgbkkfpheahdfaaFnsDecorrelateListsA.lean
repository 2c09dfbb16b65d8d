/- Functions of the program as plain functions, each with the proof that the text computes it. -/
import Derived.Test.YtgbkkfpheahdfaaGmRule
import Derived.Test.YtgbkkfpheahdfaaProg
set_option linter.unusedVariables false
set_option linter.unusedSimpArgs false
namespace Go.Proofs.Ytgbkkfpheahdfaa
open Go
set_option maxRecDepth 100000
set_option linter.unusedVariables false
noncomputable section
abbrev D13 : Type := ((List UInt8) × (UInt64 × Unit))
abbrev T13 : Ty := (.pair .str (.pair .u64 .unit))
abbrev D27 : Type := (Int × (UInt64 × (UInt64 × Unit)))
abbrev T27 : Ty := (.pair .i64 (.pair .u64 (.pair .u64 .unit)))
abbrev D7 : Type := (Int × (Int × (Bool × (UInt8 × Unit))))
abbrev T7 : Ty := (.pair .i64 (.pair .i64 (.pair .bool (.pair .u8 .unit))))
abbrev D207 : Type := (D27 × Unit)
abbrev T207 : Ty := (.pair T27 .unit)
abbrev D119 : Type := (D27 × D207)
abbrev T119 : Ty := (.pair T27 T207)
abbrev D29 : Type := (D27 × (D27 × (Int × (Int × (Int × Unit)))))
abbrev T29 : Ty := (.pair T27 (.pair T27 (.pair .i64 (.pair .i64 (.pair .i64 .unit)))))
abbrev D97 : Type := (D27 × (D27 × (Int × (Int × (Bool × ((List UInt8) × Unit))))))
abbrev T97 : Ty := (.pair T27 (.pair T27 (.pair .i64 (.pair .i64 (.pair .bool (.pair (.sl .u8) .unit))))))
abbrev D90 : Type := (D29 × (Int × (Bool × (Bool × (Int × Unit)))))
abbrev T90 : Ty := (.pair T29 (.pair .i64 (.pair .bool (.pair .bool (.pair .i64 .unit)))))
abbrev D45 : Type := (D27 × (D27 × (D27 × (D27 × (Int × (Int × ((List Int) × ((List Int) × Unit))))))))
abbrev T45 : Ty := (.pair T27 (.pair T27 (.pair T27 (.pair T27 (.pair .i64 (.pair .i64 (.pair (.arr 2 .i64) (.pair (.arr 2 .i64) .unit))))))))
abbrev D85 : Type := (D45 × (Int × Unit))
abbrev T85 : Ty := (.pair T45 (.pair .i64 .unit))
abbrev D99 : Type := (D27 × (D27 × (Int × ((List D97) × (Int × Unit)))))
abbrev T99 : Ty := (.pair T27 (.pair T27 (.pair .i64 (.pair (.sl T97) (.pair .i64 .unit)))))
abbrev D59 : Type := (Int × ((List UInt8) × ((List D45) × Unit)))
abbrev T59 : Ty := (.pair .i64 (.pair .str (.pair (.sl T45) .unit)))
def G_tys : List (Nat × TI) := [(2, ⟨.i64, 8, 0, false⟩), (3, ⟨.i64, 8, 0, false⟩), (4, ⟨.bool, 1, 0, false⟩), (5, ⟨.u8, 1, 0, false⟩), (6, ⟨.u8, 1, 0, false⟩), (7, ⟨T7, 24, 0, false⟩), (8, ⟨T7, 24, 0, false⟩), (9, ⟨.str, 16, 0, false⟩), (10, ⟨.str, 16, 0, false⟩), (11, ⟨.str, 16, 0, false⟩), (12, ⟨.u64, 8, 0, false⟩), (13, ⟨T13, 24, 0, false⟩), (14, ⟨T13, 24, 0, false⟩), (22, ⟨(.sl .u8), 24, 5, false⟩), (26, ⟨.u64, 8, 0, false⟩), (27, ⟨T27, 24, 0, false⟩), (28, ⟨T27, 24, 0, true⟩), (29, ⟨T29, 72, 0, false⟩), (30, ⟨T29, 72, 0, true⟩), (35, ⟨(.sl .i64), 24, 3, false⟩), (36, ⟨(.sl T97), 24, 98, false⟩), (37, ⟨.i64, 8, 0, false⟩), (44, ⟨(.arr 2 .i64), 16, 3, true⟩), (45, ⟨T45, 144, 0, false⟩), (46, ⟨T45, 144, 0, true⟩), (48, ⟨(.sl T45), 24, 46, false⟩), (54, ⟨(.sl T59), 24, 60, false⟩), (59, ⟨T59, 48, 0, false⟩), (60, ⟨T59, 48, 3, false⟩), (65, ⟨(.sl T85), 24, 86, false⟩), (68, ⟨(.sl T29), 24, 30, false⟩), (71, ⟨(.arr 2 T45), 288, 46, false⟩), (72, ⟨(.sl (.arr 2 T45)), 24, 71, false⟩), (81, ⟨(.sl (.sl .u8)), 24, 22, false⟩), (85, ⟨T85, 152, 0, false⟩), (86, ⟨T85, 152, 0, true⟩), (90, ⟨T90, 96, 0, false⟩), (91, ⟨T90, 96, 0, false⟩), (94, ⟨(.sl T99), 24, 100, false⟩), (97, ⟨T97, 96, 0, false⟩), (98, ⟨T97, 96, 0, false⟩), (99, ⟨T99, 88, 0, false⟩), (100, ⟨T99, 88, 0, false⟩), (103, ⟨(.sl (.sl T59)), 24, 54, false⟩), (107, ⟨(.pair (.sl .u8) (.pair .i64 .unit)), 32, 0, false⟩), (108, ⟨(.pair (.sl .u8) (.pair .i64 .unit)), 32, 0, false⟩), (112, ⟨(.pair (.sl .u8) (.pair .i64 .unit)), 32, 0, false⟩), (113, ⟨(.pair (.sl .u8) (.pair .i64 .unit)), 32, 0, false⟩), (117, ⟨T27, 24, 0, false⟩), (118, ⟨T27, 24, 0, false⟩), (119, ⟨T119, 48, 0, false⟩), (120, ⟨T119, 48, 0, false⟩), (121, ⟨(.arr 5 T119), 240, 120, false⟩), (122, ⟨(.arr 5 T119), 240, 120, false⟩), (128, ⟨(.sl .str), 24, 9, false⟩), (132, ⟨(.sl T27), 24, 28, false⟩), (143, ⟨(.arr 5 T27), 120, 118, false⟩), (147, ⟨(.sl .u64), 24, 26, false⟩), (150, ⟨.u64, 8, 0, false⟩), (160, ⟨(.pair (.sl .u8) .unit), 24, 0, false⟩), (202, ⟨(.sl (.arr 2 .i64)), 24, 44, false⟩), (207, ⟨T207, 24, 0, false⟩)]
def G_globs : List (Nat × Dt) := []
def G_ifs : IfT := ⟨[], [], [], [173]⟩
theorem G_ifs_ok : ifChk Try.prog G_ifs = true := by kernel_rfl
theorem G_tys_ok : tyChk Try.prog G_tys = true := by kernel_rfl
/-! ipsecgate/decorrelate.ofAddress -/
abbrev decorrelate_ofAddress_R : Type := (D207 × (Unit))
def decorrelate_ofAddress (N : Nat) (a_0 : D27) : Option decorrelate_ofAddress_R :=
 some (((a_0.1, a_0.2.1, a_0.2.2.1, ()), ()), (()))
def decorrelate_ofAddress_C (N : Nat) : Ctx := ⟨10, G_tys, [], G_globs, G_ifs⟩
def decorrelate_ofAddress_S0 : Spec := ⟨[.val T27], []⟩
def decorrelate_ofAddress_S1 : Spec := ⟨[.fp T27], []⟩
def decorrelate_ofAddress_K (_N : Nat) : XE → GS → Option decorrelate_ofAddress_R := retK 0 [2] [true] decorrelate_ofAddress_S1
def decorrelate_ofAddress_L : List Code := (bodyOf (some Try.f103))
theorem decorrelate_ofAddress_b {E : Env} (N : Nat) (hb : Base Try.prog (decorrelate_ofAddress_C N) E 0) : Blk Try.prog (decorrelate_ofAddress_C N) E (List.range decorrelate_ofAddress_S0.ks.length) decorrelate_ofAddress_S0 (decorrelate_ofAddress_L.drop 0) (fun y => decorrelate_ofAddress N y.1.1) (decorrelate_ofAddress_K N) :=
 Blk.chunkAt hb 3 (X := (decorrelate_ofAddress_K N .normal)) (NxOk.end (by kernel_rfl)) rfl (fun x => by kernel_rfl)
def decorrelate_ofAddress_ctr (N : Nat) : Ctr := ⟨decorrelate_ofAddress_S0, decorrelate_ofAddress_S1.un [true], 0, (fun y => decorrelate_ofAddress N y.1.1)⟩
theorem decorrelate_ofAddress_ctrs (N : Nat) : CtrsOk Try.prog (decorrelate_ofAddress_C N) := ctrs_nil G_ifs_ok rfl
theorem decorrelate_ofAddress_ok (N : Nat) : Ctr.ok Try.prog G_globs 103 (decorrelate_ofAddress_ctr N) :=
 ctr_fn (Γ := decorrelate_ofAddress_C N) (rfit := decorrelate_ofAddress_S1) (bs := [true]) (res := [2]) (by kernel_rfl) (tys_ok G_tys_ok) (decorrelate_ofAddress_ctrs N) Try.func103 (by kernel_rfl) (by kernel_rfl) Try.ntmps103 (by kernel_rfl) (by kernel_rfl) (by kernel_rfl) (by kernel_rfl) (fun E hb => decorrelate_ofAddress_b N hb)
/-! ipsecgate/decorrelate.ofNumber -/
abbrev decorrelate_ofNumber_R : Type := (D207 × (Unit))
def decorrelate_ofNumber (N : Nat) (n_0 : Int) : Option decorrelate_ofNumber_R :=
 some ((((0 : Int), (0 : UInt64), (iu64 (w64 (n_0 + (1 : Int)))), ()), ()), (()))
def decorrelate_ofNumber_C (N : Nat) : Ctx := ⟨7, G_tys, [], G_globs, G_ifs⟩
def decorrelate_ofNumber_S0 : Spec := ⟨[.val .i64], []⟩
def decorrelate_ofNumber_S1 : Spec := ⟨[.fp T27], []⟩
def decorrelate_ofNumber_K (_N : Nat) : XE → GS → Option decorrelate_ofNumber_R := retK 0 [2] [true] decorrelate_ofNumber_S1
def decorrelate_ofNumber_L : List Code := (bodyOf (some Try.f104))
theorem decorrelate_ofNumber_b {E : Env} (N : Nat) (hb : Base Try.prog (decorrelate_ofNumber_C N) E 0) : Blk Try.prog (decorrelate_ofNumber_C N) E (List.range decorrelate_ofNumber_S0.ks.length) decorrelate_ofNumber_S0 (decorrelate_ofNumber_L.drop 0) (fun y => decorrelate_ofNumber N y.1.1) (decorrelate_ofNumber_K N) :=
 Blk.chunkAt hb 3 (X := (decorrelate_ofNumber_K N .normal)) (NxOk.end (by kernel_rfl)) rfl (fun x => by kernel_rfl)
def decorrelate_ofNumber_ctr (N : Nat) : Ctr := ⟨decorrelate_ofNumber_S0, decorrelate_ofNumber_S1.un [true], 0, (fun y => decorrelate_ofNumber N y.1.1)⟩
theorem decorrelate_ofNumber_ctrs (N : Nat) : CtrsOk Try.prog (decorrelate_ofNumber_C N) := ctrs_nil G_ifs_ok rfl
theorem decorrelate_ofNumber_ok (N : Nat) : Ctr.ok Try.prog G_globs 104 (decorrelate_ofNumber_ctr N) :=
 ctr_fn (Γ := decorrelate_ofNumber_C N) (rfit := decorrelate_ofNumber_S1) (bs := [true]) (res := [2]) (by kernel_rfl) (tys_ok G_tys_ok) (decorrelate_ofNumber_ctrs N) Try.func104 (by kernel_rfl) (by kernel_rfl) Try.ntmps104 (by kernel_rfl) (by kernel_rfl) (by kernel_rfl) (by kernel_rfl) (fun E hb => decorrelate_ofNumber_b N hb)
/-! ipsecgate/decorrelate.numbers -/
abbrev decorrelate_numbers_R : Type := ((D119 × Unit) × (Unit))
def decorrelate_numbers (N : Nat) (lo_0 : Int) (hi_1 : Int) : Option decorrelate_numbers_R :=
 Option.bind (decorrelate_ofNumber N lo_0) fun y1 =>
 Option.bind (decorrelate_ofNumber N hi_1) fun y2 =>
 some (((y1.1.1, y2.1.1, ()), ()), (()))
def decorrelate_numbers_C (N : Nat) : Ctx := ⟨10, G_tys, [(104, decorrelate_ofNumber_ctr N)], G_globs, G_ifs⟩
def decorrelate_numbers_S0 : Spec := ⟨[.val .i64, .val .i64], []⟩
def decorrelate_numbers_S1 : Spec := ⟨[.fp T119], []⟩
def decorrelate_numbers_K (_N : Nat) : XE → GS → Option decorrelate_numbers_R := retK 0 [4] [true] decorrelate_numbers_S1
def decorrelate_numbers_L : List Code := (bodyOf (some Try.f144))
theorem decorrelate_numbers_b {E : Env} (N : Nat) (hb : Base Try.prog (decorrelate_numbers_C N) E 0) : Blk Try.prog (decorrelate_numbers_C N) E (List.range decorrelate_numbers_S0.ks.length) decorrelate_numbers_S0 (decorrelate_numbers_L.drop 0) (fun y => decorrelate_numbers N y.1.1 y.1.2.1) (decorrelate_numbers_K N) :=
 Blk.chunkAt hb 3 (X := (decorrelate_numbers_K N .normal)) (NxOk.end (by kernel_rfl)) rfl (fun x => by kernel_rfl)
def decorrelate_numbers_ctr (N : Nat) : Ctr := ⟨decorrelate_numbers_S0, decorrelate_numbers_S1.un [true], 0, (fun y => decorrelate_numbers N y.1.1 y.1.2.1)⟩
theorem decorrelate_numbers_ctrs (N : Nat) : CtrsOk Try.prog (decorrelate_numbers_C N) := ctrs_of (Γ := decorrelate_numbers_C N) G_ifs_ok (by
 intro p hp
 simp only [decorrelate_numbers_C, List.mem_cons, List.not_mem_nil, or_false] at hp
 rcases hp with rfl
 · exact decorrelate_ofNumber_ok N)
theorem decorrelate_numbers_ok (N : Nat) : Ctr.ok Try.prog G_globs 144 (decorrelate_numbers_ctr N) :=
 ctr_fn (Γ := decorrelate_numbers_C N) (rfit := decorrelate_numbers_S1) (bs := [true]) (res := [4]) (by kernel_rfl) (tys_ok G_tys_ok) (decorrelate_numbers_ctrs N) Try.func144 (by kernel_rfl) (by kernel_rfl) Try.ntmps144 (by kernel_rfl) (by kernel_rfl) (by kernel_rfl) (by kernel_rfl) (fun E hb => decorrelate_numbers_b N hb)
/-! ipsecgate/decorrelate.ofBox -/
abbrev decorrelate_ofBox_R : Type := (((List D119) × Unit) × (Unit))
def decorrelate_ofBox (N : Nat) (b_0 : D45) : Option decorrelate_ofBox_R :=
 Option.bind (decorrelate_ofAddress N b_0.1) fun y1 =>
 Option.bind (decorrelate_ofAddress N b_0.2.1) fun y2 =>
 Option.bind (decorrelate_ofAddress N b_0.2.2.1) fun y3 =>
 Option.bind (decorrelate_ofAddress N b_0.2.2.2.1) fun y4 =>
 Option.bind (decorrelate_numbers N b_0.2.2.2.2.1 b_0.2.2.2.2.2.1) fun y5 =>
 Option.bind (decorrelate_numbers N (b_0.2.2.2.2.2.2.1.getD 0 (0 : Int)) (b_0.2.2.2.2.2.2.1.getD 1 (0 : Int))) fun y8 =>
 Option.bind (decorrelate_numbers N (b_0.2.2.2.2.2.2.2.1.getD 0 (0 : Int)) (b_0.2.2.2.2.2.2.2.1.getD 1 (0 : Int))) fun y11 =>
 some ((([(y1.1.1, y2.1.1, ()), (y3.1.1, y4.1.1, ()), y5.1.1, y8.1.1, y11.1.1] : List D119), ()), (()))
def decorrelate_ofBox_C (N : Nat) : Ctx := ⟨37, G_tys, [(103, decorrelate_ofAddress_ctr N), (144, decorrelate_numbers_ctr N)], G_globs, G_ifs⟩
def decorrelate_ofBox_S0 : Spec := ⟨[.val T45], []⟩
def decorrelate_ofBox_S1 : Spec := ⟨[.fp (.arr 5 T119)], []⟩
def decorrelate_ofBox_K (_N : Nat) : XE → GS → Option decorrelate_ofBox_R := retK 0 [2] [true] decorrelate_ofBox_S1
def decorrelate_ofBox_L : List Code := (bodyOf (some Try.f79))
theorem decorrelate_ofBox_b {E : Env} (N : Nat) (hb : Base Try.prog (decorrelate_ofBox_C N) E 0) : Blk Try.prog (decorrelate_ofBox_C N) E (List.range decorrelate_ofBox_S0.ks.length) decorrelate_ofBox_S0 (decorrelate_ofBox_L.drop 0) (fun y => decorrelate_ofBox N y.1.1) (decorrelate_ofBox_K N) :=
 Blk.chunkAt hb 3 (X := (decorrelate_ofBox_K N .normal)) (NxOk.end (by kernel_rfl)) rfl (fun x => by kernel_rfl)
def decorrelate_ofBox_ctr (N : Nat) : Ctr := ⟨decorrelate_ofBox_S0, decorrelate_ofBox_S1.un [true], 0, (fun y => decorrelate_ofBox N y.1.1)⟩
theorem decorrelate_ofBox_ctrs (N : Nat) : CtrsOk Try.prog (decorrelate_ofBox_C N) := ctrs_of (Γ := decorrelate_ofBox_C N) G_ifs_ok (by
 intro p hp
 simp only [decorrelate_ofBox_C, List.mem_cons, List.not_mem_nil, or_false] at hp
 rcases hp with rfl | rfl
 · exact decorrelate_ofAddress_ok N
 · exact decorrelate_numbers_ok N)
theorem decorrelate_ofBox_ok (N : Nat) : Ctr.ok Try.prog G_globs 79 (decorrelate_ofBox_ctr N) :=
 ctr_fn (Γ := decorrelate_ofBox_C N) (rfit := decorrelate_ofBox_S1) (bs := [true]) (res := [2]) (by kernel_rfl) (tys_ok G_tys_ok) (decorrelate_ofBox_ctrs N) Try.func79 (by kernel_rfl) (by kernel_rfl) Try.ntmps79 (by kernel_rfl) (by kernel_rfl) (by kernel_rfl) (by kernel_rfl) (fun E hb => decorrelate_ofBox_b N hb)
/-! cmp.isNaN[int] -/
abbrev cmp_isNaN_int__R : Type := ((Bool × Unit) × (Unit))
def cmp_isNaN_int_ (N : Nat) (x_0 : Int) : Option cmp_isNaN_int__R :=
 some (((!(decide (x_0 = x_0))), ()), (()))
def cmp_isNaN_int__C (N : Nat) : Ctx := ⟨6, G_tys, [], G_globs, G_ifs⟩
def cmp_isNaN_int__S0 : Spec := ⟨[.val .i64], []⟩
def cmp_isNaN_int__S1 : Spec := ⟨[.val .bool], []⟩
def cmp_isNaN_int__K (_N : Nat) : XE → GS → Option cmp_isNaN_int__R := retK 0 [2] [false] cmp_isNaN_int__S1
def cmp_isNaN_int__L : List Code := (bodyOf (some Try.f167))
theorem cmp_isNaN_int__b {E : Env} (N : Nat) (hb : Base Try.prog (cmp_isNaN_int__C N) E 0) : Blk Try.prog (cmp_isNaN_int__C N) E (List.range cmp_isNaN_int__S0.ks.length) cmp_isNaN_int__S0 (cmp_isNaN_int__L.drop 0) (fun y => cmp_isNaN_int_ N y.1.1) (cmp_isNaN_int__K N) :=
 Blk.chunkAt hb 3 (X := (cmp_isNaN_int__K N .normal)) (NxOk.end (by kernel_rfl)) rfl (fun x => by kernel_rfl)
def cmp_isNaN_int__ctr (N : Nat) : Ctr := ⟨cmp_isNaN_int__S0, cmp_isNaN_int__S1.un [false], 0, (fun y => cmp_isNaN_int_ N y.1.1)⟩
theorem cmp_isNaN_int__ctrs (N : Nat) : CtrsOk Try.prog (cmp_isNaN_int__C N) := ctrs_nil G_ifs_ok rfl
theorem cmp_isNaN_int__ok (N : Nat) : Ctr.ok Try.prog G_globs 167 (cmp_isNaN_int__ctr N) :=
 ctr_fn (Γ := cmp_isNaN_int__C N) (rfit := cmp_isNaN_int__S1) (bs := [false]) (res := [2]) (by kernel_rfl) (tys_ok G_tys_ok) (cmp_isNaN_int__ctrs N) Try.func167 (by kernel_rfl) (by kernel_rfl) Try.ntmps167 (by kernel_rfl) (by kernel_rfl) (by kernel_rfl) (by kernel_rfl) (fun E hb => cmp_isNaN_int__b N hb)
/-! cmp.Compare[int] -/
abbrev cmp_Compare_int__R : Type := ((Int × Unit) × (Unit))
def cmp_Compare_int_ (N : Nat) (x_0 : Int) (y_1 : Int) : Option cmp_Compare_int__R :=
 Option.bind (cmp_isNaN_int_ N x_0) fun y1 =>
 Option.bind (cmp_isNaN_int_ N y_1) fun y2 =>
 bif y1.1.1 then
 bif y2.1.1 then
 some (((0 : Int), ()), (()))
 else
 some (((-1 : Int), ()), (()))
 else
 bif y2.1.1 then
 some (((1 : Int), ()), (()))
 else
 bif (decide (x_0 < y_1)) then
 some (((-1 : Int), ()), (()))
 else
 bif (decide (y_1 < x_0)) then
 some (((1 : Int), ()), (()))
 else
 some (((0 : Int), ()), (()))
def cmp_Compare_int__C (N : Nat) : Ctx := ⟨20, G_tys, [(167, cmp_isNaN_int__ctr N)], G_globs, G_ifs⟩
def cmp_Compare_int__S0 : Spec := ⟨[.val .i64, .val .i64], []⟩
def cmp_Compare_int__S1 : Spec := ⟨[.val .i64], []⟩
def cmp_Compare_int__K (_N : Nat) : XE → GS → Option cmp_Compare_int__R := retK 0 [4] [false] cmp_Compare_int__S1
def cmp_Compare_int__L : List Code := (bodyOf (some Try.f147))
theorem cmp_Compare_int__b {E : Env} (N : Nat) (hb : Base Try.prog (cmp_Compare_int__C N) E 0) : Blk Try.prog (cmp_Compare_int__C N) E (List.range cmp_Compare_int__S0.ks.length) cmp_Compare_int__S0 (cmp_Compare_int__L.drop 0) (fun y => cmp_Compare_int_ N y.1.1 y.1.2.1) (cmp_Compare_int__K N) :=
 Blk.chunkAt hb 13 (X := (cmp_Compare_int__K N .normal)) (NxOk.end (by kernel_rfl)) rfl (fun x => by kernel_rfl)
def cmp_Compare_int__ctr (N : Nat) : Ctr := ⟨cmp_Compare_int__S0, cmp_Compare_int__S1.un [false], 0, (fun y => cmp_Compare_int_ N y.1.1 y.1.2.1)⟩
theorem cmp_Compare_int__ctrs (N : Nat) : CtrsOk Try.prog (cmp_Compare_int__C N) := ctrs_of (Γ := cmp_Compare_int__C N) G_ifs_ok (by
 intro p hp
 simp only [cmp_Compare_int__C, List.mem_cons, List.not_mem_nil, or_false] at hp
 rcases hp with rfl
 · exact cmp_isNaN_int__ok N)
theorem cmp_Compare_int__ok (N : Nat) : Ctr.ok Try.prog G_globs 147 (cmp_Compare_int__ctr N) :=
 ctr_fn (Γ := cmp_Compare_int__C N) (rfit := cmp_Compare_int__S1) (bs := [false]) (res := [4]) (by kernel_rfl) (tys_ok G_tys_ok) (cmp_Compare_int__ctrs N) Try.func147 (by kernel_rfl) (by kernel_rfl) Try.ntmps147 (by kernel_rfl) (by kernel_rfl) (by kernel_rfl) (by kernel_rfl) (fun E hb => cmp_Compare_int__b N hb)
/-! cmp.isNaN[uint64] -/
abbrev cmp_isNaN_uint64__R : Type := ((Bool × Unit) × (Unit))
def cmp_isNaN_uint64_ (N : Nat) (x_0 : UInt64) : Option cmp_isNaN_uint64__R :=
 some (((!(decide (x_0 = x_0))), ()), (()))
def cmp_isNaN_uint64__C (N : Nat) : Ctx := ⟨6, G_tys, [], G_globs, G_ifs⟩
def cmp_isNaN_uint64__S0 : Spec := ⟨[.val .u64], []⟩
def cmp_isNaN_uint64__S1 : Spec := ⟨[.val .bool], []⟩
def cmp_isNaN_uint64__K (_N : Nat) : XE → GS → Option cmp_isNaN_uint64__R := retK 0 [2] [false] cmp_isNaN_uint64__S1
def cmp_isNaN_uint64__L : List Code := (bodyOf (some Try.f168))
theorem cmp_isNaN_uint64__b {E : Env} (N : Nat) (hb : Base Try.prog (cmp_isNaN_uint64__C N) E 0) : Blk Try.prog (cmp_isNaN_uint64__C N) E (List.range cmp_isNaN_uint64__S0.ks.length) cmp_isNaN_uint64__S0 (cmp_isNaN_uint64__L.drop 0) (fun y => cmp_isNaN_uint64_ N y.1.1) (cmp_isNaN_uint64__K N) :=
 Blk.chunkAt hb 3 (X := (cmp_isNaN_uint64__K N .normal)) (NxOk.end (by kernel_rfl)) rfl (fun x => by kernel_rfl)
def cmp_isNaN_uint64__ctr (N : Nat) : Ctr := ⟨cmp_isNaN_uint64__S0, cmp_isNaN_uint64__S1.un [false], 0, (fun y => cmp_isNaN_uint64_ N y.1.1)⟩
theorem cmp_isNaN_uint64__ctrs (N : Nat) : CtrsOk Try.prog (cmp_isNaN_uint64__C N) := ctrs_nil G_ifs_ok rfl
theorem cmp_isNaN_uint64__ok (N : Nat) : Ctr.ok Try.prog G_globs 168 (cmp_isNaN_uint64__ctr N) :=
 ctr_fn (Γ := cmp_isNaN_uint64__C N) (rfit := cmp_isNaN_uint64__S1) (bs := [false]) (res := [2]) (by kernel_rfl) (tys_ok G_tys_ok) (cmp_isNaN_uint64__ctrs N) Try.func168 (by kernel_rfl) (by kernel_rfl) Try.ntmps168 (by kernel_rfl) (by kernel_rfl) (by kernel_rfl) (by kernel_rfl) (fun E hb => cmp_isNaN_uint64__b N hb)
/-! cmp.Compare[uint64] -/
abbrev cmp_Compare_uint64__R : Type := ((Int × Unit) × (Unit))
def cmp_Compare_uint64_ (N : Nat) (x_0 : UInt64) (y_1 : UInt64) : Option cmp_Compare_uint64__R :=
 Option.bind (cmp_isNaN_uint64_ N x_0) fun y1 =>
 Option.bind (cmp_isNaN_uint64_ N y_1) fun y2 =>
 bif y1.1.1 then
 bif y2.1.1 then
 some (((0 : Int), ()), (()))
 else
 some (((-1 : Int), ()), (()))
 else
 bif y2.1.1 then
 some (((1 : Int), ()), (()))
 else
 bif (decide (x_0 < y_1)) then
 some (((-1 : Int), ()), (()))
 else
 bif (decide (y_1 < x_0)) then
 some (((1 : Int), ()), (()))
 else
 some (((0 : Int), ()), (()))
def cmp_Compare_uint64__C (N : Nat) : Ctx := ⟨20, G_tys, [(168, cmp_isNaN_uint64__ctr N)], G_globs, G_ifs⟩
def cmp_Compare_uint64__S0 : Spec := ⟨[.val .u64, .val .u64], []⟩
def cmp_Compare_uint64__S1 : Spec := ⟨[.val .i64], []⟩
def cmp_Compare_uint64__K (_N : Nat) : XE → GS → Option cmp_Compare_uint64__R := retK 0 [4] [false] cmp_Compare_uint64__S1
def cmp_Compare_uint64__L : List Code := (bodyOf (some Try.f148))
theorem cmp_Compare_uint64__b {E : Env} (N : Nat) (hb : Base Try.prog (cmp_Compare_uint64__C N) E 0) : Blk Try.prog (cmp_Compare_uint64__C N) E (List.range cmp_Compare_uint64__S0.ks.length) cmp_Compare_uint64__S0 (cmp_Compare_uint64__L.drop 0) (fun y => cmp_Compare_uint64_ N y.1.1 y.1.2.1) (cmp_Compare_uint64__K N) :=
 Blk.chunkAt hb 13 (X := (cmp_Compare_uint64__K N .normal)) (NxOk.end (by kernel_rfl)) rfl (fun x => by kernel_rfl)
def cmp_Compare_uint64__ctr (N : Nat) : Ctr := ⟨cmp_Compare_uint64__S0, cmp_Compare_uint64__S1.un [false], 0, (fun y => cmp_Compare_uint64_ N y.1.1 y.1.2.1)⟩
theorem cmp_Compare_uint64__ctrs (N : Nat) : CtrsOk Try.prog (cmp_Compare_uint64__C N) := ctrs_of (Γ := cmp_Compare_uint64__C N) G_ifs_ok (by
 intro p hp
 simp only [cmp_Compare_uint64__C, List.mem_cons, List.not_mem_nil, or_false] at hp
 rcases hp with rfl
 · exact cmp_isNaN_uint64__ok N)
theorem cmp_Compare_uint64__ok (N : Nat) : Ctr.ok Try.prog G_globs 148 (cmp_Compare_uint64__ctr N) :=
 ctr_fn (Γ := cmp_Compare_uint64__C N) (rfit := cmp_Compare_uint64__S1) (bs := [false]) (res := [4]) (by kernel_rfl) (tys_ok G_tys_ok) (cmp_Compare_uint64__ctrs N) Try.func148 (by kernel_rfl) (by kernel_rfl) Try.ntmps148 (by kernel_rfl) (by kernel_rfl) (by kernel_rfl) (by kernel_rfl) (fun E hb => cmp_Compare_uint64__b N hb)
/-! cmp.Or[int] -/
abbrev cmp_Or_int__R : Type := ((Int × Unit) × (Unit))
def cmp_Or_int__s2 (N : Nat) (zero_3 : Int) (t_6 : (List Int)) (t_7 : Int) (t_8 : Int) : Option (Lo ((Int × (List Int) × Int × Int × Unit) × (Unit)) ((Int × Unit) × (Unit)) cmp_Or_int__R) :=
 bif (decide (t_8 < t_7)) then
 bif inR t_8 t_6.length then
 let x3 := t_6.getD t_8.toNat (0 : Int)
 bif (!(decide (x3 = zero_3))) then
 some (.rt ((x3, ()), (())))
 else
 some (.go ((zero_3, t_6, t_7, (w64 (t_8 + (1 : Int))), ()), (())))
 else none
 else
 some (.br ((zero_3, ()), (())))
def cmp_Or_int__3 (N : Nat) (zero_3 : Int) : Option cmp_Or_int__R :=
 some ((zero_3, ()), (()))
def cmp_Or_int__1 (N : Nat) (zero_3 : Int) (t_6 : (List Int)) (t_7 : Int) (t_8 : Int) : Option cmp_Or_int__R :=
 loopK N (fun y => cmp_Or_int__s2 N y.1.1 y.1.2.1 y.1.2.2.1 y.1.2.2.2.1) (fun (e : ((Int × Unit) × (Unit))) => cmp_Or_int__3 N e.1.1) ((zero_3, t_6, t_7, t_8, ()), (()))
def cmp_Or_int_ (N : Nat) (vals_0 : (List Int)) : Option cmp_Or_int__R :=
 cmp_Or_int__1 N (0 : Int) vals_0 (vals_0.length : Int) (0 : Int)
def cmp_Or_int__C (N : Nat) : Ctx := ⟨18, G_tys, [], G_globs, G_ifs⟩
def cmp_Or_int__S0 : Spec := ⟨[.val .i64, .val (.sl .i64), .val .i64, .val .i64], []⟩
def cmp_Or_int__S1 : Spec := ⟨[.val .i64], []⟩
def cmp_Or_int__S2 : Spec := ⟨[.val (.sl .i64)], []⟩
def cmp_Or_int__K (_N : Nat) : XE → GS → Option cmp_Or_int__R := retK 0 [2] [false] cmp_Or_int__S1
def cmp_Or_int__L : List Code := (bodyOf (some Try.f146))
def cmp_Or_int__L2 : List Code := (loopOf (cmp_Or_int__L[3]?))
def cmp_Or_int__K2 (N : Nat) : XE → GS → Option (Lo ((Int × (List Int) × Int × Int × Unit) × (Unit)) ((Int × Unit) × (Unit)) cmp_Or_int__R) := roundK (some 0) (fit 0 [3, 6, 7, 8] cmp_Or_int__S0) (fit 0 [3] cmp_Or_int__S1) (cmp_Or_int__K N)
theorem cmp_Or_int__s2_b {E : Env} (N : Nat) (hb : Base Try.prog (cmp_Or_int__C N) E 0) : Blk Try.prog (cmp_Or_int__C N) E [3, 6, 7, 8] cmp_Or_int__S0 (cmp_Or_int__L2.drop 0) (fun y => cmp_Or_int__s2 N y.1.1 y.1.2.1 y.1.2.2.1 y.1.2.2.2.1) (cmp_Or_int__K2 N) :=
 Blk.chunkAt hb 4 (X := (cmp_Or_int__K2 N .normal)) (NxOk.end (by kernel_rfl)) rfl (fun x => by kernel_rfl)
theorem cmp_Or_int__3_b {E : Env} (N : Nat) (hb : Base Try.prog (cmp_Or_int__C N) E 0) : Blk Try.prog (cmp_Or_int__C N) E [3] cmp_Or_int__S1 (cmp_Or_int__L.drop 4) (fun y => cmp_Or_int__3 N y.1.1) (cmp_Or_int__K N) :=
 Blk.chunkAt hb 2 (X := (cmp_Or_int__K N .normal)) (NxOk.end (by kernel_rfl)) rfl (fun x => by kernel_rfl)
theorem cmp_Or_int__1_b {E : Env} (N : Nat) (hb : Base Try.prog (cmp_Or_int__C N) E 0) : Blk Try.prog (cmp_Or_int__C N) E [3, 6, 7, 8] cmp_Or_int__S0 (cmp_Or_int__L.drop 3) (fun y => cmp_Or_int__1 N y.1.1 y.1.2.1 y.1.2.2.1 y.1.2.2.2.1) (cmp_Or_int__K N) :=
 Blk.loopAt (Nf := N) (hns := [3, 6, 7, 8]) (ans := [3]) (hc := cmp_Or_int__S0) (ac := cmp_Or_int__S1) (bid := 0) (step := (fun y => cmp_Or_int__s2 N y.1.1 y.1.2.1 y.1.2.2.1 y.1.2.2.2.1)) (J := (fun e => (goK 0 [3] cmp_Or_int__S1 (fun y => cmp_Or_int__3 N y.1.1)) (cmp_Or_int__S1.st [3] e))) hb (by kernel_rfl) (Blk.into (X := (goK 0 [3] cmp_Or_int__S1 (fun y => cmp_Or_int__3 N y.1.1))) (NxOk.go hb (cmp_Or_int__3_b N hb)) (fun x => by kernel_rfl)) (cmp_Or_int__s2_b N hb) (fun x => by kernel_rfl)
theorem cmp_Or_int__b {E : Env} (N : Nat) (hb : Base Try.prog (cmp_Or_int__C N) E 0) : Blk Try.prog (cmp_Or_int__C N) E (List.range cmp_Or_int__S2.ks.length) cmp_Or_int__S2 (cmp_Or_int__L.drop 0) (fun y => cmp_Or_int_ N y.1.1) (cmp_Or_int__K N) :=
 Blk.chunkAt hb 3 (X := (goK 0 [3, 6, 7, 8] cmp_Or_int__S0 (fun y => cmp_Or_int__1 N y.1.1 y.1.2.1 y.1.2.2.1 y.1.2.2.2.1))) (NxOk.go hb (cmp_Or_int__1_b N hb)) rfl (fun x => by kernel_rfl)
def cmp_Or_int__ctr (N : Nat) : Ctr := ⟨cmp_Or_int__S2, cmp_Or_int__S1.un [false], 0, (fun y => cmp_Or_int_ N y.1.1)⟩
theorem cmp_Or_int__ctrs (N : Nat) : CtrsOk Try.prog (cmp_Or_int__C N) := ctrs_nil G_ifs_ok rfl
theorem cmp_Or_int__ok (N : Nat) : Ctr.ok Try.prog G_globs 146 (cmp_Or_int__ctr N) :=
 ctr_fn (Γ := cmp_Or_int__C N) (rfit := cmp_Or_int__S1) (bs := [false]) (res := [2]) (by kernel_rfl) (tys_ok G_tys_ok) (cmp_Or_int__ctrs N) Try.func146 (by kernel_rfl) (by kernel_rfl) Try.ntmps146 (by kernel_rfl) (by kernel_rfl) (by kernel_rfl) (by kernel_rfl) (fun E hb => cmp_Or_int__b N hb)
/-! (ipsecgate/decorrelate.value).compare -/
abbrev decorrelate_value_compare_R : Type := ((Int × Unit) × (Unit))
def decorrelate_value_compare (N : Nat) (a_0 : D27) (b_1 : D27) : Option decorrelate_value_compare_R :=
 Option.bind (cmp_Compare_int_ N a_0.1 b_1.1) fun y1 =>
 Option.bind (cmp_Compare_uint64_ N a_0.2.1 b_1.2.1) fun y2 =>
 Option.bind (cmp_Compare_uint64_ N a_0.2.2.1 b_1.2.2.1) fun y3 =>
 Option.bind (cmp_Or_int_ N ([y1.1.1, y2.1.1, y3.1.1] : List Int)) fun y4 =>
 some ((y4.1.1, ()), (()))
def decorrelate_value_compare_C (N : Nat) : Ctx := ⟨22, G_tys, [(147, cmp_Compare_int__ctr N), (148, cmp_Compare_uint64__ctr N), (146, cmp_Or_int__ctr N)], G_globs, G_ifs⟩
def decorrelate_value_compare_S0 : Spec := ⟨[.val T27, .val T27], []⟩
def decorrelate_value_compare_S1 : Spec := ⟨[.val .i64], []⟩
def decorrelate_value_compare_K (_N : Nat) : XE → GS → Option decorrelate_value_compare_R := retK 0 [4] [false] decorrelate_value_compare_S1
def decorrelate_value_compare_L : List Code := (bodyOf (some Try.f81))
theorem decorrelate_value_compare_b {E : Env} (N : Nat) (hb : Base Try.prog (decorrelate_value_compare_C N) E 0) : Blk Try.prog (decorrelate_value_compare_C N) E (List.range decorrelate_value_compare_S0.ks.length) decorrelate_value_compare_S0 (decorrelate_value_compare_L.drop 0) (fun y => decorrelate_value_compare N y.1.1 y.1.2.1) (decorrelate_value_compare_K N) :=
 Blk.chunkAt hb 3 (X := (decorrelate_value_compare_K N .normal)) (NxOk.end (by kernel_rfl)) rfl (fun x => by kernel_rfl)
def decorrelate_value_compare_ctr (N : Nat) : Ctr := ⟨decorrelate_value_compare_S0, decorrelate_value_compare_S1.un [false], 0, (fun y => decorrelate_value_compare N y.1.1 y.1.2.1)⟩
theorem decorrelate_value_compare_ctrs (N : Nat) : CtrsOk Try.prog (decorrelate_value_compare_C N) := ctrs_of (Γ := decorrelate_value_compare_C N) G_ifs_ok (by
 intro p hp
 simp only [decorrelate_value_compare_C, List.mem_cons, List.not_mem_nil, or_false] at hp
 rcases hp with rfl | rfl | rfl
 · exact cmp_Compare_int__ok N
 · exact cmp_Compare_uint64__ok N
 · exact cmp_Or_int__ok N)
theorem decorrelate_value_compare_ok (N : Nat) : Ctr.ok Try.prog G_globs 81 (decorrelate_value_compare_ctr N) :=
 ctr_fn (Γ := decorrelate_value_compare_C N) (rfit := decorrelate_value_compare_S1) (bs := [false]) (res := [4]) (by kernel_rfl) (tys_ok G_tys_ok) (decorrelate_value_compare_ctrs N) Try.func81 (by kernel_rfl) (by kernel_rfl) Try.ntmps81 (by kernel_rfl) (by kernel_rfl) (by kernel_rfl) (by kernel_rfl) (fun E hb => decorrelate_value_compare_b N hb)
/-! (ipsecgate/decorrelate.side).meet -/
abbrev decorrelate_side_meet_R : Type := ((D119 × Bool × Unit) × (Unit))
def decorrelate_side_meet_2 (N : Nat) (s_2 : D119) (t_4 : D119) : Option decorrelate_side_meet_R :=
 Option.bind (decorrelate_value_compare N s_2.1 s_2.2.1) fun y5 =>
 some ((s_2, (decide (y5.1.1 ≤ (0 : Int))), ()), (()))
def decorrelate_side_meet_1 (N : Nat) (s_2 : D119) (t_3 : D119) (t_4 : D119) : Option decorrelate_side_meet_R :=
 Option.bind (decorrelate_value_compare N t_3.2.1 s_2.2.1) fun y3 =>
 bif (decide (y3.1.1 < (0 : Int))) then
 decorrelate_side_meet_2 N (s_2.1, t_3.2.1, ()) t_4
 else
 decorrelate_side_meet_2 N s_2 t_4
def decorrelate_side_meet (N : Nat) (s_0 : D119) (t_1 : D119) : Option decorrelate_side_meet_R :=
 Option.bind (decorrelate_value_compare N t_1.1 s_0.1) fun y1 =>
 bif (decide ((0 : Int) < y1.1.1)) then
 decorrelate_side_meet_1 N (t_1.1, s_0.2.1, ()) t_1 (((0 : Int), (0 : UInt64), (0 : UInt64), ()), ((0 : Int), (0 : UInt64), (0 : UInt64), ()), ())
 else
 decorrelate_side_meet_1 N s_0 t_1 (((0 : Int), (0 : UInt64), (0 : UInt64), ()), ((0 : Int), (0 : UInt64), (0 : UInt64), ()), ())
def decorrelate_side_meet_C (N : Nat) : Ctx := ⟨31, G_tys, [(81, decorrelate_value_compare_ctr N)], G_globs, G_ifs⟩
def decorrelate_side_meet_S0 : Spec := ⟨[.ref 0 T119, .ref 1 T119], [(.box 120 T119, .pos 0), (.box 120 T119, .pos 1)]⟩
def decorrelate_side_meet_S1 : Spec := ⟨[.ref 0 T119, .ref 1 T119, .ref 2 T119], [(.box 120 T119, .pos 0), (.box 120 T119, .pos 1), (.box 120 T119, .pos 2)]⟩
def decorrelate_side_meet_S2 : Spec := ⟨[.val T119, .val T119], []⟩
def decorrelate_side_meet_S3 : Spec := ⟨[.fp T119, .val .bool], []⟩
def decorrelate_side_meet_K (_N : Nat) : XE → GS → Option decorrelate_side_meet_R := retK 0 [4, 5] [true, false] decorrelate_side_meet_S3
def decorrelate_side_meet_L : List Code := (bodyOf (some Try.f145))
theorem decorrelate_side_meet_2_b {E : Env} (N : Nat) (hb : Base Try.prog (decorrelate_side_meet_C N) E 0) : Blk Try.prog (decorrelate_side_meet_C N) E [2, 4] decorrelate_side_meet_S0 (decorrelate_side_meet_L.drop 5) (fun y => decorrelate_side_meet_2 N y.2.1 y.2.2.1) (decorrelate_side_meet_K N) :=
 Blk.chunkAt hb 2 (X := (decorrelate_side_meet_K N .normal)) (NxOk.end (by kernel_rfl)) rfl (fun x => by kernel_rfl)
theorem decorrelate_side_meet_1_b {E : Env} (N : Nat) (hb : Base Try.prog (decorrelate_side_meet_C N) E 0) : Blk Try.prog (decorrelate_side_meet_C N) E [2, 3, 4] decorrelate_side_meet_S1 (decorrelate_side_meet_L.drop 3) (fun y => decorrelate_side_meet_1 N y.2.1 y.2.2.1 y.2.2.2.1) (decorrelate_side_meet_K N) :=
 Blk.chunkAt hb 2 (X := (goK 0 [2, 4] decorrelate_side_meet_S0 (fun y => decorrelate_side_meet_2 N y.2.1 y.2.2.1))) (NxOk.go hb (decorrelate_side_meet_2_b N hb)) rfl (fun x => by kernel_rfl)
theorem decorrelate_side_meet_b {E : Env} (N : Nat) (hb : Base Try.prog (decorrelate_side_meet_C N) E 0) : Blk Try.prog (decorrelate_side_meet_C N) E (List.range decorrelate_side_meet_S2.ks.length) decorrelate_side_meet_S2 (decorrelate_side_meet_L.drop 0) (fun y => decorrelate_side_meet N y.1.1 y.1.2.1) (decorrelate_side_meet_K N) :=
 Blk.chunkAt hb 3 (X := (goK 0 [2, 3, 4] decorrelate_side_meet_S1 (fun y => decorrelate_side_meet_1 N y.2.1 y.2.2.1 y.2.2.2.1))) (NxOk.go hb (decorrelate_side_meet_1_b N hb)) rfl (fun x => by kernel_rfl)
def decorrelate_side_meet_ctr (N : Nat) : Ctr := ⟨decorrelate_side_meet_S2, decorrelate_side_meet_S3.un [true, false], 0, (fun y => decorrelate_side_meet N y.1.1 y.1.2.1)⟩
theorem decorrelate_side_meet_ctrs (N : Nat) : CtrsOk Try.prog (decorrelate_side_meet_C N) := ctrs_of (Γ := decorrelate_side_meet_C N) G_ifs_ok (by
 intro p hp
 simp only [decorrelate_side_meet_C, List.mem_cons, List.not_mem_nil, or_false] at hp
 rcases hp with rfl
 · exact decorrelate_value_compare_ok N)
theorem decorrelate_side_meet_ok (N : Nat) : Ctr.ok Try.prog G_globs 145 (decorrelate_side_meet_ctr N) :=
 ctr_fn (Γ := decorrelate_side_meet_C N) (rfit := decorrelate_side_meet_S3) (bs := [true, false]) (res := [4, 5]) (by kernel_rfl) (tys_ok G_tys_ok) (decorrelate_side_meet_ctrs N) Try.func145 (by kernel_rfl) (by kernel_rfl) Try.ntmps145 (by kernel_rfl) (by kernel_rfl) (by kernel_rfl) (by kernel_rfl) (fun E hb => decorrelate_side_meet_b N hb)
/-! (ipsecgate/decorrelate.product).meet -/
abbrev decorrelate_product_meet_R : Type := (((List D119) × Bool × Unit) × (Unit))
def decorrelate_product_meet_s2 (N : Nat) (t_9 : Int) (p_2 : (List D119)) (q_3 : (List D119)) (t_4 : (List D119)) : Option (Lo ((Int × Unit) × ((List D119) × (List D119) × (List D119) × Unit)) ((Unit) × ((List D119) × (List D119) × Unit)) decorrelate_product_meet_R) :=
 bif (decide (t_9 < (5 : Int))) then
 bif inR t_9 5 then
 bif inR t_9 5 then
 Option.bind (decorrelate_side_meet N (p_2.getD t_9.toNat (((0 : Int), (0 : UInt64), (0 : UInt64), ()), ((0 : Int), (0 : UInt64), (0 : UInt64), ()), ())) (q_3.getD t_9.toNat (((0 : Int), (0 : UInt64), (0 : UInt64), ()), ((0 : Int), (0 : UInt64), (0 : UInt64), ()), ()))) fun y4 =>
 bif (!y4.1.2.1) then
 some (.rt (((List.replicate 5 (((0 : Int), (0 : UInt64), (0 : UInt64), ()), ((0 : Int), (0 : UInt64), (0 : UInt64), ()), ())), false, ()), (())))
 else
 bif inR t_9 5 then
 some (.go (((w64 (t_9 + (1 : Int))), ()), ((p_2.set t_9.toNat y4.1.1), q_3, t_4, ())))
 else none
 else none
 else none
 else
 some (.br ((()), (p_2, t_4, ())))
def decorrelate_product_meet_3 (N : Nat) (p_2 : (List D119)) (t_4 : (List D119)) : Option decorrelate_product_meet_R :=
 some ((p_2, true, ()), (()))
def decorrelate_product_meet_1 (N : Nat) (t_9 : Int) (p_2 : (List D119)) (q_3 : (List D119)) (t_4 : (List D119)) : Option decorrelate_product_meet_R :=
 loopK N (fun y => decorrelate_product_meet_s2 N y.1.1 y.2.1 y.2.2.1 y.2.2.2.1) (fun (e : ((Unit) × ((List D119) × (List D119) × Unit))) => decorrelate_product_meet_3 N e.2.1 e.2.2.1) ((t_9, ()), (p_2, q_3, t_4, ()))
def decorrelate_product_meet (N : Nat) (p_0 : (List D119)) (q_1 : (List D119)) : Option decorrelate_product_meet_R :=
 decorrelate_product_meet_1 N (0 : Int) p_0 q_1 (List.replicate 5 (((0 : Int), (0 : UInt64), (0 : UInt64), ()), ((0 : Int), (0 : UInt64), (0 : UInt64), ()), ()))
def decorrelate_product_meet_C (N : Nat) : Ctx := ⟨30, G_tys, [(145, decorrelate_side_meet_ctr N)], G_globs, G_ifs⟩
def decorrelate_product_meet_S0 : Spec := ⟨[.ref 0 (.arr 5 T119), .ref 1 (.arr 5 T119), .ref 2 (.arr 5 T119), .val .i64], [(.box 122 (.arr 5 T119), .pos 0), (.box 122 (.arr 5 T119), .pos 1), (.box 122 (.arr 5 T119), .pos 2)]⟩
def decorrelate_product_meet_S1 : Spec := ⟨[.ref 0 (.arr 5 T119), .ref 1 (.arr 5 T119)], [(.box 122 (.arr 5 T119), .pos 0), (.box 122 (.arr 5 T119), .pos 1)]⟩
def decorrelate_product_meet_S2 : Spec := ⟨[.val (.arr 5 T119), .val (.arr 5 T119)], []⟩
def decorrelate_product_meet_S3 : Spec := ⟨[.fp (.arr 5 T119), .val .bool], []⟩
def decorrelate_product_meet_K (_N : Nat) : XE → GS → Option decorrelate_product_meet_R := retK 0 [4, 5] [true, false] decorrelate_product_meet_S3
def decorrelate_product_meet_L : List Code := (bodyOf (some Try.f80))
def decorrelate_product_meet_L2 : List Code := (loopOf (decorrelate_product_meet_L[2]?))
def decorrelate_product_meet_K2 (N : Nat) : XE → GS → Option (Lo ((Int × Unit) × ((List D119) × (List D119) × (List D119) × Unit)) ((Unit) × ((List D119) × (List D119) × Unit)) decorrelate_product_meet_R) := roundK (some 0) (fit 0 [2, 3, 4, 9] decorrelate_product_meet_S0) (fit 0 [2, 4] decorrelate_product_meet_S1) (decorrelate_product_meet_K N)
theorem decorrelate_product_meet_s2_b {E : Env} (N : Nat) (hb : Base Try.prog (decorrelate_product_meet_C N) E 0) : Blk Try.prog (decorrelate_product_meet_C N) E [2, 3, 4, 9] decorrelate_product_meet_S0 (decorrelate_product_meet_L2.drop 0) (fun y => decorrelate_product_meet_s2 N y.1.1 y.2.1 y.2.2.1 y.2.2.2.1) (decorrelate_product_meet_K2 N) :=
 Blk.chunkAt hb 4 (X := (decorrelate_product_meet_K2 N .normal)) (NxOk.end (by kernel_rfl)) rfl (fun x => by kernel_rfl)
theorem decorrelate_product_meet_3_b {E : Env} (N : Nat) (hb : Base Try.prog (decorrelate_product_meet_C N) E 0) : Blk Try.prog (decorrelate_product_meet_C N) E [2, 4] decorrelate_product_meet_S1 (decorrelate_product_meet_L.drop 3) (fun y => decorrelate_product_meet_3 N y.2.1 y.2.2.1) (decorrelate_product_meet_K N) :=
 Blk.chunkAt hb 2 (X := (decorrelate_product_meet_K N .normal)) (NxOk.end (by kernel_rfl)) rfl (fun x => by kernel_rfl)
theorem decorrelate_product_meet_1_b {E : Env} (N : Nat) (hb : Base Try.prog (decorrelate_product_meet_C N) E 0) : Blk Try.prog (decorrelate_product_meet_C N) E [2, 3, 4, 9] decorrelate_product_meet_S0 (decorrelate_product_meet_L.drop 2) (fun y => decorrelate_product_meet_1 N y.1.1 y.2.1 y.2.2.1 y.2.2.2.1) (decorrelate_product_meet_K N) :=
 Blk.loopAt (Nf := N) (hns := [2, 3, 4, 9]) (ans := [2, 4]) (hc := decorrelate_product_meet_S0) (ac := decorrelate_product_meet_S1) (bid := 0) (step := (fun y => decorrelate_product_meet_s2 N y.1.1 y.2.1 y.2.2.1 y.2.2.2.1)) (J := (fun e => (goK 0 [2, 4] decorrelate_product_meet_S1 (fun y => decorrelate_product_meet_3 N y.2.1 y.2.2.1)) (decorrelate_product_meet_S1.st [2, 4] e))) hb (by kernel_rfl) (Blk.into (X := (goK 0 [2, 4] decorrelate_product_meet_S1 (fun y => decorrelate_product_meet_3 N y.2.1 y.2.2.1))) (NxOk.go hb (decorrelate_product_meet_3_b N hb)) (fun x => by kernel_rfl)) (decorrelate_product_meet_s2_b N hb) (fun x => by kernel_rfl)
theorem decorrelate_product_meet_b {E : Env} (N : Nat) (hb : Base Try.prog (decorrelate_product_meet_C N) E 0) : Blk Try.prog (decorrelate_product_meet_C N) E (List.range decorrelate_product_meet_S2.ks.length) decorrelate_product_meet_S2 (decorrelate_product_meet_L.drop 0) (fun y => decorrelate_product_meet N y.1.1 y.1.2.1) (decorrelate_product_meet_K N) :=
 Blk.chunkAt hb 2 (X := (goK 0 [2, 3, 4, 9] decorrelate_product_meet_S0 (fun y => decorrelate_product_meet_1 N y.1.1 y.2.1 y.2.2.1 y.2.2.2.1))) (NxOk.go hb (decorrelate_product_meet_1_b N hb)) rfl (fun x => by kernel_rfl)
def decorrelate_product_meet_ctr (N : Nat) : Ctr := ⟨decorrelate_product_meet_S2, decorrelate_product_meet_S3.un [true, false], 0, (fun y => decorrelate_product_meet N y.1.1 y.1.2.1)⟩
theorem decorrelate_product_meet_ctrs (N : Nat) : CtrsOk Try.prog (decorrelate_product_meet_C N) := ctrs_of (Γ := decorrelate_product_meet_C N) G_ifs_ok (by
 intro p hp
 simp only [decorrelate_product_meet_C, List.mem_cons, List.not_mem_nil, or_false] at hp
 rcases hp with rfl
 · exact decorrelate_side_meet_ok N)
theorem decorrelate_product_meet_ok (N : Nat) : Ctr.ok Try.prog G_globs 80 (decorrelate_product_meet_ctr N) :=
 ctr_fn (Γ := decorrelate_product_meet_C N) (rfit := decorrelate_product_meet_S3) (bs := [true, false]) (res := [4, 5]) (by kernel_rfl) (tys_ok G_tys_ok) (decorrelate_product_meet_ctrs N) Try.func80 (by kernel_rfl) (by kernel_rfl) Try.ntmps80 (by kernel_rfl) (by kernel_rfl) (by kernel_rfl) (by kernel_rfl) (fun E hb => decorrelate_product_meet_b N hb)
/-! (ipsecgate/decorrelate.value).ahead -/
abbrev decorrelate_value_ahead_R : Type := (D207 × (Unit))
def decorrelate_value_ahead_1 (N : Nat) (a_1 : D27) (t_2 : D27) : Option decorrelate_value_ahead_R :=
 some (((a_1.1, a_1.2.1, (a_1.2.2.1 - (1 : UInt64)), ()), ()), (()))
def decorrelate_value_ahead (N : Nat) (a_0 : D27) : Option decorrelate_value_ahead_R :=
 bif (decide (a_0.2.2.1 = (0 : UInt64))) then
 decorrelate_value_ahead_1 N (a_0.1, (a_0.2.1 - (1 : UInt64)), a_0.2.2.1, ()) ((0 : Int), (0 : UInt64), (0 : UInt64), ())
 else
 decorrelate_value_ahead_1 N a_0 ((0 : Int), (0 : UInt64), (0 : UInt64), ())
def decorrelate_value_ahead_C (N : Nat) : Ctx := ⟨15, G_tys, [], G_globs, G_ifs⟩
def decorrelate_value_ahead_S0 : Spec := ⟨[.ref 0 T27, .ref 1 T27], [(.box 118 T27, .pos 0), (.box 118 T27, .pos 1)]⟩
def decorrelate_value_ahead_S1 : Spec := ⟨[.val T27], []⟩
def decorrelate_value_ahead_S2 : Spec := ⟨[.fp T27], []⟩
def decorrelate_value_ahead_K (_N : Nat) : XE → GS → Option decorrelate_value_ahead_R := retK 0 [2] [true] decorrelate_value_ahead_S2
def decorrelate_value_ahead_L : List Code := (bodyOf (some Try.f82))
theorem decorrelate_value_ahead_1_b {E : Env} (N : Nat) (hb : Base Try.prog (decorrelate_value_ahead_C N) E 0) : Blk Try.prog (decorrelate_value_ahead_C N) E [1, 2] decorrelate_value_ahead_S0 (decorrelate_value_ahead_L.drop 3) (fun y => decorrelate_value_ahead_1 N y.2.1 y.2.2.1) (decorrelate_value_ahead_K N) :=
 Blk.chunkAt hb 3 (X := (decorrelate_value_ahead_K N .normal)) (NxOk.end (by kernel_rfl)) rfl (fun x => by kernel_rfl)
theorem decorrelate_value_ahead_b {E : Env} (N : Nat) (hb : Base Try.prog (decorrelate_value_ahead_C N) E 0) : Blk Try.prog (decorrelate_value_ahead_C N) E (List.range decorrelate_value_ahead_S1.ks.length) decorrelate_value_ahead_S1 (decorrelate_value_ahead_L.drop 0) (fun y => decorrelate_value_ahead N y.1.1) (decorrelate_value_ahead_K N) :=
 Blk.chunkAt hb 3 (X := (goK 0 [1, 2] decorrelate_value_ahead_S0 (fun y => decorrelate_value_ahead_1 N y.2.1 y.2.2.1))) (NxOk.go hb (decorrelate_value_ahead_1_b N hb)) rfl (fun x => by kernel_rfl)
def decorrelate_value_ahead_ctr (N : Nat) : Ctr := ⟨decorrelate_value_ahead_S1, decorrelate_value_ahead_S2.un [true], 0, (fun y => decorrelate_value_ahead N y.1.1)⟩
theorem decorrelate_value_ahead_ctrs (N : Nat) : CtrsOk Try.prog (decorrelate_value_ahead_C N) := ctrs_nil G_ifs_ok rfl
theorem decorrelate_value_ahead_ok (N : Nat) : Ctr.ok Try.prog G_globs 82 (decorrelate_value_ahead_ctr N) :=
 ctr_fn (Γ := decorrelate_value_ahead_C N) (rfit := decorrelate_value_ahead_S2) (bs := [true]) (res := [2]) (by kernel_rfl) (tys_ok G_tys_ok) (decorrelate_value_ahead_ctrs N) Try.func82 (by kernel_rfl) (by kernel_rfl) Try.ntmps82 (by kernel_rfl) (by kernel_rfl) (by kernel_rfl) (by kernel_rfl) (fun E hb => decorrelate_value_ahead_b N hb)
/-! (ipsecgate/decorrelate.value).address -/
abbrev decorrelate_value_address_R : Type := (D207 × (Unit))
def decorrelate_value_address (N : Nat) (a_0 : D27) : Option decorrelate_value_address_R :=
 some (((a_0.1, a_0.2.1, a_0.2.2.1, ()), ()), (()))
def decorrelate_value_address_C (N : Nat) : Ctx := ⟨10, G_tys, [], G_globs, G_ifs⟩
def decorrelate_value_address_S0 : Spec := ⟨[.val T27], []⟩
def decorrelate_value_address_S1 : Spec := ⟨[.fp T27], []⟩
def decorrelate_value_address_K (_N : Nat) : XE → GS → Option decorrelate_value_address_R := retK 0 [2] [true] decorrelate_value_address_S1
def decorrelate_value_address_L : List Code := (bodyOf (some Try.f149))
theorem decorrelate_value_address_b {E : Env} (N : Nat) (hb : Base Try.prog (decorrelate_value_address_C N) E 0) : Blk Try.prog (decorrelate_value_address_C N) E (List.range decorrelate_value_address_S0.ks.length) decorrelate_value_address_S0 (decorrelate_value_address_L.drop 0) (fun y => decorrelate_value_address N y.1.1) (decorrelate_value_address_K N) :=
 Blk.chunkAt hb 3 (X := (decorrelate_value_address_K N .normal)) (NxOk.end (by kernel_rfl)) rfl (fun x => by kernel_rfl)
def decorrelate_value_address_ctr (N : Nat) : Ctr := ⟨decorrelate_value_address_S0, decorrelate_value_address_S1.un [true], 0, (fun y => decorrelate_value_address N y.1.1)⟩
theorem decorrelate_value_address_ctrs (N : Nat) : CtrsOk Try.prog (decorrelate_value_address_C N) := ctrs_nil G_ifs_ok rfl
theorem decorrelate_value_address_ok (N : Nat) : Ctr.ok Try.prog G_globs 149 (decorrelate_value_address_ctr N) :=
 ctr_fn (Γ := decorrelate_value_address_C N) (rfit := decorrelate_value_address_S1) (bs := [true]) (res := [2]) (by kernel_rfl) (tys_ok G_tys_ok) (decorrelate_value_address_ctrs N) Try.func149 (by kernel_rfl) (by kernel_rfl) Try.ntmps149 (by kernel_rfl) (by kernel_rfl) (by kernel_rfl) (by kernel_rfl) (fun E hb => decorrelate_value_address_b N hb)
/-! (ipsecgate/decorrelate.value).number -/
abbrev decorrelate_value_number_R : Type := ((Int × Unit) × (Unit))
def decorrelate_value_number (N : Nat) (a_0 : D27) : Option decorrelate_value_number_R :=
 some (((w64 ((w64 (a_0.2.2.1.toNat : Int)) - (1 : Int))), ()), (()))
def decorrelate_value_number_C (N : Nat) : Ctx := ⟨7, G_tys, [], G_globs, G_ifs⟩
def decorrelate_value_number_S0 : Spec := ⟨[.val T27], []⟩
def decorrelate_value_number_S1 : Spec := ⟨[.val .i64], []⟩
def decorrelate_value_number_K (_N : Nat) : XE → GS → Option decorrelate_value_number_R := retK 0 [2] [false] decorrelate_value_number_S1
def decorrelate_value_number_L : List Code := (bodyOf (some Try.f150))
theorem decorrelate_value_number_b {E : Env} (N : Nat) (hb : Base Try.prog (decorrelate_value_number_C N) E 0) : Blk Try.prog (decorrelate_value_number_C N) E (List.range decorrelate_value_number_S0.ks.length) decorrelate_value_number_S0 (decorrelate_value_number_L.drop 0) (fun y => decorrelate_value_number N y.1.1) (decorrelate_value_number_K N) :=
 Blk.chunkAt hb 3 (X := (decorrelate_value_number_K N .normal)) (NxOk.end (by kernel_rfl)) rfl (fun x => by kernel_rfl)
def decorrelate_value_number_ctr (N : Nat) : Ctr := ⟨decorrelate_value_number_S0, decorrelate_value_number_S1.un [false], 0, (fun y => decorrelate_value_number N y.1.1)⟩
theorem decorrelate_value_number_ctrs (N : Nat) : CtrsOk Try.prog (decorrelate_value_number_C N) := ctrs_nil G_ifs_ok rfl
theorem decorrelate_value_number_ok (N : Nat) : Ctr.ok Try.prog G_globs 150 (decorrelate_value_number_ctr N) :=
 ctr_fn (Γ := decorrelate_value_number_C N) (rfit := decorrelate_value_number_S1) (bs := [false]) (res := [2]) (by kernel_rfl) (tys_ok G_tys_ok) (decorrelate_value_number_ctrs N) Try.func150 (by kernel_rfl) (by kernel_rfl) Try.ntmps150 (by kernel_rfl) (by kernel_rfl) (by kernel_rfl) (by kernel_rfl) (fun E hb => decorrelate_value_number_b N hb)
/-! (ipsecgate/decorrelate.product).box -/
abbrev decorrelate_product_box_R : Type := ((D45 × Unit) × (Unit))
def decorrelate_product_box (N : Nat) (p_0 : (List D119)) : Option decorrelate_product_box_R :=
 Option.bind (decorrelate_value_address N ((p_0.getD 0 (((0 : Int), (0 : UInt64), (0 : UInt64), ()), ((0 : Int), (0 : UInt64), (0 : UInt64), ()), ())).1)) fun y2 =>
 Option.bind (decorrelate_value_address N ((p_0.getD 0 (((0 : Int), (0 : UInt64), (0 : UInt64), ()), ((0 : Int), (0 : UInt64), (0 : UInt64), ()), ())).2.1)) fun y4 =>
 Option.bind (decorrelate_value_address N ((p_0.getD 1 (((0 : Int), (0 : UInt64), (0 : UInt64), ()), ((0 : Int), (0 : UInt64), (0 : UInt64), ()), ())).1)) fun y6 =>
 Option.bind (decorrelate_value_address N ((p_0.getD 1 (((0 : Int), (0 : UInt64), (0 : UInt64), ()), ((0 : Int), (0 : UInt64), (0 : UInt64), ()), ())).2.1)) fun y8 =>
 Option.bind (decorrelate_value_number N ((p_0.getD 2 (((0 : Int), (0 : UInt64), (0 : UInt64), ()), ((0 : Int), (0 : UInt64), (0 : UInt64), ()), ())).1)) fun y10 =>
 Option.bind (decorrelate_value_number N ((p_0.getD 2 (((0 : Int), (0 : UInt64), (0 : UInt64), ()), ((0 : Int), (0 : UInt64), (0 : UInt64), ()), ())).2.1)) fun y12 =>
 Option.bind (decorrelate_value_number N ((p_0.getD 3 (((0 : Int), (0 : UInt64), (0 : UInt64), ()), ((0 : Int), (0 : UInt64), (0 : UInt64), ()), ())).1)) fun y14 =>
 Option.bind (decorrelate_value_number N ((p_0.getD 3 (((0 : Int), (0 : UInt64), (0 : UInt64), ()), ((0 : Int), (0 : UInt64), (0 : UInt64), ()), ())).2.1)) fun y16 =>
 Option.bind (decorrelate_value_number N ((p_0.getD 4 (((0 : Int), (0 : UInt64), (0 : UInt64), ()), ((0 : Int), (0 : UInt64), (0 : UInt64), ()), ())).1)) fun y19 =>
 Option.bind (decorrelate_value_number N ((p_0.getD 4 (((0 : Int), (0 : UInt64), (0 : UInt64), ()), ((0 : Int), (0 : UInt64), (0 : UInt64), ()), ())).2.1)) fun y21 =>
 some (((y2.1.1, y4.1.1, y6.1.1, y8.1.1, y10.1.1, y12.1.1, ([y14.1.1, y16.1.1] : List Int), ([y19.1.1, y21.1.1] : List Int), ()), ()), (()))
def decorrelate_product_box_C (N : Nat) : Ctx := ⟨46, G_tys, [(149, decorrelate_value_address_ctr N), (150, decorrelate_value_number_ctr N)], G_globs, G_ifs⟩
def decorrelate_product_box_S0 : Spec := ⟨[.val (.arr 5 T119)], []⟩
def decorrelate_product_box_S1 : Spec := ⟨[.fp T45], []⟩
def decorrelate_product_box_K (_N : Nat) : XE → GS → Option decorrelate_product_box_R := retK 0 [2] [true] decorrelate_product_box_S1
def decorrelate_product_box_L : List Code := (bodyOf (some Try.f83))
theorem decorrelate_product_box_b {E : Env} (N : Nat) (hb : Base Try.prog (decorrelate_product_box_C N) E 0) : Blk Try.prog (decorrelate_product_box_C N) E (List.range decorrelate_product_box_S0.ks.length) decorrelate_product_box_S0 (decorrelate_product_box_L.drop 0) (fun y => decorrelate_product_box N y.1.1) (decorrelate_product_box_K N) :=
 Blk.chunkAt hb 3 (X := (decorrelate_product_box_K N .normal)) (NxOk.end (by kernel_rfl)) rfl (fun x => by kernel_rfl)
def decorrelate_product_box_ctr (N : Nat) : Ctr := ⟨decorrelate_product_box_S0, decorrelate_product_box_S1.un [true], 0, (fun y => decorrelate_product_box N y.1.1)⟩
theorem decorrelate_product_box_ctrs (N : Nat) : CtrsOk Try.prog (decorrelate_product_box_C N) := ctrs_of (Γ := decorrelate_product_box_C N) G_ifs_ok (by
 intro p hp
 simp only [decorrelate_product_box_C, List.mem_cons, List.not_mem_nil, or_false] at hp
 rcases hp with rfl | rfl
 · exact decorrelate_value_address_ok N
 · exact decorrelate_value_number_ok N)
theorem decorrelate_product_box_ok (N : Nat) : Ctr.ok Try.prog G_globs 83 (decorrelate_product_box_ctr N) :=
 ctr_fn (Γ := decorrelate_product_box_C N) (rfit := decorrelate_product_box_S1) (bs := [true]) (res := [2]) (by kernel_rfl) (tys_ok G_tys_ok) (decorrelate_product_box_ctrs N) Try.func83 (by kernel_rfl) (by kernel_rfl) Try.ntmps83 (by kernel_rfl) (by kernel_rfl) (by kernel_rfl) (by kernel_rfl) (fun E hb => decorrelate_product_box_b N hb)
/-! (ipsecgate/decorrelate.value).behind -/
abbrev decorrelate_value_behind_R : Type := (D207 × (Unit))
def decorrelate_value_behind (N : Nat) (a_0 : D27) : Option decorrelate_value_behind_R :=
 let x1 := a_0.2.2.1 + (1 : UInt64)
 bif (decide (x1 = (0 : UInt64))) then
 some (((a_0.1, (a_0.2.1 + (1 : UInt64)), x1, ()), ()), (()))
 else
 some (((a_0.1, a_0.2.1, x1, ()), ()), (()))
def decorrelate_value_behind_C (N : Nat) : Ctx := ⟨15, G_tys, [], G_globs, G_ifs⟩
def decorrelate_value_behind_S0 : Spec := ⟨[.val T27], []⟩
def decorrelate_value_behind_S1 : Spec := ⟨[.fp T27], []⟩
def decorrelate_value_behind_K (_N : Nat) : XE → GS → Option decorrelate_value_behind_R := retK 0 [2] [true] decorrelate_value_behind_S1
def decorrelate_value_behind_L : List Code := (bodyOf (some Try.f84))
theorem decorrelate_value_behind_b {E : Env} (N : Nat) (hb : Base Try.prog (decorrelate_value_behind_C N) E 0) : Blk Try.prog (decorrelate_value_behind_C N) E (List.range decorrelate_value_behind_S0.ks.length) decorrelate_value_behind_S0 (decorrelate_value_behind_L.drop 0) (fun y => decorrelate_value_behind N y.1.1) (decorrelate_value_behind_K N) :=
 Blk.chunkAt hb 6 (X := (decorrelate_value_behind_K N .normal)) (NxOk.end (by kernel_rfl)) rfl (fun x => by kernel_rfl)
def decorrelate_value_behind_ctr (N : Nat) : Ctr := ⟨decorrelate_value_behind_S0, decorrelate_value_behind_S1.un [true], 0, (fun y => decorrelate_value_behind N y.1.1)⟩
theorem decorrelate_value_behind_ctrs (N : Nat) : CtrsOk Try.prog (decorrelate_value_behind_C N) := ctrs_nil G_ifs_ok rfl
theorem decorrelate_value_behind_ok (N : Nat) : Ctr.ok Try.prog G_globs 84 (decorrelate_value_behind_ctr N) :=
 ctr_fn (Γ := decorrelate_value_behind_C N) (rfit := decorrelate_value_behind_S1) (bs := [true]) (res := [2]) (by kernel_rfl) (tys_ok G_tys_ok) (decorrelate_value_behind_ctrs N) Try.func84 (by kernel_rfl) (by kernel_rfl) Try.ntmps84 (by kernel_rfl) (by kernel_rfl) (by kernel_rfl) (by kernel_rfl) (fun E hb => decorrelate_value_behind_b N hb)
/-! ipsecgate/decorrelate.Minus -/
abbrev decorrelate_Minus_R : Type := ((Unit) × ((List D45) × Unit))
def decorrelate_Minus_s2 (N : Nat) (t_25 : Int) (c_5 : (List D119)) (out_6 : (List D45)) (m_7 : (List D119)) : Option (Lo ((Int × Unit) × ((List D119) × (List D45) × (List D119) × Unit)) ((Unit) × ((List D45) × Unit)) decorrelate_Minus_R) :=
 bif (decide (t_25 < (5 : Int))) then
 bif inR t_25 5 then
 bif inR t_25 5 then
 Option.bind (decorrelate_value_compare N ((c_5.getD t_25.toNat (((0 : Int), (0 : UInt64), (0 : UInt64), ()), ((0 : Int), (0 : UInt64), (0 : UInt64), ()), ())).1) ((m_7.getD t_25.toNat (((0 : Int), (0 : UInt64), (0 : UInt64), ()), ((0 : Int), (0 : UInt64), (0 : UInt64), ()), ())).1)) fun y8 =>
 bif (decide (y8.1.1 < (0 : Int))) then
 bif inR t_25 5 then
 bif inR t_25 5 then
 Option.bind (decorrelate_value_ahead N ((m_7.getD t_25.toNat (((0 : Int), (0 : UInt64), (0 : UInt64), ()), ((0 : Int), (0 : UInt64), (0 : UInt64), ()), ())).1)) fun y12 =>
 bif inR t_25 5 then
 let x13 := (c_5.set t_25.toNat (((c_5.getD t_25.toNat (((0 : Int), (0 : UInt64), (0 : UInt64), ()), ((0 : Int), (0 : UInt64), (0 : UInt64), ()), ())).1), y12.1.1, ()))
 Option.bind (decorrelate_product_box N x13) fun y14 =>
 bif room (out_6.length + ([y14.1.1] : List D45).length) 144 then
 let x15 := out_6 ++ ([y14.1.1] : List D45)
 bif inR t_25 5 then
 bif inR t_25 5 then
 Option.bind (decorrelate_value_compare N ((m_7.getD t_25.toNat (((0 : Int), (0 : UInt64), (0 : UInt64), ()), ((0 : Int), (0 : UInt64), (0 : UInt64), ()), ())).2.1) ((c_5.getD t_25.toNat (((0 : Int), (0 : UInt64), (0 : UInt64), ()), ((0 : Int), (0 : UInt64), (0 : UInt64), ()), ())).2.1)) fun y18 =>
 bif (decide (y18.1.1 < (0 : Int))) then
 bif inR t_25 5 then
 Option.bind (decorrelate_value_behind N ((m_7.getD t_25.toNat (((0 : Int), (0 : UInt64), (0 : UInt64), ()), ((0 : Int), (0 : UInt64), (0 : UInt64), ()), ())).2.1)) fun y21 =>
 bif inR t_25 5 then
 bif inR t_25 5 then
 Option.bind (decorrelate_product_box N (x13.set t_25.toNat (y21.1.1, ((c_5.getD t_25.toNat (((0 : Int), (0 : UInt64), (0 : UInt64), ()), ((0 : Int), (0 : UInt64), (0 : UInt64), ()), ())).2.1), ()))) fun y24 =>
 bif room (x15.length + ([y24.1.1] : List D45).length) 144 then
 bif inR t_25 5 then
 bif inR t_25 5 then
 some (.go (((w64 (t_25 + (1 : Int))), ()), ((c_5.set t_25.toNat (m_7.getD t_25.toNat (((0 : Int), (0 : UInt64), (0 : UInt64), ()), ((0 : Int), (0 : UInt64), (0 : UInt64), ()), ()))), (x15 ++ ([y24.1.1] : List D45)), m_7, ())))
 else none
 else none
 else none
 else none
 else none
 else none
 else
 bif inR t_25 5 then
 bif inR t_25 5 then
 some (.go (((w64 (t_25 + (1 : Int))), ()), ((c_5.set t_25.toNat (m_7.getD t_25.toNat (((0 : Int), (0 : UInt64), (0 : UInt64), ()), ((0 : Int), (0 : UInt64), (0 : UInt64), ()), ()))), x15, m_7, ())))
 else none
 else none
 else none
 else none
 else none
 else none
 else none
 else none
 else
 bif inR t_25 5 then
 bif inR t_25 5 then
 Option.bind (decorrelate_value_compare N ((m_7.getD t_25.toNat (((0 : Int), (0 : UInt64), (0 : UInt64), ()), ((0 : Int), (0 : UInt64), (0 : UInt64), ()), ())).2.1) ((c_5.getD t_25.toNat (((0 : Int), (0 : UInt64), (0 : UInt64), ()), ((0 : Int), (0 : UInt64), (0 : UInt64), ()), ())).2.1)) fun y34 =>
 bif (decide (y34.1.1 < (0 : Int))) then
 bif inR t_25 5 then
 Option.bind (decorrelate_value_behind N ((m_7.getD t_25.toNat (((0 : Int), (0 : UInt64), (0 : UInt64), ()), ((0 : Int), (0 : UInt64), (0 : UInt64), ()), ())).2.1)) fun y37 =>
 bif inR t_25 5 then
 bif inR t_25 5 then
 Option.bind (decorrelate_product_box N (c_5.set t_25.toNat (y37.1.1, ((c_5.getD t_25.toNat (((0 : Int), (0 : UInt64), (0 : UInt64), ()), ((0 : Int), (0 : UInt64), (0 : UInt64), ()), ())).2.1), ()))) fun y40 =>
 bif room (out_6.length + ([y40.1.1] : List D45).length) 144 then
 bif inR t_25 5 then
 bif inR t_25 5 then
 some (.go (((w64 (t_25 + (1 : Int))), ()), ((c_5.set t_25.toNat (m_7.getD t_25.toNat (((0 : Int), (0 : UInt64), (0 : UInt64), ()), ((0 : Int), (0 : UInt64), (0 : UInt64), ()), ()))), (out_6 ++ ([y40.1.1] : List D45)), m_7, ())))
 else none
 else none
 else none
 else none
 else none
 else none
 else
 bif inR t_25 5 then
 bif inR t_25 5 then
 some (.go (((w64 (t_25 + (1 : Int))), ()), ((c_5.set t_25.toNat (m_7.getD t_25.toNat (((0 : Int), (0 : UInt64), (0 : UInt64), ()), ((0 : Int), (0 : UInt64), (0 : UInt64), ()), ()))), out_6, m_7, ())))
 else none
 else none
 else none
 else none
 else none
 else none
 else
 some (.br ((()), (out_6, ())))
def decorrelate_Minus_3 (N : Nat) (out_6 : (List D45)) : Option decorrelate_Minus_R :=
 some ((()), (out_6, ()))
def decorrelate_Minus_1 (N : Nat) (t_25 : Int) (c_5 : (List D119)) (out_6 : (List D45)) (m_7 : (List D119)) : Option decorrelate_Minus_R :=
 loopK N (fun y => decorrelate_Minus_s2 N y.1.1 y.2.1 y.2.2.1 y.2.2.2.1) (fun (e : ((Unit) × ((List D45) × Unit))) => decorrelate_Minus_3 N e.2.1) ((t_25, ()), (c_5, out_6, m_7, ()))
def decorrelate_Minus (N : Nat) (a_0 : D45) (b_1 : D45) : Option decorrelate_Minus_R :=
 Option.bind (decorrelate_ofBox N a_0) fun y1 =>
 Option.bind (decorrelate_ofBox N b_1) fun y2 =>
 Option.bind (decorrelate_product_meet N y1.1.1 y2.1.1) fun y3 =>
 bif (!y3.1.2.1) then
 some ((()), (([a_0] : List D45), ()))
 else
 decorrelate_Minus_1 N (0 : Int) y1.1.1 ([] : List D45) y3.1.1
def decorrelate_Minus_C (N : Nat) : Ctx := ⟨90, G_tys, [(79, decorrelate_ofBox_ctr N), (80, decorrelate_product_meet_ctr N), (81, decorrelate_value_compare_ctr N), (82, decorrelate_value_ahead_ctr N), (83, decorrelate_product_box_ctr N), (84, decorrelate_value_behind_ctr N)], G_globs, G_ifs⟩
def decorrelate_Minus_S0 : Spec := ⟨[.ref 0 (.arr 5 T119), .row 1, .ref 2 (.arr 5 T119), .val .i64], [(.box 122 (.arr 5 T119), .pos 0), (.row 46 T45, .pos 1), (.box 122 (.arr 5 T119), .pos 2)]⟩
def decorrelate_Minus_S1 : Spec := ⟨[.row 0], [(.row 46 T45, .pos 0)]⟩
def decorrelate_Minus_S2 : Spec := ⟨[.val T45, .val T45], []⟩
def decorrelate_Minus_K (_N : Nat) : XE → GS → Option decorrelate_Minus_R := retK 0 [4] [false] decorrelate_Minus_S1
def decorrelate_Minus_L : List Code := (bodyOf (some Try.f30))
def decorrelate_Minus_L2 : List Code := (loopOf (decorrelate_Minus_L[6]?))
def decorrelate_Minus_K2 (N : Nat) : XE → GS → Option (Lo ((Int × Unit) × ((List D119) × (List D45) × (List D119) × Unit)) ((Unit) × ((List D45) × Unit)) decorrelate_Minus_R) := roundK (some 0) (fit 0 [5, 6, 7, 25] decorrelate_Minus_S0) (fit 0 [6] decorrelate_Minus_S1) (decorrelate_Minus_K N)
theorem decorrelate_Minus_s2_b {E : Env} (N : Nat) (hb : Base Try.prog (decorrelate_Minus_C N) E 0) : Blk Try.prog (decorrelate_Minus_C N) E [5, 6, 7, 25] decorrelate_Minus_S0 (decorrelate_Minus_L2.drop 0) (fun y => decorrelate_Minus_s2 N y.1.1 y.2.1 y.2.2.1 y.2.2.2.1) (decorrelate_Minus_K2 N) :=
 Blk.chunkAt hb 4 (X := (decorrelate_Minus_K2 N .normal)) (NxOk.end (by kernel_rfl)) rfl (fun x => by kernel_rfl)
theorem decorrelate_Minus_3_b {E : Env} (N : Nat) (hb : Base Try.prog (decorrelate_Minus_C N) E 0) : Blk Try.prog (decorrelate_Minus_C N) E [6] decorrelate_Minus_S1 (decorrelate_Minus_L.drop 7) (fun y => decorrelate_Minus_3 N y.2.1) (decorrelate_Minus_K N) :=
 Blk.chunkAt hb 2 (X := (decorrelate_Minus_K N .normal)) (NxOk.end (by kernel_rfl)) rfl (fun x => by kernel_rfl)
theorem decorrelate_Minus_1_b {E : Env} (N : Nat) (hb : Base Try.prog (decorrelate_Minus_C N) E 0) : Blk Try.prog (decorrelate_Minus_C N) E [5, 6, 7, 25] decorrelate_Minus_S0 (decorrelate_Minus_L.drop 6) (fun y => decorrelate_Minus_1 N y.1.1 y.2.1 y.2.2.1 y.2.2.2.1) (decorrelate_Minus_K N) :=
 Blk.loopAt (Nf := N) (hns := [5, 6, 7, 25]) (ans := [6]) (hc := decorrelate_Minus_S0) (ac := decorrelate_Minus_S1) (bid := 0) (step := (fun y => decorrelate_Minus_s2 N y.1.1 y.2.1 y.2.2.1 y.2.2.2.1)) (J := (fun e => (goK 0 [6] decorrelate_Minus_S1 (fun y => decorrelate_Minus_3 N y.2.1)) (decorrelate_Minus_S1.st [6] e))) hb (by kernel_rfl) (Blk.into (X := (goK 0 [6] decorrelate_Minus_S1 (fun y => decorrelate_Minus_3 N y.2.1))) (NxOk.go hb (decorrelate_Minus_3_b N hb)) (fun x => by kernel_rfl)) (decorrelate_Minus_s2_b N hb) (fun x => by kernel_rfl)
theorem decorrelate_Minus_b {E : Env} (N : Nat) (hb : Base Try.prog (decorrelate_Minus_C N) E 0) : Blk Try.prog (decorrelate_Minus_C N) E (List.range decorrelate_Minus_S2.ks.length) decorrelate_Minus_S2 (decorrelate_Minus_L.drop 0) (fun y => decorrelate_Minus N y.1.1 y.1.2.1) (decorrelate_Minus_K N) :=
 Blk.chunkAt hb 6 (X := (goK 0 [5, 6, 7, 25] decorrelate_Minus_S0 (fun y => decorrelate_Minus_1 N y.1.1 y.2.1 y.2.2.1 y.2.2.2.1))) (NxOk.go hb (decorrelate_Minus_1_b N hb)) rfl (fun x => by kernel_rfl)
def decorrelate_Minus_ctr (N : Nat) : Ctr := ⟨decorrelate_Minus_S2, decorrelate_Minus_S1.un [false], 0, (fun y => decorrelate_Minus N y.1.1 y.1.2.1)⟩
theorem decorrelate_Minus_ctrs (N : Nat) : CtrsOk Try.prog (decorrelate_Minus_C N) := ctrs_of (Γ := decorrelate_Minus_C N) G_ifs_ok (by
 intro p hp
 simp only [decorrelate_Minus_C, List.mem_cons, List.not_mem_nil, or_false] at hp
 rcases hp with rfl | rfl | rfl | rfl | rfl | rfl
 · exact decorrelate_ofBox_ok N
 · exact decorrelate_product_meet_ok N
 · exact decorrelate_value_compare_ok N
 · exact decorrelate_value_ahead_ok N
 · exact decorrelate_product_box_ok N
 · exact decorrelate_value_behind_ok N)
theorem decorrelate_Minus_ok (N : Nat) : Ctr.ok Try.prog G_globs 30 (decorrelate_Minus_ctr N) :=
 ctr_fn (Γ := decorrelate_Minus_C N) (rfit := decorrelate_Minus_S1) (bs := [false]) (res := [4]) (by kernel_rfl) (tys_ok G_tys_ok) (decorrelate_Minus_ctrs N) Try.func30 (by kernel_rfl) (by kernel_rfl) Try.ntmps30 (by kernel_rfl) (by kernel_rfl) (by kernel_rfl) (by kernel_rfl) (fun E hb => decorrelate_Minus_b N hb)
/-! ipsecgate/ipsecgatelaw20.awake -/
abbrev law20_awake_R : Type := ((Bool × Unit) × (Unit))
def law20_awake (N : Nat) : Option law20_awake_R :=
 let x2 := ([(-1 : Int), (65535 : Int)] : List Int)
 Option.bind (decorrelate_Minus N (((4 : Int), (0 : UInt64), (0 : UInt64), ()), ((4 : Int), (0 : UInt64), (0 : UInt64), ()), ((4 : Int), (0 : UInt64), (0 : UInt64), ()), ((4 : Int), (0 : UInt64), (0 : UInt64), ()), (0 : Int), (255 : Int), ([(0 : Int), (100 : Int)] : List Int), x2, ()) (((4 : Int), (0 : UInt64), (0 : UInt64), ()), ((4 : Int), (0 : UInt64), (0 : UInt64), ()), ((4 : Int), (0 : UInt64), (0 : UInt64), ()), ((4 : Int), (0 : UInt64), (0 : UInt64), ()), (0 : Int), (255 : Int), ([(10 : Int), (20 : Int)] : List Int), x2, ())) fun y4 =>
 bif (decide ((y4.2.1.length : Int) = (2 : Int))) then
 bif inR (0 : Int) y4.2.1.length then
 bif (dq (.arr 2 .i64) ((y4.2.1.getD 0 (((0 : Int), (0 : UInt64), (0 : UInt64), ()), ((0 : Int), (0 : UInt64), (0 : UInt64), ()), ((0 : Int), (0 : UInt64), (0 : UInt64), ()), ((0 : Int), (0 : UInt64), (0 : UInt64), ()), (0 : Int), (0 : Int), (List.replicate 2 (0 : Int)), (List.replicate 2 (0 : Int)), ())).2.2.2.2.2.2.1) ([(0 : Int), (9 : Int)] : List Int)) then
 bif inR (1 : Int) y4.2.1.length then
 some (((dq (.arr 2 .i64) ((y4.2.1.getD 1 (((0 : Int), (0 : UInt64), (0 : UInt64), ()), ((0 : Int), (0 : UInt64), (0 : UInt64), ()), ((0 : Int), (0 : UInt64), (0 : UInt64), ()), ((0 : Int), (0 : UInt64), (0 : UInt64), ()), (0 : Int), (0 : Int), (List.replicate 2 (0 : Int)), (List.replicate 2 (0 : Int)), ())).2.2.2.2.2.2.1) ([(21 : Int), (100 : Int)] : List Int)), ()), (()))
 else none
 else
 some ((false, ()), (()))
 else none
 else
 some ((false, ()), (()))
def law20_awake_C (N : Nat) : Ctx := ⟨36, G_tys, [(30, decorrelate_Minus_ctr N)], G_globs, G_ifs⟩
def law20_awake_S0 : Spec := ⟨[], []⟩
def law20_awake_S1 : Spec := ⟨[.val .bool], []⟩
def law20_awake_K (_N : Nat) : XE → GS → Option law20_awake_R := retK 0 [0] [false] law20_awake_S1
def law20_awake_L : List Code := (bodyOf (some Try.f27))
theorem law20_awake_b {E : Env} (N : Nat) (hb : Base Try.prog (law20_awake_C N) E 0) : Blk Try.prog (law20_awake_C N) E (List.range law20_awake_S0.ks.length) law20_awake_S0 (law20_awake_L.drop 0) (fun y => law20_awake N) (law20_awake_K N) :=
 Blk.chunkAt hb 7 (X := (law20_awake_K N .normal)) (NxOk.end (by kernel_rfl)) rfl (fun x => by kernel_rfl)
def law20_awake_ctr (N : Nat) : Ctr := ⟨law20_awake_S0, law20_awake_S1.un [false], 0, (fun y => law20_awake N)⟩
theorem law20_awake_ctrs (N : Nat) : CtrsOk Try.prog (law20_awake_C N) := ctrs_of (Γ := law20_awake_C N) G_ifs_ok (by
 intro p hp
 simp only [law20_awake_C, List.mem_cons, List.not_mem_nil, or_false] at hp
 rcases hp with rfl
 · exact decorrelate_Minus_ok N)
theorem law20_awake_ok (N : Nat) : Ctr.ok Try.prog G_globs 27 (law20_awake_ctr N) :=
 ctr_fn (Γ := law20_awake_C N) (rfit := law20_awake_S1) (bs := [false]) (res := [0]) (by kernel_rfl) (tys_ok G_tys_ok) (law20_awake_ctrs N) Try.func27 (by kernel_rfl) (by kernel_rfl) Try.ntmps27 (by kernel_rfl) (by kernel_rfl) (by kernel_rfl) (by kernel_rfl) (fun E hb => law20_awake_b N hb)
/-! ipsecgate/ipsecgatemake.New -/
abbrev make_New_R : Type := ((Unit) × (((List UInt8) × (Int × Unit)) × Unit))
def make_New_1 (N : Nat) (list_0 : (List UInt8)) : Option make_New_R :=
 some ((()), ((list_0, (0 : Int), ()), ()))
def make_New (N : Nat) (list_0 : (List UInt8)) (most_1 : Int) : Option make_New_R :=
 bif (decide (most_1 < (list_0.length : Int))) then
 bif decide (0 ≤ (0 : Int)) && decide ((0 : Int) ≤ most_1) && decide (most_1 ≤ (list_0.length : Int)) && true then
 make_New_1 N (cut list_0 0 most_1.toNat)
 else none
 else
 make_New_1 N list_0
def make_New_C (N : Nat) : Ctx := ⟨15, G_tys, [], G_globs, G_ifs⟩
def make_New_S0 : Spec := ⟨[.val (.sl .u8)], []⟩
def make_New_S1 : Spec := ⟨[.val (.sl .u8), .val .i64], []⟩
def make_New_S2 : Spec := ⟨[.ref 0 (.pair (.sl .u8) (.pair .i64 .unit))], [(.box 113 (.pair (.sl .u8) (.pair .i64 .unit)), .pos 0)]⟩
def make_New_K (_N : Nat) : XE → GS → Option make_New_R := retK 0 [4] [false] make_New_S2
def make_New_L : List Code := (bodyOf (some Try.f28))
theorem make_New_1_b {E : Env} (N : Nat) (hb : Base Try.prog (make_New_C N) E 0) : Blk Try.prog (make_New_C N) E [0] make_New_S0 (make_New_L.drop 3) (fun y => make_New_1 N y.1.1) (make_New_K N) :=
 Blk.chunkAt hb 2 (X := (make_New_K N .normal)) (NxOk.end (by kernel_rfl)) rfl (fun x => by kernel_rfl)
theorem make_New_b {E : Env} (N : Nat) (hb : Base Try.prog (make_New_C N) E 0) : Blk Try.prog (make_New_C N) E (List.range make_New_S1.ks.length) make_New_S1 (make_New_L.drop 0) (fun y => make_New N y.1.1 y.1.2.1) (make_New_K N) :=
 Blk.chunkAt hb 3 (X := (goK 0 [0] make_New_S0 (fun y => make_New_1 N y.1.1))) (NxOk.go hb (make_New_1_b N hb)) rfl (fun x => by kernel_rfl)
def make_New_ctr (N : Nat) : Ctr := ⟨make_New_S1, make_New_S2.un [false], 0, (fun y => make_New N y.1.1 y.1.2.1)⟩
theorem make_New_ctrs (N : Nat) : CtrsOk Try.prog (make_New_C N) := ctrs_nil G_ifs_ok rfl
theorem make_New_ok (N : Nat) : Ctr.ok Try.prog G_globs 28 (make_New_ctr N) :=
 ctr_fn (Γ := make_New_C N) (rfit := make_New_S2) (bs := [false]) (res := [4]) (by kernel_rfl) (tys_ok G_tys_ok) (make_New_ctrs N) Try.func28 (by kernel_rfl) (by kernel_rfl) Try.ntmps28 (by kernel_rfl) (by kernel_rfl) (by kernel_rfl) (by kernel_rfl) (fun E hb => make_New_b N hb)
/-! (*ipsecgate/ipsecgatemake.Codes).Left -/
abbrev make_Codes_Left_R : Type := ((Bool × Unit) × (Unit))
def make_Codes_Left (N : Nat) (c_0 : ((List UInt8) × (Int × Unit))) : Option make_Codes_Left_R :=
 some (((decide (c_0.2.1 < (c_0.1.length : Int))), ()), (()))
def make_Codes_Left_C (N : Nat) : Ctx := ⟨13, G_tys, [], G_globs, G_ifs⟩
def make_Codes_Left_S0 : Spec := ⟨[.fp (.pair (.sl .u8) (.pair .i64 .unit))], []⟩
def make_Codes_Left_S1 : Spec := ⟨[.val .bool], []⟩
def make_Codes_Left_K (_N : Nat) : XE → GS → Option make_Codes_Left_R := retK 0 [2] [false] make_Codes_Left_S1
def make_Codes_Left_L : List Code := (bodyOf (some Try.f86))
theorem make_Codes_Left_b {E : Env} (N : Nat) (hb : Base Try.prog (make_Codes_Left_C N) E 0) : Blk Try.prog (make_Codes_Left_C N) E (List.range make_Codes_Left_S0.ks.length) make_Codes_Left_S0 (make_Codes_Left_L.drop 0) (fun y => make_Codes_Left N y.1.1) (make_Codes_Left_K N) :=
 Blk.chunkAt hb 3 (X := (make_Codes_Left_K N .normal)) (NxOk.end (by kernel_rfl)) rfl (fun x => by kernel_rfl)
def make_Codes_Left_ctr (N : Nat) : Ctr := ⟨make_Codes_Left_S0, make_Codes_Left_S1.un [false], 0, (fun y => make_Codes_Left N y.1.1)⟩
theorem make_Codes_Left_ctrs (N : Nat) : CtrsOk Try.prog (make_Codes_Left_C N) := ctrs_nil G_ifs_ok rfl
theorem make_Codes_Left_ok (N : Nat) : Ctr.ok Try.prog G_globs 86 (make_Codes_Left_ctr N) :=
 ctr_fn (Γ := make_Codes_Left_C N) (rfit := make_Codes_Left_S1) (bs := [false]) (res := [2]) (by kernel_rfl) (tys_ok G_tys_ok) (make_Codes_Left_ctrs N) Try.func86 (by kernel_rfl) (by kernel_rfl) Try.ntmps86 (by kernel_rfl) (by kernel_rfl) (by kernel_rfl) (by kernel_rfl) (fun E hb => make_Codes_Left_b N hb)
/-! (*ipsecgate/ipsecgatemake.Codes).Next -/
abbrev make_Codes_Next_R : Type := ((Int × Unit) × (((List UInt8) × (Int × Unit)) × Unit))
def make_Codes_Next (N : Nat) (n_1 : Int) (c_0 : ((List UInt8) × (Int × Unit))) : Option make_Codes_Next_R :=
 Option.bind (make_Codes_Left N c_0) fun y1 =>
 bif (!y1.1.1) then
 some (((0 : Int), ()), (c_0, ()))
 else
 let x3 := w64 (c_0.2.1 + (1 : Int))
 let x4 := w64 (x3 - (1 : Int))
 bif inR x4 c_0.1.length then
 bif !(decide (n_1 = 0)) then
 some (((((c_0.1.getD x4.toNat (0 : UInt8)).toNat : Int).tmod n_1), ()), ((c_0.1, x3, ()), ()))
 else none
 else none
def make_Codes_Next_C (N : Nat) : Ctx := ⟨29, G_tys, [(86, make_Codes_Left_ctr N)], G_globs, G_ifs⟩
def make_Codes_Next_S0 : Spec := ⟨[.ref 0 (.pair (.sl .u8) (.pair .i64 .unit)), .val .i64], [(.box 113 (.pair (.sl .u8) (.pair .i64 .unit)), .pos 0)]⟩
def make_Codes_Next_S1 : Spec := ⟨[.val .i64], [(.box 113 (.pair (.sl .u8) (.pair .i64 .unit)), .fix 0)]⟩
def make_Codes_Next_K (_N : Nat) : XE → GS → Option make_Codes_Next_R := retK 1 [4] [false] make_Codes_Next_S1
def make_Codes_Next_L : List Code := (bodyOf (some Try.f36))
theorem make_Codes_Next_b {E : Env} (N : Nat) (hb : Base Try.prog (make_Codes_Next_C N) E 1) : Blk Try.prog (make_Codes_Next_C N) E (List.range make_Codes_Next_S0.ks.length) make_Codes_Next_S0 (make_Codes_Next_L.drop 0) (fun y => make_Codes_Next N y.1.1 y.2.1) (make_Codes_Next_K N) :=
 Blk.chunkAt hb 6 (X := (make_Codes_Next_K N .normal)) (NxOk.end (by kernel_rfl)) rfl (fun x => by kernel_rfl)
def make_Codes_Next_ctr (N : Nat) : Ctr := ⟨make_Codes_Next_S0, make_Codes_Next_S1.un [false], 1, (fun y => make_Codes_Next N y.1.1 y.2.1)⟩
theorem make_Codes_Next_ctrs (N : Nat) : CtrsOk Try.prog (make_Codes_Next_C N) := ctrs_of (Γ := make_Codes_Next_C N) G_ifs_ok (by
 intro p hp
 simp only [make_Codes_Next_C, List.mem_cons, List.not_mem_nil, or_false] at hp
 rcases hp with rfl
 · exact make_Codes_Left_ok N)
theorem make_Codes_Next_ok (N : Nat) : Ctr.ok Try.prog G_globs 36 (make_Codes_Next_ctr N) :=
 ctr_fn (Γ := make_Codes_Next_C N) (rfit := make_Codes_Next_S1) (bs := [false]) (res := [4]) (by kernel_rfl) (tys_ok G_tys_ok) (make_Codes_Next_ctrs N) Try.func36 (by kernel_rfl) (by kernel_rfl) Try.ntmps36 (by kernel_rfl) (by kernel_rfl) (by kernel_rfl) (by kernel_rfl) (fun E hb => make_Codes_Next_b N hb)
/-! ipsecgate/ipsecgateref05.Valid -/
abbrev ref05_Valid_R : Type := ((Bool × Unit) × (Unit))
def ref05_Valid (N : Nat) (a_0 : D27) : Option ref05_Valid_R :=
 bif (decide (a_0.1 = (4 : Int))) then
 bif (decide (a_0.2.1 = (0 : UInt64))) then
 bif (decide (a_0.2.2.1 < (4294967296 : UInt64))) then
 some ((true, ()), (()))
 else
 some (((decide (a_0.1 = (6 : Int))), ()), (()))
 else
 some (((decide (a_0.1 = (6 : Int))), ()), (()))
 else
 some (((decide (a_0.1 = (6 : Int))), ()), (()))
def ref05_Valid_C (N : Nat) : Ctx := ⟨21, G_tys, [], G_globs, G_ifs⟩
def ref05_Valid_S0 : Spec := ⟨[.val T27], []⟩
def ref05_Valid_S1 : Spec := ⟨[.val .bool], []⟩
def ref05_Valid_K (_N : Nat) : XE → GS → Option ref05_Valid_R := retK 0 [2] [false] ref05_Valid_S1
def ref05_Valid_L : List Code := (bodyOf (some Try.f99))
theorem ref05_Valid_b {E : Env} (N : Nat) (hb : Base Try.prog (ref05_Valid_C N) E 0) : Blk Try.prog (ref05_Valid_C N) E (List.range ref05_Valid_S0.ks.length) ref05_Valid_S0 (ref05_Valid_L.drop 0) (fun y => ref05_Valid N y.1.1) (ref05_Valid_K N) :=
 Blk.chunkAt hb 3 (X := (ref05_Valid_K N .normal)) (NxOk.end (by kernel_rfl)) rfl (fun x => by kernel_rfl)
def ref05_Valid_ctr (N : Nat) : Ctr := ⟨ref05_Valid_S0, ref05_Valid_S1.un [false], 0, (fun y => ref05_Valid N y.1.1)⟩
theorem ref05_Valid_ctrs (N : Nat) : CtrsOk Try.prog (ref05_Valid_C N) := ctrs_nil G_ifs_ok rfl
theorem ref05_Valid_ok (N : Nat) : Ctr.ok Try.prog G_globs 99 (ref05_Valid_ctr N) :=
 ctr_fn (Γ := ref05_Valid_C N) (rfit := ref05_Valid_S1) (bs := [false]) (res := [2]) (by kernel_rfl) (tys_ok G_tys_ok) (ref05_Valid_ctrs N) Try.func99 (by kernel_rfl) (by kernel_rfl) Try.ntmps99 (by kernel_rfl) (by kernel_rfl) (by kernel_rfl) (by kernel_rfl) (fun E hb => ref05_Valid_b N hb)
/-! ipsecgate/ipsecgateref18.bits -/
abbrev ref18_bits_R : Type := ((Int × Unit) × (Unit))
def ref18_bits (N : Nat) (family_0 : Int) : Option ref18_bits_R :=
 bif (decide (family_0 = (4 : Int))) then
 some (((32 : Int), ()), (()))
 else
 some (((128 : Int), ()), (()))
def ref18_bits_C (N : Nat) : Ctx := ⟨5, G_tys, [], G_globs, G_ifs⟩
def ref18_bits_S0 : Spec := ⟨[.val .i64], []⟩
def ref18_bits_K (_N : Nat) : XE → GS → Option ref18_bits_R := retK 0 [2] [false] ref18_bits_S0
def ref18_bits_L : List Code := (bodyOf (some Try.f166))
theorem ref18_bits_b {E : Env} (N : Nat) (hb : Base Try.prog (ref18_bits_C N) E 0) : Blk Try.prog (ref18_bits_C N) E (List.range ref18_bits_S0.ks.length) ref18_bits_S0 (ref18_bits_L.drop 0) (fun y => ref18_bits N y.1.1) (ref18_bits_K N) :=
 Blk.chunkAt hb 5 (X := (ref18_bits_K N .normal)) (NxOk.end (by kernel_rfl)) rfl (fun x => by kernel_rfl)
def ref18_bits_ctr (N : Nat) : Ctr := ⟨ref18_bits_S0, ref18_bits_S0.un [false], 0, (fun y => ref18_bits N y.1.1)⟩
theorem ref18_bits_ctrs (N : Nat) : CtrsOk Try.prog (ref18_bits_C N) := ctrs_nil G_ifs_ok rfl
theorem ref18_bits_ok (N : Nat) : Ctr.ok Try.prog G_globs 166 (ref18_bits_ctr N) :=
 ctr_fn (Γ := ref18_bits_C N) (rfit := ref18_bits_S0) (bs := [false]) (res := [2]) (by kernel_rfl) (tys_ok G_tys_ok) (ref18_bits_ctrs N) Try.func166 (by kernel_rfl) (by kernel_rfl) Try.ntmps166 (by kernel_rfl) (by kernel_rfl) (by kernel_rfl) (by kernel_rfl) (fun E hb => ref18_bits_b N hb)
/-! ipsecgate/ipsecgateref18.Prefix -/
abbrev ref18_Prefix_R : Type := ((D27 × D27 × Int × Unit) × (Unit))
def ref18_Prefix_s3 (N : Nat) (i_9 : Int) (a_2 : D27) (t_4 : D27) (t_5 : D27) (lo_7 : D27) (hi_8 : D27) : Option (Lo ((Int × Unit) × (D27 × D27 × D27 × D27 × D27 × Unit)) ((Unit) × (D27 × D27 × D27 × D27 × Unit)) ref18_Prefix_R) :=
 Option.bind (ref18_bits N a_2.1) fun y4 =>
 bif (decide (i_9 < y4.1.1)) then
 Option.bind (ref18_bits N a_2.1) fun y6 =>
 let x7 := w64 (y6.1.1 - (1 : Int))
 bif (decide ((64 : Int) ≤ (w64 (x7 - i_9)))) then
 some (.go (((w64 (i_9 + (1 : Int))), ()), (a_2, t_4, t_5, (lo_7.1, (lo_7.2.1 &&& ~~~ (shl64 (1 : UInt64) (iu64 (w64 ((w64 (x7 - i_9)) - (64 : Int)))).toNat)), lo_7.2.2.1, ()), (hi_8.1, (hi_8.2.1 ||| (shl64 (1 : UInt64) (iu64 (w64 ((w64 (x7 - i_9)) - (64 : Int)))).toNat)), hi_8.2.2.1, ()), ())))
 else
 some (.go (((w64 (i_9 + (1 : Int))), ()), (a_2, t_4, t_5, (lo_7.1, lo_7.2.1, (lo_7.2.2.1 &&& ~~~ (shl64 (1 : UInt64) (iu64 (w64 (x7 - i_9))).toNat)), ()), (hi_8.1, hi_8.2.1, (hi_8.2.2.1 ||| (shl64 (1 : UInt64) (iu64 (w64 (x7 - i_9))).toNat)), ()), ())))
 else
 some (.br ((()), (t_4, t_5, lo_7, hi_8, ())))
def ref18_Prefix_4 (N : Nat) (t_4 : D27) (t_5 : D27) (lo_7 : D27) (hi_8 : D27) : Option ref18_Prefix_R :=
 some ((lo_7, hi_8, (0 : Int), ()), (()))
def ref18_Prefix_2 (N : Nat) (i_9 : Int) (a_2 : D27) (t_4 : D27) (t_5 : D27) (lo_7 : D27) (hi_8 : D27) : Option ref18_Prefix_R :=
 loopK N (fun y => ref18_Prefix_s3 N y.1.1 y.2.1 y.2.2.1 y.2.2.2.1 y.2.2.2.2.1 y.2.2.2.2.2.1) (fun (e : ((Unit) × (D27 × D27 × D27 × D27 × Unit))) => ref18_Prefix_4 N e.2.1 e.2.2.1 e.2.2.2.1 e.2.2.2.2.1) ((i_9, ()), (a_2, t_4, t_5, lo_7, hi_8, ()))
def ref18_Prefix_1 (N : Nat) (n_1 : Int) (t_24 : Bool) (a_2 : D27) (t_4 : D27) (t_5 : D27) : Option ref18_Prefix_R :=
 bif t_24 then
 some ((((0 : Int), (0 : UInt64), (0 : UInt64), ()), ((0 : Int), (0 : UInt64), (0 : UInt64), ()), (5 : Int), ()), (()))
 else
 ref18_Prefix_2 N n_1 a_2 t_4 t_5 a_2 a_2
def ref18_Prefix (N : Nat) (a_0 : D27) (n_1 : Int) : Option ref18_Prefix_R :=
 Option.bind (ref05_Valid N a_0) fun y1 =>
 bif (!y1.1.1) then
 some ((((0 : Int), (0 : UInt64), (0 : UInt64), ()), ((0 : Int), (0 : UInt64), (0 : UInt64), ()), (15 : Int), ()), (()))
 else
 bif (decide (n_1 < (0 : Int))) then
 ref18_Prefix_1 N n_1 true a_0 ((0 : Int), (0 : UInt64), (0 : UInt64), ()) ((0 : Int), (0 : UInt64), (0 : UInt64), ())
 else
 Option.bind (ref18_bits N a_0.1) fun y26 =>
 ref18_Prefix_1 N n_1 (decide (y26.1.1 < n_1)) a_0 ((0 : Int), (0 : UInt64), (0 : UInt64), ()) ((0 : Int), (0 : UInt64), (0 : UInt64), ())
def ref18_Prefix_C (N : Nat) : Ctx := ⟨77, G_tys, [(99, ref05_Valid_ctr N), (166, ref18_bits_ctr N)], G_globs, G_ifs⟩
def ref18_Prefix_S0 : Spec := ⟨[.ref 0 T27, .ref 1 T27, .ref 2 T27, .ref 3 T27, .ref 4 T27, .val .i64], [(.box 28 T27, .pos 0), (.box 28 T27, .pos 1), (.box 28 T27, .pos 2), (.box 28 T27, .pos 3), (.box 28 T27, .pos 4)]⟩
def ref18_Prefix_S1 : Spec := ⟨[.ref 0 T27, .ref 1 T27, .ref 2 T27, .ref 3 T27], [(.box 28 T27, .pos 0), (.box 28 T27, .pos 1), (.box 28 T27, .pos 2), (.box 28 T27, .pos 3)]⟩
def ref18_Prefix_S2 : Spec := ⟨[.val .i64, .ref 0 T27, .ref 1 T27, .ref 2 T27, .val .bool], [(.box 28 T27, .pos 1), (.box 28 T27, .pos 2), (.box 28 T27, .pos 3)]⟩
def ref18_Prefix_S3 : Spec := ⟨[.val T27, .val .i64], []⟩
def ref18_Prefix_S4 : Spec := ⟨[.fp T27, .fp T27, .val .i64], []⟩
def ref18_Prefix_K (_N : Nat) : XE → GS → Option ref18_Prefix_R := retK 0 [4, 5, 6] [true, true, false] ref18_Prefix_S4
def ref18_Prefix_L : List Code := (bodyOf (some Try.f143))
def ref18_Prefix_L3 : List Code := (loopOf (ref18_Prefix_L[7]?))
def ref18_Prefix_K3 (N : Nat) : XE → GS → Option (Lo ((Int × Unit) × (D27 × D27 × D27 × D27 × D27 × Unit)) ((Unit) × (D27 × D27 × D27 × D27 × Unit)) ref18_Prefix_R) := roundK (some 0) (fit 0 [2, 4, 5, 7, 8, 9] ref18_Prefix_S0) (fit 0 [4, 5, 7, 8] ref18_Prefix_S1) (ref18_Prefix_K N)
theorem ref18_Prefix_s3_b {E : Env} (N : Nat) (hb : Base Try.prog (ref18_Prefix_C N) E 0) : Blk Try.prog (ref18_Prefix_C N) E [2, 4, 5, 7, 8, 9] ref18_Prefix_S0 (ref18_Prefix_L3.drop 0) (fun y => ref18_Prefix_s3 N y.1.1 y.2.1 y.2.2.1 y.2.2.2.1 y.2.2.2.2.1 y.2.2.2.2.2.1) (ref18_Prefix_K3 N) :=
 Blk.chunkAt hb 4 (X := (ref18_Prefix_K3 N .normal)) (NxOk.end (by kernel_rfl)) rfl (fun x => by kernel_rfl)
theorem ref18_Prefix_4_b {E : Env} (N : Nat) (hb : Base Try.prog (ref18_Prefix_C N) E 0) : Blk Try.prog (ref18_Prefix_C N) E [4, 5, 7, 8] ref18_Prefix_S1 (ref18_Prefix_L.drop 8) (fun y => ref18_Prefix_4 N y.2.1 y.2.2.1 y.2.2.2.1 y.2.2.2.2.1) (ref18_Prefix_K N) :=
 Blk.chunkAt hb 2 (X := (ref18_Prefix_K N .normal)) (NxOk.end (by kernel_rfl)) rfl (fun x => by kernel_rfl)
theorem ref18_Prefix_2_b {E : Env} (N : Nat) (hb : Base Try.prog (ref18_Prefix_C N) E 0) : Blk Try.prog (ref18_Prefix_C N) E [2, 4, 5, 7, 8, 9] ref18_Prefix_S0 (ref18_Prefix_L.drop 7) (fun y => ref18_Prefix_2 N y.1.1 y.2.1 y.2.2.1 y.2.2.2.1 y.2.2.2.2.1 y.2.2.2.2.2.1) (ref18_Prefix_K N) :=
 Blk.loopAt (Nf := N) (hns := [2, 4, 5, 7, 8, 9]) (ans := [4, 5, 7, 8]) (hc := ref18_Prefix_S0) (ac := ref18_Prefix_S1) (bid := 0) (step := (fun y => ref18_Prefix_s3 N y.1.1 y.2.1 y.2.2.1 y.2.2.2.1 y.2.2.2.2.1 y.2.2.2.2.2.1)) (J := (fun e => (goK 0 [4, 5, 7, 8] ref18_Prefix_S1 (fun y => ref18_Prefix_4 N y.2.1 y.2.2.1 y.2.2.2.1 y.2.2.2.2.1)) (ref18_Prefix_S1.st [4, 5, 7, 8] e))) hb (by kernel_rfl) (Blk.into (X := (goK 0 [4, 5, 7, 8] ref18_Prefix_S1 (fun y => ref18_Prefix_4 N y.2.1 y.2.2.1 y.2.2.2.1 y.2.2.2.2.1))) (NxOk.go hb (ref18_Prefix_4_b N hb)) (fun x => by kernel_rfl)) (ref18_Prefix_s3_b N hb) (fun x => by kernel_rfl)
theorem ref18_Prefix_1_b {E : Env} (N : Nat) (hb : Base Try.prog (ref18_Prefix_C N) E 0) : Blk Try.prog (ref18_Prefix_C N) E [1, 2, 4, 5, 24] ref18_Prefix_S2 (ref18_Prefix_L.drop 4) (fun y => ref18_Prefix_1 N y.1.1 y.1.2.1 y.2.1 y.2.2.1 y.2.2.2.1) (ref18_Prefix_K N) :=
 Blk.chunkAt hb 3 (X := (goK 0 [2, 4, 5, 7, 8, 9] ref18_Prefix_S0 (fun y => ref18_Prefix_2 N y.1.1 y.2.1 y.2.2.1 y.2.2.2.1 y.2.2.2.2.1 y.2.2.2.2.2.1))) (NxOk.go hb (ref18_Prefix_2_b N hb)) rfl (fun x => by kernel_rfl)
theorem ref18_Prefix_b {E : Env} (N : Nat) (hb : Base Try.prog (ref18_Prefix_C N) E 0) : Blk Try.prog (ref18_Prefix_C N) E (List.range ref18_Prefix_S3.ks.length) ref18_Prefix_S3 (ref18_Prefix_L.drop 0) (fun y => ref18_Prefix N y.1.1 y.1.2.1) (ref18_Prefix_K N) :=
 Blk.chunkAt hb 4 (X := (goK 0 [1, 2, 4, 5, 24] ref18_Prefix_S2 (fun y => ref18_Prefix_1 N y.1.1 y.1.2.1 y.2.1 y.2.2.1 y.2.2.2.1))) (NxOk.go hb (ref18_Prefix_1_b N hb)) rfl (fun x => by kernel_rfl)
def ref18_Prefix_ctr (N : Nat) : Ctr := ⟨ref18_Prefix_S3, ref18_Prefix_S4.un [true, true, false], 0, (fun y => ref18_Prefix N y.1.1 y.1.2.1)⟩
theorem ref18_Prefix_ctrs (N : Nat) : CtrsOk Try.prog (ref18_Prefix_C N) := ctrs_of (Γ := ref18_Prefix_C N) G_ifs_ok (by
 intro p hp
 simp only [ref18_Prefix_C, List.mem_cons, List.not_mem_nil, or_false] at hp
 rcases hp with rfl | rfl
 · exact ref05_Valid_ok N
 · exact ref18_bits_ok N)
theorem ref18_Prefix_ok (N : Nat) : Ctr.ok Try.prog G_globs 143 (ref18_Prefix_ctr N) :=
 ctr_fn (Γ := ref18_Prefix_C N) (rfit := ref18_Prefix_S4) (bs := [true, true, false]) (res := [4, 5, 6]) (by kernel_rfl) (tys_ok G_tys_ok) (ref18_Prefix_ctrs N) Try.func143 (by kernel_rfl) (by kernel_rfl) Try.ntmps143 (by kernel_rfl) (by kernel_rfl) (by kernel_rfl) (by kernel_rfl) (fun E hb => ref18_Prefix_b N hb)
/-! ipsecgate/ipsecgateref18.All -/
abbrev ref18_All_R : Type := ((D27 × D27 × Unit) × (Unit))
def ref18_All (N : Nat) (family_0 : Int) : Option ref18_All_R :=
 Option.bind (ref18_Prefix N (family_0, (0 : UInt64), (0 : UInt64), ()) (0 : Int)) fun y1 =>
 some ((y1.1.1, y1.1.2.1, ()), (()))
def ref18_All_C (N : Nat) : Ctx := ⟨16, G_tys, [(143, ref18_Prefix_ctr N)], G_globs, G_ifs⟩
def ref18_All_S0 : Spec := ⟨[.val .i64], []⟩
def ref18_All_S1 : Spec := ⟨[.fp T27, .fp T27], []⟩
def ref18_All_K (_N : Nat) : XE → GS → Option ref18_All_R := retK 0 [2, 3] [true, true] ref18_All_S1
def ref18_All_L : List Code := (bodyOf (some Try.f142))
theorem ref18_All_b {E : Env} (N : Nat) (hb : Base Try.prog (ref18_All_C N) E 0) : Blk Try.prog (ref18_All_C N) E (List.range ref18_All_S0.ks.length) ref18_All_S0 (ref18_All_L.drop 0) (fun y => ref18_All N y.1.1) (ref18_All_K N) :=
 Blk.chunkAt hb 4 (X := (ref18_All_K N .normal)) (NxOk.end (by kernel_rfl)) rfl (fun x => by kernel_rfl)
def ref18_All_ctr (N : Nat) : Ctr := ⟨ref18_All_S0, ref18_All_S1.un [true, true], 0, (fun y => ref18_All N y.1.1)⟩
theorem ref18_All_ctrs (N : Nat) : CtrsOk Try.prog (ref18_All_C N) := ctrs_of (Γ := ref18_All_C N) G_ifs_ok (by
 intro p hp
 simp only [ref18_All_C, List.mem_cons, List.not_mem_nil, or_false] at hp
 rcases hp with rfl
 · exact ref18_Prefix_ok N)
theorem ref18_All_ok (N : Nat) : Ctr.ok Try.prog G_globs 142 (ref18_All_ctr N) :=
 ctr_fn (Γ := ref18_All_C N) (rfit := ref18_All_S1) (bs := [true, true]) (res := [2, 3]) (by kernel_rfl) (tys_ok G_tys_ok) (ref18_All_ctrs N) Try.func142 (by kernel_rfl) (by kernel_rfl) Try.ntmps142 (by kernel_rfl) (by kernel_rfl) (by kernel_rfl) (by kernel_rfl) (fun E hb => ref18_All_b N hb)
/-! (*ipsecgate/ipsecgatemake.Codes).Address -/
abbrev make_Codes_Address_R : Type := (D207 × (((List UInt8) × (Int × Unit)) × Unit))
def make_Codes_Address (N : Nat) (family_1 : Int) (c_0 : ((List UInt8) × (Int × Unit))) : Option make_Codes_Address_R :=
 bif (decide (family_1 = (4 : Int))) then
 Option.bind (make_Codes_Next N (4 : Int) c_0) fun y2 =>
 bif inR y2.1.1 (([(167772160 : UInt64), (3232235520 : UInt64), (0 : UInt64), (4294967288 : UInt64)] : List UInt64).length) then
 Option.bind (make_Codes_Next N (8 : Int) y2.2.1) fun y4 =>
 some (((family_1, (0 : UInt64), ((([(167772160 : UInt64), (3232235520 : UInt64), (0 : UInt64), (4294967288 : UInt64)] : List UInt64).getD y2.1.1.toNat (0 : UInt64)) + (iu64 y4.1.1)), ()), ()), (y4.2.1, ()))
 else none
 else
 Option.bind (make_Codes_Next N (3 : Int) c_0) fun y7 =>
 bif inR y7.1.1 (([(2306139568115548160 : UInt64), (0 : UInt64), (18446744073709551615 : UInt64)] : List UInt64).length) then
 Option.bind (make_Codes_Next N (3 : Int) y7.2.1) fun y9 =>
 bif inR y9.1.1 (([(0 : UInt64), (18446744073709551608 : UInt64), (9223372036854775808 : UInt64)] : List UInt64).length) then
 Option.bind (make_Codes_Next N (8 : Int) y9.2.1) fun y11 =>
 some (((family_1, (([(2306139568115548160 : UInt64), (0 : UInt64), (18446744073709551615 : UInt64)] : List UInt64).getD y7.1.1.toNat (0 : UInt64)), ((([(0 : UInt64), (18446744073709551608 : UInt64), (9223372036854775808 : UInt64)] : List UInt64).getD y9.1.1.toNat (0 : UInt64)) + (iu64 y11.1.1)), ()), ()), (y11.2.1, ()))
 else none
 else none
def make_Codes_Address_C (N : Nat) : Ctx := ⟨38, G_tys, [(36, make_Codes_Next_ctr N)], G_globs, G_ifs⟩
def make_Codes_Address_S0 : Spec := ⟨[.ref 0 (.pair (.sl .u8) (.pair .i64 .unit)), .val .i64], [(.box 113 (.pair (.sl .u8) (.pair .i64 .unit)), .pos 0)]⟩
def make_Codes_Address_S1 : Spec := ⟨[.fp T27], [(.box 113 (.pair (.sl .u8) (.pair .i64 .unit)), .fix 0)]⟩
def make_Codes_Address_K (_N : Nat) : XE → GS → Option make_Codes_Address_R := retK 1 [4] [true] make_Codes_Address_S1
def make_Codes_Address_L : List Code := (bodyOf (some Try.f55))
theorem make_Codes_Address_b {E : Env} (N : Nat) (hb : Base Try.prog (make_Codes_Address_C N) E 1) : Blk Try.prog (make_Codes_Address_C N) E (List.range make_Codes_Address_S0.ks.length) make_Codes_Address_S0 (make_Codes_Address_L.drop 0) (fun y => make_Codes_Address N y.1.1 y.2.1) (make_Codes_Address_K N) :=
 Blk.chunkAt hb 8 (X := (make_Codes_Address_K N .normal)) (NxOk.end (by kernel_rfl)) rfl (fun x => by kernel_rfl)
def make_Codes_Address_ctr (N : Nat) : Ctr := ⟨make_Codes_Address_S0, make_Codes_Address_S1.un [true], 1, (fun y => make_Codes_Address N y.1.1 y.2.1)⟩
theorem make_Codes_Address_ctrs (N : Nat) : CtrsOk Try.prog (make_Codes_Address_C N) := ctrs_of (Γ := make_Codes_Address_C N) G_ifs_ok (by
 intro p hp
 simp only [make_Codes_Address_C, List.mem_cons, List.not_mem_nil, or_false] at hp
 rcases hp with rfl
 · exact make_Codes_Next_ok N)
theorem make_Codes_Address_ok (N : Nat) : Ctr.ok Try.prog G_globs 55 (make_Codes_Address_ctr N) :=
 ctr_fn (Γ := make_Codes_Address_C N) (rfit := make_Codes_Address_S1) (bs := [true]) (res := [4]) (by kernel_rfl) (tys_ok G_tys_ok) (make_Codes_Address_ctrs N) Try.func55 (by kernel_rfl) (by kernel_rfl) Try.ntmps55 (by kernel_rfl) (by kernel_rfl) (by kernel_rfl) (by kernel_rfl) (fun E hb => make_Codes_Address_b N hb)
/-! (*ipsecgate/ipsecgatemake.Codes).Span -/
abbrev make_Codes_Span_R : Type := ((D27 × D27 × Unit) × (((List UInt8) × (Int × Unit)) × Unit))
def make_Codes_Span_1 (N : Nat) (t_58 : Bool) (p0 : ((List UInt8) × (Int × Unit))) (t_4 : D27) (t_5 : D27) (a_9 : D27) (b_10 : D27) : Option make_Codes_Span_R :=
 bif t_58 then
 some ((b_10, a_9, ()), (p0, ()))
 else
 some ((a_9, b_10, ()), (p0, ()))
def make_Codes_Span (N : Nat) (family_1 : Int) (c_0 : ((List UInt8) × (Int × Unit))) : Option make_Codes_Span_R :=
 Option.bind (make_Codes_Next N (5 : Int) c_0) fun y1 =>
 bif (decide (y1.1.1 = (0 : Int))) then
 Option.bind (ref18_All N family_1) fun y3 =>
 some ((y3.1.1, y3.1.2.1, ()), (y1.2.1, ()))
 else
 bif (decide (y1.1.1 = (1 : Int))) then
 Option.bind (make_Codes_Address N family_1 y1.2.1) fun y5 =>
 Option.bind (make_Codes_Next N (25 : Int) y5.2.1) fun y6 =>
 Option.bind (ref18_Prefix N y5.1.1 (w64 ((8 : Int) + y6.1.1))) fun y8 =>
 some ((y8.1.1, y8.1.2.1, ()), (y6.2.1, ()))
 else
 Option.bind (make_Codes_Address N family_1 y1.2.1) fun y9 =>
 Option.bind (make_Codes_Address N family_1 y9.2.1) fun y10 =>
 bif (decide (y10.1.1.2.1 < y9.1.1.2.1)) then
 make_Codes_Span_1 N true y10.2.1 ((0 : Int), (0 : UInt64), (0 : UInt64), ()) ((0 : Int), (0 : UInt64), (0 : UInt64), ()) y9.1.1 y10.1.1
 else
 bif (decide (y9.1.1.2.1 = y10.1.1.2.1)) then
 make_Codes_Span_1 N (decide (y10.1.1.2.2.1 < y9.1.1.2.2.1)) y10.2.1 ((0 : Int), (0 : UInt64), (0 : UInt64), ()) ((0 : Int), (0 : UInt64), (0 : UInt64), ()) y9.1.1 y10.1.1
 else
 make_Codes_Span_1 N false y10.2.1 ((0 : Int), (0 : UInt64), (0 : UInt64), ()) ((0 : Int), (0 : UInt64), (0 : UInt64), ()) y9.1.1 y10.1.1
def make_Codes_Span_C (N : Nat) : Ctx := ⟨63, G_tys, [(36, make_Codes_Next_ctr N), (142, ref18_All_ctr N), (55, make_Codes_Address_ctr N), (143, ref18_Prefix_ctr N)], G_globs, G_ifs⟩
def make_Codes_Span_S0 : Spec := ⟨[.ref 1 T27, .ref 2 T27, .ref 3 T27, .ref 4 T27, .val .bool], [(.box 113 (.pair (.sl .u8) (.pair .i64 .unit)), .fix 0), (.box 28 T27, .pos 0), (.box 28 T27, .pos 1), (.box 28 T27, .pos 2), (.box 28 T27, .pos 3)]⟩
def make_Codes_Span_S1 : Spec := ⟨[.ref 0 (.pair (.sl .u8) (.pair .i64 .unit)), .val .i64], [(.box 113 (.pair (.sl .u8) (.pair .i64 .unit)), .pos 0)]⟩
def make_Codes_Span_S2 : Spec := ⟨[.fp T27, .fp T27], [(.box 113 (.pair (.sl .u8) (.pair .i64 .unit)), .fix 0)]⟩
def make_Codes_Span_K (_N : Nat) : XE → GS → Option make_Codes_Span_R := retK 1 [4, 5] [true, true] make_Codes_Span_S2
def make_Codes_Span_L : List Code := (bodyOf (some Try.f77))
theorem make_Codes_Span_1_b {E : Env} (N : Nat) (hb : Base Try.prog (make_Codes_Span_C N) E 1) : Blk Try.prog (make_Codes_Span_C N) E [4, 5, 9, 10, 58] make_Codes_Span_S0 (make_Codes_Span_L.drop 5) (fun y => make_Codes_Span_1 N y.1.1 y.2.1 y.2.2.1 y.2.2.2.1 y.2.2.2.2.1 y.2.2.2.2.2.1) (make_Codes_Span_K N) :=
 Blk.chunkAt hb 3 (X := (make_Codes_Span_K N .normal)) (NxOk.end (by kernel_rfl)) rfl (fun x => by kernel_rfl)
theorem make_Codes_Span_b {E : Env} (N : Nat) (hb : Base Try.prog (make_Codes_Span_C N) E 1) : Blk Try.prog (make_Codes_Span_C N) E (List.range make_Codes_Span_S1.ks.length) make_Codes_Span_S1 (make_Codes_Span_L.drop 0) (fun y => make_Codes_Span N y.1.1 y.2.1) (make_Codes_Span_K N) :=
 Blk.chunkAt hb 5 (X := (goK 1 [4, 5, 9, 10, 58] make_Codes_Span_S0 (fun y => make_Codes_Span_1 N y.1.1 y.2.1 y.2.2.1 y.2.2.2.1 y.2.2.2.2.1 y.2.2.2.2.2.1))) (NxOk.go hb (make_Codes_Span_1_b N hb)) rfl (fun x => by kernel_rfl)
def make_Codes_Span_ctr (N : Nat) : Ctr := ⟨make_Codes_Span_S1, make_Codes_Span_S2.un [true, true], 1, (fun y => make_Codes_Span N y.1.1 y.2.1)⟩
theorem make_Codes_Span_ctrs (N : Nat) : CtrsOk Try.prog (make_Codes_Span_C N) := ctrs_of (Γ := make_Codes_Span_C N) G_ifs_ok (by
 intro p hp
 simp only [make_Codes_Span_C, List.mem_cons, List.not_mem_nil, or_false] at hp
 rcases hp with rfl | rfl | rfl | rfl
 · exact make_Codes_Next_ok N
 · exact ref18_All_ok N
 · exact make_Codes_Address_ok N
 · exact ref18_Prefix_ok N)
theorem make_Codes_Span_ok (N : Nat) : Ctr.ok Try.prog G_globs 77 (make_Codes_Span_ctr N) :=
 ctr_fn (Γ := make_Codes_Span_C N) (rfit := make_Codes_Span_S2) (bs := [true, true]) (res := [4, 5]) (by kernel_rfl) (tys_ok G_tys_ok) (make_Codes_Span_ctrs N) Try.func77 (by kernel_rfl) (by kernel_rfl) Try.ntmps77 (by kernel_rfl) (by kernel_rfl) (by kernel_rfl) (by kernel_rfl) (fun E hb => make_Codes_Span_b N hb)
/-! (*ipsecgate/ipsecgatemake.Codes).Ports -/
abbrev make_Codes_Ports_R : Type := (((List Int) × Unit) × (((List UInt8) × (Int × Unit)) × Unit))
def make_Codes_Ports_1 (N : Nat) (p0 : ((List UInt8) × (Int × Unit))) (t_2 : (List Int)) : Option make_Codes_Ports_R :=
 Option.bind (make_Codes_Next N (4 : Int) p0) fun y13 =>
 bif inR y13.1.1 (([(0 : Int), (80 : Int), (443 : Int), (65530 : Int)] : List Int).length) then
 let x14 := (([(0 : Int), (80 : Int), (443 : Int), (65530 : Int)] : List Int).getD y13.1.1.toNat (0 : Int))
 Option.bind (make_Codes_Next N (6 : Int) y13.2.1) fun y15 =>
 some ((([x14, (w64 (x14 + y15.1.1))] : List Int), ()), (y15.2.1, ()))
 else none
def make_Codes_Ports (N : Nat) (c_0 : ((List UInt8) × (Int × Unit))) : Option make_Codes_Ports_R :=
 Option.bind (make_Codes_Next N (7 : Int) c_0) fun y1 =>
 bif (decide (y1.1.1 = (0 : Int))) then
 some ((([(-1 : Int), (65535 : Int)] : List Int), ()), (y1.2.1, ()))
 else
 bif (decide (y1.1.1 = (1 : Int))) then
 some ((([(-1 : Int), (65535 : Int)] : List Int), ()), (y1.2.1, ()))
 else
 bif (decide (y1.1.1 = (2 : Int))) then
 some ((([(-1 : Int), (-1 : Int)] : List Int), ()), (y1.2.1, ()))
 else
 bif (decide (y1.1.1 = (3 : Int))) then
 some ((([(0 : Int), (65535 : Int)] : List Int), ()), (y1.2.1, ()))
 else
 bif (decide (y1.1.1 = (4 : Int))) then
 Option.bind (make_Codes_Next N (9 : Int) y1.2.1) fun y11 =>
 some ((([(-1 : Int), y11.1.1] : List Int), ()), (y11.2.1, ()))
 else
 make_Codes_Ports_1 N y1.2.1 (List.replicate 2 (0 : Int))
def make_Codes_Ports_C (N : Nat) : Ctx := ⟨32, G_tys, [(36, make_Codes_Next_ctr N)], G_globs, G_ifs⟩
def make_Codes_Ports_S0 : Spec := ⟨[.ref 0 (.pair (.sl .u8) (.pair .i64 .unit)), .ref 1 (.arr 2 .i64)], [(.box 113 (.pair (.sl .u8) (.pair .i64 .unit)), .fix 0), (.box 44 (.arr 2 .i64), .pos 1)]⟩
def make_Codes_Ports_S1 : Spec := ⟨[.ref 0 (.pair (.sl .u8) (.pair .i64 .unit))], [(.box 113 (.pair (.sl .u8) (.pair .i64 .unit)), .pos 0)]⟩
def make_Codes_Ports_S2 : Spec := ⟨[.fp (.arr 2 .i64)], [(.box 113 (.pair (.sl .u8) (.pair .i64 .unit)), .fix 0)]⟩
def make_Codes_Ports_K (_N : Nat) : XE → GS → Option make_Codes_Ports_R := retK 1 [2] [true] make_Codes_Ports_S2
def make_Codes_Ports_L : List Code := (bodyOf (some Try.f78))
theorem make_Codes_Ports_1_b {E : Env} (N : Nat) (hb : Base Try.prog (make_Codes_Ports_C N) E 1) : Blk Try.prog (make_Codes_Ports_C N) E [0, 2] make_Codes_Ports_S0 (make_Codes_Ports_L.drop 3) (fun y => make_Codes_Ports_1 N y.2.1 y.2.2.1) (make_Codes_Ports_K N) :=
 Blk.chunkAt hb 3 (X := (make_Codes_Ports_K N .normal)) (NxOk.end (by kernel_rfl)) rfl (fun x => by kernel_rfl)
theorem make_Codes_Ports_b {E : Env} (N : Nat) (hb : Base Try.prog (make_Codes_Ports_C N) E 1) : Blk Try.prog (make_Codes_Ports_C N) E (List.range make_Codes_Ports_S1.ks.length) make_Codes_Ports_S1 (make_Codes_Ports_L.drop 0) (fun y => make_Codes_Ports N y.2.1) (make_Codes_Ports_K N) :=
 Blk.chunkAt hb 3 (X := (goK 1 [0, 2] make_Codes_Ports_S0 (fun y => make_Codes_Ports_1 N y.2.1 y.2.2.1))) (NxOk.go hb (make_Codes_Ports_1_b N hb)) rfl (fun x => by kernel_rfl)
def make_Codes_Ports_ctr (N : Nat) : Ctr := ⟨make_Codes_Ports_S1, make_Codes_Ports_S2.un [true], 1, (fun y => make_Codes_Ports N y.2.1)⟩
theorem make_Codes_Ports_ctrs (N : Nat) : CtrsOk Try.prog (make_Codes_Ports_C N) := ctrs_of (Γ := make_Codes_Ports_C N) G_ifs_ok (by
 intro p hp
 simp only [make_Codes_Ports_C, List.mem_cons, List.not_mem_nil, or_false] at hp
 rcases hp with rfl
 · exact make_Codes_Next_ok N)
theorem make_Codes_Ports_ok (N : Nat) : Ctr.ok Try.prog G_globs 78 (make_Codes_Ports_ctr N) :=
 ctr_fn (Γ := make_Codes_Ports_C N) (rfit := make_Codes_Ports_S2) (bs := [true]) (res := [2]) (by kernel_rfl) (tys_ok G_tys_ok) (make_Codes_Ports_ctrs N) Try.func78 (by kernel_rfl) (by kernel_rfl) Try.ntmps78 (by kernel_rfl) (by kernel_rfl) (by kernel_rfl) (by kernel_rfl) (fun E hb => make_Codes_Ports_b N hb)
/-! (*ipsecgate/ipsecgatemake.Codes).Box -/
abbrev make_Codes_Box_R : Type := ((D45 × Unit) × (((List UInt8) × (Int × Unit)) × Unit))
def make_Codes_Box_2 (N : Nat) (p0 : ((List UInt8) × (Int × Unit))) (t_2 : D45) (b_4 : D45) : Option make_Codes_Box_R :=
 Option.bind (make_Codes_Ports N p0) fun y10 =>
 Option.bind (make_Codes_Ports N y10.2.1) fun y11 =>
 some (((b_4.1, b_4.2.1, b_4.2.2.1, b_4.2.2.2.1, b_4.2.2.2.2.1, b_4.2.2.2.2.2.1, y10.1.1, y11.1.1, ()), ()), (y11.2.1, ()))
def make_Codes_Box_1 (N : Nat) (family_3 : Int) (p0 : ((List UInt8) × (Int × Unit))) (t_2 : D45) : Option make_Codes_Box_R :=
 Option.bind (make_Codes_Span N family_3 p0) fun y6 =>
 Option.bind (make_Codes_Span N family_3 y6.2.1) fun y7 =>
 Option.bind (make_Codes_Next N (5 : Int) y7.2.1) fun y8 =>
 bif (decide (y8.1.1 = (0 : Int))) then
 make_Codes_Box_2 N y8.2.1 t_2 (y6.1.1, y6.1.2.1, y7.1.1, y7.1.2.1, (0 : Int), (255 : Int), (List.replicate 2 (0 : Int)), (List.replicate 2 (0 : Int)), ())
 else
 bif (decide (y8.1.1 = (1 : Int))) then
 make_Codes_Box_2 N y8.2.1 t_2 (y6.1.1, y6.1.2.1, y7.1.1, y7.1.2.1, (0 : Int), (255 : Int), (List.replicate 2 (0 : Int)), (List.replicate 2 (0 : Int)), ())
 else
 bif (decide (y8.1.1 = (2 : Int))) then
 Option.bind (make_Codes_Next N (5 : Int) y8.2.1) fun y14 =>
 bif inR y14.1.1 (([(0 : Int), (1 : Int), (6 : Int), (17 : Int), (58 : Int)] : List Int).length) then
 let x15 := (([(0 : Int), (1 : Int), (6 : Int), (17 : Int), (58 : Int)] : List Int).getD y14.1.1.toNat (0 : Int))
 make_Codes_Box_2 N y14.2.1 t_2 (y6.1.1, y6.1.2.1, y7.1.1, y7.1.2.1, x15, x15, (List.replicate 2 (0 : Int)), (List.replicate 2 (0 : Int)), ())
 else none
 else
 Option.bind (make_Codes_Next N (7 : Int) y8.2.1) fun y16 =>
 Option.bind (make_Codes_Next N (12 : Int) y16.2.1) fun y17 =>
 make_Codes_Box_2 N y17.2.1 t_2 (y6.1.1, y6.1.2.1, y7.1.1, y7.1.2.1, y16.1.1, (w64 (y16.1.1 + y17.1.1)), (List.replicate 2 (0 : Int)), (List.replicate 2 (0 : Int)), ())
def make_Codes_Box (N : Nat) (c_0 : ((List UInt8) × (Int × Unit))) : Option make_Codes_Box_R :=
 Option.bind (make_Codes_Next N (4 : Int) c_0) fun y1 =>
 let x4 := w64 ((4 : Int) + (w64 ((w64 ((2 : Int) * y1.1.1)).tdiv (3 : Int))))
 bif (!(decide (x4 = (4 : Int)))) then
 make_Codes_Box_1 N (6 : Int) y1.2.1 (((0 : Int), (0 : UInt64), (0 : UInt64), ()), ((0 : Int), (0 : UInt64), (0 : UInt64), ()), ((0 : Int), (0 : UInt64), (0 : UInt64), ()), ((0 : Int), (0 : UInt64), (0 : UInt64), ()), (0 : Int), (0 : Int), (List.replicate 2 (0 : Int)), (List.replicate 2 (0 : Int)), ())
 else
 make_Codes_Box_1 N x4 y1.2.1 (((0 : Int), (0 : UInt64), (0 : UInt64), ()), ((0 : Int), (0 : UInt64), (0 : UInt64), ()), ((0 : Int), (0 : UInt64), (0 : UInt64), ()), ((0 : Int), (0 : UInt64), (0 : UInt64), ()), (0 : Int), (0 : Int), (List.replicate 2 (0 : Int)), (List.replicate 2 (0 : Int)), ())
def make_Codes_Box_C (N : Nat) : Ctx := ⟨61, G_tys, [(36, make_Codes_Next_ctr N), (77, make_Codes_Span_ctr N), (78, make_Codes_Ports_ctr N)], G_globs, G_ifs⟩
def make_Codes_Box_S0 : Spec := ⟨[.ref 0 (.pair (.sl .u8) (.pair .i64 .unit)), .ref 1 T45, .ref 2 T45], [(.box 113 (.pair (.sl .u8) (.pair .i64 .unit)), .fix 0), (.box 46 T45, .pos 1), (.box 46 T45, .pos 2)]⟩
def make_Codes_Box_S1 : Spec := ⟨[.ref 0 (.pair (.sl .u8) (.pair .i64 .unit)), .ref 1 T45, .val .i64], [(.box 113 (.pair (.sl .u8) (.pair .i64 .unit)), .fix 0), (.box 46 T45, .pos 1)]⟩
def make_Codes_Box_S2 : Spec := ⟨[.ref 0 (.pair (.sl .u8) (.pair .i64 .unit))], [(.box 113 (.pair (.sl .u8) (.pair .i64 .unit)), .pos 0)]⟩
def make_Codes_Box_S3 : Spec := ⟨[.fp T45], [(.box 113 (.pair (.sl .u8) (.pair .i64 .unit)), .fix 0)]⟩
def make_Codes_Box_K (_N : Nat) : XE → GS → Option make_Codes_Box_R := retK 1 [2] [true] make_Codes_Box_S3
def make_Codes_Box_L : List Code := (bodyOf (some Try.f29))
theorem make_Codes_Box_2_b {E : Env} (N : Nat) (hb : Base Try.prog (make_Codes_Box_C N) E 1) : Blk Try.prog (make_Codes_Box_C N) E [0, 2, 4] make_Codes_Box_S0 (make_Codes_Box_L.drop 9) (fun y => make_Codes_Box_2 N y.2.1 y.2.2.1 y.2.2.2.1) (make_Codes_Box_K N) :=
 Blk.chunkAt hb 3 (X := (make_Codes_Box_K N .normal)) (NxOk.end (by kernel_rfl)) rfl (fun x => by kernel_rfl)
theorem make_Codes_Box_1_b {E : Env} (N : Nat) (hb : Base Try.prog (make_Codes_Box_C N) E 1) : Blk Try.prog (make_Codes_Box_C N) E [0, 2, 3] make_Codes_Box_S1 (make_Codes_Box_L.drop 4) (fun y => make_Codes_Box_1 N y.1.1 y.2.1 y.2.2.1) (make_Codes_Box_K N) :=
 Blk.chunkAt hb 5 (X := (goK 1 [0, 2, 4] make_Codes_Box_S0 (fun y => make_Codes_Box_2 N y.2.1 y.2.2.1 y.2.2.2.1))) (NxOk.go hb (make_Codes_Box_2_b N hb)) rfl (fun x => by kernel_rfl)
theorem make_Codes_Box_b {E : Env} (N : Nat) (hb : Base Try.prog (make_Codes_Box_C N) E 1) : Blk Try.prog (make_Codes_Box_C N) E (List.range make_Codes_Box_S2.ks.length) make_Codes_Box_S2 (make_Codes_Box_L.drop 0) (fun y => make_Codes_Box N y.2.1) (make_Codes_Box_K N) :=
 Blk.chunkAt hb 4 (X := (goK 1 [0, 2, 3] make_Codes_Box_S1 (fun y => make_Codes_Box_1 N y.1.1 y.2.1 y.2.2.1))) (NxOk.go hb (make_Codes_Box_1_b N hb)) rfl (fun x => by kernel_rfl)
def make_Codes_Box_ctr (N : Nat) : Ctr := ⟨make_Codes_Box_S2, make_Codes_Box_S3.un [true], 1, (fun y => make_Codes_Box N y.2.1)⟩
theorem make_Codes_Box_ctrs (N : Nat) : CtrsOk Try.prog (make_Codes_Box_C N) := ctrs_of (Γ := make_Codes_Box_C N) G_ifs_ok (by
 intro p hp
 simp only [make_Codes_Box_C, List.mem_cons, List.not_mem_nil, or_false] at hp
 rcases hp with rfl | rfl | rfl
 · exact make_Codes_Next_ok N
 · exact make_Codes_Span_ok N
 · exact make_Codes_Ports_ok N)
theorem make_Codes_Box_ok (N : Nat) : Ctr.ok Try.prog G_globs 29 (make_Codes_Box_ctr N) :=
 ctr_fn (Γ := make_Codes_Box_C N) (rfit := make_Codes_Box_S3) (bs := [true]) (res := [2]) (by kernel_rfl) (tys_ok G_tys_ok) (make_Codes_Box_ctrs N) Try.func29 (by kernel_rfl) (by kernel_rfl) Try.ntmps29 (by kernel_rfl) (by kernel_rfl) (by kernel_rfl) (by kernel_rfl) (fun E hb => make_Codes_Box_b N hb)
/-! (*ipsecgate/ipsecgatemake.Codes).Rules -/
abbrev make_Codes_Rules_R : Type := ((Unit) × (((List UInt8) × (Int × Unit)) × (List D59) × Unit))
def make_Codes_Rules_s8 (N : Nat) (n_6 : Int) (k_8 : Int) (p0 : ((List UInt8) × (Int × Unit))) (out_5 : (List D59)) (r_7 : D59) (r_7_v : (List D45)) : Option (Lo ((Int × Int × Unit) × (((List UInt8) × (Int × Unit)) × (List D59) × D59 × (List D45) × Unit)) ((Int × Unit) × (((List UInt8) × (Int × Unit)) × (List D59) × D59 × (List D45) × Unit)) (Lo ((Int × Unit) × (((List UInt8) × (Int × Unit)) × (List D59) × Unit)) ((Unit) × (((List UInt8) × (Int × Unit)) × (List D59) × Unit)) make_Codes_Rules_R)) :=
 bif (decide ((0 : Int) < k_8)) then
 Option.bind (make_Codes_Box N p0) fun y11 =>
 bif room (r_7_v.length + ([y11.1.1] : List D45).length) 144 then
 some (.go ((n_6, (w64 (k_8 - (1 : Int))), ()), (y11.2.1, out_5, r_7, (r_7_v ++ ([y11.1.1] : List D45)), ())))
 else none
 else
 some (.br ((n_6, ()), (p0, out_5, r_7, r_7_v, ())))
def make_Codes_Rules_10 (N : Nat) (n_6 : Int) (p0 : ((List UInt8) × (Int × Unit))) (out_5 : (List D59)) : Option (Lo ((Int × Unit) × (((List UInt8) × (Int × Unit)) × (List D59) × Unit)) ((Unit) × (((List UInt8) × (Int × Unit)) × (List D59) × Unit)) make_Codes_Rules_R) :=
 some (.go (((w64 (n_6 - (1 : Int))), ()), (p0, out_5, ())))
def make_Codes_Rules_9 (N : Nat) (n_6 : Int) (p0 : ((List UInt8) × (Int × Unit))) (out_5 : (List D59)) (r_7 : D59) (r_7_v : (List D45)) : Option (Lo ((Int × Unit) × (((List UInt8) × (Int × Unit)) × (List D59) × Unit)) ((Unit) × (((List UInt8) × (Int × Unit)) × (List D59) × Unit)) make_Codes_Rules_R) :=
 bif room (out_5.length + ([(r_7.1, r_7.2.1, r_7_v, ())] : List D59).length) 48 then
 make_Codes_Rules_10 N n_6 p0 (out_5 ++ ([(r_7.1, r_7.2.1, r_7_v, ())] : List D59))
 else none
def make_Codes_Rules_7 (N : Nat) (n_6 : Int) (k_8 : Int) (p0 : ((List UInt8) × (Int × Unit))) (out_5 : (List D59)) (r_7 : D59) (r_7_v : (List D45)) : Option (Lo ((Int × Unit) × (((List UInt8) × (Int × Unit)) × (List D59) × Unit)) ((Unit) × (((List UInt8) × (Int × Unit)) × (List D59) × Unit)) make_Codes_Rules_R) :=
 loopK N (fun y => make_Codes_Rules_s8 N y.1.1 y.1.2.1 y.2.1 y.2.2.1 y.2.2.2.1 y.2.2.2.2.1) (fun (e : ((Int × Unit) × (((List UInt8) × (Int × Unit)) × (List D59) × D59 × (List D45) × Unit))) => make_Codes_Rules_9 N e.1.1 e.2.1 e.2.2.1 e.2.2.2.1 e.2.2.2.2.1) ((n_6, k_8, ()), (p0, out_5, r_7, r_7_v, ()))
def make_Codes_Rules_6 (N : Nat) (n_6 : Int) (p0 : ((List UInt8) × (Int × Unit))) (out_5 : (List D59)) (r_7 : D59) (r_7_v : (List D45)) : Option (Lo ((Int × Unit) × (((List UInt8) × (Int × Unit)) × (List D59) × Unit)) ((Unit) × (((List UInt8) × (Int × Unit)) × (List D59) × Unit)) make_Codes_Rules_R) :=
 Option.bind (make_Codes_Next N (2 : Int) p0) fun y8 =>
 make_Codes_Rules_7 N n_6 (w64 ((1 : Int) + y8.1.1)) y8.2.1 out_5 r_7 r_7_v
def make_Codes_Rules_5 (N : Nat) (n_6 : Int) (p0 : ((List UInt8) × (Int × Unit))) (out_5 : (List D59)) : Option (Lo ((Int × Unit) × (((List UInt8) × (Int × Unit)) × (List D59) × Unit)) ((Unit) × (((List UInt8) × (Int × Unit)) × (List D59) × Unit)) make_Codes_Rules_R) :=
 Option.bind (make_Codes_Next N (3 : Int) p0) fun y4 =>
 bif (decide (y4.1.1 = (2 : Int))) then
 Option.bind (make_Codes_Next N (3 : Int) y4.2.1) fun y6 =>
 bif inR y6.1.1 (([([103, 111, 108, 100] : List UInt8), ([115, 105, 108, 118, 101, 114] : List UInt8), ([120, 49] : List UInt8)] : List (List UInt8)).length) then
 make_Codes_Rules_6 N n_6 y6.2.1 out_5 (y4.1.1, (([([103, 111, 108, 100] : List UInt8), ([115, 105, 108, 118, 101, 114] : List UInt8), ([120, 49] : List UInt8)] : List (List UInt8)).getD y6.1.1.toNat ([] : List UInt8)), ([] : List D45), ()) ([] : List D45)
 else none
 else
 make_Codes_Rules_6 N n_6 y4.2.1 out_5 (y4.1.1, ([] : List UInt8), ([] : List D45), ()) ([] : List D45)
def make_Codes_Rules_3 (N : Nat) (n_6 : Int) (p0 : ((List UInt8) × (Int × Unit))) (out_5 : (List D59)) : Option (Lo ((Int × Unit) × (((List UInt8) × (Int × Unit)) × (List D59) × Unit)) ((Unit) × (((List UInt8) × (Int × Unit)) × (List D59) × Unit)) make_Codes_Rules_R) :=
 make_Codes_Rules_5 N n_6 p0 out_5
def make_Codes_Rules_s2 (N : Nat) (n_6 : Int) (p0 : ((List UInt8) × (Int × Unit))) (out_5 : (List D59)) : Option (Lo ((Int × Unit) × (((List UInt8) × (Int × Unit)) × (List D59) × Unit)) ((Unit) × (((List UInt8) × (Int × Unit)) × (List D59) × Unit)) make_Codes_Rules_R) :=
 bif (decide ((0 : Int) < n_6)) then
 make_Codes_Rules_3 N n_6 p0 out_5
 else
 some (.br ((()), (p0, out_5, ())))
def make_Codes_Rules_11 (N : Nat) (p0 : ((List UInt8) × (Int × Unit))) (out_5 : (List D59)) : Option make_Codes_Rules_R :=
 some ((()), (p0, out_5, ()))
def make_Codes_Rules_1 (N : Nat) (n_6 : Int) (p0 : ((List UInt8) × (Int × Unit))) (out_5 : (List D59)) : Option make_Codes_Rules_R :=
 loopK N (fun y => make_Codes_Rules_s2 N y.1.1 y.2.1 y.2.2.1) (fun (e : ((Unit) × (((List UInt8) × (Int × Unit)) × (List D59) × Unit))) => make_Codes_Rules_11 N e.2.1 e.2.2.1) ((n_6, ()), (p0, out_5, ()))
def make_Codes_Rules (N : Nat) (most_1 : Int) (c_0 : ((List UInt8) × (Int × Unit))) : Option make_Codes_Rules_R :=
 Option.bind (make_Codes_Next N (w64 (most_1 + (1 : Int))) c_0) fun y2 =>
 make_Codes_Rules_1 N y2.1.1 y2.2.1 ([] : List D59)
def make_Codes_Rules_C (N : Nat) : Ctx := ⟨48, G_tys, [(36, make_Codes_Next_ctr N), (29, make_Codes_Box_ctr N)], G_globs, G_ifs⟩
def make_Codes_Rules_S0 : Spec := ⟨[.ref 0 (.pair (.sl .u8) (.pair .i64 .unit)), .row 1, .val .i64, .ref 2 T59, .val .i64], [(.box 113 (.pair (.sl .u8) (.pair .i64 .unit)), .fix 0), (.row 60 T59, .pos 1), (.srow 60 T59 2 3, .pos 3), (.row 46 T45, .inn 2)]⟩
def make_Codes_Rules_S1 : Spec := ⟨[.ref 0 (.pair (.sl .u8) (.pair .i64 .unit)), .row 1, .val .i64], [(.box 113 (.pair (.sl .u8) (.pair .i64 .unit)), .fix 0), (.row 60 T59, .pos 1)]⟩
def make_Codes_Rules_S2 : Spec := ⟨[.ref 0 (.pair (.sl .u8) (.pair .i64 .unit)), .row 1, .val .i64, .ref 2 T59], [(.box 113 (.pair (.sl .u8) (.pair .i64 .unit)), .fix 0), (.row 60 T59, .pos 1), (.srow 60 T59 2 3, .pos 3), (.row 46 T45, .inn 2)]⟩
def make_Codes_Rules_S3 : Spec := ⟨[.row 1], [(.box 113 (.pair (.sl .u8) (.pair .i64 .unit)), .fix 0), (.row 60 T59, .pos 0)]⟩
def make_Codes_Rules_S4 : Spec := ⟨[.ref 0 (.pair (.sl .u8) (.pair .i64 .unit)), .val .i64], [(.box 113 (.pair (.sl .u8) (.pair .i64 .unit)), .pos 0)]⟩
def make_Codes_Rules_K (_N : Nat) : XE → GS → Option make_Codes_Rules_R := retK 1 [4] [false] make_Codes_Rules_S3
def make_Codes_Rules_L : List Code := (bodyOf (some Try.f34))
def make_Codes_Rules_L2 : List Code := (loopOf (make_Codes_Rules_L[3]?))
def make_Codes_Rules_L4b : List Code := (blockOf (make_Codes_Rules_L2[2]?))
def make_Codes_Rules_L8 : List Code := (loopOf (make_Codes_Rules_L4b[4]?))
def make_Codes_Rules_K2 (N : Nat) : XE → GS → Option (Lo ((Int × Unit) × (((List UInt8) × (Int × Unit)) × (List D59) × Unit)) ((Unit) × (((List UInt8) × (Int × Unit)) × (List D59) × Unit)) make_Codes_Rules_R) := roundK (some 0) (fit 1 [0, 5, 6] make_Codes_Rules_S1) (fit 1 [5] make_Codes_Rules_S3) (make_Codes_Rules_K N)
def make_Codes_Rules_K4 (N : Nat) : XE → GS → Option (Lo ((Int × Unit) × (((List UInt8) × (Int × Unit)) × (List D59) × Unit)) ((Unit) × (((List UInt8) × (Int × Unit)) × (List D59) × Unit)) make_Codes_Rules_R) := blockK 1 (goK 1 [0, 5, 6] make_Codes_Rules_S1 (fun y => make_Codes_Rules_10 N y.1.1 y.2.1 y.2.2.1)) (make_Codes_Rules_K2 N)
def make_Codes_Rules_K8 (N : Nat) : XE → GS → Option (Lo ((Int × Int × Unit) × (((List UInt8) × (Int × Unit)) × (List D59) × D59 × (List D45) × Unit)) ((Int × Unit) × (((List UInt8) × (Int × Unit)) × (List D59) × D59 × (List D45) × Unit)) (Lo ((Int × Unit) × (((List UInt8) × (Int × Unit)) × (List D59) × Unit)) ((Unit) × (((List UInt8) × (Int × Unit)) × (List D59) × Unit)) make_Codes_Rules_R)) := roundK (some 2) (fit 1 [0, 5, 6, 7, 8] make_Codes_Rules_S0) (fit 1 [0, 5, 6, 7] make_Codes_Rules_S2) (make_Codes_Rules_K4 N)
theorem make_Codes_Rules_s8_b {E : Env} (N : Nat) (hb : Base Try.prog (make_Codes_Rules_C N) E 1) : Blk Try.prog (make_Codes_Rules_C N) E [0, 5, 6, 7, 8] make_Codes_Rules_S0 (make_Codes_Rules_L8.drop 0) (fun y => make_Codes_Rules_s8 N y.1.1 y.1.2.1 y.2.1 y.2.2.1 y.2.2.2.1 y.2.2.2.2.1) (make_Codes_Rules_K8 N) :=
 Blk.chunkAt hb 4 (X := (make_Codes_Rules_K8 N .normal)) (NxOk.end (by kernel_rfl)) rfl (fun x => by kernel_rfl)
theorem make_Codes_Rules_10_b {E : Env} (N : Nat) (hb : Base Try.prog (make_Codes_Rules_C N) E 1) : Blk Try.prog (make_Codes_Rules_C N) E [0, 5, 6] make_Codes_Rules_S1 (make_Codes_Rules_L2.drop 3) (fun y => make_Codes_Rules_10 N y.1.1 y.2.1 y.2.2.1) (make_Codes_Rules_K2 N) :=
 Blk.chunkAt hb 1 (X := (make_Codes_Rules_K2 N .normal)) (NxOk.end (by kernel_rfl)) rfl (fun x => by kernel_rfl)
theorem make_Codes_Rules_9_b {E : Env} (N : Nat) (hb : Base Try.prog (make_Codes_Rules_C N) E 1) : Blk Try.prog (make_Codes_Rules_C N) E [0, 5, 6, 7] make_Codes_Rules_S2 (make_Codes_Rules_L4b.drop 5) (fun y => make_Codes_Rules_9 N y.1.1 y.2.1 y.2.2.1 y.2.2.2.1 y.2.2.2.2.1) (make_Codes_Rules_K4 N) :=
 Blk.chunkAt hb 1 (X := (make_Codes_Rules_K4 N .normal)) (NxOk.end (by kernel_rfl)) rfl (fun x => by kernel_rfl)
theorem make_Codes_Rules_7_b {E : Env} (N : Nat) (hb : Base Try.prog (make_Codes_Rules_C N) E 1) : Blk Try.prog (make_Codes_Rules_C N) E [0, 5, 6, 7, 8] make_Codes_Rules_S0 (make_Codes_Rules_L4b.drop 4) (fun y => make_Codes_Rules_7 N y.1.1 y.1.2.1 y.2.1 y.2.2.1 y.2.2.2.1 y.2.2.2.2.1) (make_Codes_Rules_K4 N) :=
 Blk.loopAt (Nf := N) (hns := [0, 5, 6, 7, 8]) (ans := [0, 5, 6, 7]) (hc := make_Codes_Rules_S0) (ac := make_Codes_Rules_S2) (bid := 2) (step := (fun y => make_Codes_Rules_s8 N y.1.1 y.1.2.1 y.2.1 y.2.2.1 y.2.2.2.1 y.2.2.2.2.1)) (J := (fun e => (goK 1 [0, 5, 6, 7] make_Codes_Rules_S2 (fun y => make_Codes_Rules_9 N y.1.1 y.2.1 y.2.2.1 y.2.2.2.1 y.2.2.2.2.1)) (make_Codes_Rules_S2.st [0, 5, 6, 7] e))) hb (by kernel_rfl) (Blk.into (X := (goK 1 [0, 5, 6, 7] make_Codes_Rules_S2 (fun y => make_Codes_Rules_9 N y.1.1 y.2.1 y.2.2.1 y.2.2.2.1 y.2.2.2.2.1))) (NxOk.go hb (make_Codes_Rules_9_b N hb)) (fun x => by kernel_rfl)) (make_Codes_Rules_s8_b N hb) (fun x => by kernel_rfl)
theorem make_Codes_Rules_6_b {E : Env} (N : Nat) (hb : Base Try.prog (make_Codes_Rules_C N) E 1) : Blk Try.prog (make_Codes_Rules_C N) E [0, 5, 6, 7] make_Codes_Rules_S2 (make_Codes_Rules_L4b.drop 3) (fun y => make_Codes_Rules_6 N y.1.1 y.2.1 y.2.2.1 y.2.2.2.1 y.2.2.2.2.1) (make_Codes_Rules_K4 N) :=
 Blk.chunkAt hb 1 (X := (goK 1 [0, 5, 6, 7, 8] make_Codes_Rules_S0 (fun y => make_Codes_Rules_7 N y.1.1 y.1.2.1 y.2.1 y.2.2.1 y.2.2.2.1 y.2.2.2.2.1))) (NxOk.go hb (make_Codes_Rules_7_b N hb)) rfl (fun x => by kernel_rfl)
theorem make_Codes_Rules_5_b {E : Env} (N : Nat) (hb : Base Try.prog (make_Codes_Rules_C N) E 1) : Blk Try.prog (make_Codes_Rules_C N) E [0, 5, 6] make_Codes_Rules_S1 (make_Codes_Rules_L4b.drop 0) (fun y => make_Codes_Rules_5 N y.1.1 y.2.1 y.2.2.1) (make_Codes_Rules_K4 N) :=
 Blk.chunkAt hb 3 (X := (goK 1 [0, 5, 6, 7] make_Codes_Rules_S2 (fun y => make_Codes_Rules_6 N y.1.1 y.2.1 y.2.2.1 y.2.2.2.1 y.2.2.2.2.1))) (NxOk.go hb (make_Codes_Rules_6_b N hb)) rfl (fun x => by kernel_rfl)
theorem make_Codes_Rules_3_b {E : Env} (N : Nat) (hb : Base Try.prog (make_Codes_Rules_C N) E 1) : Blk Try.prog (make_Codes_Rules_C N) E [0, 5, 6] make_Codes_Rules_S1 (make_Codes_Rules_L2.drop 2) (fun y => make_Codes_Rules_3 N y.1.1 y.2.1 y.2.2.1) (make_Codes_Rules_K2 N) :=
 Blk.blockAt (bid := 1) (X := (goK 1 [0, 5, 6] make_Codes_Rules_S1 (fun y => make_Codes_Rules_10 N y.1.1 y.2.1 y.2.2.1))) (Y := (goK 1 [0, 5, 6] make_Codes_Rules_S1 (fun y => make_Codes_Rules_5 N y.1.1 y.2.1 y.2.2.1))) (by kernel_rfl) (NxOk.go hb (make_Codes_Rules_10_b N hb)) (NxOk.go hb (make_Codes_Rules_5_b N hb)) (fun x => by kernel_rfl)
theorem make_Codes_Rules_s2_b {E : Env} (N : Nat) (hb : Base Try.prog (make_Codes_Rules_C N) E 1) : Blk Try.prog (make_Codes_Rules_C N) E [0, 5, 6] make_Codes_Rules_S1 (make_Codes_Rules_L2.drop 0) (fun y => make_Codes_Rules_s2 N y.1.1 y.2.1 y.2.2.1) (make_Codes_Rules_K2 N) :=
 Blk.chunkAt hb 2 (X := (goK 1 [0, 5, 6] make_Codes_Rules_S1 (fun y => make_Codes_Rules_3 N y.1.1 y.2.1 y.2.2.1))) (NxOk.go hb (make_Codes_Rules_3_b N hb)) rfl (fun x => by kernel_rfl)
theorem make_Codes_Rules_11_b {E : Env} (N : Nat) (hb : Base Try.prog (make_Codes_Rules_C N) E 1) : Blk Try.prog (make_Codes_Rules_C N) E [5] make_Codes_Rules_S3 (make_Codes_Rules_L.drop 4) (fun y => make_Codes_Rules_11 N y.2.1 y.2.2.1) (make_Codes_Rules_K N) :=
 Blk.chunkAt hb 2 (X := (make_Codes_Rules_K N .normal)) (NxOk.end (by kernel_rfl)) rfl (fun x => by kernel_rfl)
theorem make_Codes_Rules_1_b {E : Env} (N : Nat) (hb : Base Try.prog (make_Codes_Rules_C N) E 1) : Blk Try.prog (make_Codes_Rules_C N) E [0, 5, 6] make_Codes_Rules_S1 (make_Codes_Rules_L.drop 3) (fun y => make_Codes_Rules_1 N y.1.1 y.2.1 y.2.2.1) (make_Codes_Rules_K N) :=
 Blk.loopAt (Nf := N) (hns := [0, 5, 6]) (ans := [5]) (hc := make_Codes_Rules_S1) (ac := make_Codes_Rules_S3) (bid := 0) (step := (fun y => make_Codes_Rules_s2 N y.1.1 y.2.1 y.2.2.1)) (J := (fun e => (goK 1 [5] make_Codes_Rules_S3 (fun y => make_Codes_Rules_11 N y.2.1 y.2.2.1)) (make_Codes_Rules_S3.st [5] e))) hb (by kernel_rfl) (Blk.into (X := (goK 1 [5] make_Codes_Rules_S3 (fun y => make_Codes_Rules_11 N y.2.1 y.2.2.1))) (NxOk.go hb (make_Codes_Rules_11_b N hb)) (fun x => by kernel_rfl)) (make_Codes_Rules_s2_b N hb) (fun x => by kernel_rfl)
theorem make_Codes_Rules_b {E : Env} (N : Nat) (hb : Base Try.prog (make_Codes_Rules_C N) E 1) : Blk Try.prog (make_Codes_Rules_C N) E (List.range make_Codes_Rules_S4.ks.length) make_Codes_Rules_S4 (make_Codes_Rules_L.drop 0) (fun y => make_Codes_Rules N y.1.1 y.2.1) (make_Codes_Rules_K N) :=
 Blk.chunkAt hb 3 (X := (goK 1 [0, 5, 6] make_Codes_Rules_S1 (fun y => make_Codes_Rules_1 N y.1.1 y.2.1 y.2.2.1))) (NxOk.go hb (make_Codes_Rules_1_b N hb)) rfl (fun x => by kernel_rfl)
def make_Codes_Rules_ctr (N : Nat) : Ctr := ⟨make_Codes_Rules_S4, make_Codes_Rules_S3.un [false], 1, (fun y => make_Codes_Rules N y.1.1 y.2.1)⟩
theorem make_Codes_Rules_ctrs (N : Nat) : CtrsOk Try.prog (make_Codes_Rules_C N) := ctrs_of (Γ := make_Codes_Rules_C N) G_ifs_ok (by
 intro p hp
 simp only [make_Codes_Rules_C, List.mem_cons, List.not_mem_nil, or_false] at hp
 rcases hp with rfl | rfl
 · exact make_Codes_Next_ok N
 · exact make_Codes_Box_ok N)
theorem make_Codes_Rules_ok (N : Nat) : Ctr.ok Try.prog G_globs 34 (make_Codes_Rules_ctr N) :=
 ctr_fn (Γ := make_Codes_Rules_C N) (rfit := make_Codes_Rules_S3) (bs := [false]) (res := [4]) (by kernel_rfl) (tys_ok G_tys_ok) (make_Codes_Rules_ctrs N) Try.func34 (by kernel_rfl) (by kernel_rfl) Try.ntmps34 (by kernel_rfl) (by kernel_rfl) (by kernel_rfl) (by kernel_rfl) (fun E hb => make_Codes_Rules_b N hb)
/-! (*ipsecgate/ipsecgatemake.Codes).Int -/
abbrev make_Codes_Int_R : Type := ((Int × Unit) × (((List UInt8) × (Int × Unit)) × Unit))
def make_Codes_Int (N : Nat) (c_0 : ((List UInt8) × (Int × Unit))) : Option make_Codes_Int_R :=
 Option.bind (make_Codes_Next N (4 : Int) c_0) fun y1 =>
 bif (decide (y1.1.1 = (3 : Int))) then
 Option.bind (make_Codes_Next N (([(9223372036854775807 : Int), (-9223372036854775808 : Int), (65535 : Int), (65536 : Int), (255 : Int), (256 : Int), (-1 : Int), (-2 : Int), (0 : Int), (4294967296 : Int), (16384 : Int), (37 : Int)] : List Int).length : Int) y1.2.1) fun y4 =>
 bif inR y4.1.1 (([(9223372036854775807 : Int), (-9223372036854775808 : Int), (65535 : Int), (65536 : Int), (255 : Int), (256 : Int), (-1 : Int), (-2 : Int), (0 : Int), (4294967296 : Int), (16384 : Int), (37 : Int)] : List Int).length) then
 some (((([(9223372036854775807 : Int), (-9223372036854775808 : Int), (65535 : Int), (65536 : Int), (255 : Int), (256 : Int), (-1 : Int), (-2 : Int), (0 : Int), (4294967296 : Int), (16384 : Int), (37 : Int)] : List Int).getD y4.1.1.toNat (0 : Int)), ()), (y4.2.1, ()))
 else none
 else
 Option.bind (make_Codes_Next N (60 : Int) y1.2.1) fun y6 =>
 some (((w64 (y6.1.1 - (3 : Int))), ()), (y6.2.1, ()))
def make_Codes_Int_C (N : Nat) : Ctx := ⟨18, G_tys, [(36, make_Codes_Next_ctr N)], G_globs, G_ifs⟩
def make_Codes_Int_S0 : Spec := ⟨[.ref 0 (.pair (.sl .u8) (.pair .i64 .unit))], [(.box 113 (.pair (.sl .u8) (.pair .i64 .unit)), .pos 0)]⟩
def make_Codes_Int_S1 : Spec := ⟨[.val .i64], [(.box 113 (.pair (.sl .u8) (.pair .i64 .unit)), .fix 0)]⟩
def make_Codes_Int_K (_N : Nat) : XE → GS → Option make_Codes_Int_R := retK 1 [2] [false] make_Codes_Int_S1
def make_Codes_Int_L : List Code := (bodyOf (some Try.f54))
theorem make_Codes_Int_b {E : Env} (N : Nat) (hb : Base Try.prog (make_Codes_Int_C N) E 1) : Blk Try.prog (make_Codes_Int_C N) E (List.range make_Codes_Int_S0.ks.length) make_Codes_Int_S0 (make_Codes_Int_L.drop 0) (fun y => make_Codes_Int N y.2.1) (make_Codes_Int_K N) :=
 Blk.chunkAt hb 6 (X := (make_Codes_Int_K N .normal)) (NxOk.end (by kernel_rfl)) rfl (fun x => by kernel_rfl)
def make_Codes_Int_ctr (N : Nat) : Ctr := ⟨make_Codes_Int_S0, make_Codes_Int_S1.un [false], 1, (fun y => make_Codes_Int N y.2.1)⟩
theorem make_Codes_Int_ctrs (N : Nat) : CtrsOk Try.prog (make_Codes_Int_C N) := ctrs_of (Γ := make_Codes_Int_C N) G_ifs_ok (by
 intro p hp
 simp only [make_Codes_Int_C, List.mem_cons, List.not_mem_nil, or_false] at hp
 rcases hp with rfl
 · exact make_Codes_Next_ok N)
theorem make_Codes_Int_ok (N : Nat) : Ctr.ok Try.prog G_globs 54 (make_Codes_Int_ctr N) :=
 ctr_fn (Γ := make_Codes_Int_C N) (rfit := make_Codes_Int_S1) (bs := [false]) (res := [2]) (by kernel_rfl) (tys_ok G_tys_ok) (make_Codes_Int_ctrs N) Try.func54 (by kernel_rfl) (by kernel_rfl) Try.ntmps54 (by kernel_rfl) (by kernel_rfl) (by kernel_rfl) (by kernel_rfl) (fun E hb => make_Codes_Int_b N hb)
/-! (*ipsecgate/ipsecgatemake.Codes).Word -/
abbrev make_Codes_Word_R : Type := ((UInt64 × Unit) × (((List UInt8) × (Int × Unit)) × Unit))
def make_Codes_Word_s2 (N : Nat) (v_3 : UInt64) (i_4 : Int) (p0 : ((List UInt8) × (Int × Unit))) : Option (Lo ((UInt64 × Int × Unit) × (((List UInt8) × (Int × Unit)) × Unit)) ((UInt64 × Unit) × (((List UInt8) × (Int × Unit)) × Unit)) make_Codes_Word_R) :=
 bif (decide (i_4 < (8 : Int))) then
 Option.bind (make_Codes_Next N (256 : Int) p0) fun y11 =>
 some (.go ((((shl64 v_3 8) ||| (iu64 y11.1.1)), (w64 (i_4 + (1 : Int))), ()), (y11.2.1, ())))
 else
 some (.br ((v_3, ()), (p0, ())))
def make_Codes_Word_3 (N : Nat) (v_3 : UInt64) (p0 : ((List UInt8) × (Int × Unit))) : Option make_Codes_Word_R :=
 some ((v_3, ()), (p0, ()))
def make_Codes_Word_1 (N : Nat) (v_3 : UInt64) (i_4 : Int) (p0 : ((List UInt8) × (Int × Unit))) : Option make_Codes_Word_R :=
 loopK N (fun y => make_Codes_Word_s2 N y.1.1 y.1.2.1 y.2.1) (fun (e : ((UInt64 × Unit) × (((List UInt8) × (Int × Unit)) × Unit))) => make_Codes_Word_3 N e.1.1 e.2.1) ((v_3, i_4, ()), (p0, ()))
def make_Codes_Word (N : Nat) (c_0 : ((List UInt8) × (Int × Unit))) : Option make_Codes_Word_R :=
 Option.bind (make_Codes_Next N (6 : Int) c_0) fun y1 =>
 bif (decide (y1.1.1 = (0 : Int))) then
 Option.bind (make_Codes_Next N (4 : Int) y1.2.1) fun y3 =>
 some (((iu64 y3.1.1), ()), (y3.2.1, ()))
 else
 bif (decide (y1.1.1 = (1 : Int))) then
 Option.bind (make_Codes_Next N (3 : Int) y1.2.1) fun y6 =>
 some ((((18446744073709551615 : UInt64) - (iu64 y6.1.1)), ()), (y6.2.1, ()))
 else
 make_Codes_Word_1 N (0 : UInt64) (0 : Int) y1.2.1
def make_Codes_Word_C (N : Nat) : Ctx := ⟨29, G_tys, [(36, make_Codes_Next_ctr N)], G_globs, G_ifs⟩
def make_Codes_Word_S0 : Spec := ⟨[.ref 0 (.pair (.sl .u8) (.pair .i64 .unit)), .val .u64, .val .i64], [(.box 113 (.pair (.sl .u8) (.pair .i64 .unit)), .fix 0)]⟩
def make_Codes_Word_S1 : Spec := ⟨[.val .u64], [(.box 113 (.pair (.sl .u8) (.pair .i64 .unit)), .fix 0)]⟩
def make_Codes_Word_S2 : Spec := ⟨[.ref 0 (.pair (.sl .u8) (.pair .i64 .unit))], [(.box 113 (.pair (.sl .u8) (.pair .i64 .unit)), .pos 0)]⟩
def make_Codes_Word_K (_N : Nat) : XE → GS → Option make_Codes_Word_R := retK 1 [2] [false] make_Codes_Word_S1
def make_Codes_Word_L : List Code := (bodyOf (some Try.f164))
def make_Codes_Word_L2 : List Code := (loopOf (make_Codes_Word_L[5]?))
def make_Codes_Word_K2 (N : Nat) : XE → GS → Option (Lo ((UInt64 × Int × Unit) × (((List UInt8) × (Int × Unit)) × Unit)) ((UInt64 × Unit) × (((List UInt8) × (Int × Unit)) × Unit)) make_Codes_Word_R) := roundK (some 1) (fit 1 [0, 3, 4] make_Codes_Word_S0) (fit 1 [3] make_Codes_Word_S1) (make_Codes_Word_K N)
theorem make_Codes_Word_s2_b {E : Env} (N : Nat) (hb : Base Try.prog (make_Codes_Word_C N) E 1) : Blk Try.prog (make_Codes_Word_C N) E [0, 3, 4] make_Codes_Word_S0 (make_Codes_Word_L2.drop 0) (fun y => make_Codes_Word_s2 N y.1.1 y.1.2.1 y.2.1) (make_Codes_Word_K2 N) :=
 Blk.chunkAt hb 4 (X := (make_Codes_Word_K2 N .normal)) (NxOk.end (by kernel_rfl)) rfl (fun x => by kernel_rfl)
theorem make_Codes_Word_3_b {E : Env} (N : Nat) (hb : Base Try.prog (make_Codes_Word_C N) E 1) : Blk Try.prog (make_Codes_Word_C N) E [3] make_Codes_Word_S1 (make_Codes_Word_L.drop 6) (fun y => make_Codes_Word_3 N y.1.1 y.2.1) (make_Codes_Word_K N) :=
 Blk.chunkAt hb 2 (X := (make_Codes_Word_K N .normal)) (NxOk.end (by kernel_rfl)) rfl (fun x => by kernel_rfl)
theorem make_Codes_Word_1_b {E : Env} (N : Nat) (hb : Base Try.prog (make_Codes_Word_C N) E 1) : Blk Try.prog (make_Codes_Word_C N) E [0, 3, 4] make_Codes_Word_S0 (make_Codes_Word_L.drop 5) (fun y => make_Codes_Word_1 N y.1.1 y.1.2.1 y.2.1) (make_Codes_Word_K N) :=
 Blk.loopAt (Nf := N) (hns := [0, 3, 4]) (ans := [3]) (hc := make_Codes_Word_S0) (ac := make_Codes_Word_S1) (bid := 1) (step := (fun y => make_Codes_Word_s2 N y.1.1 y.1.2.1 y.2.1)) (J := (fun e => (goK 1 [3] make_Codes_Word_S1 (fun y => make_Codes_Word_3 N y.1.1 y.2.1)) (make_Codes_Word_S1.st [3] e))) hb (by kernel_rfl) (Blk.into (X := (goK 1 [3] make_Codes_Word_S1 (fun y => make_Codes_Word_3 N y.1.1 y.2.1))) (NxOk.go hb (make_Codes_Word_3_b N hb)) (fun x => by kernel_rfl)) (make_Codes_Word_s2_b N hb) (fun x => by kernel_rfl)
theorem make_Codes_Word_b {E : Env} (N : Nat) (hb : Base Try.prog (make_Codes_Word_C N) E 1) : Blk Try.prog (make_Codes_Word_C N) E (List.range make_Codes_Word_S2.ks.length) make_Codes_Word_S2 (make_Codes_Word_L.drop 0) (fun y => make_Codes_Word N y.2.1) (make_Codes_Word_K N) :=
 Blk.chunkAt hb 5 (X := (goK 1 [0, 3, 4] make_Codes_Word_S0 (fun y => make_Codes_Word_1 N y.1.1 y.1.2.1 y.2.1))) (NxOk.go hb (make_Codes_Word_1_b N hb)) rfl (fun x => by kernel_rfl)
def make_Codes_Word_ctr (N : Nat) : Ctr := ⟨make_Codes_Word_S2, make_Codes_Word_S1.un [false], 1, (fun y => make_Codes_Word N y.2.1)⟩
theorem make_Codes_Word_ctrs (N : Nat) : CtrsOk Try.prog (make_Codes_Word_C N) := ctrs_of (Γ := make_Codes_Word_C N) G_ifs_ok (by
 intro p hp
 simp only [make_Codes_Word_C, List.mem_cons, List.not_mem_nil, or_false] at hp
 rcases hp with rfl
 · exact make_Codes_Next_ok N)
theorem make_Codes_Word_ok (N : Nat) : Ctr.ok Try.prog G_globs 164 (make_Codes_Word_ctr N) :=
 ctr_fn (Γ := make_Codes_Word_C N) (rfit := make_Codes_Word_S1) (bs := [false]) (res := [2]) (by kernel_rfl) (tys_ok G_tys_ok) (make_Codes_Word_ctrs N) Try.func164 (by kernel_rfl) (by kernel_rfl) Try.ntmps164 (by kernel_rfl) (by kernel_rfl) (by kernel_rfl) (by kernel_rfl) (fun E hb => make_Codes_Word_b N hb)
/-! (*ipsecgate/ipsecgatemake.Codes).SpoilBox -/
abbrev make_Codes_SpoilBox_R : Type := ((D45 × Unit) × (((List UInt8) × (Int × Unit)) × Unit))
def make_Codes_SpoilBox (N : Nat) (b_1 : D45) (c_0 : ((List UInt8) × (Int × Unit))) : Option make_Codes_SpoilBox_R :=
 Option.bind (make_Codes_Next N (8 : Int) c_0) fun y1 =>
 bif (decide (y1.1.1 = (0 : Int))) then
 Option.bind (make_Codes_Next N (8 : Int) y1.2.1) fun y3 =>
 some ((((y3.1.1, b_1.1.2.1, b_1.1.2.2.1, ()), b_1.2.1, b_1.2.2.1, b_1.2.2.2.1, b_1.2.2.2.2.1, b_1.2.2.2.2.2.1, b_1.2.2.2.2.2.2.1, b_1.2.2.2.2.2.2.2.1, ()), ()), (y3.2.1, ()))
 else
 bif (decide (y1.1.1 = (1 : Int))) then
 Option.bind (make_Codes_Address N (6 : Int) y1.2.1) fun y5 =>
 some (((b_1.1, b_1.2.1, b_1.2.2.1, y5.1.1, b_1.2.2.2.2.1, b_1.2.2.2.2.2.1, b_1.2.2.2.2.2.2.1, b_1.2.2.2.2.2.2.2.1, ()), ()), (y5.2.1, ()))
 else
 bif (decide (y1.1.1 = (2 : Int))) then
 some (((b_1.2.1, b_1.1, b_1.2.2.1, b_1.2.2.2.1, b_1.2.2.2.2.1, b_1.2.2.2.2.2.1, b_1.2.2.2.2.2.2.1, b_1.2.2.2.2.2.2.2.1, ()), ()), (y1.2.1, ()))
 else
 bif (decide (y1.1.1 = (3 : Int))) then
 Option.bind (make_Codes_Int N y1.2.1) fun y8 =>
 some (((b_1.1, b_1.2.1, b_1.2.2.1, b_1.2.2.2.1, y8.1.1, b_1.2.2.2.2.2.1, b_1.2.2.2.2.2.2.1, b_1.2.2.2.2.2.2.2.1, ()), ()), (y8.2.1, ()))
 else
 bif (decide (y1.1.1 = (4 : Int))) then
 Option.bind (make_Codes_Int N y1.2.1) fun y10 =>
 some (((b_1.1, b_1.2.1, b_1.2.2.1, b_1.2.2.2.1, b_1.2.2.2.2.1, y10.1.1, b_1.2.2.2.2.2.2.1, b_1.2.2.2.2.2.2.2.1, ()), ()), (y10.2.1, ()))
 else
 bif (decide (y1.1.1 = (5 : Int))) then
 Option.bind (make_Codes_Next N (2 : Int) y1.2.1) fun y12 =>
 Option.bind (make_Codes_Int N y12.2.1) fun y13 =>
 bif inR y12.1.1 2 then
 some (((b_1.1, b_1.2.1, b_1.2.2.1, b_1.2.2.2.1, b_1.2.2.2.2.1, b_1.2.2.2.2.2.1, (b_1.2.2.2.2.2.2.1.set y12.1.1.toNat y13.1.1), b_1.2.2.2.2.2.2.2.1, ()), ()), (y13.2.1, ()))
 else none
 else
 bif (decide (y1.1.1 = (6 : Int))) then
 Option.bind (make_Codes_Next N (2 : Int) y1.2.1) fun y15 =>
 Option.bind (make_Codes_Int N y15.2.1) fun y16 =>
 bif inR y15.1.1 2 then
 some (((b_1.1, b_1.2.1, b_1.2.2.1, b_1.2.2.2.1, b_1.2.2.2.2.1, b_1.2.2.2.2.2.1, b_1.2.2.2.2.2.2.1, (b_1.2.2.2.2.2.2.2.1.set y15.1.1.toNat y16.1.1), ()), ()), (y16.2.1, ()))
 else none
 else
 Option.bind (make_Codes_Word N y1.2.1) fun y17 =>
 some (((b_1.1, b_1.2.1, (b_1.2.2.1.1, y17.1.1, b_1.2.2.1.2.2.1, ()), b_1.2.2.2.1, b_1.2.2.2.2.1, b_1.2.2.2.2.2.1, b_1.2.2.2.2.2.2.1, b_1.2.2.2.2.2.2.2.1, ()), ()), (y17.2.1, ()))
def make_Codes_SpoilBox_C (N : Nat) : Ctx := ⟨57, G_tys, [(36, make_Codes_Next_ctr N), (55, make_Codes_Address_ctr N), (54, make_Codes_Int_ctr N), (164, make_Codes_Word_ctr N)], G_globs, G_ifs⟩
def make_Codes_SpoilBox_S0 : Spec := ⟨[.ref 0 (.pair (.sl .u8) (.pair .i64 .unit)), .val T45], [(.box 113 (.pair (.sl .u8) (.pair .i64 .unit)), .pos 0)]⟩
def make_Codes_SpoilBox_S1 : Spec := ⟨[.fp T45], [(.box 113 (.pair (.sl .u8) (.pair .i64 .unit)), .fix 0)]⟩
def make_Codes_SpoilBox_K (_N : Nat) : XE → GS → Option make_Codes_SpoilBox_R := retK 1 [4] [true] make_Codes_SpoilBox_S1
def make_Codes_SpoilBox_L : List Code := (bodyOf (some Try.f138))
theorem make_Codes_SpoilBox_b {E : Env} (N : Nat) (hb : Base Try.prog (make_Codes_SpoilBox_C N) E 1) : Blk Try.prog (make_Codes_SpoilBox_C N) E (List.range make_Codes_SpoilBox_S0.ks.length) make_Codes_SpoilBox_S0 (make_Codes_SpoilBox_L.drop 0) (fun y => make_Codes_SpoilBox N y.1.1 y.2.1) (make_Codes_SpoilBox_K N) :=
 Blk.chunkAt hb 5 (X := (make_Codes_SpoilBox_K N .normal)) (NxOk.end (by kernel_rfl)) rfl (fun x => by kernel_rfl)
def make_Codes_SpoilBox_ctr (N : Nat) : Ctr := ⟨make_Codes_SpoilBox_S0, make_Codes_SpoilBox_S1.un [true], 1, (fun y => make_Codes_SpoilBox N y.1.1 y.2.1)⟩
theorem make_Codes_SpoilBox_ctrs (N : Nat) : CtrsOk Try.prog (make_Codes_SpoilBox_C N) := ctrs_of (Γ := make_Codes_SpoilBox_C N) G_ifs_ok (by
 intro p hp
 simp only [make_Codes_SpoilBox_C, List.mem_cons, List.not_mem_nil, or_false] at hp
 rcases hp with rfl | rfl | rfl | rfl
 · exact make_Codes_Next_ok N
 · exact make_Codes_Address_ok N
 · exact make_Codes_Int_ok N
 · exact make_Codes_Word_ok N)
theorem make_Codes_SpoilBox_ok (N : Nat) : Ctr.ok Try.prog G_globs 138 (make_Codes_SpoilBox_ctr N) :=
 ctr_fn (Γ := make_Codes_SpoilBox_C N) (rfit := make_Codes_SpoilBox_S1) (bs := [true]) (res := [4]) (by kernel_rfl) (tys_ok G_tys_ok) (make_Codes_SpoilBox_ctrs N) Try.func138 (by kernel_rfl) (by kernel_rfl) Try.ntmps138 (by kernel_rfl) (by kernel_rfl) (by kernel_rfl) (by kernel_rfl) (fun E hb => make_Codes_SpoilBox_b N hb)
/-! (*ipsecgate/ipsecgatemake.Codes).SpoilRules -/
abbrev make_Codes_SpoilRules_R : Type := ((Unit) × (((List UInt8) × (Int × Unit)) × (List D59) × Unit))
def make_Codes_SpoilRules_6 (N : Nat) (i_5 : Int) (p0 : ((List UInt8) × (Int × Unit))) (l_1 : (List D59)) : Option make_Codes_SpoilRules_R :=
 Option.bind (make_Codes_Int N p0) fun y8 =>
 bif inR i_5 l_1.length then
 some ((()), (y8.2.1, (l_1.set i_5.toNat (y8.1.1, (l_1.getD i_5.toNat ((0 : Int), ([] : List UInt8), ([] : List D45), ())).2.1, (l_1.getD i_5.toNat ((0 : Int), ([] : List UInt8), ([] : List D45), ())).2.2.1, ())), ()))
 else none
def make_Codes_SpoilRules_10 (N : Nat) (i_5 : Int) (p0 : ((List UInt8) × (Int × Unit))) (l_1 : (List D59)) : Option make_Codes_SpoilRules_R :=
 Option.bind (make_Codes_Next N (4 : Int) p0) fun y11 =>
 bif inR y11.1.1 (([([] : List UInt8), ([103, 111, 108, 100] : List UInt8), ([97, 32, 98] : List UInt8), ([97, 98, 99, 100, 101, 102, 103, 104, 105, 106, 107, 108, 109, 110, 111, 112, 113] : List UInt8)] : List (List UInt8)).length) then
 bif inR i_5 l_1.length then
 some ((()), (y11.2.1, (l_1.set i_5.toNat ((l_1.getD i_5.toNat ((0 : Int), ([] : List UInt8), ([] : List D45), ())).1, (([([] : List UInt8), ([103, 111, 108, 100] : List UInt8), ([97, 32, 98] : List UInt8), ([97, 98, 99, 100, 101, 102, 103, 104, 105, 106, 107, 108, 109, 110, 111, 112, 113] : List UInt8)] : List (List UInt8)).getD y11.1.1.toNat ([] : List UInt8)), (l_1.getD i_5.toNat ((0 : Int), ([] : List UInt8), ([] : List D45), ())).2.2.1, ())), ()))
 else none
 else none
def make_Codes_SpoilRules_14 (N : Nat) (i_5 : Int) (p0 : ((List UInt8) × (Int × Unit))) (l_1 : (List D59)) : Option make_Codes_SpoilRules_R :=
 bif inR i_5 l_1.length then
 some ((()), (p0, (l_1.set i_5.toNat ((l_1.getD i_5.toNat ((0 : Int), ([] : List UInt8), ([] : List D45), ())).1, (l_1.getD i_5.toNat ((0 : Int), ([] : List UInt8), ([] : List D45), ())).2.1, ([] : List D45), ())), ()))
 else none
def make_Codes_SpoilRules_s19 (N : Nat) (i_5 : Int) (p0 : ((List UInt8) × (Int × Unit))) (l_1 : (List D59)) : Option (Lo ((Int × Unit) × (((List UInt8) × (Int × Unit)) × (List D59) × Unit)) ((Unit) × (((List UInt8) × (Int × Unit)) × (List D59) × Unit)) make_Codes_SpoilRules_R) :=
 bif (decide ((l_1.length : Int) ≤ (24 : Int))) then
 bif inR i_5 l_1.length then
 let x19 := (l_1.getD i_5.toNat ((0 : Int), ([] : List UInt8), ([] : List D45), ()))
 bif room (l_1.length + ([x19] : List D59).length) 48 then
 some (.go ((i_5, ()), (p0, (l_1 ++ ([x19] : List D59)), ())))
 else none
 else none
 else
 some (.br ((()), (p0, l_1, ())))
def make_Codes_SpoilRules_18 (N : Nat) (i_5 : Int) (p0 : ((List UInt8) × (Int × Unit))) (l_1 : (List D59)) : Option make_Codes_SpoilRules_R :=
 loopK N (fun y => make_Codes_SpoilRules_s19 N y.1.1 y.2.1 y.2.2.1) (fun (e : ((Unit) × (((List UInt8) × (Int × Unit)) × (List D59) × Unit))) => some ((()), (e.2.1, e.2.2.1, ()))) ((i_5, ()), (p0, l_1, ()))
def make_Codes_SpoilRules_20 (N : Nat) (i_5 : Int) (p0 : ((List UInt8) × (Int × Unit))) (l_1 : (List D59)) : Option make_Codes_SpoilRules_R :=
 bif inR i_5 l_1.length then
 bif (decide ((((l_1.getD i_5.toNat ((0 : Int), ([] : List UInt8), ([] : List D45), ())).2.2.1).length : Int) = (0 : Int))) then
 some ((()), (p0, l_1, ()))
 else
 bif inR i_5 l_1.length then
 let x24 := (l_1.getD i_5.toNat ((0 : Int), ([] : List UInt8), ([] : List D45), ())).2.2.1
 bif room (0 + x24.length) 144 then
 bif inR i_5 l_1.length then
 bif inR i_5 l_1.length then
 bif Nat.beq i_5.toNat i_5.toNat then
 Option.bind (make_Codes_Next N (x24.length : Int) p0) fun y26 =>
 bif inR i_5 l_1.length then
 bif Nat.beq i_5.toNat i_5.toNat then
 bif inR i_5 l_1.length then
 bif Nat.beq i_5.toNat i_5.toNat then
 bif inR y26.1.1 x24.length then
 Option.bind (make_Codes_SpoilBox N (x24.getD y26.1.1.toNat (((0 : Int), (0 : UInt64), (0 : UInt64), ()), ((0 : Int), (0 : UInt64), (0 : UInt64), ()), ((0 : Int), (0 : UInt64), (0 : UInt64), ()), ((0 : Int), (0 : UInt64), (0 : UInt64), ()), (0 : Int), (0 : Int), (List.replicate 2 (0 : Int)), (List.replicate 2 (0 : Int)), ())) y26.2.1) fun y28 =>
 bif inR y26.1.1 x24.length then
 some ((()), (y28.2.1, (l_1.set i_5.toNat ((l_1.getD i_5.toNat ((0 : Int), ([] : List UInt8), ([] : List D45), ())).1, (l_1.getD i_5.toNat ((0 : Int), ([] : List UInt8), ([] : List D45), ())).2.1, (x24.set y26.1.1.toNat y28.1.1), ())), ()))
 else none
 else none
 else none
 else none
 else none
 else none
 else none
 else none
 else none
 else none
 else none
 else none
def make_Codes_SpoilRules_16 (N : Nat) (i_5 : Int) (t_90 : Bool) (p0 : ((List UInt8) × (Int × Unit))) (l_1 : (List D59)) : Option make_Codes_SpoilRules_R :=
 bif t_90 then
 make_Codes_SpoilRules_18 N i_5 p0 l_1
 else
 make_Codes_SpoilRules_20 N i_5 p0 l_1
def make_Codes_SpoilRules_15 (N : Nat) (i_5 : Int) (t_21 : Int) (p0 : ((List UInt8) × (Int × Unit))) (l_1 : (List D59)) : Option make_Codes_SpoilRules_R :=
 make_Codes_SpoilRules_16 N i_5 (decide (t_21 = (3 : Int))) p0 l_1
def make_Codes_SpoilRules_12 (N : Nat) (i_5 : Int) (t_21 : Int) (t_84 : Bool) (p0 : ((List UInt8) × (Int × Unit))) (l_1 : (List D59)) : Option make_Codes_SpoilRules_R :=
 bif t_84 then
 make_Codes_SpoilRules_14 N i_5 p0 l_1
 else
 make_Codes_SpoilRules_15 N i_5 t_21 p0 l_1
def make_Codes_SpoilRules_11 (N : Nat) (i_5 : Int) (t_21 : Int) (p0 : ((List UInt8) × (Int × Unit))) (l_1 : (List D59)) : Option make_Codes_SpoilRules_R :=
 make_Codes_SpoilRules_12 N i_5 t_21 (decide (t_21 = (2 : Int))) p0 l_1
def make_Codes_SpoilRules_8 (N : Nat) (i_5 : Int) (t_21 : Int) (t_73 : Bool) (p0 : ((List UInt8) × (Int × Unit))) (l_1 : (List D59)) : Option make_Codes_SpoilRules_R :=
 bif t_73 then
 make_Codes_SpoilRules_10 N i_5 p0 l_1
 else
 make_Codes_SpoilRules_11 N i_5 t_21 p0 l_1
def make_Codes_SpoilRules_7 (N : Nat) (i_5 : Int) (t_21 : Int) (p0 : ((List UInt8) × (Int × Unit))) (l_1 : (List D59)) : Option make_Codes_SpoilRules_R :=
 make_Codes_SpoilRules_8 N i_5 t_21 (decide (t_21 = (1 : Int))) p0 l_1
def make_Codes_SpoilRules_4 (N : Nat) (i_5 : Int) (t_21 : Int) (t_65 : Bool) (p0 : ((List UInt8) × (Int × Unit))) (l_1 : (List D59)) : Option make_Codes_SpoilRules_R :=
 bif t_65 then
 make_Codes_SpoilRules_6 N i_5 p0 l_1
 else
 make_Codes_SpoilRules_7 N i_5 t_21 p0 l_1
def make_Codes_SpoilRules_3 (N : Nat) (i_5 : Int) (t_21 : Int) (p0 : ((List UInt8) × (Int × Unit))) (l_1 : (List D59)) : Option make_Codes_SpoilRules_R :=
 make_Codes_SpoilRules_4 N i_5 t_21 (decide (t_21 = (0 : Int))) p0 l_1
def make_Codes_SpoilRules_1 (N : Nat) (i_5 : Int) (t_21 : Int) (p0 : ((List UInt8) × (Int × Unit))) (l_1 : (List D59)) : Option make_Codes_SpoilRules_R :=
 make_Codes_SpoilRules_3 N i_5 t_21 p0 l_1
def make_Codes_SpoilRules (N : Nat) (l_1 : (List D59)) (c_0 : ((List UInt8) × (Int × Unit))) : Option make_Codes_SpoilRules_R :=
 bif room (0 + l_1.length) 48 then
 bif (decide ((l_1.length : Int) = (0 : Int))) then
 bif room (l_1.length + ([((0 : Int), ([] : List UInt8), ([] : List D45), ())] : List D59).length) 48 then
 some ((()), (c_0, (l_1 ++ ([((0 : Int), ([] : List UInt8), ([] : List D45), ())] : List D59)), ()))
 else none
 else
 Option.bind (make_Codes_Next N (l_1.length : Int) c_0) fun y5 =>
 Option.bind (make_Codes_Next N (5 : Int) y5.2.1) fun y6 =>
 make_Codes_SpoilRules_1 N y5.1.1 y6.1.1 y6.2.1 l_1
 else none
def make_Codes_SpoilRules_C (N : Nat) : Ctx := ⟨103, G_tys, [(36, make_Codes_Next_ctr N), (54, make_Codes_Int_ctr N), (138, make_Codes_SpoilBox_ctr N)], G_globs, ⟨G_ifs.emp, G_ifs.mets, [4, 39], G_ifs.nat⟩⟩
def make_Codes_SpoilRules_S0 : Spec := ⟨[.ref 0 (.pair (.sl .u8) (.pair .i64 .unit)), .row 1, .val .i64], [(.box 113 (.pair (.sl .u8) (.pair .i64 .unit)), .fix 0), (.row 60 T59, .pos 1)]⟩
def make_Codes_SpoilRules_S1 : Spec := ⟨[.row 1, .val .i64], [(.box 113 (.pair (.sl .u8) (.pair .i64 .unit)), .fix 0), (.row 60 T59, .pos 0)]⟩
def make_Codes_SpoilRules_S2 : Spec := ⟨[.row 1], [(.box 113 (.pair (.sl .u8) (.pair .i64 .unit)), .fix 0), (.row 60 T59, .pos 0)]⟩
def make_Codes_SpoilRules_S3 : Spec := ⟨[.ref 0 (.pair (.sl .u8) (.pair .i64 .unit)), .row 1, .val .i64, .val .bool], [(.box 113 (.pair (.sl .u8) (.pair .i64 .unit)), .fix 0), (.row 60 T59, .pos 1)]⟩
def make_Codes_SpoilRules_S4 : Spec := ⟨[.ref 0 (.pair (.sl .u8) (.pair .i64 .unit)), .row 1, .val .i64, .val .i64], [(.box 113 (.pair (.sl .u8) (.pair .i64 .unit)), .fix 0), (.row 60 T59, .pos 1)]⟩
def make_Codes_SpoilRules_S5 : Spec := ⟨[.ref 0 (.pair (.sl .u8) (.pair .i64 .unit)), .row 1, .val .i64, .val .i64, .val .bool], [(.box 113 (.pair (.sl .u8) (.pair .i64 .unit)), .fix 0), (.row 60 T59, .pos 1)]⟩
def make_Codes_SpoilRules_S6 : Spec := ⟨[.ref 0 (.pair (.sl .u8) (.pair .i64 .unit)), .val (.sl T59)], [(.box 113 (.pair (.sl .u8) (.pair .i64 .unit)), .pos 0)]⟩
def make_Codes_SpoilRules_K (_N : Nat) : XE → GS → Option make_Codes_SpoilRules_R := retK 1 [4] [false] make_Codes_SpoilRules_S2
def make_Codes_SpoilRules_L : List Code := (bodyOf (some Try.f68))
def make_Codes_SpoilRules_L2b : List Code := (blockOf (make_Codes_SpoilRules_L[6]?))
def make_Codes_SpoilRules_L5t : List Code := (thenOf (make_Codes_SpoilRules_L2b[1]?))
def make_Codes_SpoilRules_L5e : List Code := (elseOf (make_Codes_SpoilRules_L2b[1]?))
def make_Codes_SpoilRules_L9t : List Code := (thenOf (make_Codes_SpoilRules_L5e[1]?))
def make_Codes_SpoilRules_L9e : List Code := (elseOf (make_Codes_SpoilRules_L5e[1]?))
def make_Codes_SpoilRules_L13t : List Code := (thenOf (make_Codes_SpoilRules_L9e[1]?))
def make_Codes_SpoilRules_L13e : List Code := (elseOf (make_Codes_SpoilRules_L9e[1]?))
def make_Codes_SpoilRules_L17t : List Code := (thenOf (make_Codes_SpoilRules_L13e[1]?))
def make_Codes_SpoilRules_L19 : List Code := (loopOf (make_Codes_SpoilRules_L17t[0]?))
def make_Codes_SpoilRules_L17e : List Code := (elseOf (make_Codes_SpoilRules_L13e[1]?))
def make_Codes_SpoilRules_K2 (N : Nat) : XE → GS → Option make_Codes_SpoilRules_R := blockK 0 (fun s => listK (make_Codes_SpoilRules_C N) (make_Codes_SpoilRules_L.drop 7) s (make_Codes_SpoilRules_K N)) (make_Codes_SpoilRules_K N)
def make_Codes_SpoilRules_K5 (N : Nat) : XE → GS → Option make_Codes_SpoilRules_R := nextK (make_Codes_SpoilRules_K2 N .normal) (make_Codes_SpoilRules_K2 N)
def make_Codes_SpoilRules_K9 (N : Nat) : XE → GS → Option make_Codes_SpoilRules_R := nextK (make_Codes_SpoilRules_K5 N .normal) (make_Codes_SpoilRules_K5 N)
def make_Codes_SpoilRules_K13 (N : Nat) : XE → GS → Option make_Codes_SpoilRules_R := nextK (make_Codes_SpoilRules_K9 N .normal) (make_Codes_SpoilRules_K9 N)
def make_Codes_SpoilRules_K17 (N : Nat) : XE → GS → Option make_Codes_SpoilRules_R := nextK (make_Codes_SpoilRules_K13 N .normal) (make_Codes_SpoilRules_K13 N)
def make_Codes_SpoilRules_K19 (N : Nat) : XE → GS → Option (Lo ((Int × Unit) × (((List UInt8) × (Int × Unit)) × (List D59) × Unit)) ((Unit) × (((List UInt8) × (Int × Unit)) × (List D59) × Unit)) make_Codes_SpoilRules_R) := roundK (some 1) (fit 1 [1, 5] make_Codes_SpoilRules_S1) (fit 1 [1] make_Codes_SpoilRules_S2) (make_Codes_SpoilRules_K17 N)
theorem make_Codes_SpoilRules_6_b {E : Env} (N : Nat) (hb : Base Try.prog (make_Codes_SpoilRules_C N) E 1) : Blk Try.prog (make_Codes_SpoilRules_C N) E [0, 1, 5] make_Codes_SpoilRules_S0 (make_Codes_SpoilRules_L5t.drop 0) (fun y => make_Codes_SpoilRules_6 N y.1.1 y.2.1 y.2.2.1) (make_Codes_SpoilRules_K5 N) :=
 Blk.chunkAt hb 1 (X := (make_Codes_SpoilRules_K5 N .normal)) (NxOk.end (by kernel_rfl)) rfl (fun x => by kernel_rfl)
theorem make_Codes_SpoilRules_10_b {E : Env} (N : Nat) (hb : Base Try.prog (make_Codes_SpoilRules_C N) E 1) : Blk Try.prog (make_Codes_SpoilRules_C N) E [0, 1, 5] make_Codes_SpoilRules_S0 (make_Codes_SpoilRules_L9t.drop 0) (fun y => make_Codes_SpoilRules_10 N y.1.1 y.2.1 y.2.2.1) (make_Codes_SpoilRules_K9 N) :=
 Blk.chunkAt hb 1 (X := (make_Codes_SpoilRules_K9 N .normal)) (NxOk.end (by kernel_rfl)) rfl (fun x => by kernel_rfl)
theorem make_Codes_SpoilRules_14_b {E : Env} (N : Nat) (hb : Base Try.prog (make_Codes_SpoilRules_C N) E 1) : Blk Try.prog (make_Codes_SpoilRules_C N) E [1, 5] make_Codes_SpoilRules_S1 (make_Codes_SpoilRules_L13t.drop 0) (fun y => make_Codes_SpoilRules_14 N y.1.1 y.2.1 y.2.2.1) (make_Codes_SpoilRules_K13 N) :=
 Blk.chunkAt hb 1 (X := (make_Codes_SpoilRules_K13 N .normal)) (NxOk.end (by kernel_rfl)) rfl (fun x => by kernel_rfl)
theorem make_Codes_SpoilRules_s19_b {E : Env} (N : Nat) (hb : Base Try.prog (make_Codes_SpoilRules_C N) E 1) : Blk Try.prog (make_Codes_SpoilRules_C N) E [1, 5] make_Codes_SpoilRules_S1 (make_Codes_SpoilRules_L19.drop 0) (fun y => make_Codes_SpoilRules_s19 N y.1.1 y.2.1 y.2.2.1) (make_Codes_SpoilRules_K19 N) :=
 Blk.chunkAt hb 3 (X := (make_Codes_SpoilRules_K19 N .normal)) (NxOk.end (by kernel_rfl)) rfl (fun x => by kernel_rfl)
theorem make_Codes_SpoilRules_18_b {E : Env} (N : Nat) (hb : Base Try.prog (make_Codes_SpoilRules_C N) E 1) : Blk Try.prog (make_Codes_SpoilRules_C N) E [1, 5] make_Codes_SpoilRules_S1 (make_Codes_SpoilRules_L17t.drop 0) (fun y => make_Codes_SpoilRules_18 N y.1.1 y.2.1 y.2.2.1) (make_Codes_SpoilRules_K17 N) :=
 Blk.loopAt (Nf := N) (hns := [1, 5]) (ans := [1]) (hc := make_Codes_SpoilRules_S1) (ac := make_Codes_SpoilRules_S2) (bid := 1) (step := (fun y => make_Codes_SpoilRules_s19 N y.1.1 y.2.1 y.2.2.1)) (J := (fun e => (make_Codes_SpoilRules_K17 N .normal) (make_Codes_SpoilRules_S2.st [1] e))) hb (by kernel_rfl) (Blk.into (X := (make_Codes_SpoilRules_K17 N .normal)) (NxOk.end (by kernel_rfl)) (fun x => by kernel_rfl)) (make_Codes_SpoilRules_s19_b N hb) (fun x => by kernel_rfl)
theorem make_Codes_SpoilRules_20_b {E : Env} (N : Nat) (hb : Base Try.prog (make_Codes_SpoilRules_C N) E 1) : Blk Try.prog (make_Codes_SpoilRules_C N) E [0, 1, 5] make_Codes_SpoilRules_S0 (make_Codes_SpoilRules_L17e.drop 0) (fun y => make_Codes_SpoilRules_20 N y.1.1 y.2.1 y.2.2.1) (make_Codes_SpoilRules_K17 N) :=
 Blk.chunkAt hb 5 (X := (make_Codes_SpoilRules_K17 N .normal)) (NxOk.end (by kernel_rfl)) rfl (fun x => by kernel_rfl)
theorem make_Codes_SpoilRules_16_b {E : Env} (N : Nat) (hb : Base Try.prog (make_Codes_SpoilRules_C N) E 1) : Blk Try.prog (make_Codes_SpoilRules_C N) E [0, 1, 5, 90] make_Codes_SpoilRules_S3 (make_Codes_SpoilRules_L13e.drop 1) (fun y => make_Codes_SpoilRules_16 N y.1.1 y.1.2.1 y.2.1 y.2.2.1) (make_Codes_SpoilRules_K13 N) :=
 Blk.condAt (n := 90) (X := (make_Codes_SpoilRules_K13 N .normal)) (A := (goK 1 [1, 5] make_Codes_SpoilRules_S1 (fun y => make_Codes_SpoilRules_18 N y.1.1 y.2.1 y.2.2.1))) (B := (goK 1 [0, 1, 5] make_Codes_SpoilRules_S0 (fun y => make_Codes_SpoilRules_20 N y.1.1 y.2.1 y.2.2.1))) (by kernel_rfl) (NxOk.end (by kernel_rfl)) (NxOk.go hb (make_Codes_SpoilRules_18_b N hb)) (NxOk.go hb (make_Codes_SpoilRules_20_b N hb)) (fun x => by kernel_rfl)
theorem make_Codes_SpoilRules_15_b {E : Env} (N : Nat) (hb : Base Try.prog (make_Codes_SpoilRules_C N) E 1) : Blk Try.prog (make_Codes_SpoilRules_C N) E [0, 1, 5, 21] make_Codes_SpoilRules_S4 (make_Codes_SpoilRules_L13e.drop 0) (fun y => make_Codes_SpoilRules_15 N y.1.1 y.1.2.1 y.2.1 y.2.2.1) (make_Codes_SpoilRules_K13 N) :=
 Blk.chunkAt hb 1 (X := (goK 1 [0, 1, 5, 90] make_Codes_SpoilRules_S3 (fun y => make_Codes_SpoilRules_16 N y.1.1 y.1.2.1 y.2.1 y.2.2.1))) (NxOk.go hb (make_Codes_SpoilRules_16_b N hb)) rfl (fun x => by kernel_rfl)
theorem make_Codes_SpoilRules_12_b {E : Env} (N : Nat) (hb : Base Try.prog (make_Codes_SpoilRules_C N) E 1) : Blk Try.prog (make_Codes_SpoilRules_C N) E [0, 1, 5, 21, 84] make_Codes_SpoilRules_S5 (make_Codes_SpoilRules_L9e.drop 1) (fun y => make_Codes_SpoilRules_12 N y.1.1 y.1.2.1 y.1.2.2.1 y.2.1 y.2.2.1) (make_Codes_SpoilRules_K9 N) :=
 Blk.condAt (n := 84) (X := (make_Codes_SpoilRules_K9 N .normal)) (A := (goK 1 [1, 5] make_Codes_SpoilRules_S1 (fun y => make_Codes_SpoilRules_14 N y.1.1 y.2.1 y.2.2.1))) (B := (goK 1 [0, 1, 5, 21] make_Codes_SpoilRules_S4 (fun y => make_Codes_SpoilRules_15 N y.1.1 y.1.2.1 y.2.1 y.2.2.1))) (by kernel_rfl) (NxOk.end (by kernel_rfl)) (NxOk.go hb (make_Codes_SpoilRules_14_b N hb)) (NxOk.go hb (make_Codes_SpoilRules_15_b N hb)) (fun x => by kernel_rfl)
theorem make_Codes_SpoilRules_11_b {E : Env} (N : Nat) (hb : Base Try.prog (make_Codes_SpoilRules_C N) E 1) : Blk Try.prog (make_Codes_SpoilRules_C N) E [0, 1, 5, 21] make_Codes_SpoilRules_S4 (make_Codes_SpoilRules_L9e.drop 0) (fun y => make_Codes_SpoilRules_11 N y.1.1 y.1.2.1 y.2.1 y.2.2.1) (make_Codes_SpoilRules_K9 N) :=
 Blk.chunkAt hb 1 (X := (goK 1 [0, 1, 5, 21, 84] make_Codes_SpoilRules_S5 (fun y => make_Codes_SpoilRules_12 N y.1.1 y.1.2.1 y.1.2.2.1 y.2.1 y.2.2.1))) (NxOk.go hb (make_Codes_SpoilRules_12_b N hb)) rfl (fun x => by kernel_rfl)
theorem make_Codes_SpoilRules_8_b {E : Env} (N : Nat) (hb : Base Try.prog (make_Codes_SpoilRules_C N) E 1) : Blk Try.prog (make_Codes_SpoilRules_C N) E [0, 1, 5, 21, 73] make_Codes_SpoilRules_S5 (make_Codes_SpoilRules_L5e.drop 1) (fun y => make_Codes_SpoilRules_8 N y.1.1 y.1.2.1 y.1.2.2.1 y.2.1 y.2.2.1) (make_Codes_SpoilRules_K5 N) :=
 Blk.condAt (n := 73) (X := (make_Codes_SpoilRules_K5 N .normal)) (A := (goK 1 [0, 1, 5] make_Codes_SpoilRules_S0 (fun y => make_Codes_SpoilRules_10 N y.1.1 y.2.1 y.2.2.1))) (B := (goK 1 [0, 1, 5, 21] make_Codes_SpoilRules_S4 (fun y => make_Codes_SpoilRules_11 N y.1.1 y.1.2.1 y.2.1 y.2.2.1))) (by kernel_rfl) (NxOk.end (by kernel_rfl)) (NxOk.go hb (make_Codes_SpoilRules_10_b N hb)) (NxOk.go hb (make_Codes_SpoilRules_11_b N hb)) (fun x => by kernel_rfl)
theorem make_Codes_SpoilRules_7_b {E : Env} (N : Nat) (hb : Base Try.prog (make_Codes_SpoilRules_C N) E 1) : Blk Try.prog (make_Codes_SpoilRules_C N) E [0, 1, 5, 21] make_Codes_SpoilRules_S4 (make_Codes_SpoilRules_L5e.drop 0) (fun y => make_Codes_SpoilRules_7 N y.1.1 y.1.2.1 y.2.1 y.2.2.1) (make_Codes_SpoilRules_K5 N) :=
 Blk.chunkAt hb 1 (X := (goK 1 [0, 1, 5, 21, 73] make_Codes_SpoilRules_S5 (fun y => make_Codes_SpoilRules_8 N y.1.1 y.1.2.1 y.1.2.2.1 y.2.1 y.2.2.1))) (NxOk.go hb (make_Codes_SpoilRules_8_b N hb)) rfl (fun x => by kernel_rfl)
theorem make_Codes_SpoilRules_4_b {E : Env} (N : Nat) (hb : Base Try.prog (make_Codes_SpoilRules_C N) E 1) : Blk Try.prog (make_Codes_SpoilRules_C N) E [0, 1, 5, 21, 65] make_Codes_SpoilRules_S5 (make_Codes_SpoilRules_L2b.drop 1) (fun y => make_Codes_SpoilRules_4 N y.1.1 y.1.2.1 y.1.2.2.1 y.2.1 y.2.2.1) (make_Codes_SpoilRules_K2 N) :=
 Blk.condAt (n := 65) (X := (make_Codes_SpoilRules_K2 N .normal)) (A := (goK 1 [0, 1, 5] make_Codes_SpoilRules_S0 (fun y => make_Codes_SpoilRules_6 N y.1.1 y.2.1 y.2.2.1))) (B := (goK 1 [0, 1, 5, 21] make_Codes_SpoilRules_S4 (fun y => make_Codes_SpoilRules_7 N y.1.1 y.1.2.1 y.2.1 y.2.2.1))) (by kernel_rfl) (NxOk.end (by kernel_rfl)) (NxOk.go hb (make_Codes_SpoilRules_6_b N hb)) (NxOk.go hb (make_Codes_SpoilRules_7_b N hb)) (fun x => by kernel_rfl)
theorem make_Codes_SpoilRules_3_b {E : Env} (N : Nat) (hb : Base Try.prog (make_Codes_SpoilRules_C N) E 1) : Blk Try.prog (make_Codes_SpoilRules_C N) E [0, 1, 5, 21] make_Codes_SpoilRules_S4 (make_Codes_SpoilRules_L2b.drop 0) (fun y => make_Codes_SpoilRules_3 N y.1.1 y.1.2.1 y.2.1 y.2.2.1) (make_Codes_SpoilRules_K2 N) :=
 Blk.chunkAt hb 1 (X := (goK 1 [0, 1, 5, 21, 65] make_Codes_SpoilRules_S5 (fun y => make_Codes_SpoilRules_4 N y.1.1 y.1.2.1 y.1.2.2.1 y.2.1 y.2.2.1))) (NxOk.go hb (make_Codes_SpoilRules_4_b N hb)) rfl (fun x => by kernel_rfl)
theorem make_Codes_SpoilRules_1_b {E : Env} (N : Nat) (hb : Base Try.prog (make_Codes_SpoilRules_C N) E 1) : Blk Try.prog (make_Codes_SpoilRules_C N) E [0, 1, 5, 21] make_Codes_SpoilRules_S4 (make_Codes_SpoilRules_L.drop 6) (fun y => make_Codes_SpoilRules_1 N y.1.1 y.1.2.1 y.2.1 y.2.2.1) (make_Codes_SpoilRules_K N) :=
 Blk.blockAt (bid := 0) (X := (fun s => listK (make_Codes_SpoilRules_C N) (make_Codes_SpoilRules_L.drop 7) s (make_Codes_SpoilRules_K N))) (Y := (goK 1 [0, 1, 5, 21] make_Codes_SpoilRules_S4 (fun y => make_Codes_SpoilRules_3 N y.1.1 y.1.2.1 y.2.1 y.2.2.1))) (by kernel_rfl) (NxOk.raw hb) (NxOk.go hb (make_Codes_SpoilRules_3_b N hb)) (fun x => by kernel_rfl)
theorem make_Codes_SpoilRules_b {E : Env} (N : Nat) (hb : Base Try.prog (make_Codes_SpoilRules_C N) E 1) : Blk Try.prog (make_Codes_SpoilRules_C N) E (List.range make_Codes_SpoilRules_S6.ks.length) make_Codes_SpoilRules_S6 (make_Codes_SpoilRules_L.drop 0) (fun y => make_Codes_SpoilRules N y.1.1 y.2.1) (make_Codes_SpoilRules_K N) :=
 Blk.chunkAt hb 6 (X := (goK 1 [0, 1, 5, 21] make_Codes_SpoilRules_S4 (fun y => make_Codes_SpoilRules_1 N y.1.1 y.1.2.1 y.2.1 y.2.2.1))) (NxOk.go hb (make_Codes_SpoilRules_1_b N hb)) rfl (fun x => by kernel_rfl)
def make_Codes_SpoilRules_ctr (N : Nat) : Ctr := ⟨make_Codes_SpoilRules_S6, make_Codes_SpoilRules_S2.un [false], 1, (fun y => make_Codes_SpoilRules N y.1.1 y.2.1)⟩
theorem make_Codes_SpoilRules_ctrs (N : Nat) : CtrsOk Try.prog (make_Codes_SpoilRules_C N) := ctrs_of (Γ := make_Codes_SpoilRules_C N) G_ifs_ok (by
 intro p hp
 simp only [make_Codes_SpoilRules_C, List.mem_cons, List.not_mem_nil, or_false] at hp
 rcases hp with rfl | rfl | rfl
 · exact make_Codes_Next_ok N
 · exact make_Codes_Int_ok N
 · exact make_Codes_SpoilBox_ok N)
theorem make_Codes_SpoilRules_ok (N : Nat) : Ctr.ok Try.prog G_globs 68 (make_Codes_SpoilRules_ctr N) :=
 ctr_fn (Γ := make_Codes_SpoilRules_C N) (rfit := make_Codes_SpoilRules_S2) (bs := [false]) (res := [4]) (by kernel_rfl) (tys_ok G_tys_ok) (make_Codes_SpoilRules_ctrs N) Try.func68 (by kernel_rfl) (by kernel_rfl) Try.ntmps68 (by kernel_rfl) (by kernel_rfl) (by kernel_rfl) (by kernel_rfl) (fun E hb => make_Codes_SpoilRules_b N hb)
/-! ipsecgate/policy.named -/
abbrev policy_named_R : Type := ((Bool × Unit) × (Unit))
def policy_named_s2 (N : Nat) (s_0 : (List UInt8)) (t_6 : (List UInt8)) (t_7 : Int) (t_8 : Int) : Option (Lo (((List UInt8) × (List UInt8) × Int × Int × Unit) × (Unit)) (((List UInt8) × Unit) × (Unit)) policy_named_R) :=
 bif (decide (t_8 < t_7)) then
 bif inR t_8 t_6.length then
 let x3 := t_6.getD t_8.toNat (0 : UInt8)
 bif (decide ((48 : UInt8) ≤ x3)) then
 bif (decide (x3 ≤ (57 : UInt8))) then
 some (.go ((s_0, t_6, t_7, (w64 (t_8 + (1 : Int))), ()), (())))
 else
 bif (decide ((97 : UInt8) ≤ x3)) then
 bif (decide (x3 ≤ (122 : UInt8))) then
 some (.go ((s_0, t_6, t_7, (w64 (t_8 + (1 : Int))), ()), (())))
 else
 bif (decide ((65 : UInt8) ≤ x3)) then
 bif !(decide (x3 ≤ (90 : UInt8))) then
 some (.rt ((false, ()), (())))
 else
 some (.go ((s_0, t_6, t_7, (w64 (t_8 + (1 : Int))), ()), (())))
 else
 some (.rt ((false, ()), (())))
 else
 bif (decide ((65 : UInt8) ≤ x3)) then
 bif !(decide (x3 ≤ (90 : UInt8))) then
 some (.rt ((false, ()), (())))
 else
 some (.go ((s_0, t_6, t_7, (w64 (t_8 + (1 : Int))), ()), (())))
 else
 some (.rt ((false, ()), (())))
 else
 bif (decide ((97 : UInt8) ≤ x3)) then
 bif (decide (x3 ≤ (122 : UInt8))) then
 some (.go ((s_0, t_6, t_7, (w64 (t_8 + (1 : Int))), ()), (())))
 else
 bif (decide ((65 : UInt8) ≤ x3)) then
 bif !(decide (x3 ≤ (90 : UInt8))) then
 some (.rt ((false, ()), (())))
 else
 some (.go ((s_0, t_6, t_7, (w64 (t_8 + (1 : Int))), ()), (())))
 else
 some (.rt ((false, ()), (())))
 else
 bif (decide ((65 : UInt8) ≤ x3)) then
 bif !(decide (x3 ≤ (90 : UInt8))) then
 some (.rt ((false, ()), (())))
 else
 some (.go ((s_0, t_6, t_7, (w64 (t_8 + (1 : Int))), ()), (())))
 else
 some (.rt ((false, ()), (())))
 else none
 else
 some (.br ((s_0, ()), (())))
def policy_named_3 (N : Nat) (s_0 : (List UInt8)) : Option policy_named_R :=
 bif (decide ((1 : Int) ≤ (s_0.length : Int))) then
 some (((decide ((s_0.length : Int) ≤ (16 : Int))), ()), (()))
 else
 some ((false, ()), (()))
def policy_named_1 (N : Nat) (s_0 : (List UInt8)) (t_6 : (List UInt8)) (t_7 : Int) (t_8 : Int) : Option policy_named_R :=
 loopK N (fun y => policy_named_s2 N y.1.1 y.1.2.1 y.1.2.2.1 y.1.2.2.2.1) (fun (e : (((List UInt8) × Unit) × (Unit))) => policy_named_3 N e.1.1) ((s_0, t_6, t_7, t_8, ()), (()))
def policy_named (N : Nat) (s_0 : (List UInt8)) : Option policy_named_R :=
 policy_named_1 N s_0 s_0 (s_0.length : Int) (0 : Int)
def policy_named_C (N : Nat) : Ctx := ⟨44, G_tys, [], G_globs, G_ifs⟩
def policy_named_S0 : Spec := ⟨[.val .str, .val (.sl .u8), .val .i64, .val .i64], []⟩
def policy_named_S1 : Spec := ⟨[.val .str], []⟩
def policy_named_S2 : Spec := ⟨[.val .bool], []⟩
def policy_named_K (_N : Nat) : XE → GS → Option policy_named_R := retK 0 [2] [false] policy_named_S2
def policy_named_L : List Code := (bodyOf (some Try.f153))
def policy_named_L2 : List Code := (loopOf (policy_named_L[2]?))
def policy_named_K2 (N : Nat) : XE → GS → Option (Lo (((List UInt8) × (List UInt8) × Int × Int × Unit) × (Unit)) (((List UInt8) × Unit) × (Unit)) policy_named_R) := roundK (some 0) (fit 0 [0, 6, 7, 8] policy_named_S0) (fit 0 [0] policy_named_S1) (policy_named_K N)
theorem policy_named_s2_b {E : Env} (N : Nat) (hb : Base Try.prog (policy_named_C N) E 0) : Blk Try.prog (policy_named_C N) E [0, 6, 7, 8] policy_named_S0 (policy_named_L2.drop 0) (fun y => policy_named_s2 N y.1.1 y.1.2.1 y.1.2.2.1 y.1.2.2.2.1) (policy_named_K2 N) :=
 Blk.chunkAt hb 4 (X := (policy_named_K2 N .normal)) (NxOk.end (by kernel_rfl)) rfl (fun x => by kernel_rfl)
theorem policy_named_3_b {E : Env} (N : Nat) (hb : Base Try.prog (policy_named_C N) E 0) : Blk Try.prog (policy_named_C N) E [0] policy_named_S1 (policy_named_L.drop 3) (fun y => policy_named_3 N y.1.1) (policy_named_K N) :=
 Blk.chunkAt hb 2 (X := (policy_named_K N .normal)) (NxOk.end (by kernel_rfl)) rfl (fun x => by kernel_rfl)
theorem policy_named_1_b {E : Env} (N : Nat) (hb : Base Try.prog (policy_named_C N) E 0) : Blk Try.prog (policy_named_C N) E [0, 6, 7, 8] policy_named_S0 (policy_named_L.drop 2) (fun y => policy_named_1 N y.1.1 y.1.2.1 y.1.2.2.1 y.1.2.2.2.1) (policy_named_K N) :=
 Blk.loopAt (Nf := N) (hns := [0, 6, 7, 8]) (ans := [0]) (hc := policy_named_S0) (ac := policy_named_S1) (bid := 0) (step := (fun y => policy_named_s2 N y.1.1 y.1.2.1 y.1.2.2.1 y.1.2.2.2.1)) (J := (fun e => (goK 0 [0] policy_named_S1 (fun y => policy_named_3 N y.1.1)) (policy_named_S1.st [0] e))) hb (by kernel_rfl) (Blk.into (X := (goK 0 [0] policy_named_S1 (fun y => policy_named_3 N y.1.1))) (NxOk.go hb (policy_named_3_b N hb)) (fun x => by kernel_rfl)) (policy_named_s2_b N hb) (fun x => by kernel_rfl)
theorem policy_named_b {E : Env} (N : Nat) (hb : Base Try.prog (policy_named_C N) E 0) : Blk Try.prog (policy_named_C N) E (List.range policy_named_S1.ks.length) policy_named_S1 (policy_named_L.drop 0) (fun y => policy_named N y.1.1) (policy_named_K N) :=
 Blk.chunkAt hb 2 (X := (goK 0 [0, 6, 7, 8] policy_named_S0 (fun y => policy_named_1 N y.1.1 y.1.2.1 y.1.2.2.1 y.1.2.2.2.1))) (NxOk.go hb (policy_named_1_b N hb)) rfl (fun x => by kernel_rfl)
def policy_named_ctr (N : Nat) : Ctr := ⟨policy_named_S1, policy_named_S2.un [false], 0, (fun y => policy_named N y.1.1)⟩
theorem policy_named_ctrs (N : Nat) : CtrsOk Try.prog (policy_named_C N) := ctrs_nil G_ifs_ok rfl
theorem policy_named_ok (N : Nat) : Ctr.ok Try.prog G_globs 153 (policy_named_ctr N) :=
 ctr_fn (Γ := policy_named_C N) (rfit := policy_named_S2) (bs := [false]) (res := [2]) (by kernel_rfl) (tys_ok G_tys_ok) (policy_named_ctrs N) Try.func153 (by kernel_rfl) (by kernel_rfl) Try.ntmps153 (by kernel_rfl) (by kernel_rfl) (by kernel_rfl) (by kernel_rfl) (fun E hb => policy_named_b N hb)
/-! ipsecgate/selector.Valid -/
abbrev selector_Valid_R : Type := ((Bool × Unit) × (Unit))
def selector_Valid (N : Nat) (a_0 : D27) : Option selector_Valid_R :=
 bif (decide (a_0.1 = (6 : Int))) then
 some ((true, ()), (()))
 else
 bif (decide (a_0.1 = (4 : Int))) then
 bif (decide (a_0.2.1 = (0 : UInt64))) then
 some (((decide (a_0.2.2.1 < (4294967296 : UInt64))), ()), (()))
 else
 some ((false, ()), (()))
 else
 some ((false, ()), (()))
def selector_Valid_C (N : Nat) : Ctx := ⟨21, G_tys, [], G_globs, G_ifs⟩
def selector_Valid_S0 : Spec := ⟨[.val T27], []⟩
def selector_Valid_S1 : Spec := ⟨[.val .bool], []⟩
def selector_Valid_K (_N : Nat) : XE → GS → Option selector_Valid_R := retK 0 [2] [false] selector_Valid_S1
def selector_Valid_L : List Code := (bodyOf (some Try.f108))
theorem selector_Valid_b {E : Env} (N : Nat) (hb : Base Try.prog (selector_Valid_C N) E 0) : Blk Try.prog (selector_Valid_C N) E (List.range selector_Valid_S0.ks.length) selector_Valid_S0 (selector_Valid_L.drop 0) (fun y => selector_Valid N y.1.1) (selector_Valid_K N) :=
 Blk.chunkAt hb 3 (X := (selector_Valid_K N .normal)) (NxOk.end (by kernel_rfl)) rfl (fun x => by kernel_rfl)
def selector_Valid_ctr (N : Nat) : Ctr := ⟨selector_Valid_S0, selector_Valid_S1.un [false], 0, (fun y => selector_Valid N y.1.1)⟩
theorem selector_Valid_ctrs (N : Nat) : CtrsOk Try.prog (selector_Valid_C N) := ctrs_nil G_ifs_ok rfl
theorem selector_Valid_ok (N : Nat) : Ctr.ok Try.prog G_globs 108 (selector_Valid_ctr N) :=
 ctr_fn (Γ := selector_Valid_C N) (rfit := selector_Valid_S1) (bs := [false]) (res := [2]) (by kernel_rfl) (tys_ok G_tys_ok) (selector_Valid_ctrs N) Try.func108 (by kernel_rfl) (by kernel_rfl) Try.ntmps108 (by kernel_rfl) (by kernel_rfl) (by kernel_rfl) (by kernel_rfl) (fun E hb => selector_Valid_b N hb)
/-! (ipsecgate/selector.point).less -/
abbrev selector_point_less_R : Type := ((Bool × Unit) × (Unit))
def selector_point_less (N : Nat) (a_0 : D207) (b_1 : D207) : Option selector_point_less_R :=
 bif (!(decide (a_0.1.1 = b_1.1.1))) then
 some (((decide (a_0.1.1 < b_1.1.1)), ()), (()))
 else
 bif (!(decide (a_0.1.2.1 = b_1.1.2.1))) then
 some (((decide (a_0.1.2.1 < b_1.1.2.1)), ()), (()))
 else
 some (((decide (a_0.1.2.2.1 < b_1.1.2.2.1)), ()), (()))
def selector_point_less_C (N : Nat) : Ctx := ⟨42, G_tys, [], G_globs, G_ifs⟩
def selector_point_less_S0 : Spec := ⟨[.val T207, .val T207], []⟩
def selector_point_less_S1 : Spec := ⟨[.val .bool], []⟩
def selector_point_less_K (_N : Nat) : XE → GS → Option selector_point_less_R := retK 0 [4] [false] selector_point_less_S1
def selector_point_less_L : List Code := (bodyOf (some Try.f174))
theorem selector_point_less_b {E : Env} (N : Nat) (hb : Base Try.prog (selector_point_less_C N) E 0) : Blk Try.prog (selector_point_less_C N) E (List.range selector_point_less_S0.ks.length) selector_point_less_S0 (selector_point_less_L.drop 0) (fun y => selector_point_less N y.1.1 y.1.2.1) (selector_point_less_K N) :=
 Blk.chunkAt hb 4 (X := (selector_point_less_K N .normal)) (NxOk.end (by kernel_rfl)) rfl (fun x => by kernel_rfl)
def selector_point_less_ctr (N : Nat) : Ctr := ⟨selector_point_less_S0, selector_point_less_S1.un [false], 0, (fun y => selector_point_less N y.1.1 y.1.2.1)⟩
theorem selector_point_less_ctrs (N : Nat) : CtrsOk Try.prog (selector_point_less_C N) := ctrs_nil G_ifs_ok rfl
theorem selector_point_less_ok (N : Nat) : Ctr.ok Try.prog G_globs 174 (selector_point_less_ctr N) :=
 ctr_fn (Γ := selector_point_less_C N) (rfit := selector_point_less_S1) (bs := [false]) (res := [4]) (by kernel_rfl) (tys_ok G_tys_ok) (selector_point_less_ctrs N) Try.func174 (by kernel_rfl) (by kernel_rfl) Try.ntmps174 (by kernel_rfl) (by kernel_rfl) (by kernel_rfl) (by kernel_rfl) (fun E hb => selector_point_less_b N hb)
/-! ipsecgate/selector.Less -/
abbrev selector_Less_R : Type := ((Bool × Unit) × (Unit))
def selector_Less (N : Nat) (a_0 : D27) (b_1 : D27) : Option selector_Less_R :=
 Option.bind (selector_point_less N (a_0, ()) (b_1, ())) fun y1 =>
 some ((y1.1.1, ()), (()))
def selector_Less_C (N : Nat) : Ctx := ⟨10, G_tys, [(174, selector_point_less_ctr N)], G_globs, G_ifs⟩
def selector_Less_S0 : Spec := ⟨[.val T27, .val T27], []⟩
def selector_Less_S1 : Spec := ⟨[.val .bool], []⟩
def selector_Less_K (_N : Nat) : XE → GS → Option selector_Less_R := retK 0 [4] [false] selector_Less_S1
def selector_Less_L : List Code := (bodyOf (some Try.f169))
theorem selector_Less_b {E : Env} (N : Nat) (hb : Base Try.prog (selector_Less_C N) E 0) : Blk Try.prog (selector_Less_C N) E (List.range selector_Less_S0.ks.length) selector_Less_S0 (selector_Less_L.drop 0) (fun y => selector_Less N y.1.1 y.1.2.1) (selector_Less_K N) :=
 Blk.chunkAt hb 3 (X := (selector_Less_K N .normal)) (NxOk.end (by kernel_rfl)) rfl (fun x => by kernel_rfl)
def selector_Less_ctr (N : Nat) : Ctr := ⟨selector_Less_S0, selector_Less_S1.un [false], 0, (fun y => selector_Less N y.1.1 y.1.2.1)⟩
theorem selector_Less_ctrs (N : Nat) : CtrsOk Try.prog (selector_Less_C N) := ctrs_of (Γ := selector_Less_C N) G_ifs_ok (by
 intro p hp
 simp only [selector_Less_C, List.mem_cons, List.not_mem_nil, or_false] at hp
 rcases hp with rfl
 · exact selector_point_less_ok N)
theorem selector_Less_ok (N : Nat) : Ctr.ok Try.prog G_globs 169 (selector_Less_ctr N) :=
 ctr_fn (Γ := selector_Less_C N) (rfit := selector_Less_S1) (bs := [false]) (res := [4]) (by kernel_rfl) (tys_ok G_tys_ok) (selector_Less_ctrs N) Try.func169 (by kernel_rfl) (by kernel_rfl) Try.ntmps169 (by kernel_rfl) (by kernel_rfl) (by kernel_rfl) (by kernel_rfl) (fun E hb => selector_Less_b N hb)
/-! ipsecgate/policy.CheckBox -/
abbrev policy_CheckBox_R : Type := ((Int × Unit) × (Unit))
def policy_CheckBox_s2 (N : Nat) (t_16 : Int) (t_17 : Int) (b_1 : D45) (t_15 : (List D27)) : Option (Lo ((Int × Int × Unit) × (D45 × (List D27) × Unit)) ((Unit) × (D45 × Unit)) policy_CheckBox_R) :=
 bif (decide (t_17 < t_16)) then
 bif inR t_17 t_15.length then
 let x3 := (t_15.getD t_17.toNat ((0 : Int), (0 : UInt64), (0 : UInt64), ()))
 Option.bind (selector_Valid N x3) fun y4 =>
 bif (!y4.1.1) then
 some (.rt (((15 : Int), ()), (())))
 else
 bif (!(decide (x3.1 = b_1.1.1))) then
 some (.rt (((15 : Int), ()), (())))
 else
 some (.go ((t_16, (w64 (t_17 + (1 : Int))), ()), (b_1, t_15, ())))
 else none
 else
 some (.br ((()), (b_1, ())))
def policy_CheckBox_s6 (N : Nat) (t_67 : Int) (t_68 : Int) (t_66 : (List (List Int))) : Option (Lo ((Int × Int × Unit) × ((List (List Int)) × Unit)) ((Unit) × (Unit)) policy_CheckBox_R) :=
 bif (decide (t_68 < t_67)) then
 bif inR t_68 t_66.length then
 let x11 := (t_66.getD t_68.toNat (List.replicate 2 (0 : Int)))
 bif (decide ((x11.getD 0 (0 : Int)) < (-1 : Int))) then
 some (.rt (((5 : Int), ()), (())))
 else
 bif (decide ((65535 : Int) < (x11.getD 1 (0 : Int)))) then
 some (.rt (((5 : Int), ()), (())))
 else
 bif (decide ((x11.getD 1 (0 : Int)) < (x11.getD 0 (0 : Int)))) then
 some (.rt (((5 : Int), ()), (())))
 else
 some (.go ((t_67, (w64 (t_68 + (1 : Int))), ()), (t_66, ())))
 else none
 else
 some (.br ((()), (())))
def policy_CheckBox_7 (N : Nat) : Option policy_CheckBox_R :=
 some (((0 : Int), ()), (()))
def policy_CheckBox_5 (N : Nat) (t_67 : Int) (t_68 : Int) (t_66 : (List (List Int))) : Option policy_CheckBox_R :=
 loopK N (fun y => policy_CheckBox_s6 N y.1.1 y.1.2.1 y.2.1) (fun (e : ((Unit) × (Unit))) => policy_CheckBox_7 N) ((t_67, t_68, ()), (t_66, ()))
def policy_CheckBox_4 (N : Nat) (t_61 : Bool) (b_1 : D45) : Option policy_CheckBox_R :=
 bif t_61 then
 some (((5 : Int), ()), (()))
 else
 policy_CheckBox_5 N (([b_1.2.2.2.2.2.2.1, b_1.2.2.2.2.2.2.2.1] : List (List Int)).length : Int) (0 : Int) ([b_1.2.2.2.2.2.2.1, b_1.2.2.2.2.2.2.2.1] : List (List Int))
def policy_CheckBox_3 (N : Nat) (b_1 : D45) : Option policy_CheckBox_R :=
 Option.bind (selector_Less N b_1.2.1 b_1.1) fun y8 =>
 bif y8.1.1 then
 policy_CheckBox_4 N true b_1
 else
 Option.bind (selector_Less N b_1.2.2.2.1 b_1.2.2.1) fun y20 =>
 bif y20.1.1 then
 policy_CheckBox_4 N true b_1
 else
 bif (decide (b_1.2.2.2.2.1 < (0 : Int))) then
 policy_CheckBox_4 N true b_1
 else
 bif (decide ((255 : Int) < b_1.2.2.2.2.2.1)) then
 policy_CheckBox_4 N true b_1
 else
 policy_CheckBox_4 N (decide (b_1.2.2.2.2.2.1 < b_1.2.2.2.2.1)) b_1
def policy_CheckBox_1 (N : Nat) (t_16 : Int) (t_17 : Int) (b_1 : D45) (t_15 : (List D27)) : Option policy_CheckBox_R :=
 loopK N (fun y => policy_CheckBox_s2 N y.1.1 y.1.2.1 y.2.1 y.2.2.1) (fun (e : ((Unit) × (D45 × Unit))) => policy_CheckBox_3 N e.2.1) ((t_16, t_17, ()), (b_1, t_15, ()))
def policy_CheckBox (N : Nat) (b_0 : D45) : Option policy_CheckBox_R :=
 policy_CheckBox_1 N (([b_0.1, b_0.2.1, b_0.2.2.1, b_0.2.2.2.1] : List D27).length : Int) (0 : Int) b_0 ([b_0.1, b_0.2.1, b_0.2.2.1, b_0.2.2.2.1] : List D27)
def policy_CheckBox_C (N : Nat) : Ctx := ⟨88, G_tys, [(108, selector_Valid_ctr N), (169, selector_Less_ctr N)], G_globs, G_ifs⟩
def policy_CheckBox_S0 : Spec := ⟨[.ref 0 T45, .row 1, .val .i64, .val .i64], [(.box 46 T45, .pos 0), (.row 28 T27, .pos 1)]⟩
def policy_CheckBox_S1 : Spec := ⟨[.row 0, .val .i64, .val .i64], [(.row 44 (.arr 2 .i64), .pos 0)]⟩
def policy_CheckBox_S2 : Spec := ⟨[], []⟩
def policy_CheckBox_S3 : Spec := ⟨[.ref 0 T45, .val .bool], [(.box 46 T45, .pos 0)]⟩
def policy_CheckBox_S4 : Spec := ⟨[.ref 0 T45], [(.box 46 T45, .pos 0)]⟩
def policy_CheckBox_S5 : Spec := ⟨[.val T45], []⟩
def policy_CheckBox_S6 : Spec := ⟨[.val .i64], []⟩
def policy_CheckBox_K (_N : Nat) : XE → GS → Option policy_CheckBox_R := retK 0 [2] [false] policy_CheckBox_S6
def policy_CheckBox_L : List Code := (bodyOf (some Try.f154))
def policy_CheckBox_L2 : List Code := (loopOf (policy_CheckBox_L[2]?))
def policy_CheckBox_L6 : List Code := (loopOf (policy_CheckBox_L[6]?))
def policy_CheckBox_K2 (N : Nat) : XE → GS → Option (Lo ((Int × Int × Unit) × (D45 × (List D27) × Unit)) ((Unit) × (D45 × Unit)) policy_CheckBox_R) := roundK (some 0) (fit 0 [1, 15, 16, 17] policy_CheckBox_S0) (fit 0 [1] policy_CheckBox_S4) (policy_CheckBox_K N)
def policy_CheckBox_K6 (N : Nat) : XE → GS → Option (Lo ((Int × Int × Unit) × ((List (List Int)) × Unit)) ((Unit) × (Unit)) policy_CheckBox_R) := roundK (some 2) (fit 0 [66, 67, 68] policy_CheckBox_S1) (fit 0 [] policy_CheckBox_S2) (policy_CheckBox_K N)
theorem policy_CheckBox_s2_b {E : Env} (N : Nat) (hb : Base Try.prog (policy_CheckBox_C N) E 0) : Blk Try.prog (policy_CheckBox_C N) E [1, 15, 16, 17] policy_CheckBox_S0 (policy_CheckBox_L2.drop 0) (fun y => policy_CheckBox_s2 N y.1.1 y.1.2.1 y.2.1 y.2.2.1) (policy_CheckBox_K2 N) :=
 Blk.chunkAt hb 4 (X := (policy_CheckBox_K2 N .normal)) (NxOk.end (by kernel_rfl)) rfl (fun x => by kernel_rfl)
theorem policy_CheckBox_s6_b {E : Env} (N : Nat) (hb : Base Try.prog (policy_CheckBox_C N) E 0) : Blk Try.prog (policy_CheckBox_C N) E [66, 67, 68] policy_CheckBox_S1 (policy_CheckBox_L6.drop 0) (fun y => policy_CheckBox_s6 N y.1.1 y.1.2.1 y.2.1) (policy_CheckBox_K6 N) :=
 Blk.chunkAt hb 4 (X := (policy_CheckBox_K6 N .normal)) (NxOk.end (by kernel_rfl)) rfl (fun x => by kernel_rfl)
theorem policy_CheckBox_7_b {E : Env} (N : Nat) (hb : Base Try.prog (policy_CheckBox_C N) E 0) : Blk Try.prog (policy_CheckBox_C N) E [] policy_CheckBox_S2 (policy_CheckBox_L.drop 7) (fun y => policy_CheckBox_7 N) (policy_CheckBox_K N) :=
 Blk.chunkAt hb 2 (X := (policy_CheckBox_K N .normal)) (NxOk.end (by kernel_rfl)) rfl (fun x => by kernel_rfl)
theorem policy_CheckBox_5_b {E : Env} (N : Nat) (hb : Base Try.prog (policy_CheckBox_C N) E 0) : Blk Try.prog (policy_CheckBox_C N) E [66, 67, 68] policy_CheckBox_S1 (policy_CheckBox_L.drop 6) (fun y => policy_CheckBox_5 N y.1.1 y.1.2.1 y.2.1) (policy_CheckBox_K N) :=
 Blk.loopAt (Nf := N) (hns := [66, 67, 68]) (ans := []) (hc := policy_CheckBox_S1) (ac := policy_CheckBox_S2) (bid := 2) (step := (fun y => policy_CheckBox_s6 N y.1.1 y.1.2.1 y.2.1)) (J := (fun e => (goK 0 [] policy_CheckBox_S2 (fun y => policy_CheckBox_7 N)) (policy_CheckBox_S2.st [] e))) hb (by kernel_rfl) (Blk.into (X := (goK 0 [] policy_CheckBox_S2 (fun y => policy_CheckBox_7 N))) (NxOk.go hb (policy_CheckBox_7_b N hb)) (fun x => by kernel_rfl)) (policy_CheckBox_s6_b N hb) (fun x => by kernel_rfl)
theorem policy_CheckBox_4_b {E : Env} (N : Nat) (hb : Base Try.prog (policy_CheckBox_C N) E 0) : Blk Try.prog (policy_CheckBox_C N) E [1, 61] policy_CheckBox_S3 (policy_CheckBox_L.drop 4) (fun y => policy_CheckBox_4 N y.1.1 y.2.1) (policy_CheckBox_K N) :=
 Blk.chunkAt hb 2 (X := (goK 0 [66, 67, 68] policy_CheckBox_S1 (fun y => policy_CheckBox_5 N y.1.1 y.1.2.1 y.2.1))) (NxOk.go hb (policy_CheckBox_5_b N hb)) rfl (fun x => by kernel_rfl)
theorem policy_CheckBox_3_b {E : Env} (N : Nat) (hb : Base Try.prog (policy_CheckBox_C N) E 0) : Blk Try.prog (policy_CheckBox_C N) E [1] policy_CheckBox_S4 (policy_CheckBox_L.drop 3) (fun y => policy_CheckBox_3 N y.2.1) (policy_CheckBox_K N) :=
 Blk.chunkAt hb 1 (X := (goK 0 [1, 61] policy_CheckBox_S3 (fun y => policy_CheckBox_4 N y.1.1 y.2.1))) (NxOk.go hb (policy_CheckBox_4_b N hb)) rfl (fun x => by kernel_rfl)
theorem policy_CheckBox_1_b {E : Env} (N : Nat) (hb : Base Try.prog (policy_CheckBox_C N) E 0) : Blk Try.prog (policy_CheckBox_C N) E [1, 15, 16, 17] policy_CheckBox_S0 (policy_CheckBox_L.drop 2) (fun y => policy_CheckBox_1 N y.1.1 y.1.2.1 y.2.1 y.2.2.1) (policy_CheckBox_K N) :=
 Blk.loopAt (Nf := N) (hns := [1, 15, 16, 17]) (ans := [1]) (hc := policy_CheckBox_S0) (ac := policy_CheckBox_S4) (bid := 0) (step := (fun y => policy_CheckBox_s2 N y.1.1 y.1.2.1 y.2.1 y.2.2.1)) (J := (fun e => (goK 0 [1] policy_CheckBox_S4 (fun y => policy_CheckBox_3 N y.2.1)) (policy_CheckBox_S4.st [1] e))) hb (by kernel_rfl) (Blk.into (X := (goK 0 [1] policy_CheckBox_S4 (fun y => policy_CheckBox_3 N y.2.1))) (NxOk.go hb (policy_CheckBox_3_b N hb)) (fun x => by kernel_rfl)) (policy_CheckBox_s2_b N hb) (fun x => by kernel_rfl)
theorem policy_CheckBox_b {E : Env} (N : Nat) (hb : Base Try.prog (policy_CheckBox_C N) E 0) : Blk Try.prog (policy_CheckBox_C N) E (List.range policy_CheckBox_S5.ks.length) policy_CheckBox_S5 (policy_CheckBox_L.drop 0) (fun y => policy_CheckBox N y.1.1) (policy_CheckBox_K N) :=
 Blk.chunkAt hb 2 (X := (goK 0 [1, 15, 16, 17] policy_CheckBox_S0 (fun y => policy_CheckBox_1 N y.1.1 y.1.2.1 y.2.1 y.2.2.1))) (NxOk.go hb (policy_CheckBox_1_b N hb)) rfl (fun x => by kernel_rfl)
def policy_CheckBox_ctr (N : Nat) : Ctr := ⟨policy_CheckBox_S5, policy_CheckBox_S6.un [false], 0, (fun y => policy_CheckBox N y.1.1)⟩
theorem policy_CheckBox_ctrs (N : Nat) : CtrsOk Try.prog (policy_CheckBox_C N) := ctrs_of (Γ := policy_CheckBox_C N) G_ifs_ok (by
 intro p hp
 simp only [policy_CheckBox_C, List.mem_cons, List.not_mem_nil, or_false] at hp
 rcases hp with rfl | rfl
 · exact selector_Valid_ok N
 · exact selector_Less_ok N)
theorem policy_CheckBox_ok (N : Nat) : Ctr.ok Try.prog G_globs 154 (policy_CheckBox_ctr N) :=
 ctr_fn (Γ := policy_CheckBox_C N) (rfit := policy_CheckBox_S6) (bs := [false]) (res := [2]) (by kernel_rfl) (tys_ok G_tys_ok) (policy_CheckBox_ctrs N) Try.func154 (by kernel_rfl) (by kernel_rfl) Try.ntmps154 (by kernel_rfl) (by kernel_rfl) (by kernel_rfl) (by kernel_rfl) (fun E hb => policy_CheckBox_b N hb)
/-! ipsecgate/policy.Check -/
abbrev policy_Check_R : Type := ((Int × Unit) × (Unit))
def policy_Check_s8 (N : Nat) (t_11 : (List D59)) (t_12 : Int) (t_13 : Int) (t_62 : (List D45)) (t_63 : Int) (t_64 : Int) : Option (Lo (((List D59) × Int × Int × (List D45) × Int × Int × Unit) × (Unit)) (((List D59) × Int × Int × Unit) × (Unit)) (Lo (((List D59) × Int × Int × Unit) × (Unit)) ((Unit) × (Unit)) policy_Check_R)) :=
 bif (decide (t_64 < t_63)) then
 bif inR t_64 t_62.length then
 Option.bind (policy_CheckBox N (t_62.getD t_64.toNat (((0 : Int), (0 : UInt64), (0 : UInt64), ()), ((0 : Int), (0 : UInt64), (0 : UInt64), ()), ((0 : Int), (0 : UInt64), (0 : UInt64), ()), ((0 : Int), (0 : UInt64), (0 : UInt64), ()), (0 : Int), (0 : Int), (List.replicate 2 (0 : Int)), (List.replicate 2 (0 : Int)), ()))) fun y21 =>
 bif (!(decide (y21.1.1 = (0 : Int)))) then
 some (.rt (.rt ((y21.1.1, ()), (()))))
 else
 some (.go ((t_11, t_12, t_13, t_62, t_63, (w64 (t_64 + (1 : Int))), ()), (())))
 else none
 else
 some (.br ((t_11, t_12, t_13, ()), (())))
def policy_Check_9 (N : Nat) (t_11 : (List D59)) (t_12 : Int) (t_13 : Int) : Option (Lo (((List D59) × Int × Int × Unit) × (Unit)) ((Unit) × (Unit)) policy_Check_R) :=
 some (.go ((t_11, t_12, (w64 (t_13 + (1 : Int))), ()), (())))
def policy_Check_7 (N : Nat) (t_11 : (List D59)) (t_12 : Int) (t_13 : Int) (t_62 : (List D45)) (t_63 : Int) (t_64 : Int) : Option (Lo (((List D59) × Int × Int × Unit) × (Unit)) ((Unit) × (Unit)) policy_Check_R) :=
 loopK N (fun y => policy_Check_s8 N y.1.1 y.1.2.1 y.1.2.2.1 y.1.2.2.2.1 y.1.2.2.2.2.1 y.1.2.2.2.2.2.1) (fun (e : (((List D59) × Int × Int × Unit) × (Unit))) => policy_Check_9 N e.1.1 e.1.2.1 e.1.2.2.1) ((t_11, t_12, t_13, t_62, t_63, t_64, ()), (()))
def policy_Check_6 (N : Nat) (t_11 : (List D59)) (t_12 : Int) (t_13 : Int) (r_4 : D59) (r_4_v : (List D45)) : Option (Lo (((List D59) × Int × Int × Unit) × (Unit)) ((Unit) × (Unit)) policy_Check_R) :=
 policy_Check_7 N t_11 t_12 t_13 r_4_v (r_4_v.length : Int) (0 : Int)
def policy_Check_5 (N : Nat) (t_11 : (List D59)) (t_12 : Int) (t_13 : Int) : Option (Lo (((List D59) × Int × Int × Unit) × (Unit)) ((Unit) × (Unit)) policy_Check_R) :=
 bif inR t_13 t_11.length then
 let x5 := t_11.getD t_13.toNat ((0 : Int), ([] : List UInt8), ([] : List D45), ())
 bif (!(decide (x5.1 = (0 : Int)))) then
 bif (!(decide (x5.1 = (1 : Int)))) then
 bif (!(decide (x5.1 = (2 : Int)))) then
 some (.rt (((5 : Int), ()), (())))
 else
 bif (decide (x5.1 = (2 : Int))) then
 Option.bind (policy_named N x5.2.1) fun y10 =>
 bif (!y10.1.1) then
 some (.rt (((14 : Int), ()), (())))
 else
 bif (!(decide (x5.1 = (2 : Int)))) then
 bif (!(decide (x5.2.1 = ([] : List UInt8)))) then
 some (.rt (((14 : Int), ()), (())))
 else
 bif (decide ((x5.2.2.1.length : Int) = (0 : Int))) then
 some (.rt (((8 : Int), ()), (())))
 else
 bif (decide ((16 : Int) < (x5.2.2.1.length : Int))) then
 some (.rt (((10 : Int), ()), (())))
 else
 policy_Check_6 N t_11 t_12 t_13 x5 x5.2.2.1
 else
 bif (decide ((x5.2.2.1.length : Int) = (0 : Int))) then
 some (.rt (((8 : Int), ()), (())))
 else
 bif (decide ((16 : Int) < (x5.2.2.1.length : Int))) then
 some (.rt (((10 : Int), ()), (())))
 else
 policy_Check_6 N t_11 t_12 t_13 x5 x5.2.2.1
 else
 bif (!(decide (x5.1 = (2 : Int)))) then
 bif (!(decide (x5.2.1 = ([] : List UInt8)))) then
 some (.rt (((14 : Int), ()), (())))
 else
 bif (decide ((x5.2.2.1.length : Int) = (0 : Int))) then
 some (.rt (((8 : Int), ()), (())))
 else
 bif (decide ((16 : Int) < (x5.2.2.1.length : Int))) then
 some (.rt (((10 : Int), ()), (())))
 else
 policy_Check_6 N t_11 t_12 t_13 x5 x5.2.2.1
 else
 bif (decide ((x5.2.2.1.length : Int) = (0 : Int))) then
 some (.rt (((8 : Int), ()), (())))
 else
 bif (decide ((16 : Int) < (x5.2.2.1.length : Int))) then
 some (.rt (((10 : Int), ()), (())))
 else
 policy_Check_6 N t_11 t_12 t_13 x5 x5.2.2.1
 else
 bif (decide (x5.1 = (2 : Int))) then
 Option.bind (policy_named N x5.2.1) fun y40 =>
 bif (!y40.1.1) then
 some (.rt (((14 : Int), ()), (())))
 else
 bif (!(decide (x5.1 = (2 : Int)))) then
 bif (!(decide (x5.2.1 = ([] : List UInt8)))) then
 some (.rt (((14 : Int), ()), (())))
 else
 bif (decide ((x5.2.2.1.length : Int) = (0 : Int))) then
 some (.rt (((8 : Int), ()), (())))
 else
 bif (decide ((16 : Int) < (x5.2.2.1.length : Int))) then
 some (.rt (((10 : Int), ()), (())))
 else
 policy_Check_6 N t_11 t_12 t_13 x5 x5.2.2.1
 else
 bif (decide ((x5.2.2.1.length : Int) = (0 : Int))) then
 some (.rt (((8 : Int), ()), (())))
 else
 bif (decide ((16 : Int) < (x5.2.2.1.length : Int))) then
 some (.rt (((10 : Int), ()), (())))
 else
 policy_Check_6 N t_11 t_12 t_13 x5 x5.2.2.1
 else
 bif (!(decide (x5.1 = (2 : Int)))) then
 bif (!(decide (x5.2.1 = ([] : List UInt8)))) then
 some (.rt (((14 : Int), ()), (())))
 else
 bif (decide ((x5.2.2.1.length : Int) = (0 : Int))) then
 some (.rt (((8 : Int), ()), (())))
 else
 bif (decide ((16 : Int) < (x5.2.2.1.length : Int))) then
 some (.rt (((10 : Int), ()), (())))
 else
 policy_Check_6 N t_11 t_12 t_13 x5 x5.2.2.1
 else
 bif (decide ((x5.2.2.1.length : Int) = (0 : Int))) then
 some (.rt (((8 : Int), ()), (())))
 else
 bif (decide ((16 : Int) < (x5.2.2.1.length : Int))) then
 some (.rt (((10 : Int), ()), (())))
 else
 policy_Check_6 N t_11 t_12 t_13 x5 x5.2.2.1
 else
 bif (decide (x5.1 = (2 : Int))) then
 Option.bind (policy_named N x5.2.1) fun y63 =>
 bif (!y63.1.1) then
 some (.rt (((14 : Int), ()), (())))
 else
 bif (!(decide (x5.1 = (2 : Int)))) then
 bif (!(decide (x5.2.1 = ([] : List UInt8)))) then
 some (.rt (((14 : Int), ()), (())))
 else
 bif (decide ((x5.2.2.1.length : Int) = (0 : Int))) then
 some (.rt (((8 : Int), ()), (())))
 else
 bif (decide ((16 : Int) < (x5.2.2.1.length : Int))) then
 some (.rt (((10 : Int), ()), (())))
 else
 policy_Check_6 N t_11 t_12 t_13 x5 x5.2.2.1
 else
 bif (decide ((x5.2.2.1.length : Int) = (0 : Int))) then
 some (.rt (((8 : Int), ()), (())))
 else
 bif (decide ((16 : Int) < (x5.2.2.1.length : Int))) then
 some (.rt (((10 : Int), ()), (())))
 else
 policy_Check_6 N t_11 t_12 t_13 x5 x5.2.2.1
 else
 bif (!(decide (x5.1 = (2 : Int)))) then
 bif (!(decide (x5.2.1 = ([] : List UInt8)))) then
 some (.rt (((14 : Int), ()), (())))
 else
 bif (decide ((x5.2.2.1.length : Int) = (0 : Int))) then
 some (.rt (((8 : Int), ()), (())))
 else
 bif (decide ((16 : Int) < (x5.2.2.1.length : Int))) then
 some (.rt (((10 : Int), ()), (())))
 else
 policy_Check_6 N t_11 t_12 t_13 x5 x5.2.2.1
 else
 bif (decide ((x5.2.2.1.length : Int) = (0 : Int))) then
 some (.rt (((8 : Int), ()), (())))
 else
 bif (decide ((16 : Int) < (x5.2.2.1.length : Int))) then
 some (.rt (((10 : Int), ()), (())))
 else
 policy_Check_6 N t_11 t_12 t_13 x5 x5.2.2.1
 else none
def policy_Check_3 (N : Nat) (t_11 : (List D59)) (t_12 : Int) (t_13 : Int) : Option (Lo (((List D59) × Int × Int × Unit) × (Unit)) ((Unit) × (Unit)) policy_Check_R) :=
 policy_Check_5 N t_11 t_12 t_13
def policy_Check_s2 (N : Nat) (t_11 : (List D59)) (t_12 : Int) (t_13 : Int) : Option (Lo (((List D59) × Int × Int × Unit) × (Unit)) ((Unit) × (Unit)) policy_Check_R) :=
 bif (decide (t_13 < t_12)) then
 policy_Check_3 N t_11 t_12 t_13
 else
 some (.br ((()), (())))
def policy_Check_10 (N : Nat) : Option policy_Check_R :=
 some (((0 : Int), ()), (()))
def policy_Check_1 (N : Nat) (t_11 : (List D59)) (t_12 : Int) (t_13 : Int) : Option policy_Check_R :=
 loopK N (fun y => policy_Check_s2 N y.1.1 y.1.2.1 y.1.2.2.1) (fun (e : ((Unit) × (Unit))) => policy_Check_10 N) ((t_11, t_12, t_13, ()), (()))
def policy_Check (N : Nat) (l_0 : (List D59)) : Option policy_Check_R :=
 bif (decide ((24 : Int) < (l_0.length : Int))) then
 some (((10 : Int), ()), (()))
 else
 policy_Check_1 N l_0 (l_0.length : Int) (0 : Int)
def policy_Check_C (N : Nat) : Ctx := ⟨75, G_tys, [(153, policy_named_ctr N), (154, policy_CheckBox_ctr N)], G_globs, G_ifs⟩
def policy_Check_S0 : Spec := ⟨[.val (.sl T59), .val .i64, .val .i64, .val (.sl T45), .val .i64, .val .i64], []⟩
def policy_Check_S1 : Spec := ⟨[.val (.sl T59), .val .i64, .val .i64], []⟩
def policy_Check_S2 : Spec := ⟨[.ref 0 T59, .val (.sl T59), .val .i64, .val .i64], [(.sval 60 T59 2 (.sl T45), .pos 0)]⟩
def policy_Check_S3 : Spec := ⟨[], []⟩
def policy_Check_S4 : Spec := ⟨[.val (.sl T59)], []⟩
def policy_Check_S5 : Spec := ⟨[.val .i64], []⟩
def policy_Check_K (_N : Nat) : XE → GS → Option policy_Check_R := retK 0 [2] [false] policy_Check_S5
def policy_Check_L : List Code := (bodyOf (some Try.f117))
def policy_Check_L2 : List Code := (loopOf (policy_Check_L[4]?))
def policy_Check_L4b : List Code := (blockOf (policy_Check_L2[2]?))
def policy_Check_L8 : List Code := (loopOf (policy_Check_L4b[3]?))
def policy_Check_K2 (N : Nat) : XE → GS → Option (Lo (((List D59) × Int × Int × Unit) × (Unit)) ((Unit) × (Unit)) policy_Check_R) := roundK (some 0) (fit 0 [11, 12, 13] policy_Check_S1) (fit 0 [] policy_Check_S3) (policy_Check_K N)
def policy_Check_K4 (N : Nat) : XE → GS → Option (Lo (((List D59) × Int × Int × Unit) × (Unit)) ((Unit) × (Unit)) policy_Check_R) := blockK 1 (goK 0 [11, 12, 13] policy_Check_S1 (fun y => policy_Check_9 N y.1.1 y.1.2.1 y.1.2.2.1)) (policy_Check_K2 N)
def policy_Check_K8 (N : Nat) : XE → GS → Option (Lo (((List D59) × Int × Int × (List D45) × Int × Int × Unit) × (Unit)) (((List D59) × Int × Int × Unit) × (Unit)) (Lo (((List D59) × Int × Int × Unit) × (Unit)) ((Unit) × (Unit)) policy_Check_R)) := roundK (some 3) (fit 0 [11, 12, 13, 62, 63, 64] policy_Check_S0) (fit 0 [11, 12, 13] policy_Check_S1) (policy_Check_K4 N)
theorem policy_Check_s8_b {E : Env} (N : Nat) (hb : Base Try.prog (policy_Check_C N) E 0) : Blk Try.prog (policy_Check_C N) E [11, 12, 13, 62, 63, 64] policy_Check_S0 (policy_Check_L8.drop 0) (fun y => policy_Check_s8 N y.1.1 y.1.2.1 y.1.2.2.1 y.1.2.2.2.1 y.1.2.2.2.2.1 y.1.2.2.2.2.2.1) (policy_Check_K8 N) :=
 Blk.chunkAt hb 4 (X := (policy_Check_K8 N .normal)) (NxOk.end (by kernel_rfl)) rfl (fun x => by kernel_rfl)
theorem policy_Check_9_b {E : Env} (N : Nat) (hb : Base Try.prog (policy_Check_C N) E 0) : Blk Try.prog (policy_Check_C N) E [11, 12, 13] policy_Check_S1 (policy_Check_L2.drop 3) (fun y => policy_Check_9 N y.1.1 y.1.2.1 y.1.2.2.1) (policy_Check_K2 N) :=
 Blk.chunkAt hb 1 (X := (policy_Check_K2 N .normal)) (NxOk.end (by kernel_rfl)) rfl (fun x => by kernel_rfl)
theorem policy_Check_7_b {E : Env} (N : Nat) (hb : Base Try.prog (policy_Check_C N) E 0) : Blk Try.prog (policy_Check_C N) E [11, 12, 13, 62, 63, 64] policy_Check_S0 (policy_Check_L4b.drop 3) (fun y => policy_Check_7 N y.1.1 y.1.2.1 y.1.2.2.1 y.1.2.2.2.1 y.1.2.2.2.2.1 y.1.2.2.2.2.2.1) (policy_Check_K4 N) :=
 Blk.loopAt (Nf := N) (hns := [11, 12, 13, 62, 63, 64]) (ans := [11, 12, 13]) (hc := policy_Check_S0) (ac := policy_Check_S1) (bid := 3) (step := (fun y => policy_Check_s8 N y.1.1 y.1.2.1 y.1.2.2.1 y.1.2.2.2.1 y.1.2.2.2.2.1 y.1.2.2.2.2.2.1)) (J := (fun e => (policy_Check_K4 N .normal) (policy_Check_S1.st [11, 12, 13] e))) hb (by kernel_rfl) (Blk.into (X := (policy_Check_K4 N .normal)) (NxOk.end (by kernel_rfl)) (fun x => by kernel_rfl)) (policy_Check_s8_b N hb) (fun x => by kernel_rfl)
theorem policy_Check_6_b {E : Env} (N : Nat) (hb : Base Try.prog (policy_Check_C N) E 0) : Blk Try.prog (policy_Check_C N) E [4, 11, 12, 13] policy_Check_S2 (policy_Check_L4b.drop 2) (fun y => policy_Check_6 N y.1.1 y.1.2.1 y.1.2.2.1 y.2.1 y.2.2.1) (policy_Check_K4 N) :=
 Blk.chunkAt hb 1 (X := (goK 0 [11, 12, 13, 62, 63, 64] policy_Check_S0 (fun y => policy_Check_7 N y.1.1 y.1.2.1 y.1.2.2.1 y.1.2.2.2.1 y.1.2.2.2.2.1 y.1.2.2.2.2.2.1))) (NxOk.go hb (policy_Check_7_b N hb)) rfl (fun x => by kernel_rfl)
theorem policy_Check_5_b {E : Env} (N : Nat) (hb : Base Try.prog (policy_Check_C N) E 0) : Blk Try.prog (policy_Check_C N) E [11, 12, 13] policy_Check_S1 (policy_Check_L4b.drop 0) (fun y => policy_Check_5 N y.1.1 y.1.2.1 y.1.2.2.1) (policy_Check_K4 N) :=
 Blk.chunkAt hb 2 (X := (goK 0 [4, 11, 12, 13] policy_Check_S2 (fun y => policy_Check_6 N y.1.1 y.1.2.1 y.1.2.2.1 y.2.1 y.2.2.1))) (NxOk.go hb (policy_Check_6_b N hb)) rfl (fun x => by kernel_rfl)
theorem policy_Check_3_b {E : Env} (N : Nat) (hb : Base Try.prog (policy_Check_C N) E 0) : Blk Try.prog (policy_Check_C N) E [11, 12, 13] policy_Check_S1 (policy_Check_L2.drop 2) (fun y => policy_Check_3 N y.1.1 y.1.2.1 y.1.2.2.1) (policy_Check_K2 N) :=
 Blk.blockAt (bid := 1) (X := (goK 0 [11, 12, 13] policy_Check_S1 (fun y => policy_Check_9 N y.1.1 y.1.2.1 y.1.2.2.1))) (Y := (goK 0 [11, 12, 13] policy_Check_S1 (fun y => policy_Check_5 N y.1.1 y.1.2.1 y.1.2.2.1))) (by kernel_rfl) (NxOk.go hb (policy_Check_9_b N hb)) (NxOk.go hb (policy_Check_5_b N hb)) (fun x => by kernel_rfl)
theorem policy_Check_s2_b {E : Env} (N : Nat) (hb : Base Try.prog (policy_Check_C N) E 0) : Blk Try.prog (policy_Check_C N) E [11, 12, 13] policy_Check_S1 (policy_Check_L2.drop 0) (fun y => policy_Check_s2 N y.1.1 y.1.2.1 y.1.2.2.1) (policy_Check_K2 N) :=
 Blk.chunkAt hb 2 (X := (goK 0 [11, 12, 13] policy_Check_S1 (fun y => policy_Check_3 N y.1.1 y.1.2.1 y.1.2.2.1))) (NxOk.go hb (policy_Check_3_b N hb)) rfl (fun x => by kernel_rfl)
theorem policy_Check_10_b {E : Env} (N : Nat) (hb : Base Try.prog (policy_Check_C N) E 0) : Blk Try.prog (policy_Check_C N) E [] policy_Check_S3 (policy_Check_L.drop 5) (fun y => policy_Check_10 N) (policy_Check_K N) :=
 Blk.chunkAt hb 2 (X := (policy_Check_K N .normal)) (NxOk.end (by kernel_rfl)) rfl (fun x => by kernel_rfl)
theorem policy_Check_1_b {E : Env} (N : Nat) (hb : Base Try.prog (policy_Check_C N) E 0) : Blk Try.prog (policy_Check_C N) E [11, 12, 13] policy_Check_S1 (policy_Check_L.drop 4) (fun y => policy_Check_1 N y.1.1 y.1.2.1 y.1.2.2.1) (policy_Check_K N) :=
 Blk.loopAt (Nf := N) (hns := [11, 12, 13]) (ans := []) (hc := policy_Check_S1) (ac := policy_Check_S3) (bid := 0) (step := (fun y => policy_Check_s2 N y.1.1 y.1.2.1 y.1.2.2.1)) (J := (fun e => (goK 0 [] policy_Check_S3 (fun y => policy_Check_10 N)) (policy_Check_S3.st [] e))) hb (by kernel_rfl) (Blk.into (X := (goK 0 [] policy_Check_S3 (fun y => policy_Check_10 N))) (NxOk.go hb (policy_Check_10_b N hb)) (fun x => by kernel_rfl)) (policy_Check_s2_b N hb) (fun x => by kernel_rfl)
theorem policy_Check_b {E : Env} (N : Nat) (hb : Base Try.prog (policy_Check_C N) E 0) : Blk Try.prog (policy_Check_C N) E (List.range policy_Check_S4.ks.length) policy_Check_S4 (policy_Check_L.drop 0) (fun y => policy_Check N y.1.1) (policy_Check_K N) :=
 Blk.chunkAt hb 4 (X := (goK 0 [11, 12, 13] policy_Check_S1 (fun y => policy_Check_1 N y.1.1 y.1.2.1 y.1.2.2.1))) (NxOk.go hb (policy_Check_1_b N hb)) rfl (fun x => by kernel_rfl)
def policy_Check_ctr (N : Nat) : Ctr := ⟨policy_Check_S4, policy_Check_S5.un [false], 0, (fun y => policy_Check N y.1.1)⟩
theorem policy_Check_ctrs (N : Nat) : CtrsOk Try.prog (policy_Check_C N) := ctrs_of (Γ := policy_Check_C N) G_ifs_ok (by
 intro p hp
 simp only [policy_Check_C, List.mem_cons, List.not_mem_nil, or_false] at hp
 rcases hp with rfl | rfl
 · exact policy_named_ok N
 · exact policy_CheckBox_ok N)
theorem policy_Check_ok (N : Nat) : Ctr.ok Try.prog G_globs 117 (policy_Check_ctr N) :=
 ctr_fn (Γ := policy_Check_C N) (rfit := policy_Check_S5) (bs := [false]) (res := [2]) (by kernel_rfl) (tys_ok G_tys_ok) (policy_Check_ctrs N) Try.func117 (by kernel_rfl) (by kernel_rfl) Try.ntmps117 (by kernel_rfl) (by kernel_rfl) (by kernel_rfl) (by kernel_rfl) (fun E hb => policy_Check_b N hb)
/-! ipsecgate/decorrelate.Entries$1 -/
abbrev decorrelate_Entries_f1_R : Type := ((Bool × Unit) × ((List D45) × Unit))
def decorrelate_Entries_f1_s2 (N : Nat) (t_8 : Int) (t_9 : Int) (p0 : (List D45)) (taken_2 : D45) (left_4 : (List D45)) : Option (Lo ((Int × Int × Unit) × ((List D45) × D45 × (List D45) × Unit)) ((Unit) × ((List D45) × (List D45) × Unit)) decorrelate_Entries_f1_R) :=
 bif (decide (t_9 < t_8)) then
 bif inR t_9 p0.length then
 Option.bind (decorrelate_Minus N (p0.getD t_9.toNat (((0 : Int), (0 : UInt64), (0 : UInt64), ()), ((0 : Int), (0 : UInt64), (0 : UInt64), ()), ((0 : Int), (0 : UInt64), (0 : UInt64), ()), ((0 : Int), (0 : UInt64), (0 : UInt64), ()), (0 : Int), (0 : Int), (List.replicate 2 (0 : Int)), (List.replicate 2 (0 : Int)), ())) taken_2) fun y4 =>
 bif room (left_4.length + y4.2.1.length) 144 then
 some (.go ((t_8, (w64 (t_9 + (1 : Int))), ()), (p0, taken_2, (left_4 ++ y4.2.1), ())))
 else none
 else none
 else
 some (.br ((()), (p0, left_4, ())))
def decorrelate_Entries_f1_3 (N : Nat) (p0 : (List D45)) (left_4 : (List D45)) : Option decorrelate_Entries_f1_R :=
 some (((decide ((left_4.length : Int) ≤ (400 : Int))), ()), (left_4, ()))
def decorrelate_Entries_f1_1 (N : Nat) (t_8 : Int) (t_9 : Int) (p0 : (List D45)) (taken_2 : D45) (left_4 : (List D45)) : Option decorrelate_Entries_f1_R :=
 loopK N (fun y => decorrelate_Entries_f1_s2 N y.1.1 y.1.2.1 y.2.1 y.2.2.1 y.2.2.2.1) (fun (e : ((Unit) × ((List D45) × (List D45) × Unit))) => decorrelate_Entries_f1_3 N e.2.1 e.2.2.1) ((t_8, t_9, ()), (p0, taken_2, left_4, ()))
def decorrelate_Entries_f1 (N : Nat) (taken_0 : D45) (t_1 : (List D45)) : Option decorrelate_Entries_f1_R :=
 decorrelate_Entries_f1_1 N (t_1.length : Int) (0 : Int) t_1 taken_0 ([] : List D45)
def decorrelate_Entries_f1_C (N : Nat) : Ctx := ⟨23, G_tys, [(30, decorrelate_Minus_ctr N)], G_globs, G_ifs⟩
def decorrelate_Entries_f1_S0 : Spec := ⟨[.ref 0 .unit, .ref 2 T45, .row 3, .row 1, .val .i64, .val .i64], [(.vbox 48 (.row 1), .fix 0), (.row 46 T45, .inn 0), (.box 46 T45, .pos 1), (.row 46 T45, .pos 2)]⟩
def decorrelate_Entries_f1_S1 : Spec := ⟨[.ref 0 .unit, .row 2], [(.vbox 48 (.row 1), .fix 0), (.row 46 T45, .inn 0), (.row 46 T45, .pos 1)]⟩
def decorrelate_Entries_f1_S2 : Spec := ⟨[.val T45, .ref 0 .unit], [(.vbox 48 (.row 1), .pos 1), (.row 46 T45, .inn 0)]⟩
def decorrelate_Entries_f1_S3 : Spec := ⟨[.val .bool], [(.vbox 48 (.row 1), .fix 0), (.row 46 T45, .inn 0)]⟩
def decorrelate_Entries_f1_K (_N : Nat) : XE → GS → Option decorrelate_Entries_f1_R := retK 1 [3] [false] decorrelate_Entries_f1_S3
def decorrelate_Entries_f1_L : List Code := (bodyOf (some Try.f118))
def decorrelate_Entries_f1_L2 : List Code := (loopOf (decorrelate_Entries_f1_L[3]?))
def decorrelate_Entries_f1_K2 (N : Nat) : XE → GS → Option (Lo ((Int × Int × Unit) × ((List D45) × D45 × (List D45) × Unit)) ((Unit) × ((List D45) × (List D45) × Unit)) decorrelate_Entries_f1_R) := roundK (some 0) (fit 1 [1, 2, 4, 7, 8, 9] decorrelate_Entries_f1_S0) (fit 1 [1, 4] decorrelate_Entries_f1_S1) (decorrelate_Entries_f1_K N)
theorem decorrelate_Entries_f1_s2_b {E : Env} (N : Nat) (hb : Base Try.prog (decorrelate_Entries_f1_C N) E 1) : Blk Try.prog (decorrelate_Entries_f1_C N) E [1, 2, 4, 7, 8, 9] decorrelate_Entries_f1_S0 (decorrelate_Entries_f1_L2.drop 0) (fun y => decorrelate_Entries_f1_s2 N y.1.1 y.1.2.1 y.2.1 y.2.2.1 y.2.2.2.1) (decorrelate_Entries_f1_K2 N) :=
 Blk.chunkAt hb 4 (X := (decorrelate_Entries_f1_K2 N .normal)) (NxOk.end (by kernel_rfl)) rfl (fun x => by kernel_rfl)
theorem decorrelate_Entries_f1_3_b {E : Env} (N : Nat) (hb : Base Try.prog (decorrelate_Entries_f1_C N) E 1) : Blk Try.prog (decorrelate_Entries_f1_C N) E [1, 4] decorrelate_Entries_f1_S1 (decorrelate_Entries_f1_L.drop 4) (fun y => decorrelate_Entries_f1_3 N y.2.1 y.2.2.1) (decorrelate_Entries_f1_K N) :=
 Blk.chunkAt hb 3 (X := (decorrelate_Entries_f1_K N .normal)) (NxOk.end (by kernel_rfl)) rfl (fun x => by kernel_rfl)
theorem decorrelate_Entries_f1_1_b {E : Env} (N : Nat) (hb : Base Try.prog (decorrelate_Entries_f1_C N) E 1) : Blk Try.prog (decorrelate_Entries_f1_C N) E [1, 2, 4, 7, 8, 9] decorrelate_Entries_f1_S0 (decorrelate_Entries_f1_L.drop 3) (fun y => decorrelate_Entries_f1_1 N y.1.1 y.1.2.1 y.2.1 y.2.2.1 y.2.2.2.1) (decorrelate_Entries_f1_K N) :=
 Blk.loopAt (Nf := N) (hns := [1, 2, 4, 7, 8, 9]) (ans := [1, 4]) (hc := decorrelate_Entries_f1_S0) (ac := decorrelate_Entries_f1_S1) (bid := 0) (step := (fun y => decorrelate_Entries_f1_s2 N y.1.1 y.1.2.1 y.2.1 y.2.2.1 y.2.2.2.1)) (J := (fun e => (goK 1 [1, 4] decorrelate_Entries_f1_S1 (fun y => decorrelate_Entries_f1_3 N y.2.1 y.2.2.1)) (decorrelate_Entries_f1_S1.st [1, 4] e))) hb (by kernel_rfl) (Blk.into (X := (goK 1 [1, 4] decorrelate_Entries_f1_S1 (fun y => decorrelate_Entries_f1_3 N y.2.1 y.2.2.1))) (NxOk.go hb (decorrelate_Entries_f1_3_b N hb)) (fun x => by kernel_rfl)) (decorrelate_Entries_f1_s2_b N hb) (fun x => by kernel_rfl)
theorem decorrelate_Entries_f1_b {E : Env} (N : Nat) (hb : Base Try.prog (decorrelate_Entries_f1_C N) E 1) : Blk Try.prog (decorrelate_Entries_f1_C N) E (List.range decorrelate_Entries_f1_S2.ks.length) decorrelate_Entries_f1_S2 (decorrelate_Entries_f1_L.drop 0) (fun y => decorrelate_Entries_f1 N y.1.1 y.2.1) (decorrelate_Entries_f1_K N) :=
 Blk.chunkAt hb 3 (X := (goK 1 [1, 2, 4, 7, 8, 9] decorrelate_Entries_f1_S0 (fun y => decorrelate_Entries_f1_1 N y.1.1 y.1.2.1 y.2.1 y.2.2.1 y.2.2.2.1))) (NxOk.go hb (decorrelate_Entries_f1_1_b N hb)) rfl (fun x => by kernel_rfl)
def decorrelate_Entries_f1_ctr (N : Nat) : Ctr := ⟨decorrelate_Entries_f1_S2, decorrelate_Entries_f1_S3.un [false], 1, (fun y => decorrelate_Entries_f1 N y.1.1 y.2.1)⟩
theorem decorrelate_Entries_f1_ctrs (N : Nat) : CtrsOk Try.prog (decorrelate_Entries_f1_C N) := ctrs_of (Γ := decorrelate_Entries_f1_C N) G_ifs_ok (by
 intro p hp
 simp only [decorrelate_Entries_f1_C, List.mem_cons, List.not_mem_nil, or_false] at hp
 rcases hp with rfl
 · exact decorrelate_Minus_ok N)
theorem decorrelate_Entries_f1_ok (N : Nat) : Ctr.ok Try.prog G_globs 118 (decorrelate_Entries_f1_ctr N) :=
 ctr_fn (Γ := decorrelate_Entries_f1_C N) (rfit := decorrelate_Entries_f1_S3) (bs := [false]) (res := [3]) (by kernel_rfl) (tys_ok G_tys_ok) (decorrelate_Entries_f1_ctrs N) Try.func118 (by kernel_rfl) (by kernel_rfl) Try.ntmps118 (by kernel_rfl) (by kernel_rfl) (by kernel_rfl) (by kernel_rfl) (fun E hb => decorrelate_Entries_f1_b N hb)
/-! ipsecgate/decorrelate.Entries -/
abbrev decorrelate_Entries_R : Type := ((Int × Unit) × ((List D85) × Unit))
def decorrelate_Entries_s12 (N : Nat) (i_6 : Int) (t_21 : (List D59)) (t_22 : Int) (t_23 : Int) (t_29 : (List D45)) (t_30 : Int) (t_31 : Int) (t_39 : Int) (t_40 : Int) (out_5 : (List D85)) (pieces_10 : (List D45)) : Option (Lo ((Int × (List D59) × Int × Int × (List D45) × Int × Int × Int × Int × Unit) × ((List D85) × (List D45) × Unit)) ((Int × (List D59) × Int × Int × (List D45) × Int × Int × Unit) × ((List D85) × (List D45) × Unit)) (Lo ((Int × (List D59) × Int × Int × (List D45) × Int × Int × Unit) × ((List D85) × Unit)) (((List D59) × Int × Int × Unit) × ((List D85) × Unit)) (Lo (((List D59) × Int × Int × Unit) × ((List D85) × Unit)) ((Unit) × ((List D85) × Unit)) decorrelate_Entries_R))) :=
 bif (decide (t_40 < t_39)) then
 bif inR t_40 out_5.length then
 Option.bind (decorrelate_Entries_f1 N (out_5.getD t_40.toNat ((((0 : Int), (0 : UInt64), (0 : UInt64), ()), ((0 : Int), (0 : UInt64), (0 : UInt64), ()), ((0 : Int), (0 : UInt64), (0 : UInt64), ()), ((0 : Int), (0 : UInt64), (0 : UInt64), ()), (0 : Int), (0 : Int), (List.replicate 2 (0 : Int)), (List.replicate 2 (0 : Int)), ()), (0 : Int), ())).1 pieces_10) fun y12 =>
 bif (!y12.1.1) then
 some (.rt (.rt (.rt (((10 : Int), ()), (([] : List D85), ())))))
 else
 some (.go ((i_6, t_21, t_22, t_23, t_29, t_30, t_31, t_39, (w64 (t_40 + (1 : Int))), ()), (out_5, y12.2.1, ())))
 else none
 else
 some (.br ((i_6, t_21, t_22, t_23, t_29, t_30, t_31, ()), (out_5, pieces_10, ())))
def decorrelate_Entries_s15 (N : Nat) (i_6 : Int) (t_21 : (List D59)) (t_22 : Int) (t_23 : Int) (t_29 : (List D45)) (t_30 : Int) (t_31 : Int) (t_51 : Int) (t_52 : Int) (out_5 : (List D85)) (t_50 : (List D45)) : Option (Lo ((Int × (List D59) × Int × Int × (List D45) × Int × Int × Int × Int × Unit) × ((List D85) × (List D45) × Unit)) ((Int × (List D59) × Int × Int × (List D45) × Int × Int × Unit) × ((List D85) × Unit)) (Lo ((Int × (List D59) × Int × Int × (List D45) × Int × Int × Unit) × ((List D85) × Unit)) (((List D59) × Int × Int × Unit) × ((List D85) × Unit)) (Lo (((List D59) × Int × Int × Unit) × ((List D85) × Unit)) ((Unit) × ((List D85) × Unit)) decorrelate_Entries_R))) :=
 bif (decide (t_52 < t_51)) then
 bif inR t_52 t_50.length then
 let x17 := (t_50.getD t_52.toNat (((0 : Int), (0 : UInt64), (0 : UInt64), ()), ((0 : Int), (0 : UInt64), (0 : UInt64), ()), ((0 : Int), (0 : UInt64), (0 : UInt64), ()), ((0 : Int), (0 : UInt64), (0 : UInt64), ()), (0 : Int), (0 : Int), (List.replicate 2 (0 : Int)), (List.replicate 2 (0 : Int)), ()))
 bif room (out_5.length + ([(x17, i_6, ())] : List D85).length) 152 then
 some (.go ((i_6, t_21, t_22, t_23, t_29, t_30, t_31, t_51, (w64 (t_52 + (1 : Int))), ()), ((out_5 ++ ([(x17, i_6, ())] : List D85)), t_50, ())))
 else none
 else none
 else
 some (.br ((i_6, t_21, t_22, t_23, t_29, t_30, t_31, ()), (out_5, ())))
def decorrelate_Entries_17 (N : Nat) (i_6 : Int) (t_21 : (List D59)) (t_22 : Int) (t_23 : Int) (t_29 : (List D45)) (t_30 : Int) (t_31 : Int) (out_5 : (List D85)) : Option (Lo ((Int × (List D59) × Int × Int × (List D45) × Int × Int × Unit) × ((List D85) × Unit)) (((List D59) × Int × Int × Unit) × ((List D85) × Unit)) (Lo (((List D59) × Int × Int × Unit) × ((List D85) × Unit)) ((Unit) × ((List D85) × Unit)) decorrelate_Entries_R)) :=
 some (.go ((i_6, t_21, t_22, t_23, t_29, t_30, (w64 (t_31 + (1 : Int))), ()), (out_5, ())))
def decorrelate_Entries_16 (N : Nat) (i_6 : Int) (t_21 : (List D59)) (t_22 : Int) (t_23 : Int) (t_29 : (List D45)) (t_30 : Int) (t_31 : Int) (out_5 : (List D85)) : Option (Lo ((Int × (List D59) × Int × Int × (List D45) × Int × Int × Unit) × ((List D85) × Unit)) (((List D59) × Int × Int × Unit) × ((List D85) × Unit)) (Lo (((List D59) × Int × Int × Unit) × ((List D85) × Unit)) ((Unit) × ((List D85) × Unit)) decorrelate_Entries_R)) :=
 bif (decide ((400 : Int) < (out_5.length : Int))) then
 some (.rt (.rt (((10 : Int), ()), (([] : List D85), ()))))
 else
 decorrelate_Entries_17 N i_6 t_21 t_22 t_23 t_29 t_30 t_31 out_5
def decorrelate_Entries_14 (N : Nat) (i_6 : Int) (t_21 : (List D59)) (t_22 : Int) (t_23 : Int) (t_29 : (List D45)) (t_30 : Int) (t_31 : Int) (t_51 : Int) (t_52 : Int) (out_5 : (List D85)) (t_50 : (List D45)) : Option (Lo ((Int × (List D59) × Int × Int × (List D45) × Int × Int × Unit) × ((List D85) × Unit)) (((List D59) × Int × Int × Unit) × ((List D85) × Unit)) (Lo (((List D59) × Int × Int × Unit) × ((List D85) × Unit)) ((Unit) × ((List D85) × Unit)) decorrelate_Entries_R)) :=
 loopK N (fun y => decorrelate_Entries_s15 N y.1.1 y.1.2.1 y.1.2.2.1 y.1.2.2.2.1 y.1.2.2.2.2.1 y.1.2.2.2.2.2.1 y.1.2.2.2.2.2.2.1 y.1.2.2.2.2.2.2.2.1 y.1.2.2.2.2.2.2.2.2.1 y.2.1 y.2.2.1) (fun (e : ((Int × (List D59) × Int × Int × (List D45) × Int × Int × Unit) × ((List D85) × Unit))) => decorrelate_Entries_16 N e.1.1 e.1.2.1 e.1.2.2.1 e.1.2.2.2.1 e.1.2.2.2.2.1 e.1.2.2.2.2.2.1 e.1.2.2.2.2.2.2.1 e.2.1) ((i_6, t_21, t_22, t_23, t_29, t_30, t_31, t_51, t_52, ()), (out_5, t_50, ()))
def decorrelate_Entries_13 (N : Nat) (i_6 : Int) (t_21 : (List D59)) (t_22 : Int) (t_23 : Int) (t_29 : (List D45)) (t_30 : Int) (t_31 : Int) (out_5 : (List D85)) (pieces_10 : (List D45)) : Option (Lo ((Int × (List D59) × Int × Int × (List D45) × Int × Int × Unit) × ((List D85) × Unit)) (((List D59) × Int × Int × Unit) × ((List D85) × Unit)) (Lo (((List D59) × Int × Int × Unit) × ((List D85) × Unit)) ((Unit) × ((List D85) × Unit)) decorrelate_Entries_R)) :=
 decorrelate_Entries_14 N i_6 t_21 t_22 t_23 t_29 t_30 t_31 (pieces_10.length : Int) (0 : Int) out_5 pieces_10
def decorrelate_Entries_11 (N : Nat) (i_6 : Int) (t_21 : (List D59)) (t_22 : Int) (t_23 : Int) (t_29 : (List D45)) (t_30 : Int) (t_31 : Int) (t_39 : Int) (t_40 : Int) (out_5 : (List D85)) (pieces_10 : (List D45)) : Option (Lo ((Int × (List D59) × Int × Int × (List D45) × Int × Int × Unit) × ((List D85) × Unit)) (((List D59) × Int × Int × Unit) × ((List D85) × Unit)) (Lo (((List D59) × Int × Int × Unit) × ((List D85) × Unit)) ((Unit) × ((List D85) × Unit)) decorrelate_Entries_R)) :=
 loopK N (fun y => decorrelate_Entries_s12 N y.1.1 y.1.2.1 y.1.2.2.1 y.1.2.2.2.1 y.1.2.2.2.2.1 y.1.2.2.2.2.2.1 y.1.2.2.2.2.2.2.1 y.1.2.2.2.2.2.2.2.1 y.1.2.2.2.2.2.2.2.2.1 y.2.1 y.2.2.1) (fun (e : ((Int × (List D59) × Int × Int × (List D45) × Int × Int × Unit) × ((List D85) × (List D45) × Unit))) => decorrelate_Entries_13 N e.1.1 e.1.2.1 e.1.2.2.1 e.1.2.2.2.1 e.1.2.2.2.2.1 e.1.2.2.2.2.2.1 e.1.2.2.2.2.2.2.1 e.2.1 e.2.2.1) ((i_6, t_21, t_22, t_23, t_29, t_30, t_31, t_39, t_40, ()), (out_5, pieces_10, ()))
def decorrelate_Entries_10 (N : Nat) (i_6 : Int) (t_21 : (List D59)) (t_22 : Int) (t_23 : Int) (t_29 : (List D45)) (t_30 : Int) (t_31 : Int) (out_5 : (List D85)) : Option (Lo ((Int × (List D59) × Int × Int × (List D45) × Int × Int × Unit) × ((List D85) × Unit)) (((List D59) × Int × Int × Unit) × ((List D85) × Unit)) (Lo (((List D59) × Int × Int × Unit) × ((List D85) × Unit)) ((Unit) × ((List D85) × Unit)) decorrelate_Entries_R)) :=
 bif inR t_31 t_29.length then
 decorrelate_Entries_11 N i_6 t_21 t_22 t_23 t_29 t_30 t_31 (out_5.length : Int) (0 : Int) out_5 ([(t_29.getD t_31.toNat (((0 : Int), (0 : UInt64), (0 : UInt64), ()), ((0 : Int), (0 : UInt64), (0 : UInt64), ()), ((0 : Int), (0 : UInt64), (0 : UInt64), ()), ((0 : Int), (0 : UInt64), (0 : UInt64), ()), (0 : Int), (0 : Int), (List.replicate 2 (0 : Int)), (List.replicate 2 (0 : Int)), ()))] : List D45)
 else none
def decorrelate_Entries_8 (N : Nat) (i_6 : Int) (t_21 : (List D59)) (t_22 : Int) (t_23 : Int) (t_29 : (List D45)) (t_30 : Int) (t_31 : Int) (out_5 : (List D85)) : Option (Lo ((Int × (List D59) × Int × Int × (List D45) × Int × Int × Unit) × ((List D85) × Unit)) (((List D59) × Int × Int × Unit) × ((List D85) × Unit)) (Lo (((List D59) × Int × Int × Unit) × ((List D85) × Unit)) ((Unit) × ((List D85) × Unit)) decorrelate_Entries_R)) :=
 decorrelate_Entries_10 N i_6 t_21 t_22 t_23 t_29 t_30 t_31 out_5
def decorrelate_Entries_s7 (N : Nat) (i_6 : Int) (t_21 : (List D59)) (t_22 : Int) (t_23 : Int) (t_29 : (List D45)) (t_30 : Int) (t_31 : Int) (out_5 : (List D85)) : Option (Lo ((Int × (List D59) × Int × Int × (List D45) × Int × Int × Unit) × ((List D85) × Unit)) (((List D59) × Int × Int × Unit) × ((List D85) × Unit)) (Lo (((List D59) × Int × Int × Unit) × ((List D85) × Unit)) ((Unit) × ((List D85) × Unit)) decorrelate_Entries_R)) :=
 bif (decide (t_31 < t_30)) then
 decorrelate_Entries_8 N i_6 t_21 t_22 t_23 t_29 t_30 t_31 out_5
 else
 some (.br ((t_21, t_22, t_23, ()), (out_5, ())))
def decorrelate_Entries_18 (N : Nat) (t_21 : (List D59)) (t_22 : Int) (t_23 : Int) (out_5 : (List D85)) : Option (Lo (((List D59) × Int × Int × Unit) × ((List D85) × Unit)) ((Unit) × ((List D85) × Unit)) decorrelate_Entries_R) :=
 some (.go ((t_21, t_22, (w64 (t_23 + (1 : Int))), ()), (out_5, ())))
def decorrelate_Entries_6 (N : Nat) (i_6 : Int) (t_21 : (List D59)) (t_22 : Int) (t_23 : Int) (t_29 : (List D45)) (t_30 : Int) (t_31 : Int) (out_5 : (List D85)) : Option (Lo (((List D59) × Int × Int × Unit) × ((List D85) × Unit)) ((Unit) × ((List D85) × Unit)) decorrelate_Entries_R) :=
 loopK N (fun y => decorrelate_Entries_s7 N y.1.1 y.1.2.1 y.1.2.2.1 y.1.2.2.2.1 y.1.2.2.2.2.1 y.1.2.2.2.2.2.1 y.1.2.2.2.2.2.2.1 y.2.1) (fun (e : (((List D59) × Int × Int × Unit) × ((List D85) × Unit))) => decorrelate_Entries_18 N e.1.1 e.1.2.1 e.1.2.2.1 e.2.1) ((i_6, t_21, t_22, t_23, t_29, t_30, t_31, ()), (out_5, ()))
def decorrelate_Entries_5 (N : Nat) (t_21 : (List D59)) (t_22 : Int) (t_23 : Int) (out_5 : (List D85)) : Option (Lo (((List D59) × Int × Int × Unit) × ((List D85) × Unit)) ((Unit) × ((List D85) × Unit)) decorrelate_Entries_R) :=
 bif inR t_23 t_21.length then
 let x5 := t_21.getD t_23.toNat ((0 : Int), ([] : List UInt8), ([] : List D45), ())
 decorrelate_Entries_6 N t_23 t_21 t_22 t_23 x5.2.2.1 (x5.2.2.1.length : Int) (0 : Int) out_5
 else none
def decorrelate_Entries_3 (N : Nat) (t_21 : (List D59)) (t_22 : Int) (t_23 : Int) (out_5 : (List D85)) : Option (Lo (((List D59) × Int × Int × Unit) × ((List D85) × Unit)) ((Unit) × ((List D85) × Unit)) decorrelate_Entries_R) :=
 decorrelate_Entries_5 N t_21 t_22 t_23 out_5
def decorrelate_Entries_s2 (N : Nat) (t_21 : (List D59)) (t_22 : Int) (t_23 : Int) (out_5 : (List D85)) : Option (Lo (((List D59) × Int × Int × Unit) × ((List D85) × Unit)) ((Unit) × ((List D85) × Unit)) decorrelate_Entries_R) :=
 bif (decide (t_23 < t_22)) then
 decorrelate_Entries_3 N t_21 t_22 t_23 out_5
 else
 some (.br ((()), (out_5, ())))
def decorrelate_Entries_19 (N : Nat) (out_5 : (List D85)) : Option decorrelate_Entries_R :=
 some (((0 : Int), ()), (out_5, ()))
def decorrelate_Entries_1 (N : Nat) (t_21 : (List D59)) (t_22 : Int) (t_23 : Int) (out_5 : (List D85)) : Option decorrelate_Entries_R :=
 loopK N (fun y => decorrelate_Entries_s2 N y.1.1 y.1.2.1 y.1.2.2.1 y.2.1) (fun (e : ((Unit) × ((List D85) × Unit))) => decorrelate_Entries_19 N e.2.1) ((t_21, t_22, t_23, ()), (out_5, ()))
def decorrelate_Entries (N : Nat) (l_0 : (List D59)) : Option decorrelate_Entries_R :=
 Option.bind (policy_Check N l_0) fun y1 =>
 bif (!(decide (y1.1.1 = (0 : Int)))) then
 some ((y1.1.1, ()), (([] : List D85), ()))
 else
 decorrelate_Entries_1 N l_0 (l_0.length : Int) (0 : Int) ([] : List D85)
def decorrelate_Entries_C (N : Nat) : Ctx := ⟨69, G_tys, [(117, policy_Check_ctr N), (118, decorrelate_Entries_f1_ctr N)], G_globs, G_ifs⟩
def decorrelate_Entries_S0 : Spec := ⟨[.row 0, .val .i64, .ref 1 .unit, .clo 118 [(1, .unit)], .val (.sl T59), .val .i64, .val .i64, .val (.sl T45), .val .i64, .val .i64, .row 0, .val .i64, .val .i64], [(.row 86 T85, .pos 0), (.vbox 48 (.row 2), .pos 2), (.row 46 T45, .inn 1)]⟩
def decorrelate_Entries_S1 : Spec := ⟨[.row 0, .val .i64, .val (.sl T59), .val .i64, .val .i64, .val (.sl T45), .val .i64, .val .i64, .row 1, .val .i64, .val .i64], [(.row 86 T85, .pos 0), (.row 46 T45, .pos 8)]⟩
def decorrelate_Entries_S2 : Spec := ⟨[.row 0, .val .i64, .val (.sl T59), .val .i64, .val .i64, .val (.sl T45), .val .i64, .val .i64], [(.row 86 T85, .pos 0)]⟩
def decorrelate_Entries_S3 : Spec := ⟨[.row 0, .val .i64, .ref 1 .unit, .val (.sl T59), .val .i64, .val .i64, .val (.sl T45), .val .i64, .val .i64], [(.row 86 T85, .pos 0), (.vbox 48 (.row 2), .pos 2), (.row 46 T45, .inn 1)]⟩
def decorrelate_Entries_S4 : Spec := ⟨[.row 0, .val (.sl T59), .val .i64, .val .i64], [(.row 86 T85, .pos 0)]⟩
def decorrelate_Entries_S5 : Spec := ⟨[.row 0], [(.row 86 T85, .pos 0)]⟩
def decorrelate_Entries_S6 : Spec := ⟨[.val (.sl T59)], []⟩
def decorrelate_Entries_S7 : Spec := ⟨[.row 0, .val .i64], [(.row 86 T85, .pos 0)]⟩
def decorrelate_Entries_K (_N : Nat) : XE → GS → Option decorrelate_Entries_R := retK 0 [2, 3] [false, false] decorrelate_Entries_S7
def decorrelate_Entries_L : List Code := (bodyOf (some Try.f60))
def decorrelate_Entries_L2 : List Code := (loopOf (decorrelate_Entries_L[6]?))
def decorrelate_Entries_L4b : List Code := (blockOf (decorrelate_Entries_L2[2]?))
def decorrelate_Entries_L7 : List Code := (loopOf (decorrelate_Entries_L4b[2]?))
def decorrelate_Entries_L9b : List Code := (blockOf (decorrelate_Entries_L7[2]?))
def decorrelate_Entries_L12 : List Code := (loopOf (decorrelate_Entries_L9b[4]?))
def decorrelate_Entries_L15 : List Code := (loopOf (decorrelate_Entries_L9b[6]?))
def decorrelate_Entries_K2 (N : Nat) : XE → GS → Option (Lo (((List D59) × Int × Int × Unit) × ((List D85) × Unit)) ((Unit) × ((List D85) × Unit)) decorrelate_Entries_R) := roundK (some 0) (fit 0 [5, 21, 22, 23] decorrelate_Entries_S4) (fit 0 [5] decorrelate_Entries_S5) (decorrelate_Entries_K N)
def decorrelate_Entries_K4 (N : Nat) : XE → GS → Option (Lo (((List D59) × Int × Int × Unit) × ((List D85) × Unit)) ((Unit) × ((List D85) × Unit)) decorrelate_Entries_R) := blockK 1 (goK 0 [5, 21, 22, 23] decorrelate_Entries_S4 (fun y => decorrelate_Entries_18 N y.1.1 y.1.2.1 y.1.2.2.1 y.2.1)) (decorrelate_Entries_K2 N)
def decorrelate_Entries_K7 (N : Nat) : XE → GS → Option (Lo ((Int × (List D59) × Int × Int × (List D45) × Int × Int × Unit) × ((List D85) × Unit)) (((List D59) × Int × Int × Unit) × ((List D85) × Unit)) (Lo (((List D59) × Int × Int × Unit) × ((List D85) × Unit)) ((Unit) × ((List D85) × Unit)) decorrelate_Entries_R)) := roundK (some 2) (fit 0 [5, 6, 21, 22, 23, 29, 30, 31] decorrelate_Entries_S2) (fit 0 [5, 21, 22, 23] decorrelate_Entries_S4) (decorrelate_Entries_K4 N)
def decorrelate_Entries_K9 (N : Nat) : XE → GS → Option (Lo ((Int × (List D59) × Int × Int × (List D45) × Int × Int × Unit) × ((List D85) × Unit)) (((List D59) × Int × Int × Unit) × ((List D85) × Unit)) (Lo (((List D59) × Int × Int × Unit) × ((List D85) × Unit)) ((Unit) × ((List D85) × Unit)) decorrelate_Entries_R)) := blockK 3 (goK 0 [5, 6, 21, 22, 23, 29, 30, 31] decorrelate_Entries_S2 (fun y => decorrelate_Entries_17 N y.1.1 y.1.2.1 y.1.2.2.1 y.1.2.2.2.1 y.1.2.2.2.2.1 y.1.2.2.2.2.2.1 y.1.2.2.2.2.2.2.1 y.2.1)) (decorrelate_Entries_K7 N)
def decorrelate_Entries_K12 (N : Nat) : XE → GS → Option (Lo ((Int × (List D59) × Int × Int × (List D45) × Int × Int × Int × Int × Unit) × ((List D85) × (List D45) × Unit)) ((Int × (List D59) × Int × Int × (List D45) × Int × Int × Unit) × ((List D85) × (List D45) × Unit)) (Lo ((Int × (List D59) × Int × Int × (List D45) × Int × Int × Unit) × ((List D85) × Unit)) (((List D59) × Int × Int × Unit) × ((List D85) × Unit)) (Lo (((List D59) × Int × Int × Unit) × ((List D85) × Unit)) ((Unit) × ((List D85) × Unit)) decorrelate_Entries_R))) := roundK (some 4) (fit 0 [5, 6, 10, 11, 21, 22, 23, 29, 30, 31, 38, 39, 40] decorrelate_Entries_S0) (fit 0 [5, 6, 10, 21, 22, 23, 29, 30, 31] decorrelate_Entries_S3) (decorrelate_Entries_K9 N)
def decorrelate_Entries_K15 (N : Nat) : XE → GS → Option (Lo ((Int × (List D59) × Int × Int × (List D45) × Int × Int × Int × Int × Unit) × ((List D85) × (List D45) × Unit)) ((Int × (List D59) × Int × Int × (List D45) × Int × Int × Unit) × ((List D85) × Unit)) (Lo ((Int × (List D59) × Int × Int × (List D45) × Int × Int × Unit) × ((List D85) × Unit)) (((List D59) × Int × Int × Unit) × ((List D85) × Unit)) (Lo (((List D59) × Int × Int × Unit) × ((List D85) × Unit)) ((Unit) × ((List D85) × Unit)) decorrelate_Entries_R))) := roundK (some 6) (fit 0 [5, 6, 21, 22, 23, 29, 30, 31, 50, 51, 52] decorrelate_Entries_S1) (fit 0 [5, 6, 21, 22, 23, 29, 30, 31] decorrelate_Entries_S2) (decorrelate_Entries_K9 N)
theorem decorrelate_Entries_s12_b {E : Env} (N : Nat) (hb : Base Try.prog (decorrelate_Entries_C N) E 0) : Blk Try.prog (decorrelate_Entries_C N) E [5, 6, 10, 11, 21, 22, 23, 29, 30, 31, 38, 39, 40] decorrelate_Entries_S0 (decorrelate_Entries_L12.drop 0) (fun y => decorrelate_Entries_s12 N y.1.1 y.1.2.1 y.1.2.2.1 y.1.2.2.2.1 y.1.2.2.2.2.1 y.1.2.2.2.2.2.1 y.1.2.2.2.2.2.2.1 y.1.2.2.2.2.2.2.2.1 y.1.2.2.2.2.2.2.2.2.1 y.2.1 y.2.2.1) (decorrelate_Entries_K12 N) :=
 Blk.chunkAt hb 4 (X := (decorrelate_Entries_K12 N .normal)) (NxOk.end (by kernel_rfl)) rfl (fun x => by kernel_rfl)
theorem decorrelate_Entries_s15_b {E : Env} (N : Nat) (hb : Base Try.prog (decorrelate_Entries_C N) E 0) : Blk Try.prog (decorrelate_Entries_C N) E [5, 6, 21, 22, 23, 29, 30, 31, 50, 51, 52] decorrelate_Entries_S1 (decorrelate_Entries_L15.drop 0) (fun y => decorrelate_Entries_s15 N y.1.1 y.1.2.1 y.1.2.2.1 y.1.2.2.2.1 y.1.2.2.2.2.1 y.1.2.2.2.2.2.1 y.1.2.2.2.2.2.2.1 y.1.2.2.2.2.2.2.2.1 y.1.2.2.2.2.2.2.2.2.1 y.2.1 y.2.2.1) (decorrelate_Entries_K15 N) :=
 Blk.chunkAt hb 4 (X := (decorrelate_Entries_K15 N .normal)) (NxOk.end (by kernel_rfl)) rfl (fun x => by kernel_rfl)
theorem decorrelate_Entries_17_b {E : Env} (N : Nat) (hb : Base Try.prog (decorrelate_Entries_C N) E 0) : Blk Try.prog (decorrelate_Entries_C N) E [5, 6, 21, 22, 23, 29, 30, 31] decorrelate_Entries_S2 (decorrelate_Entries_L7.drop 3) (fun y => decorrelate_Entries_17 N y.1.1 y.1.2.1 y.1.2.2.1 y.1.2.2.2.1 y.1.2.2.2.2.1 y.1.2.2.2.2.2.1 y.1.2.2.2.2.2.2.1 y.2.1) (decorrelate_Entries_K7 N) :=
 Blk.chunkAt hb 1 (X := (decorrelate_Entries_K7 N .normal)) (NxOk.end (by kernel_rfl)) rfl (fun x => by kernel_rfl)
theorem decorrelate_Entries_16_b {E : Env} (N : Nat) (hb : Base Try.prog (decorrelate_Entries_C N) E 0) : Blk Try.prog (decorrelate_Entries_C N) E [5, 6, 21, 22, 23, 29, 30, 31] decorrelate_Entries_S2 (decorrelate_Entries_L9b.drop 7) (fun y => decorrelate_Entries_16 N y.1.1 y.1.2.1 y.1.2.2.1 y.1.2.2.2.1 y.1.2.2.2.2.1 y.1.2.2.2.2.2.1 y.1.2.2.2.2.2.2.1 y.2.1) (decorrelate_Entries_K9 N) :=
 Blk.chunkAt hb 2 (X := (decorrelate_Entries_K9 N .normal)) (NxOk.end (by kernel_rfl)) rfl (fun x => by kernel_rfl)
theorem decorrelate_Entries_14_b {E : Env} (N : Nat) (hb : Base Try.prog (decorrelate_Entries_C N) E 0) : Blk Try.prog (decorrelate_Entries_C N) E [5, 6, 21, 22, 23, 29, 30, 31, 50, 51, 52] decorrelate_Entries_S1 (decorrelate_Entries_L9b.drop 6) (fun y => decorrelate_Entries_14 N y.1.1 y.1.2.1 y.1.2.2.1 y.1.2.2.2.1 y.1.2.2.2.2.1 y.1.2.2.2.2.2.1 y.1.2.2.2.2.2.2.1 y.1.2.2.2.2.2.2.2.1 y.1.2.2.2.2.2.2.2.2.1 y.2.1 y.2.2.1) (decorrelate_Entries_K9 N) :=
 Blk.loopAt (Nf := N) (hns := [5, 6, 21, 22, 23, 29, 30, 31, 50, 51, 52]) (ans := [5, 6, 21, 22, 23, 29, 30, 31]) (hc := decorrelate_Entries_S1) (ac := decorrelate_Entries_S2) (bid := 6) (step := (fun y => decorrelate_Entries_s15 N y.1.1 y.1.2.1 y.1.2.2.1 y.1.2.2.2.1 y.1.2.2.2.2.1 y.1.2.2.2.2.2.1 y.1.2.2.2.2.2.2.1 y.1.2.2.2.2.2.2.2.1 y.1.2.2.2.2.2.2.2.2.1 y.2.1 y.2.2.1)) (J := (fun e => (goK 0 [5, 6, 21, 22, 23, 29, 30, 31] decorrelate_Entries_S2 (fun y => decorrelate_Entries_16 N y.1.1 y.1.2.1 y.1.2.2.1 y.1.2.2.2.1 y.1.2.2.2.2.1 y.1.2.2.2.2.2.1 y.1.2.2.2.2.2.2.1 y.2.1)) (decorrelate_Entries_S2.st [5, 6, 21, 22, 23, 29, 30, 31] e))) hb (by kernel_rfl) (Blk.into (X := (goK 0 [5, 6, 21, 22, 23, 29, 30, 31] decorrelate_Entries_S2 (fun y => decorrelate_Entries_16 N y.1.1 y.1.2.1 y.1.2.2.1 y.1.2.2.2.1 y.1.2.2.2.2.1 y.1.2.2.2.2.2.1 y.1.2.2.2.2.2.2.1 y.2.1))) (NxOk.go hb (decorrelate_Entries_16_b N hb)) (fun x => by kernel_rfl)) (decorrelate_Entries_s15_b N hb) (fun x => by kernel_rfl)
theorem decorrelate_Entries_13_b {E : Env} (N : Nat) (hb : Base Try.prog (decorrelate_Entries_C N) E 0) : Blk Try.prog (decorrelate_Entries_C N) E [5, 6, 10, 21, 22, 23, 29, 30, 31] decorrelate_Entries_S3 (decorrelate_Entries_L9b.drop 5) (fun y => decorrelate_Entries_13 N y.1.1 y.1.2.1 y.1.2.2.1 y.1.2.2.2.1 y.1.2.2.2.2.1 y.1.2.2.2.2.2.1 y.1.2.2.2.2.2.2.1 y.2.1 y.2.2.1) (decorrelate_Entries_K9 N) :=
 Blk.chunkAt hb 1 (X := (goK 0 [5, 6, 21, 22, 23, 29, 30, 31, 50, 51, 52] decorrelate_Entries_S1 (fun y => decorrelate_Entries_14 N y.1.1 y.1.2.1 y.1.2.2.1 y.1.2.2.2.1 y.1.2.2.2.2.1 y.1.2.2.2.2.2.1 y.1.2.2.2.2.2.2.1 y.1.2.2.2.2.2.2.2.1 y.1.2.2.2.2.2.2.2.2.1 y.2.1 y.2.2.1))) (NxOk.go hb (decorrelate_Entries_14_b N hb)) rfl (fun x => by kernel_rfl)
theorem decorrelate_Entries_11_b {E : Env} (N : Nat) (hb : Base Try.prog (decorrelate_Entries_C N) E 0) : Blk Try.prog (decorrelate_Entries_C N) E [5, 6, 10, 11, 21, 22, 23, 29, 30, 31, 38, 39, 40] decorrelate_Entries_S0 (decorrelate_Entries_L9b.drop 4) (fun y => decorrelate_Entries_11 N y.1.1 y.1.2.1 y.1.2.2.1 y.1.2.2.2.1 y.1.2.2.2.2.1 y.1.2.2.2.2.2.1 y.1.2.2.2.2.2.2.1 y.1.2.2.2.2.2.2.2.1 y.1.2.2.2.2.2.2.2.2.1 y.2.1 y.2.2.1) (decorrelate_Entries_K9 N) :=
 Blk.loopAt (Nf := N) (hns := [5, 6, 10, 11, 21, 22, 23, 29, 30, 31, 38, 39, 40]) (ans := [5, 6, 10, 21, 22, 23, 29, 30, 31]) (hc := decorrelate_Entries_S0) (ac := decorrelate_Entries_S3) (bid := 4) (step := (fun y => decorrelate_Entries_s12 N y.1.1 y.1.2.1 y.1.2.2.1 y.1.2.2.2.1 y.1.2.2.2.2.1 y.1.2.2.2.2.2.1 y.1.2.2.2.2.2.2.1 y.1.2.2.2.2.2.2.2.1 y.1.2.2.2.2.2.2.2.2.1 y.2.1 y.2.2.1)) (J := (fun e => (goK 0 [5, 6, 10, 21, 22, 23, 29, 30, 31] decorrelate_Entries_S3 (fun y => decorrelate_Entries_13 N y.1.1 y.1.2.1 y.1.2.2.1 y.1.2.2.2.1 y.1.2.2.2.2.1 y.1.2.2.2.2.2.1 y.1.2.2.2.2.2.2.1 y.2.1 y.2.2.1)) (decorrelate_Entries_S3.st [5, 6, 10, 21, 22, 23, 29, 30, 31] e))) hb (by kernel_rfl) (Blk.into (X := (goK 0 [5, 6, 10, 21, 22, 23, 29, 30, 31] decorrelate_Entries_S3 (fun y => decorrelate_Entries_13 N y.1.1 y.1.2.1 y.1.2.2.1 y.1.2.2.2.1 y.1.2.2.2.2.1 y.1.2.2.2.2.2.1 y.1.2.2.2.2.2.2.1 y.2.1 y.2.2.1))) (NxOk.go hb (decorrelate_Entries_13_b N hb)) (fun x => by kernel_rfl)) (decorrelate_Entries_s12_b N hb) (fun x => by kernel_rfl)
theorem decorrelate_Entries_10_b {E : Env} (N : Nat) (hb : Base Try.prog (decorrelate_Entries_C N) E 0) : Blk Try.prog (decorrelate_Entries_C N) E [5, 6, 21, 22, 23, 29, 30, 31] decorrelate_Entries_S2 (decorrelate_Entries_L9b.drop 0) (fun y => decorrelate_Entries_10 N y.1.1 y.1.2.1 y.1.2.2.1 y.1.2.2.2.1 y.1.2.2.2.2.1 y.1.2.2.2.2.2.1 y.1.2.2.2.2.2.2.1 y.2.1) (decorrelate_Entries_K9 N) :=
 Blk.chunkAt hb 4 (X := (goK 0 [5, 6, 10, 11, 21, 22, 23, 29, 30, 31, 38, 39, 40] decorrelate_Entries_S0 (fun y => decorrelate_Entries_11 N y.1.1 y.1.2.1 y.1.2.2.1 y.1.2.2.2.1 y.1.2.2.2.2.1 y.1.2.2.2.2.2.1 y.1.2.2.2.2.2.2.1 y.1.2.2.2.2.2.2.2.1 y.1.2.2.2.2.2.2.2.2.1 y.2.1 y.2.2.1))) (NxOk.go hb (decorrelate_Entries_11_b N hb)) rfl (fun x => by kernel_rfl)
theorem decorrelate_Entries_8_b {E : Env} (N : Nat) (hb : Base Try.prog (decorrelate_Entries_C N) E 0) : Blk Try.prog (decorrelate_Entries_C N) E [5, 6, 21, 22, 23, 29, 30, 31] decorrelate_Entries_S2 (decorrelate_Entries_L7.drop 2) (fun y => decorrelate_Entries_8 N y.1.1 y.1.2.1 y.1.2.2.1 y.1.2.2.2.1 y.1.2.2.2.2.1 y.1.2.2.2.2.2.1 y.1.2.2.2.2.2.2.1 y.2.1) (decorrelate_Entries_K7 N) :=
 Blk.blockAt (bid := 3) (X := (goK 0 [5, 6, 21, 22, 23, 29, 30, 31] decorrelate_Entries_S2 (fun y => decorrelate_Entries_17 N y.1.1 y.1.2.1 y.1.2.2.1 y.1.2.2.2.1 y.1.2.2.2.2.1 y.1.2.2.2.2.2.1 y.1.2.2.2.2.2.2.1 y.2.1))) (Y := (goK 0 [5, 6, 21, 22, 23, 29, 30, 31] decorrelate_Entries_S2 (fun y => decorrelate_Entries_10 N y.1.1 y.1.2.1 y.1.2.2.1 y.1.2.2.2.1 y.1.2.2.2.2.1 y.1.2.2.2.2.2.1 y.1.2.2.2.2.2.2.1 y.2.1))) (by kernel_rfl) (NxOk.go hb (decorrelate_Entries_17_b N hb)) (NxOk.go hb (decorrelate_Entries_10_b N hb)) (fun x => by kernel_rfl)
theorem decorrelate_Entries_s7_b {E : Env} (N : Nat) (hb : Base Try.prog (decorrelate_Entries_C N) E 0) : Blk Try.prog (decorrelate_Entries_C N) E [5, 6, 21, 22, 23, 29, 30, 31] decorrelate_Entries_S2 (decorrelate_Entries_L7.drop 0) (fun y => decorrelate_Entries_s7 N y.1.1 y.1.2.1 y.1.2.2.1 y.1.2.2.2.1 y.1.2.2.2.2.1 y.1.2.2.2.2.2.1 y.1.2.2.2.2.2.2.1 y.2.1) (decorrelate_Entries_K7 N) :=
 Blk.chunkAt hb 2 (X := (goK 0 [5, 6, 21, 22, 23, 29, 30, 31] decorrelate_Entries_S2 (fun y => decorrelate_Entries_8 N y.1.1 y.1.2.1 y.1.2.2.1 y.1.2.2.2.1 y.1.2.2.2.2.1 y.1.2.2.2.2.2.1 y.1.2.2.2.2.2.2.1 y.2.1))) (NxOk.go hb (decorrelate_Entries_8_b N hb)) rfl (fun x => by kernel_rfl)
theorem decorrelate_Entries_18_b {E : Env} (N : Nat) (hb : Base Try.prog (decorrelate_Entries_C N) E 0) : Blk Try.prog (decorrelate_Entries_C N) E [5, 21, 22, 23] decorrelate_Entries_S4 (decorrelate_Entries_L2.drop 3) (fun y => decorrelate_Entries_18 N y.1.1 y.1.2.1 y.1.2.2.1 y.2.1) (decorrelate_Entries_K2 N) :=
 Blk.chunkAt hb 1 (X := (decorrelate_Entries_K2 N .normal)) (NxOk.end (by kernel_rfl)) rfl (fun x => by kernel_rfl)
theorem decorrelate_Entries_6_b {E : Env} (N : Nat) (hb : Base Try.prog (decorrelate_Entries_C N) E 0) : Blk Try.prog (decorrelate_Entries_C N) E [5, 6, 21, 22, 23, 29, 30, 31] decorrelate_Entries_S2 (decorrelate_Entries_L4b.drop 2) (fun y => decorrelate_Entries_6 N y.1.1 y.1.2.1 y.1.2.2.1 y.1.2.2.2.1 y.1.2.2.2.2.1 y.1.2.2.2.2.2.1 y.1.2.2.2.2.2.2.1 y.2.1) (decorrelate_Entries_K4 N) :=
 Blk.loopAt (Nf := N) (hns := [5, 6, 21, 22, 23, 29, 30, 31]) (ans := [5, 21, 22, 23]) (hc := decorrelate_Entries_S2) (ac := decorrelate_Entries_S4) (bid := 2) (step := (fun y => decorrelate_Entries_s7 N y.1.1 y.1.2.1 y.1.2.2.1 y.1.2.2.2.1 y.1.2.2.2.2.1 y.1.2.2.2.2.2.1 y.1.2.2.2.2.2.2.1 y.2.1)) (J := (fun e => (decorrelate_Entries_K4 N .normal) (decorrelate_Entries_S4.st [5, 21, 22, 23] e))) hb (by kernel_rfl) (Blk.into (X := (decorrelate_Entries_K4 N .normal)) (NxOk.end (by kernel_rfl)) (fun x => by kernel_rfl)) (decorrelate_Entries_s7_b N hb) (fun x => by kernel_rfl)
theorem decorrelate_Entries_5_b {E : Env} (N : Nat) (hb : Base Try.prog (decorrelate_Entries_C N) E 0) : Blk Try.prog (decorrelate_Entries_C N) E [5, 21, 22, 23] decorrelate_Entries_S4 (decorrelate_Entries_L4b.drop 0) (fun y => decorrelate_Entries_5 N y.1.1 y.1.2.1 y.1.2.2.1 y.2.1) (decorrelate_Entries_K4 N) :=
 Blk.chunkAt hb 2 (X := (goK 0 [5, 6, 21, 22, 23, 29, 30, 31] decorrelate_Entries_S2 (fun y => decorrelate_Entries_6 N y.1.1 y.1.2.1 y.1.2.2.1 y.1.2.2.2.1 y.1.2.2.2.2.1 y.1.2.2.2.2.2.1 y.1.2.2.2.2.2.2.1 y.2.1))) (NxOk.go hb (decorrelate_Entries_6_b N hb)) rfl (fun x => by kernel_rfl)
theorem decorrelate_Entries_3_b {E : Env} (N : Nat) (hb : Base Try.prog (decorrelate_Entries_C N) E 0) : Blk Try.prog (decorrelate_Entries_C N) E [5, 21, 22, 23] decorrelate_Entries_S4 (decorrelate_Entries_L2.drop 2) (fun y => decorrelate_Entries_3 N y.1.1 y.1.2.1 y.1.2.2.1 y.2.1) (decorrelate_Entries_K2 N) :=
 Blk.blockAt (bid := 1) (X := (goK 0 [5, 21, 22, 23] decorrelate_Entries_S4 (fun y => decorrelate_Entries_18 N y.1.1 y.1.2.1 y.1.2.2.1 y.2.1))) (Y := (goK 0 [5, 21, 22, 23] decorrelate_Entries_S4 (fun y => decorrelate_Entries_5 N y.1.1 y.1.2.1 y.1.2.2.1 y.2.1))) (by kernel_rfl) (NxOk.go hb (decorrelate_Entries_18_b N hb)) (NxOk.go hb (decorrelate_Entries_5_b N hb)) (fun x => by kernel_rfl)
theorem decorrelate_Entries_s2_b {E : Env} (N : Nat) (hb : Base Try.prog (decorrelate_Entries_C N) E 0) : Blk Try.prog (decorrelate_Entries_C N) E [5, 21, 22, 23] decorrelate_Entries_S4 (decorrelate_Entries_L2.drop 0) (fun y => decorrelate_Entries_s2 N y.1.1 y.1.2.1 y.1.2.2.1 y.2.1) (decorrelate_Entries_K2 N) :=
 Blk.chunkAt hb 2 (X := (goK 0 [5, 21, 22, 23] decorrelate_Entries_S4 (fun y => decorrelate_Entries_3 N y.1.1 y.1.2.1 y.1.2.2.1 y.2.1))) (NxOk.go hb (decorrelate_Entries_3_b N hb)) rfl (fun x => by kernel_rfl)
theorem decorrelate_Entries_19_b {E : Env} (N : Nat) (hb : Base Try.prog (decorrelate_Entries_C N) E 0) : Blk Try.prog (decorrelate_Entries_C N) E [5] decorrelate_Entries_S5 (decorrelate_Entries_L.drop 7) (fun y => decorrelate_Entries_19 N y.2.1) (decorrelate_Entries_K N) :=
 Blk.chunkAt hb 2 (X := (decorrelate_Entries_K N .normal)) (NxOk.end (by kernel_rfl)) rfl (fun x => by kernel_rfl)
theorem decorrelate_Entries_1_b {E : Env} (N : Nat) (hb : Base Try.prog (decorrelate_Entries_C N) E 0) : Blk Try.prog (decorrelate_Entries_C N) E [5, 21, 22, 23] decorrelate_Entries_S4 (decorrelate_Entries_L.drop 6) (fun y => decorrelate_Entries_1 N y.1.1 y.1.2.1 y.1.2.2.1 y.2.1) (decorrelate_Entries_K N) :=
 Blk.loopAt (Nf := N) (hns := [5, 21, 22, 23]) (ans := [5]) (hc := decorrelate_Entries_S4) (ac := decorrelate_Entries_S5) (bid := 0) (step := (fun y => decorrelate_Entries_s2 N y.1.1 y.1.2.1 y.1.2.2.1 y.2.1)) (J := (fun e => (goK 0 [5] decorrelate_Entries_S5 (fun y => decorrelate_Entries_19 N y.2.1)) (decorrelate_Entries_S5.st [5] e))) hb (by kernel_rfl) (Blk.into (X := (goK 0 [5] decorrelate_Entries_S5 (fun y => decorrelate_Entries_19 N y.2.1))) (NxOk.go hb (decorrelate_Entries_19_b N hb)) (fun x => by kernel_rfl)) (decorrelate_Entries_s2_b N hb) (fun x => by kernel_rfl)
theorem decorrelate_Entries_b {E : Env} (N : Nat) (hb : Base Try.prog (decorrelate_Entries_C N) E 0) : Blk Try.prog (decorrelate_Entries_C N) E (List.range decorrelate_Entries_S6.ks.length) decorrelate_Entries_S6 (decorrelate_Entries_L.drop 0) (fun y => decorrelate_Entries N y.1.1) (decorrelate_Entries_K N) :=
 Blk.chunkAt hb 6 (X := (goK 0 [5, 21, 22, 23] decorrelate_Entries_S4 (fun y => decorrelate_Entries_1 N y.1.1 y.1.2.1 y.1.2.2.1 y.2.1))) (NxOk.go hb (decorrelate_Entries_1_b N hb)) rfl (fun x => by kernel_rfl)
def decorrelate_Entries_ctr (N : Nat) : Ctr := ⟨decorrelate_Entries_S6, decorrelate_Entries_S7.un [false, false], 0, (fun y => decorrelate_Entries N y.1.1)⟩
theorem decorrelate_Entries_ctrs (N : Nat) : CtrsOk Try.prog (decorrelate_Entries_C N) := ctrs_of (Γ := decorrelate_Entries_C N) G_ifs_ok (by
 intro p hp
 simp only [decorrelate_Entries_C, List.mem_cons, List.not_mem_nil, or_false] at hp
 rcases hp with rfl | rfl
 · exact policy_Check_ok N
 · exact decorrelate_Entries_f1_ok N)
theorem decorrelate_Entries_ok (N : Nat) : Ctr.ok Try.prog G_globs 60 (decorrelate_Entries_ctr N) :=
 ctr_fn (Γ := decorrelate_Entries_C N) (rfit := decorrelate_Entries_S7) (bs := [false, false]) (res := [2, 3]) (by kernel_rfl) (tys_ok G_tys_ok) (decorrelate_Entries_ctrs N) Try.func60 (by kernel_rfl) (by kernel_rfl) Try.ntmps60 (by kernel_rfl) (by kernel_rfl) (by kernel_rfl) (by kernel_rfl) (fun E hb => decorrelate_Entries_b N hb)
end
end Go.Proofs.Ytgbkkfpheahdfaa