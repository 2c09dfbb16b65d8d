/- Functions of the program as plain functions, each with the proof that the text computes it. -/
import Derived.Test.YtgbkkfpheahdfaaGmRule
import Derived.Test.YtgbkkfpheahdfaaProg
set_option linter.unusedVariables false
set_option linter.unusedSimpArgs false
namespace Go.Proofs.Ytgbkkfpheahdfaa
open Go
set_option maxRecDepth 100000
set_option linter.unusedVariables false
noncomputable def G_tys : List (Nat × TI) := [(2, ⟨.i64, 8, 0, false⟩), (3, ⟨.i64, 8, 0, false⟩), (4, ⟨.bool, 1, 0, false⟩), (5, ⟨.u8, 1, 0, false⟩), (6, ⟨.u8, 1, 0, false⟩), (7, ⟨(.pair .i64 (.pair .i64 (.pair .bool (.pair .u8 .unit)))), 24, 0, false⟩), (8, ⟨(.pair .i64 (.pair .i64 (.pair .bool (.pair .u8 .unit)))), 24, 0, false⟩), (9, ⟨.str, 16, 0, false⟩), (10, ⟨.str, 16, 0, false⟩), (11, ⟨.str, 16, 0, false⟩), (12, ⟨.u64, 8, 0, false⟩), (13, ⟨(.pair .str (.pair .u64 .unit)), 24, 0, false⟩), (14, ⟨(.pair .str (.pair .u64 .unit)), 24, 0, false⟩), (22, ⟨(.sl .u8), 24, 5, false⟩), (26, ⟨.u64, 8, 0, false⟩), (27, ⟨(.pair .i64 (.pair .u64 (.pair .u64 .unit))), 24, 0, false⟩), (28, ⟨(.pair .i64 (.pair .u64 (.pair .u64 .unit))), 24, 0, true⟩), (29, ⟨(.pair (.pair .i64 (.pair .u64 (.pair .u64 .unit))) (.pair (.pair .i64 (.pair .u64 (.pair .u64 .unit))) (.pair .i64 (.pair .i64 (.pair .i64 .unit))))), 72, 0, false⟩), (30, ⟨(.pair (.pair .i64 (.pair .u64 (.pair .u64 .unit))) (.pair (.pair .i64 (.pair .u64 (.pair .u64 .unit))) (.pair .i64 (.pair .i64 (.pair .i64 .unit))))), 72, 0, false⟩), (35, ⟨(.sl .i64), 24, 3, false⟩), (36, ⟨(.sl (.pair (.pair .i64 (.pair .u64 (.pair .u64 .unit))) (.pair (.pair .i64 (.pair .u64 (.pair .u64 .unit))) (.pair .i64 (.pair .i64 (.pair .bool (.pair (.sl .u8) .unit))))))), 24, 98, false⟩), (37, ⟨.i64, 8, 0, false⟩), (44, ⟨(.arr 2 .i64), 16, 3, false⟩), (45, ⟨(.pair (.pair .i64 (.pair .u64 (.pair .u64 .unit))) (.pair (.pair .i64 (.pair .u64 (.pair .u64 .unit))) (.pair (.pair .i64 (.pair .u64 (.pair .u64 .unit))) (.pair (.pair .i64 (.pair .u64 (.pair .u64 .unit))) (.pair .i64 (.pair .i64 (.pair (.arr 2 .i64) (.pair (.arr 2 .i64) .unit)))))))), 144, 0, false⟩), (46, ⟨(.pair (.pair .i64 (.pair .u64 (.pair .u64 .unit))) (.pair (.pair .i64 (.pair .u64 (.pair .u64 .unit))) (.pair (.pair .i64 (.pair .u64 (.pair .u64 .unit))) (.pair (.pair .i64 (.pair .u64 (.pair .u64 .unit))) (.pair .i64 (.pair .i64 (.pair (.arr 2 .i64) (.pair (.arr 2 .i64) .unit)))))))), 144, 0, true⟩), (48, ⟨(.sl (.pair (.pair .i64 (.pair .u64 (.pair .u64 .unit))) (.pair (.pair .i64 (.pair .u64 (.pair .u64 .unit))) (.pair (.pair .i64 (.pair .u64 (.pair .u64 .unit))) (.pair (.pair .i64 (.pair .u64 (.pair .u64 .unit))) (.pair .i64 (.pair .i64 (.pair (.arr 2 .i64) (.pair (.arr 2 .i64) .unit))))))))), 24, 46, false⟩), (54, ⟨(.sl (.pair .i64 (.pair .str (.pair (.sl (.pair (.pair .i64 (.pair .u64 (.pair .u64 .unit))) (.pair (.pair .i64 (.pair .u64 (.pair .u64 .unit))) (.pair (.pair .i64 (.pair .u64 (.pair .u64 .unit))) (.pair (.pair .i64 (.pair .u64 (.pair .u64 .unit))) (.pair .i64 (.pair .i64 (.pair (.arr 2 .i64) (.pair (.arr 2 .i64) .unit))))))))) .unit)))), 24, 60, false⟩), (59, ⟨(.pair .i64 (.pair .str (.pair (.sl (.pair (.pair .i64 (.pair .u64 (.pair .u64 .unit))) (.pair (.pair .i64 (.pair .u64 (.pair .u64 .unit))) (.pair (.pair .i64 (.pair .u64 (.pair .u64 .unit))) (.pair (.pair .i64 (.pair .u64 (.pair .u64 .unit))) (.pair .i64 (.pair .i64 (.pair (.arr 2 .i64) (.pair (.arr 2 .i64) .unit))))))))) .unit))), 48, 0, false⟩), (60, ⟨(.pair .i64 (.pair .str (.pair (.sl (.pair (.pair .i64 (.pair .u64 (.pair .u64 .unit))) (.pair (.pair .i64 (.pair .u64 (.pair .u64 .unit))) (.pair (.pair .i64 (.pair .u64 (.pair .u64 .unit))) (.pair (.pair .i64 (.pair .u64 (.pair .u64 .unit))) (.pair .i64 (.pair .i64 (.pair (.arr 2 .i64) (.pair (.arr 2 .i64) .unit))))))))) .unit))), 48, 3, false⟩), (65, ⟨(.sl (.pair (.pair (.pair .i64 (.pair .u64 (.pair .u64 .unit))) (.pair (.pair .i64 (.pair .u64 (.pair .u64 .unit))) (.pair (.pair .i64 (.pair .u64 (.pair .u64 .unit))) (.pair (.pair .i64 (.pair .u64 (.pair .u64 .unit))) (.pair .i64 (.pair .i64 (.pair (.arr 2 .i64) (.pair (.arr 2 .i64) .unit)))))))) (.pair .i64 .unit))), 24, 86, false⟩), (68, ⟨(.sl (.pair (.pair .i64 (.pair .u64 (.pair .u64 .unit))) (.pair (.pair .i64 (.pair .u64 (.pair .u64 .unit))) (.pair .i64 (.pair .i64 (.pair .i64 .unit)))))), 24, 30, false⟩), (71, ⟨(.arr 2 (.pair (.pair .i64 (.pair .u64 (.pair .u64 .unit))) (.pair (.pair .i64 (.pair .u64 (.pair .u64 .unit))) (.pair (.pair .i64 (.pair .u64 (.pair .u64 .unit))) (.pair (.pair .i64 (.pair .u64 (.pair .u64 .unit))) (.pair .i64 (.pair .i64 (.pair (.arr 2 .i64) (.pair (.arr 2 .i64) .unit))))))))), 288, 46, false⟩), (72, ⟨(.sl (.arr 2 (.pair (.pair .i64 (.pair .u64 (.pair .u64 .unit))) (.pair (.pair .i64 (.pair .u64 (.pair .u64 .unit))) (.pair (.pair .i64 (.pair .u64 (.pair .u64 .unit))) (.pair (.pair .i64 (.pair .u64 (.pair .u64 .unit))) (.pair .i64 (.pair .i64 (.pair (.arr 2 .i64) (.pair (.arr 2 .i64) .unit)))))))))), 24, 71, false⟩), (81, ⟨(.sl (.sl .u8)), 24, 22, false⟩), (85, ⟨(.pair (.pair (.pair .i64 (.pair .u64 (.pair .u64 .unit))) (.pair (.pair .i64 (.pair .u64 (.pair .u64 .unit))) (.pair (.pair .i64 (.pair .u64 (.pair .u64 .unit))) (.pair (.pair .i64 (.pair .u64 (.pair .u64 .unit))) (.pair .i64 (.pair .i64 (.pair (.arr 2 .i64) (.pair (.arr 2 .i64) .unit)))))))) (.pair .i64 .unit)), 152, 0, false⟩), (86, ⟨(.pair (.pair (.pair .i64 (.pair .u64 (.pair .u64 .unit))) (.pair (.pair .i64 (.pair .u64 (.pair .u64 .unit))) (.pair (.pair .i64 (.pair .u64 (.pair .u64 .unit))) (.pair (.pair .i64 (.pair .u64 (.pair .u64 .unit))) (.pair .i64 (.pair .i64 (.pair (.arr 2 .i64) (.pair (.arr 2 .i64) .unit)))))))) (.pair .i64 .unit)), 152, 0, false⟩), (90, ⟨(.pair (.pair (.pair .i64 (.pair .u64 (.pair .u64 .unit))) (.pair (.pair .i64 (.pair .u64 (.pair .u64 .unit))) (.pair .i64 (.pair .i64 (.pair .i64 .unit))))) (.pair .i64 (.pair .bool (.pair .bool (.pair .i64 .unit))))), 96, 0, false⟩), (91, ⟨(.pair (.pair (.pair .i64 (.pair .u64 (.pair .u64 .unit))) (.pair (.pair .i64 (.pair .u64 (.pair .u64 .unit))) (.pair .i64 (.pair .i64 (.pair .i64 .unit))))) (.pair .i64 (.pair .bool (.pair .bool (.pair .i64 .unit))))), 96, 0, false⟩), (94, ⟨(.sl (.pair (.pair .i64 (.pair .u64 (.pair .u64 .unit))) (.pair (.pair .i64 (.pair .u64 (.pair .u64 .unit))) (.pair .i64 (.pair (.sl (.pair (.pair .i64 (.pair .u64 (.pair .u64 .unit))) (.pair (.pair .i64 (.pair .u64 (.pair .u64 .unit))) (.pair .i64 (.pair .i64 (.pair .bool (.pair (.sl .u8) .unit))))))) (.pair .i64 .unit)))))), 24, 100, false⟩), (97, ⟨(.pair (.pair .i64 (.pair .u64 (.pair .u64 .unit))) (.pair (.pair .i64 (.pair .u64 (.pair .u64 .unit))) (.pair .i64 (.pair .i64 (.pair .bool (.pair (.sl .u8) .unit)))))), 96, 0, false⟩), (98, ⟨(.pair (.pair .i64 (.pair .u64 (.pair .u64 .unit))) (.pair (.pair .i64 (.pair .u64 (.pair .u64 .unit))) (.pair .i64 (.pair .i64 (.pair .bool (.pair (.sl .u8) .unit)))))), 96, 0, false⟩), (99, ⟨(.pair (.pair .i64 (.pair .u64 (.pair .u64 .unit))) (.pair (.pair .i64 (.pair .u64 (.pair .u64 .unit))) (.pair .i64 (.pair (.sl (.pair (.pair .i64 (.pair .u64 (.pair .u64 .unit))) (.pair (.pair .i64 (.pair .u64 (.pair .u64 .unit))) (.pair .i64 (.pair .i64 (.pair .bool (.pair (.sl .u8) .unit))))))) (.pair .i64 .unit))))), 88, 0, false⟩), (100, ⟨(.pair (.pair .i64 (.pair .u64 (.pair .u64 .unit))) (.pair (.pair .i64 (.pair .u64 (.pair .u64 .unit))) (.pair .i64 (.pair (.sl (.pair (.pair .i64 (.pair .u64 (.pair .u64 .unit))) (.pair (.pair .i64 (.pair .u64 (.pair .u64 .unit))) (.pair .i64 (.pair .i64 (.pair .bool (.pair (.sl .u8) .unit))))))) (.pair .i64 .unit))))), 88, 0, false⟩), (103, ⟨(.sl (.sl (.pair .i64 (.pair .str (.pair (.sl (.pair (.pair .i64 (.pair .u64 (.pair .u64 .unit))) (.pair (.pair .i64 (.pair .u64 (.pair .u64 .unit))) (.pair (.pair .i64 (.pair .u64 (.pair .u64 .unit))) (.pair (.pair .i64 (.pair .u64 (.pair .u64 .unit))) (.pair .i64 (.pair .i64 (.pair (.arr 2 .i64) (.pair (.arr 2 .i64) .unit))))))))) .unit))))), 24, 54, false⟩), (107, ⟨(.pair (.sl .u8) (.pair .i64 .unit)), 32, 0, false⟩), (108, ⟨(.pair (.sl .u8) (.pair .i64 .unit)), 32, 0, false⟩), (112, ⟨(.pair (.sl .u8) (.pair .i64 .unit)), 32, 0, false⟩), (113, ⟨(.pair (.sl .u8) (.pair .i64 .unit)), 32, 0, false⟩), (117, ⟨(.pair .i64 (.pair .u64 (.pair .u64 .unit))), 24, 0, false⟩), (118, ⟨(.pair .i64 (.pair .u64 (.pair .u64 .unit))), 24, 0, false⟩), (119, ⟨(.pair (.pair .i64 (.pair .u64 (.pair .u64 .unit))) (.pair (.pair .i64 (.pair .u64 (.pair .u64 .unit))) .unit)), 48, 0, false⟩), (120, ⟨(.pair (.pair .i64 (.pair .u64 (.pair .u64 .unit))) (.pair (.pair .i64 (.pair .u64 (.pair .u64 .unit))) .unit)), 48, 0, false⟩), (121, ⟨(.arr 5 (.pair (.pair .i64 (.pair .u64 (.pair .u64 .unit))) (.pair (.pair .i64 (.pair .u64 (.pair .u64 .unit))) .unit))), 240, 120, false⟩), (122, ⟨(.arr 5 (.pair (.pair .i64 (.pair .u64 (.pair .u64 .unit))) (.pair (.pair .i64 (.pair .u64 (.pair .u64 .unit))) .unit))), 240, 120, false⟩), (128, ⟨(.sl .str), 24, 9, false⟩), (132, ⟨(.sl (.pair .i64 (.pair .u64 (.pair .u64 .unit)))), 24, 28, false⟩), (143, ⟨(.arr 5 (.pair .i64 (.pair .u64 (.pair .u64 .unit)))), 120, 118, false⟩), (147, ⟨(.sl .u64), 24, 26, false⟩), (150, ⟨.u64, 8, 0, false⟩), (160, ⟨(.pair (.sl .u8) .unit), 24, 0, false⟩)]
noncomputable def G_globs : List (Nat × Dt) := []
theorem G_tys_ok : tyChk Try.prog G_tys = true := by kernel_rfl
end Go.Proofs.Ytgbkkfpheahdfaa
namespace Go.Proofs.Ytgbkkfpheahdfaa
open Go
set_option maxRecDepth 100000
set_option linter.unusedVariables false
/-! ipsecgate/decorrelate.ofAddress -/
abbrev decorrelate_ofAddress_R : Type := (((Int × (UInt64 × (UInt64 × Unit))) × Unit) × (Unit))
noncomputable def decorrelate_ofAddress (N : Nat) (a_0 : (Int × (UInt64 × (UInt64 × Unit)))) : Option decorrelate_ofAddress_R :=
  some (((a_0.1, a_0.2.1, a_0.2.2.1, ()), ()), (()))
noncomputable def decorrelate_ofAddress_C (N : Nat) : Ctx := ⟨10, G_tys, [], G_globs⟩
noncomputable def decorrelate_ofAddress_S0 : Spec := ⟨[.val (.pair .i64 (.pair .u64 (.pair .u64 .unit)))], []⟩
noncomputable def decorrelate_ofAddress_S1 : Spec := ⟨[.fp (.pair .i64 (.pair .u64 (.pair .u64 .unit)))], []⟩
noncomputable def decorrelate_ofAddress_K (_N : Nat) : XE → GS → Option decorrelate_ofAddress_R := retK 0 [2] [true] decorrelate_ofAddress_S1
noncomputable def decorrelate_ofAddress_L : List Code := (bodyOf (some Try.f103))
theorem decorrelate_ofAddress_b {E : Env} (N : Nat) (hb : Base Try.prog (decorrelate_ofAddress_C N) E 0) : Blk Try.prog (decorrelate_ofAddress_C N) E (List.range decorrelate_ofAddress_S0.ks.length) decorrelate_ofAddress_S0 (decorrelate_ofAddress_L.drop 0) (fun y => decorrelate_ofAddress N y.1.1) (decorrelate_ofAddress_K N) :=
  Blk.chunkAt hb 3 (X := (decorrelate_ofAddress_K N .normal)) (NxOk.end (by kernel_rfl)) rfl (fun x => by kernel_rfl)
noncomputable def decorrelate_ofAddress_ctr (N : Nat) : Ctr := ⟨decorrelate_ofAddress_S0, decorrelate_ofAddress_S1.un [true], 0, (fun y => decorrelate_ofAddress N y.1.1)⟩
theorem decorrelate_ofAddress_ctrs (N : Nat) : CtrsOk Try.prog (decorrelate_ofAddress_C N) := ctrs_nil rfl
theorem decorrelate_ofAddress_ok (N : Nat) : Ctr.ok Try.prog G_globs 103 (decorrelate_ofAddress_ctr N) :=
  ctr_fn (Γ := decorrelate_ofAddress_C N) (rfit := decorrelate_ofAddress_S1) (bs := [true]) (res := [2]) (by kernel_rfl) (tys_ok G_tys_ok) (decorrelate_ofAddress_ctrs N) Try.func103 (by kernel_rfl) (by kernel_rfl) Try.ntmps103 (by kernel_rfl) (by kernel_rfl) (by kernel_rfl) (by kernel_rfl) (fun E hb => decorrelate_ofAddress_b N hb)
end Go.Proofs.Ytgbkkfpheahdfaa
namespace Go.Proofs.Ytgbkkfpheahdfaa
open Go
set_option maxRecDepth 100000
set_option linter.unusedVariables false
/-! ipsecgate/decorrelate.ofNumber -/
abbrev decorrelate_ofNumber_R : Type := (((Int × (UInt64 × (UInt64 × Unit))) × Unit) × (Unit))
noncomputable def decorrelate_ofNumber (N : Nat) (n_0 : Int) : Option decorrelate_ofNumber_R :=
  some ((((0 : Int), (0 : UInt64), (iu64 (w64 (n_0 + (1 : Int)))), ()), ()), (()))
noncomputable def decorrelate_ofNumber_C (N : Nat) : Ctx := ⟨7, G_tys, [], G_globs⟩
noncomputable def decorrelate_ofNumber_S0 : Spec := ⟨[.val .i64], []⟩
noncomputable def decorrelate_ofNumber_S1 : Spec := ⟨[.fp (.pair .i64 (.pair .u64 (.pair .u64 .unit)))], []⟩
noncomputable def decorrelate_ofNumber_K (_N : Nat) : XE → GS → Option decorrelate_ofNumber_R := retK 0 [2] [true] decorrelate_ofNumber_S1
noncomputable def decorrelate_ofNumber_L : List Code := (bodyOf (some Try.f104))
theorem decorrelate_ofNumber_b {E : Env} (N : Nat) (hb : Base Try.prog (decorrelate_ofNumber_C N) E 0) : Blk Try.prog (decorrelate_ofNumber_C N) E (List.range decorrelate_ofNumber_S0.ks.length) decorrelate_ofNumber_S0 (decorrelate_ofNumber_L.drop 0) (fun y => decorrelate_ofNumber N y.1.1) (decorrelate_ofNumber_K N) :=
  Blk.chunkAt hb 3 (X := (decorrelate_ofNumber_K N .normal)) (NxOk.end (by kernel_rfl)) rfl (fun x => by kernel_rfl)
noncomputable def decorrelate_ofNumber_ctr (N : Nat) : Ctr := ⟨decorrelate_ofNumber_S0, decorrelate_ofNumber_S1.un [true], 0, (fun y => decorrelate_ofNumber N y.1.1)⟩
theorem decorrelate_ofNumber_ctrs (N : Nat) : CtrsOk Try.prog (decorrelate_ofNumber_C N) := ctrs_nil rfl
theorem decorrelate_ofNumber_ok (N : Nat) : Ctr.ok Try.prog G_globs 104 (decorrelate_ofNumber_ctr N) :=
  ctr_fn (Γ := decorrelate_ofNumber_C N) (rfit := decorrelate_ofNumber_S1) (bs := [true]) (res := [2]) (by kernel_rfl) (tys_ok G_tys_ok) (decorrelate_ofNumber_ctrs N) Try.func104 (by kernel_rfl) (by kernel_rfl) Try.ntmps104 (by kernel_rfl) (by kernel_rfl) (by kernel_rfl) (by kernel_rfl) (fun E hb => decorrelate_ofNumber_b N hb)
end Go.Proofs.Ytgbkkfpheahdfaa
namespace Go.Proofs.Ytgbkkfpheahdfaa
open Go
set_option maxRecDepth 100000
set_option linter.unusedVariables false
/-! ipsecgate/decorrelate.numbers -/
abbrev decorrelate_numbers_R : Type := ((((Int × (UInt64 × (UInt64 × Unit))) × ((Int × (UInt64 × (UInt64 × Unit))) × Unit)) × Unit) × (Unit))
noncomputable def decorrelate_numbers (N : Nat) (lo_0 : Int) (hi_1 : Int) : Option decorrelate_numbers_R :=
  Option.bind (decorrelate_ofNumber N lo_0) fun y1 =>
  Option.bind (decorrelate_ofNumber N hi_1) fun y2 =>
  some (((y1.1.1, y2.1.1, ()), ()), (()))
noncomputable def decorrelate_numbers_C (N : Nat) : Ctx := ⟨10, G_tys, [(104, decorrelate_ofNumber_ctr N)], G_globs⟩
noncomputable def decorrelate_numbers_S0 : Spec := ⟨[.val .i64, .val .i64], []⟩
noncomputable def decorrelate_numbers_S1 : Spec := ⟨[.fp (.pair (.pair .i64 (.pair .u64 (.pair .u64 .unit))) (.pair (.pair .i64 (.pair .u64 (.pair .u64 .unit))) .unit))], []⟩
noncomputable def decorrelate_numbers_K (_N : Nat) : XE → GS → Option decorrelate_numbers_R := retK 0 [4] [true] decorrelate_numbers_S1
noncomputable def decorrelate_numbers_L : List Code := (bodyOf (some Try.f144))
theorem decorrelate_numbers_b {E : Env} (N : Nat) (hb : Base Try.prog (decorrelate_numbers_C N) E 0) : Blk Try.prog (decorrelate_numbers_C N) E (List.range decorrelate_numbers_S0.ks.length) decorrelate_numbers_S0 (decorrelate_numbers_L.drop 0) (fun y => decorrelate_numbers N y.1.1 y.1.2.1) (decorrelate_numbers_K N) :=
  Blk.chunkAt hb 3 (X := (decorrelate_numbers_K N .normal)) (NxOk.end (by kernel_rfl)) rfl (fun x => by kernel_rfl)
noncomputable def decorrelate_numbers_ctr (N : Nat) : Ctr := ⟨decorrelate_numbers_S0, decorrelate_numbers_S1.un [true], 0, (fun y => decorrelate_numbers N y.1.1 y.1.2.1)⟩
theorem decorrelate_numbers_ctrs (N : Nat) : CtrsOk Try.prog (decorrelate_numbers_C N) := ctrs_of (Γ := decorrelate_numbers_C N) (by
  intro p hp
  simp only [decorrelate_numbers_C, List.mem_cons, List.not_mem_nil, or_false] at hp
  rcases hp with rfl
  · exact decorrelate_ofNumber_ok N)
theorem decorrelate_numbers_ok (N : Nat) : Ctr.ok Try.prog G_globs 144 (decorrelate_numbers_ctr N) :=
  ctr_fn (Γ := decorrelate_numbers_C N) (rfit := decorrelate_numbers_S1) (bs := [true]) (res := [4]) (by kernel_rfl) (tys_ok G_tys_ok) (decorrelate_numbers_ctrs N) Try.func144 (by kernel_rfl) (by kernel_rfl) Try.ntmps144 (by kernel_rfl) (by kernel_rfl) (by kernel_rfl) (by kernel_rfl) (fun E hb => decorrelate_numbers_b N hb)
end Go.Proofs.Ytgbkkfpheahdfaa
namespace Go.Proofs.Ytgbkkfpheahdfaa
open Go
set_option maxRecDepth 100000
set_option linter.unusedVariables false
/-! ipsecgate/decorrelate.ofBox -/
abbrev decorrelate_ofBox_R : Type := (((List ((Int × (UInt64 × (UInt64 × Unit))) × ((Int × (UInt64 × (UInt64 × Unit))) × Unit))) × Unit) × (Unit))
noncomputable def decorrelate_ofBox (N : Nat) (b_0 : ((Int × (UInt64 × (UInt64 × Unit))) × ((Int × (UInt64 × (UInt64 × Unit))) × ((Int × (UInt64 × (UInt64 × Unit))) × ((Int × (UInt64 × (UInt64 × Unit))) × (Int × (Int × ((List Int) × ((List Int) × Unit))))))))) : Option decorrelate_ofBox_R :=
  Option.bind (decorrelate_ofAddress N b_0.1) fun y1 =>
  Option.bind (decorrelate_ofAddress N b_0.2.1) fun y2 =>
  Option.bind (decorrelate_ofAddress N b_0.2.2.1) fun y3 =>
  Option.bind (decorrelate_ofAddress N b_0.2.2.2.1) fun y4 =>
  Option.bind (decorrelate_numbers N b_0.2.2.2.2.1 b_0.2.2.2.2.2.1) fun y5 =>
  Option.bind (decorrelate_numbers N (b_0.2.2.2.2.2.2.1.getD 0 (0 : Int)) (b_0.2.2.2.2.2.2.1.getD 1 (0 : Int))) fun y8 =>
  Option.bind (decorrelate_numbers N (b_0.2.2.2.2.2.2.2.1.getD 0 (0 : Int)) (b_0.2.2.2.2.2.2.2.1.getD 1 (0 : Int))) fun y11 =>
  some ((([(y1.1.1, y2.1.1, ()), (y3.1.1, y4.1.1, ()), y5.1.1, y8.1.1, y11.1.1] : List ((Int × (UInt64 × (UInt64 × Unit))) × ((Int × (UInt64 × (UInt64 × Unit))) × Unit))), ()), (()))
noncomputable def decorrelate_ofBox_C (N : Nat) : Ctx := ⟨37, G_tys, [(103, decorrelate_ofAddress_ctr N), (144, decorrelate_numbers_ctr N)], G_globs⟩
noncomputable def decorrelate_ofBox_S0 : Spec := ⟨[.val (.pair (.pair .i64 (.pair .u64 (.pair .u64 .unit))) (.pair (.pair .i64 (.pair .u64 (.pair .u64 .unit))) (.pair (.pair .i64 (.pair .u64 (.pair .u64 .unit))) (.pair (.pair .i64 (.pair .u64 (.pair .u64 .unit))) (.pair .i64 (.pair .i64 (.pair (.arr 2 .i64) (.pair (.arr 2 .i64) .unit))))))))], []⟩
noncomputable def decorrelate_ofBox_S1 : Spec := ⟨[.fp (.arr 5 (.pair (.pair .i64 (.pair .u64 (.pair .u64 .unit))) (.pair (.pair .i64 (.pair .u64 (.pair .u64 .unit))) .unit)))], []⟩
noncomputable def decorrelate_ofBox_K (_N : Nat) : XE → GS → Option decorrelate_ofBox_R := retK 0 [2] [true] decorrelate_ofBox_S1
noncomputable def decorrelate_ofBox_L : List Code := (bodyOf (some Try.f79))
theorem decorrelate_ofBox_b {E : Env} (N : Nat) (hb : Base Try.prog (decorrelate_ofBox_C N) E 0) : Blk Try.prog (decorrelate_ofBox_C N) E (List.range decorrelate_ofBox_S0.ks.length) decorrelate_ofBox_S0 (decorrelate_ofBox_L.drop 0) (fun y => decorrelate_ofBox N y.1.1) (decorrelate_ofBox_K N) :=
  Blk.chunkAt hb 3 (X := (decorrelate_ofBox_K N .normal)) (NxOk.end (by kernel_rfl)) rfl (fun x => by kernel_rfl)
noncomputable def decorrelate_ofBox_ctr (N : Nat) : Ctr := ⟨decorrelate_ofBox_S0, decorrelate_ofBox_S1.un [true], 0, (fun y => decorrelate_ofBox N y.1.1)⟩
theorem decorrelate_ofBox_ctrs (N : Nat) : CtrsOk Try.prog (decorrelate_ofBox_C N) := ctrs_of (Γ := decorrelate_ofBox_C N) (by
  intro p hp
  simp only [decorrelate_ofBox_C, List.mem_cons, List.not_mem_nil, or_false] at hp
  rcases hp with rfl | rfl
  · exact decorrelate_ofAddress_ok N
  · exact decorrelate_numbers_ok N)
theorem decorrelate_ofBox_ok (N : Nat) : Ctr.ok Try.prog G_globs 79 (decorrelate_ofBox_ctr N) :=
  ctr_fn (Γ := decorrelate_ofBox_C N) (rfit := decorrelate_ofBox_S1) (bs := [true]) (res := [2]) (by kernel_rfl) (tys_ok G_tys_ok) (decorrelate_ofBox_ctrs N) Try.func79 (by kernel_rfl) (by kernel_rfl) Try.ntmps79 (by kernel_rfl) (by kernel_rfl) (by kernel_rfl) (by kernel_rfl) (fun E hb => decorrelate_ofBox_b N hb)
end Go.Proofs.Ytgbkkfpheahdfaa
namespace Go.Proofs.Ytgbkkfpheahdfaa
open Go
set_option maxRecDepth 100000
set_option linter.unusedVariables false
/-! cmp.isNaN[int] -/
abbrev cmp_isNaN_int__R : Type := ((Bool × Unit) × (Unit))
noncomputable def cmp_isNaN_int_ (N : Nat) (x_0 : Int) : Option cmp_isNaN_int__R :=
  some (((!(decide (x_0 = x_0))), ()), (()))
noncomputable def cmp_isNaN_int__C (N : Nat) : Ctx := ⟨6, G_tys, [], G_globs⟩
noncomputable def cmp_isNaN_int__S0 : Spec := ⟨[.val .i64], []⟩
noncomputable def cmp_isNaN_int__S1 : Spec := ⟨[.val .bool], []⟩
noncomputable def cmp_isNaN_int__K (_N : Nat) : XE → GS → Option cmp_isNaN_int__R := retK 0 [2] [false] cmp_isNaN_int__S1
noncomputable def cmp_isNaN_int__L : List Code := (bodyOf (some Try.f167))
theorem cmp_isNaN_int__b {E : Env} (N : Nat) (hb : Base Try.prog (cmp_isNaN_int__C N) E 0) : Blk Try.prog (cmp_isNaN_int__C N) E (List.range cmp_isNaN_int__S0.ks.length) cmp_isNaN_int__S0 (cmp_isNaN_int__L.drop 0) (fun y => cmp_isNaN_int_ N y.1.1) (cmp_isNaN_int__K N) :=
  Blk.chunkAt hb 3 (X := (cmp_isNaN_int__K N .normal)) (NxOk.end (by kernel_rfl)) rfl (fun x => by kernel_rfl)
noncomputable def cmp_isNaN_int__ctr (N : Nat) : Ctr := ⟨cmp_isNaN_int__S0, cmp_isNaN_int__S1.un [false], 0, (fun y => cmp_isNaN_int_ N y.1.1)⟩
theorem cmp_isNaN_int__ctrs (N : Nat) : CtrsOk Try.prog (cmp_isNaN_int__C N) := ctrs_nil rfl
theorem cmp_isNaN_int__ok (N : Nat) : Ctr.ok Try.prog G_globs 167 (cmp_isNaN_int__ctr N) :=
  ctr_fn (Γ := cmp_isNaN_int__C N) (rfit := cmp_isNaN_int__S1) (bs := [false]) (res := [2]) (by kernel_rfl) (tys_ok G_tys_ok) (cmp_isNaN_int__ctrs N) Try.func167 (by kernel_rfl) (by kernel_rfl) Try.ntmps167 (by kernel_rfl) (by kernel_rfl) (by kernel_rfl) (by kernel_rfl) (fun E hb => cmp_isNaN_int__b N hb)
end Go.Proofs.Ytgbkkfpheahdfaa
namespace Go.Proofs.Ytgbkkfpheahdfaa
open Go
set_option maxRecDepth 100000
set_option linter.unusedVariables false
/-! cmp.Compare[int] -/
abbrev cmp_Compare_int__R : Type := ((Int × Unit) × (Unit))
noncomputable def cmp_Compare_int_ (N : Nat) (x_0 : Int) (y_1 : Int) : Option cmp_Compare_int__R :=
  Option.bind (cmp_isNaN_int_ N x_0) fun y1 =>
  Option.bind (cmp_isNaN_int_ N y_1) fun y2 =>
  bif y1.1.1 then
    bif y2.1.1 then
      some (((0 : Int), ()), (()))
    else
      some (((-1 : Int), ()), (()))
  else
    bif y2.1.1 then
      some (((1 : Int), ()), (()))
    else
      bif (decide (x_0 < y_1)) then
        some (((-1 : Int), ()), (()))
      else
        bif (decide (y_1 < x_0)) then
          some (((1 : Int), ()), (()))
        else
          some (((0 : Int), ()), (()))
noncomputable def cmp_Compare_int__C (N : Nat) : Ctx := ⟨20, G_tys, [(167, cmp_isNaN_int__ctr N)], G_globs⟩
noncomputable def cmp_Compare_int__S0 : Spec := ⟨[.val .i64, .val .i64], []⟩
noncomputable def cmp_Compare_int__S1 : Spec := ⟨[.val .i64], []⟩
noncomputable def cmp_Compare_int__K (_N : Nat) : XE → GS → Option cmp_Compare_int__R := retK 0 [4] [false] cmp_Compare_int__S1
noncomputable def cmp_Compare_int__L : List Code := (bodyOf (some Try.f147))
theorem cmp_Compare_int__b {E : Env} (N : Nat) (hb : Base Try.prog (cmp_Compare_int__C N) E 0) : Blk Try.prog (cmp_Compare_int__C N) E (List.range cmp_Compare_int__S0.ks.length) cmp_Compare_int__S0 (cmp_Compare_int__L.drop 0) (fun y => cmp_Compare_int_ N y.1.1 y.1.2.1) (cmp_Compare_int__K N) :=
  Blk.chunkAt hb 13 (X := (cmp_Compare_int__K N .normal)) (NxOk.end (by kernel_rfl)) rfl (fun x => by kernel_rfl)
noncomputable def cmp_Compare_int__ctr (N : Nat) : Ctr := ⟨cmp_Compare_int__S0, cmp_Compare_int__S1.un [false], 0, (fun y => cmp_Compare_int_ N y.1.1 y.1.2.1)⟩
theorem cmp_Compare_int__ctrs (N : Nat) : CtrsOk Try.prog (cmp_Compare_int__C N) := ctrs_of (Γ := cmp_Compare_int__C N) (by
  intro p hp
  simp only [cmp_Compare_int__C, List.mem_cons, List.not_mem_nil, or_false] at hp
  rcases hp with rfl
  · exact cmp_isNaN_int__ok N)
theorem cmp_Compare_int__ok (N : Nat) : Ctr.ok Try.prog G_globs 147 (cmp_Compare_int__ctr N) :=
  ctr_fn (Γ := cmp_Compare_int__C N) (rfit := cmp_Compare_int__S1) (bs := [false]) (res := [4]) (by kernel_rfl) (tys_ok G_tys_ok) (cmp_Compare_int__ctrs N) Try.func147 (by kernel_rfl) (by kernel_rfl) Try.ntmps147 (by kernel_rfl) (by kernel_rfl) (by kernel_rfl) (by kernel_rfl) (fun E hb => cmp_Compare_int__b N hb)
end Go.Proofs.Ytgbkkfpheahdfaa
namespace Go.Proofs.Ytgbkkfpheahdfaa
open Go
set_option maxRecDepth 100000
set_option linter.unusedVariables false
/-! cmp.isNaN[uint64] -/
abbrev cmp_isNaN_uint64__R : Type := ((Bool × Unit) × (Unit))
noncomputable def cmp_isNaN_uint64_ (N : Nat) (x_0 : UInt64) : Option cmp_isNaN_uint64__R :=
  some (((!(decide (x_0 = x_0))), ()), (()))
noncomputable def cmp_isNaN_uint64__C (N : Nat) : Ctx := ⟨6, G_tys, [], G_globs⟩
noncomputable def cmp_isNaN_uint64__S0 : Spec := ⟨[.val .u64], []⟩
noncomputable def cmp_isNaN_uint64__S1 : Spec := ⟨[.val .bool], []⟩
noncomputable def cmp_isNaN_uint64__K (_N : Nat) : XE → GS → Option cmp_isNaN_uint64__R := retK 0 [2] [false] cmp_isNaN_uint64__S1
noncomputable def cmp_isNaN_uint64__L : List Code := (bodyOf (some Try.f168))
theorem cmp_isNaN_uint64__b {E : Env} (N : Nat) (hb : Base Try.prog (cmp_isNaN_uint64__C N) E 0) : Blk Try.prog (cmp_isNaN_uint64__C N) E (List.range cmp_isNaN_uint64__S0.ks.length) cmp_isNaN_uint64__S0 (cmp_isNaN_uint64__L.drop 0) (fun y => cmp_isNaN_uint64_ N y.1.1) (cmp_isNaN_uint64__K N) :=
  Blk.chunkAt hb 3 (X := (cmp_isNaN_uint64__K N .normal)) (NxOk.end (by kernel_rfl)) rfl (fun x => by kernel_rfl)
noncomputable def cmp_isNaN_uint64__ctr (N : Nat) : Ctr := ⟨cmp_isNaN_uint64__S0, cmp_isNaN_uint64__S1.un [false], 0, (fun y => cmp_isNaN_uint64_ N y.1.1)⟩
theorem cmp_isNaN_uint64__ctrs (N : Nat) : CtrsOk Try.prog (cmp_isNaN_uint64__C N) := ctrs_nil rfl
theorem cmp_isNaN_uint64__ok (N : Nat) : Ctr.ok Try.prog G_globs 168 (cmp_isNaN_uint64__ctr N) :=
  ctr_fn (Γ := cmp_isNaN_uint64__C N) (rfit := cmp_isNaN_uint64__S1) (bs := [false]) (res := [2]) (by kernel_rfl) (tys_ok G_tys_ok) (cmp_isNaN_uint64__ctrs N) Try.func168 (by kernel_rfl) (by kernel_rfl) Try.ntmps168 (by kernel_rfl) (by kernel_rfl) (by kernel_rfl) (by kernel_rfl) (fun E hb => cmp_isNaN_uint64__b N hb)
end Go.Proofs.Ytgbkkfpheahdfaa
namespace Go.Proofs.Ytgbkkfpheahdfaa
open Go
set_option maxRecDepth 100000
set_option linter.unusedVariables false
/-! cmp.Compare[uint64] -/
abbrev cmp_Compare_uint64__R : Type := ((Int × Unit) × (Unit))
noncomputable def cmp_Compare_uint64_ (N : Nat) (x_0 : UInt64) (y_1 : UInt64) : Option cmp_Compare_uint64__R :=
  Option.bind (cmp_isNaN_uint64_ N x_0) fun y1 =>
  Option.bind (cmp_isNaN_uint64_ N y_1) fun y2 =>
  bif y1.1.1 then
    bif y2.1.1 then
      some (((0 : Int), ()), (()))
    else
      some (((-1 : Int), ()), (()))
  else
    bif y2.1.1 then
      some (((1 : Int), ()), (()))
    else
      bif (decide (x_0 < y_1)) then
        some (((-1 : Int), ()), (()))
      else
        bif (decide (y_1 < x_0)) then
          some (((1 : Int), ()), (()))
        else
          some (((0 : Int), ()), (()))
noncomputable def cmp_Compare_uint64__C (N : Nat) : Ctx := ⟨20, G_tys, [(168, cmp_isNaN_uint64__ctr N)], G_globs⟩
noncomputable def cmp_Compare_uint64__S0 : Spec := ⟨[.val .u64, .val .u64], []⟩
noncomputable def cmp_Compare_uint64__S1 : Spec := ⟨[.val .i64], []⟩
noncomputable def cmp_Compare_uint64__K (_N : Nat) : XE → GS → Option cmp_Compare_uint64__R := retK 0 [4] [false] cmp_Compare_uint64__S1
noncomputable def cmp_Compare_uint64__L : List Code := (bodyOf (some Try.f148))
theorem cmp_Compare_uint64__b {E : Env} (N : Nat) (hb : Base Try.prog (cmp_Compare_uint64__C N) E 0) : Blk Try.prog (cmp_Compare_uint64__C N) E (List.range cmp_Compare_uint64__S0.ks.length) cmp_Compare_uint64__S0 (cmp_Compare_uint64__L.drop 0) (fun y => cmp_Compare_uint64_ N y.1.1 y.1.2.1) (cmp_Compare_uint64__K N) :=
  Blk.chunkAt hb 13 (X := (cmp_Compare_uint64__K N .normal)) (NxOk.end (by kernel_rfl)) rfl (fun x => by kernel_rfl)
noncomputable def cmp_Compare_uint64__ctr (N : Nat) : Ctr := ⟨cmp_Compare_uint64__S0, cmp_Compare_uint64__S1.un [false], 0, (fun y => cmp_Compare_uint64_ N y.1.1 y.1.2.1)⟩
theorem cmp_Compare_uint64__ctrs (N : Nat) : CtrsOk Try.prog (cmp_Compare_uint64__C N) := ctrs_of (Γ := cmp_Compare_uint64__C N) (by
  intro p hp
  simp only [cmp_Compare_uint64__C, List.mem_cons, List.not_mem_nil, or_false] at hp
  rcases hp with rfl
  · exact cmp_isNaN_uint64__ok N)
theorem cmp_Compare_uint64__ok (N : Nat) : Ctr.ok Try.prog G_globs 148 (cmp_Compare_uint64__ctr N) :=
  ctr_fn (Γ := cmp_Compare_uint64__C N) (rfit := cmp_Compare_uint64__S1) (bs := [false]) (res := [4]) (by kernel_rfl) (tys_ok G_tys_ok) (cmp_Compare_uint64__ctrs N) Try.func148 (by kernel_rfl) (by kernel_rfl) Try.ntmps148 (by kernel_rfl) (by kernel_rfl) (by kernel_rfl) (by kernel_rfl) (fun E hb => cmp_Compare_uint64__b N hb)
end Go.Proofs.Ytgbkkfpheahdfaa
namespace Go.Proofs.Ytgbkkfpheahdfaa
open Go
set_option maxRecDepth 100000
set_option linter.unusedVariables false
/-! cmp.Or[int] -/
abbrev cmp_Or_int__R : Type := ((Int × Unit) × (Unit))
noncomputable def cmp_Or_int__s2 (N : Nat) (zero_3 : Int) (t_6 : (List Int)) (t_7 : Int) (t_8 : Int) : Option (Lo ((Int × (List Int) × Int × Int × Unit) × (Unit)) ((Int × Unit) × (Unit)) cmp_Or_int__R) :=
  bif (decide (t_8 < t_7)) then
    bif inR t_8 t_6.length then
    let x3 := t_6.getD t_8.toNat (0 : Int)
    bif (!(decide (x3 = zero_3))) then
      some (.rt ((x3, ()), (())))
    else
      some (.go ((zero_3, t_6, t_7, (w64 (t_8 + (1 : Int))), ()), (())))
    else none
  else
    some (.br ((zero_3, ()), (())))
noncomputable def cmp_Or_int__3 (N : Nat) (zero_3 : Int) : Option cmp_Or_int__R :=
  some ((zero_3, ()), (()))
noncomputable def cmp_Or_int__1 (N : Nat) (zero_3 : Int) (t_6 : (List Int)) (t_7 : Int) (t_8 : Int) : Option cmp_Or_int__R :=
  loopK N (fun y => cmp_Or_int__s2 N y.1.1 y.1.2.1 y.1.2.2.1 y.1.2.2.2.1) (fun (e : ((Int × Unit) × (Unit))) => cmp_Or_int__3 N e.1.1) ((zero_3, t_6, t_7, t_8, ()), (()))
noncomputable def cmp_Or_int_ (N : Nat) (vals_0 : (List Int)) : Option cmp_Or_int__R :=
  cmp_Or_int__1 N (0 : Int) vals_0 (vals_0.length : Int) (0 : Int)
noncomputable def cmp_Or_int__C (N : Nat) : Ctx := ⟨18, G_tys, [], G_globs⟩
noncomputable def cmp_Or_int__S0 : Spec := ⟨[.val .i64, .val (.sl .i64), .val .i64, .val .i64], []⟩
noncomputable def cmp_Or_int__S1 : Spec := ⟨[.val .i64], []⟩
noncomputable def cmp_Or_int__S2 : Spec := ⟨[.val (.sl .i64)], []⟩
noncomputable def cmp_Or_int__K (_N : Nat) : XE → GS → Option cmp_Or_int__R := retK 0 [2] [false] cmp_Or_int__S1
noncomputable def cmp_Or_int__L : List Code := (bodyOf (some Try.f146))
noncomputable def cmp_Or_int__L2 : List Code := (loopOf (cmp_Or_int__L[3]?))
noncomputable def cmp_Or_int__K2 (N : Nat) : XE → GS → Option (Lo ((Int × (List Int) × Int × Int × Unit) × (Unit)) ((Int × Unit) × (Unit)) cmp_Or_int__R) := roundK (some 0) (fit 0 [3, 6, 7, 8] cmp_Or_int__S0) (fit 0 [3] cmp_Or_int__S1) (cmp_Or_int__K N)
theorem cmp_Or_int__s2_b {E : Env} (N : Nat) (hb : Base Try.prog (cmp_Or_int__C N) E 0) : Blk Try.prog (cmp_Or_int__C N) E [3, 6, 7, 8] cmp_Or_int__S0 (cmp_Or_int__L2.drop 0) (fun y => cmp_Or_int__s2 N y.1.1 y.1.2.1 y.1.2.2.1 y.1.2.2.2.1) (cmp_Or_int__K2 N) :=
  Blk.chunkAt hb 4 (X := (cmp_Or_int__K2 N .normal)) (NxOk.end (by kernel_rfl)) rfl (fun x => by kernel_rfl)
theorem cmp_Or_int__3_b {E : Env} (N : Nat) (hb : Base Try.prog (cmp_Or_int__C N) E 0) : Blk Try.prog (cmp_Or_int__C N) E [3] cmp_Or_int__S1 (cmp_Or_int__L.drop 4) (fun y => cmp_Or_int__3 N y.1.1) (cmp_Or_int__K N) :=
  Blk.chunkAt hb 2 (X := (cmp_Or_int__K N .normal)) (NxOk.end (by kernel_rfl)) rfl (fun x => by kernel_rfl)
theorem cmp_Or_int__1_b {E : Env} (N : Nat) (hb : Base Try.prog (cmp_Or_int__C N) E 0) : Blk Try.prog (cmp_Or_int__C N) E [3, 6, 7, 8] cmp_Or_int__S0 (cmp_Or_int__L.drop 3) (fun y => cmp_Or_int__1 N y.1.1 y.1.2.1 y.1.2.2.1 y.1.2.2.2.1) (cmp_Or_int__K N) :=
  Blk.loopAt (Nf := N) (hns := [3, 6, 7, 8]) (ans := [3]) (hc := cmp_Or_int__S0) (ac := cmp_Or_int__S1) (bid := 0) (step := (fun y => cmp_Or_int__s2 N y.1.1 y.1.2.1 y.1.2.2.1 y.1.2.2.2.1)) (J := (fun e => (goK 0 [3] cmp_Or_int__S1 (fun y => cmp_Or_int__3 N y.1.1)) (cmp_Or_int__S1.st [3] e))) hb (by kernel_rfl) (Blk.into (X := (goK 0 [3] cmp_Or_int__S1 (fun y => cmp_Or_int__3 N y.1.1))) (NxOk.go hb (cmp_Or_int__3_b N hb)) (fun x => by kernel_rfl)) (cmp_Or_int__s2_b N hb) (fun x => by kernel_rfl)
theorem cmp_Or_int__b {E : Env} (N : Nat) (hb : Base Try.prog (cmp_Or_int__C N) E 0) : Blk Try.prog (cmp_Or_int__C N) E (List.range cmp_Or_int__S2.ks.length) cmp_Or_int__S2 (cmp_Or_int__L.drop 0) (fun y => cmp_Or_int_ N y.1.1) (cmp_Or_int__K N) :=
  Blk.chunkAt hb 3 (X := (goK 0 [3, 6, 7, 8] cmp_Or_int__S0 (fun y => cmp_Or_int__1 N y.1.1 y.1.2.1 y.1.2.2.1 y.1.2.2.2.1))) (NxOk.go hb (cmp_Or_int__1_b N hb)) rfl (fun x => by kernel_rfl)
noncomputable def cmp_Or_int__ctr (N : Nat) : Ctr := ⟨cmp_Or_int__S2, cmp_Or_int__S1.un [false], 0, (fun y => cmp_Or_int_ N y.1.1)⟩
theorem cmp_Or_int__ctrs (N : Nat) : CtrsOk Try.prog (cmp_Or_int__C N) := ctrs_nil rfl
theorem cmp_Or_int__ok (N : Nat) : Ctr.ok Try.prog G_globs 146 (cmp_Or_int__ctr N) :=
  ctr_fn (Γ := cmp_Or_int__C N) (rfit := cmp_Or_int__S1) (bs := [false]) (res := [2]) (by kernel_rfl) (tys_ok G_tys_ok) (cmp_Or_int__ctrs N) Try.func146 (by kernel_rfl) (by kernel_rfl) Try.ntmps146 (by kernel_rfl) (by kernel_rfl) (by kernel_rfl) (by kernel_rfl) (fun E hb => cmp_Or_int__b N hb)
end Go.Proofs.Ytgbkkfpheahdfaa
namespace Go.Proofs.Ytgbkkfpheahdfaa
open Go
set_option maxRecDepth 100000
set_option linter.unusedVariables false
/-! (ipsecgate/decorrelate.value).compare -/
abbrev decorrelate_value_compare_R : Type := ((Int × Unit) × (Unit))
noncomputable def decorrelate_value_compare (N : Nat) (a_0 : (Int × (UInt64 × (UInt64 × Unit)))) (b_1 : (Int × (UInt64 × (UInt64 × Unit)))) : Option decorrelate_value_compare_R :=
  Option.bind (cmp_Compare_int_ N a_0.1 b_1.1) fun y1 =>
  Option.bind (cmp_Compare_uint64_ N a_0.2.1 b_1.2.1) fun y2 =>
  Option.bind (cmp_Compare_uint64_ N a_0.2.2.1 b_1.2.2.1) fun y3 =>
  Option.bind (cmp_Or_int_ N ([y1.1.1, y2.1.1, y3.1.1] : List Int)) fun y4 =>
  some ((y4.1.1, ()), (()))
noncomputable def decorrelate_value_compare_C (N : Nat) : Ctx := ⟨22, G_tys, [(147, cmp_Compare_int__ctr N), (148, cmp_Compare_uint64__ctr N), (146, cmp_Or_int__ctr N)], G_globs⟩
noncomputable def decorrelate_value_compare_S0 : Spec := ⟨[.val (.pair .i64 (.pair .u64 (.pair .u64 .unit))), .val (.pair .i64 (.pair .u64 (.pair .u64 .unit)))], []⟩
noncomputable def decorrelate_value_compare_S1 : Spec := ⟨[.val .i64], []⟩
noncomputable def decorrelate_value_compare_K (_N : Nat) : XE → GS → Option decorrelate_value_compare_R := retK 0 [4] [false] decorrelate_value_compare_S1
noncomputable def decorrelate_value_compare_L : List Code := (bodyOf (some Try.f81))
theorem decorrelate_value_compare_b {E : Env} (N : Nat) (hb : Base Try.prog (decorrelate_value_compare_C N) E 0) : Blk Try.prog (decorrelate_value_compare_C N) E (List.range decorrelate_value_compare_S0.ks.length) decorrelate_value_compare_S0 (decorrelate_value_compare_L.drop 0) (fun y => decorrelate_value_compare N y.1.1 y.1.2.1) (decorrelate_value_compare_K N) :=
  Blk.chunkAt hb 3 (X := (decorrelate_value_compare_K N .normal)) (NxOk.end (by kernel_rfl)) rfl (fun x => by kernel_rfl)
noncomputable def decorrelate_value_compare_ctr (N : Nat) : Ctr := ⟨decorrelate_value_compare_S0, decorrelate_value_compare_S1.un [false], 0, (fun y => decorrelate_value_compare N y.1.1 y.1.2.1)⟩
theorem decorrelate_value_compare_ctrs (N : Nat) : CtrsOk Try.prog (decorrelate_value_compare_C N) := ctrs_of (Γ := decorrelate_value_compare_C N) (by
  intro p hp
  simp only [decorrelate_value_compare_C, List.mem_cons, List.not_mem_nil, or_false] at hp
  rcases hp with rfl | rfl | rfl
  · exact cmp_Compare_int__ok N
  · exact cmp_Compare_uint64__ok N
  · exact cmp_Or_int__ok N)
theorem decorrelate_value_compare_ok (N : Nat) : Ctr.ok Try.prog G_globs 81 (decorrelate_value_compare_ctr N) :=
  ctr_fn (Γ := decorrelate_value_compare_C N) (rfit := decorrelate_value_compare_S1) (bs := [false]) (res := [4]) (by kernel_rfl) (tys_ok G_tys_ok) (decorrelate_value_compare_ctrs N) Try.func81 (by kernel_rfl) (by kernel_rfl) Try.ntmps81 (by kernel_rfl) (by kernel_rfl) (by kernel_rfl) (by kernel_rfl) (fun E hb => decorrelate_value_compare_b N hb)
end Go.Proofs.Ytgbkkfpheahdfaa
namespace Go.Proofs.Ytgbkkfpheahdfaa
open Go
set_option maxRecDepth 100000
set_option linter.unusedVariables false
/-! (ipsecgate/decorrelate.side).has -/
abbrev decorrelate_side_has_R : Type := ((Bool × Unit) × (Unit))
noncomputable def decorrelate_side_has (N : Nat) (s_0 : ((Int × (UInt64 × (UInt64 × Unit))) × ((Int × (UInt64 × (UInt64 × Unit))) × Unit))) (v_1 : (Int × (UInt64 × (UInt64 × Unit)))) : Option decorrelate_side_has_R :=
  Option.bind (decorrelate_value_compare N s_0.1 v_1) fun y1 =>
  bif (decide (y1.1.1 ≤ (0 : Int))) then
    Option.bind (decorrelate_value_compare N v_1 s_0.2.1) fun y3 =>
    some (((decide (y3.1.1 ≤ (0 : Int))), ()), (()))
  else
    some ((false, ()), (()))
noncomputable def decorrelate_side_has_C (N : Nat) : Ctx := ⟨17, G_tys, [(81, decorrelate_value_compare_ctr N)], G_globs⟩
noncomputable def decorrelate_side_has_S0 : Spec := ⟨[.val (.pair (.pair .i64 (.pair .u64 (.pair .u64 .unit))) (.pair (.pair .i64 (.pair .u64 (.pair .u64 .unit))) .unit)), .val (.pair .i64 (.pair .u64 (.pair .u64 .unit)))], []⟩
noncomputable def decorrelate_side_has_S1 : Spec := ⟨[.val .bool], []⟩
noncomputable def decorrelate_side_has_K (_N : Nat) : XE → GS → Option decorrelate_side_has_R := retK 0 [4] [false] decorrelate_side_has_S1
noncomputable def decorrelate_side_has_L : List Code := (bodyOf (some Try.f105))
theorem decorrelate_side_has_b {E : Env} (N : Nat) (hb : Base Try.prog (decorrelate_side_has_C N) E 0) : Blk Try.prog (decorrelate_side_has_C N) E (List.range decorrelate_side_has_S0.ks.length) decorrelate_side_has_S0 (decorrelate_side_has_L.drop 0) (fun y => decorrelate_side_has N y.1.1 y.1.2.1) (decorrelate_side_has_K N) :=
  Blk.chunkAt hb 3 (X := (decorrelate_side_has_K N .normal)) (NxOk.end (by kernel_rfl)) rfl (fun x => by kernel_rfl)
noncomputable def decorrelate_side_has_ctr (N : Nat) : Ctr := ⟨decorrelate_side_has_S0, decorrelate_side_has_S1.un [false], 0, (fun y => decorrelate_side_has N y.1.1 y.1.2.1)⟩
theorem decorrelate_side_has_ctrs (N : Nat) : CtrsOk Try.prog (decorrelate_side_has_C N) := ctrs_of (Γ := decorrelate_side_has_C N) (by
  intro p hp
  simp only [decorrelate_side_has_C, List.mem_cons, List.not_mem_nil, or_false] at hp
  rcases hp with rfl
  · exact decorrelate_value_compare_ok N)
theorem decorrelate_side_has_ok (N : Nat) : Ctr.ok Try.prog G_globs 105 (decorrelate_side_has_ctr N) :=
  ctr_fn (Γ := decorrelate_side_has_C N) (rfit := decorrelate_side_has_S1) (bs := [false]) (res := [4]) (by kernel_rfl) (tys_ok G_tys_ok) (decorrelate_side_has_ctrs N) Try.func105 (by kernel_rfl) (by kernel_rfl) Try.ntmps105 (by kernel_rfl) (by kernel_rfl) (by kernel_rfl) (by kernel_rfl) (fun E hb => decorrelate_side_has_b N hb)
end Go.Proofs.Ytgbkkfpheahdfaa
namespace Go.Proofs.Ytgbkkfpheahdfaa
open Go
set_option maxRecDepth 100000
set_option linter.unusedVariables false
/-! ipsecgate/decorrelate.Has -/
abbrev decorrelate_Has_R : Type := ((Bool × Unit) × (Unit))
noncomputable def decorrelate_Has_s3 (N : Nat) (t_41 : (List ((Int × (UInt64 × (UInt64 × Unit))) × ((Int × (UInt64 × (UInt64 × Unit))) × Unit)))) (t_42 : Int) (at_7 : (List (Int × (UInt64 × (UInt64 × Unit))))) : Option (Lo (((List ((Int × (UInt64 × (UInt64 × Unit))) × ((Int × (UInt64 × (UInt64 × Unit))) × Unit))) × Int × Unit) × ((List (Int × (UInt64 × (UInt64 × Unit)))) × Unit)) ((Unit) × (Unit)) decorrelate_Has_R) :=
  bif (decide (t_42 < (5 : Int))) then
    bif inR t_42 5 then
    bif inR t_42 5 then
    Option.bind (decorrelate_side_has N (t_41.getD t_42.toNat (((0 : Int), (0 : UInt64), (0 : UInt64), ()), ((0 : Int), (0 : UInt64), (0 : UInt64), ()), ())) (at_7.getD t_42.toNat ((0 : Int), (0 : UInt64), (0 : UInt64), ()))) fun y12 =>
    bif (!y12.1.1) then
      some (.rt ((false, ()), (())))
    else
      some (.go ((t_41, (w64 (t_42 + (1 : Int))), ()), (at_7, ())))
    else none
    else none
  else
    some (.br ((()), (())))
noncomputable def decorrelate_Has_4 (N : Nat) : Option decorrelate_Has_R :=
  some ((true, ()), (()))
noncomputable def decorrelate_Has_2 (N : Nat) (t_41 : (List ((Int × (UInt64 × (UInt64 × Unit))) × ((Int × (UInt64 × (UInt64 × Unit))) × Unit)))) (t_42 : Int) (at_7 : (List (Int × (UInt64 × (UInt64 × Unit))))) : Option decorrelate_Has_R :=
  loopK N (fun y => decorrelate_Has_s3 N y.1.1 y.1.2.1 y.2.1) (fun (e : ((Unit) × (Unit))) => decorrelate_Has_4 N) ((t_41, t_42, ()), (at_7, ()))
noncomputable def decorrelate_Has_1 (N : Nat) (b_3 : ((Int × (UInt64 × (UInt64 × Unit))) × ((Int × (UInt64 × (UInt64 × Unit))) × ((Int × (UInt64 × (UInt64 × Unit))) × ((Int × (UInt64 × (UInt64 × Unit))) × (Int × (Int × ((List Int) × ((List Int) × Unit))))))))) (p_4 : ((Int × (UInt64 × (UInt64 × Unit))) × ((Int × (UInt64 × (UInt64 × Unit))) × (Int × (Int × (Int × Unit)))))) : Option decorrelate_Has_R :=
  Option.bind (decorrelate_ofAddress N p_4.1) fun y2 =>
  Option.bind (decorrelate_ofAddress N p_4.2.1) fun y3 =>
  Option.bind (decorrelate_ofNumber N p_4.2.2.1) fun y4 =>
  Option.bind (decorrelate_ofNumber N p_4.2.2.2.1) fun y5 =>
  Option.bind (decorrelate_ofNumber N p_4.2.2.2.2.1) fun y6 =>
  Option.bind (decorrelate_ofBox N b_3) fun y8 =>
  decorrelate_Has_2 N y8.1.1 (0 : Int) ([y2.1.1, y3.1.1, y4.1.1, y5.1.1, y6.1.1] : List (Int × (UInt64 × (UInt64 × Unit))))
noncomputable def decorrelate_Has (N : Nat) (b_0 : ((Int × (UInt64 × (UInt64 × Unit))) × ((Int × (UInt64 × (UInt64 × Unit))) × ((Int × (UInt64 × (UInt64 × Unit))) × ((Int × (UInt64 × (UInt64 × Unit))) × (Int × (Int × ((List Int) × ((List Int) × Unit))))))))) (p_1 : ((Int × (UInt64 × (UInt64 × Unit))) × ((Int × (UInt64 × (UInt64 × Unit))) × (Int × (Int × (Int × Unit)))))) (outbound_2 : Bool) : Option decorrelate_Has_R :=
  bif (!outbound_2) then
    decorrelate_Has_1 N b_0 (p_1.2.1, p_1.1, p_1.2.2.1, p_1.2.2.2.2.1, p_1.2.2.2.1, ())
  else
    decorrelate_Has_1 N b_0 p_1
noncomputable def decorrelate_Has_C (N : Nat) : Ctx := ⟨53, G_tys, [(103, decorrelate_ofAddress_ctr N), (104, decorrelate_ofNumber_ctr N), (79, decorrelate_ofBox_ctr N), (105, decorrelate_side_has_ctr N)], G_globs⟩
noncomputable def decorrelate_Has_S0 : Spec := ⟨[.ref 0 (.arr 5 (.pair .i64 (.pair .u64 (.pair .u64 .unit)))), .val (.arr 5 (.pair (.pair .i64 (.pair .u64 (.pair .u64 .unit))) (.pair (.pair .i64 (.pair .u64 (.pair .u64 .unit))) .unit))), .val .i64], [(.box 143 (.arr 5 (.pair .i64 (.pair .u64 (.pair .u64 .unit)))), .pos 0)]⟩
noncomputable def decorrelate_Has_S1 : Spec := ⟨[], []⟩
noncomputable def decorrelate_Has_S2 : Spec := ⟨[.ref 0 (.pair (.pair .i64 (.pair .u64 (.pair .u64 .unit))) (.pair (.pair .i64 (.pair .u64 (.pair .u64 .unit))) (.pair (.pair .i64 (.pair .u64 (.pair .u64 .unit))) (.pair (.pair .i64 (.pair .u64 (.pair .u64 .unit))) (.pair .i64 (.pair .i64 (.pair (.arr 2 .i64) (.pair (.arr 2 .i64) .unit)))))))), .ref 1 (.pair (.pair .i64 (.pair .u64 (.pair .u64 .unit))) (.pair (.pair .i64 (.pair .u64 (.pair .u64 .unit))) (.pair .i64 (.pair .i64 (.pair .i64 .unit)))))], [(.box 46 (.pair (.pair .i64 (.pair .u64 (.pair .u64 .unit))) (.pair (.pair .i64 (.pair .u64 (.pair .u64 .unit))) (.pair (.pair .i64 (.pair .u64 (.pair .u64 .unit))) (.pair (.pair .i64 (.pair .u64 (.pair .u64 .unit))) (.pair .i64 (.pair .i64 (.pair (.arr 2 .i64) (.pair (.arr 2 .i64) .unit)))))))), .pos 0), (.box 30 (.pair (.pair .i64 (.pair .u64 (.pair .u64 .unit))) (.pair (.pair .i64 (.pair .u64 (.pair .u64 .unit))) (.pair .i64 (.pair .i64 (.pair .i64 .unit))))), .pos 1)]⟩
noncomputable def decorrelate_Has_S3 : Spec := ⟨[.val (.pair (.pair .i64 (.pair .u64 (.pair .u64 .unit))) (.pair (.pair .i64 (.pair .u64 (.pair .u64 .unit))) (.pair (.pair .i64 (.pair .u64 (.pair .u64 .unit))) (.pair (.pair .i64 (.pair .u64 (.pair .u64 .unit))) (.pair .i64 (.pair .i64 (.pair (.arr 2 .i64) (.pair (.arr 2 .i64) .unit)))))))), .val (.pair (.pair .i64 (.pair .u64 (.pair .u64 .unit))) (.pair (.pair .i64 (.pair .u64 (.pair .u64 .unit))) (.pair .i64 (.pair .i64 (.pair .i64 .unit))))), .val .bool], []⟩
noncomputable def decorrelate_Has_S4 : Spec := ⟨[.val .bool], []⟩
noncomputable def decorrelate_Has_K (_N : Nat) : XE → GS → Option decorrelate_Has_R := retK 0 [6] [false] decorrelate_Has_S4
noncomputable def decorrelate_Has_L : List Code := (bodyOf (some Try.f51))
noncomputable def decorrelate_Has_L3 : List Code := (loopOf (decorrelate_Has_L[5]?))
noncomputable def decorrelate_Has_K3 (N : Nat) : XE → GS → Option (Lo (((List ((Int × (UInt64 × (UInt64 × Unit))) × ((Int × (UInt64 × (UInt64 × Unit))) × Unit))) × Int × Unit) × ((List (Int × (UInt64 × (UInt64 × Unit)))) × Unit)) ((Unit) × (Unit)) decorrelate_Has_R) := roundK (some 0) (fit 0 [7, 41, 42] decorrelate_Has_S0) (fit 0 [] decorrelate_Has_S1) (decorrelate_Has_K N)
theorem decorrelate_Has_s3_b {E : Env} (N : Nat) (hb : Base Try.prog (decorrelate_Has_C N) E 0) : Blk Try.prog (decorrelate_Has_C N) E [7, 41, 42] decorrelate_Has_S0 (decorrelate_Has_L3.drop 0) (fun y => decorrelate_Has_s3 N y.1.1 y.1.2.1 y.2.1) (decorrelate_Has_K3 N) :=
  Blk.chunkAt hb 4 (X := (decorrelate_Has_K3 N .normal)) (NxOk.end (by kernel_rfl)) rfl (fun x => by kernel_rfl)
theorem decorrelate_Has_4_b {E : Env} (N : Nat) (hb : Base Try.prog (decorrelate_Has_C N) E 0) : Blk Try.prog (decorrelate_Has_C N) E [] decorrelate_Has_S1 (decorrelate_Has_L.drop 6) (fun y => decorrelate_Has_4 N) (decorrelate_Has_K N) :=
  Blk.chunkAt hb 2 (X := (decorrelate_Has_K N .normal)) (NxOk.end (by kernel_rfl)) rfl (fun x => by kernel_rfl)
theorem decorrelate_Has_2_b {E : Env} (N : Nat) (hb : Base Try.prog (decorrelate_Has_C N) E 0) : Blk Try.prog (decorrelate_Has_C N) E [7, 41, 42] decorrelate_Has_S0 (decorrelate_Has_L.drop 5) (fun y => decorrelate_Has_2 N y.1.1 y.1.2.1 y.2.1) (decorrelate_Has_K N) :=
  Blk.loopAt (Nf := N) (hns := [7, 41, 42]) (ans := []) (hc := decorrelate_Has_S0) (ac := decorrelate_Has_S1) (bid := 0) (step := (fun y => decorrelate_Has_s3 N y.1.1 y.1.2.1 y.2.1)) (J := (fun e => (goK 0 [] decorrelate_Has_S1 (fun y => decorrelate_Has_4 N)) (decorrelate_Has_S1.st [] e))) hb (by kernel_rfl) (Blk.into (X := (goK 0 [] decorrelate_Has_S1 (fun y => decorrelate_Has_4 N))) (NxOk.go hb (decorrelate_Has_4_b N hb)) (fun x => by kernel_rfl)) (decorrelate_Has_s3_b N hb) (fun x => by kernel_rfl)
theorem decorrelate_Has_1_b {E : Env} (N : Nat) (hb : Base Try.prog (decorrelate_Has_C N) E 0) : Blk Try.prog (decorrelate_Has_C N) E [3, 4] decorrelate_Has_S2 (decorrelate_Has_L.drop 3) (fun y => decorrelate_Has_1 N y.2.1 y.2.2.1) (decorrelate_Has_K N) :=
  Blk.chunkAt hb 2 (X := (goK 0 [7, 41, 42] decorrelate_Has_S0 (fun y => decorrelate_Has_2 N y.1.1 y.1.2.1 y.2.1))) (NxOk.go hb (decorrelate_Has_2_b N hb)) rfl (fun x => by kernel_rfl)
theorem decorrelate_Has_b {E : Env} (N : Nat) (hb : Base Try.prog (decorrelate_Has_C N) E 0) : Blk Try.prog (decorrelate_Has_C N) E (List.range decorrelate_Has_S3.ks.length) decorrelate_Has_S3 (decorrelate_Has_L.drop 0) (fun y => decorrelate_Has N y.1.1 y.1.2.1 y.1.2.2.1) (decorrelate_Has_K N) :=
  Blk.chunkAt hb 3 (X := (goK 0 [3, 4] decorrelate_Has_S2 (fun y => decorrelate_Has_1 N y.2.1 y.2.2.1))) (NxOk.go hb (decorrelate_Has_1_b N hb)) rfl (fun x => by kernel_rfl)
noncomputable def decorrelate_Has_ctr (N : Nat) : Ctr := ⟨decorrelate_Has_S3, decorrelate_Has_S4.un [false], 0, (fun y => decorrelate_Has N y.1.1 y.1.2.1 y.1.2.2.1)⟩
theorem decorrelate_Has_ctrs (N : Nat) : CtrsOk Try.prog (decorrelate_Has_C N) := ctrs_of (Γ := decorrelate_Has_C N) (by
  intro p hp
  simp only [decorrelate_Has_C, List.mem_cons, List.not_mem_nil, or_false] at hp
  rcases hp with rfl | rfl | rfl | rfl
  · exact decorrelate_ofAddress_ok N
  · exact decorrelate_ofNumber_ok N
  · exact decorrelate_ofBox_ok N
  · exact decorrelate_side_has_ok N)
theorem decorrelate_Has_ok (N : Nat) : Ctr.ok Try.prog G_globs 51 (decorrelate_Has_ctr N) :=
  ctr_fn (Γ := decorrelate_Has_C N) (rfit := decorrelate_Has_S4) (bs := [false]) (res := [6]) (by kernel_rfl) (tys_ok G_tys_ok) (decorrelate_Has_ctrs N) Try.func51 (by kernel_rfl) (by kernel_rfl) Try.ntmps51 (by kernel_rfl) (by kernel_rfl) (by kernel_rfl) (by kernel_rfl) (fun E hb => decorrelate_Has_b N hb)
end Go.Proofs.Ytgbkkfpheahdfaa
namespace Go.Proofs.Ytgbkkfpheahdfaa
open Go
set_option maxRecDepth 100000
set_option linter.unusedVariables false
/-! ipsecgate/lookup.Rule -/
abbrev lookup_Rule_R : Type := ((Int × Bool × Unit) × (Unit))
noncomputable def lookup_Rule_s7 (N : Nat) (outbound_2 : Bool) (i_8 : Int) (t_12 : (List (Int × ((List UInt8) × ((List ((Int × (UInt64 × (UInt64 × Unit))) × ((Int × (UInt64 × (UInt64 × Unit))) × ((Int × (UInt64 × (UInt64 × Unit))) × ((Int × (UInt64 × (UInt64 × Unit))) × (Int × (Int × ((List Int) × ((List Int) × Unit))))))))) × Unit))))) (t_13 : Int) (t_14 : Int) (t_20 : (List ((Int × (UInt64 × (UInt64 × Unit))) × ((Int × (UInt64 × (UInt64 × Unit))) × ((Int × (UInt64 × (UInt64 × Unit))) × ((Int × (UInt64 × (UInt64 × Unit))) × (Int × (Int × ((List Int) × ((List Int) × Unit)))))))))) (t_21 : Int) (t_22 : Int) (p_4 : ((Int × (UInt64 × (UInt64 × Unit))) × ((Int × (UInt64 × (UInt64 × Unit))) × (Int × (Int × (Int × Unit)))))) : Option (Lo ((Bool × Int × (List (Int × ((List UInt8) × ((List ((Int × (UInt64 × (UInt64 × Unit))) × ((Int × (UInt64 × (UInt64 × Unit))) × ((Int × (UInt64 × (UInt64 × Unit))) × ((Int × (UInt64 × (UInt64 × Unit))) × (Int × (Int × ((List Int) × ((List Int) × Unit))))))))) × Unit)))) × Int × Int × (List ((Int × (UInt64 × (UInt64 × Unit))) × ((Int × (UInt64 × (UInt64 × Unit))) × ((Int × (UInt64 × (UInt64 × Unit))) × ((Int × (UInt64 × (UInt64 × Unit))) × (Int × (Int × ((List Int) × ((List Int) × Unit))))))))) × Int × Int × Unit) × (((Int × (UInt64 × (UInt64 × Unit))) × ((Int × (UInt64 × (UInt64 × Unit))) × (Int × (Int × (Int × Unit))))) × Unit)) ((Bool × (List (Int × ((List UInt8) × ((List ((Int × (UInt64 × (UInt64 × Unit))) × ((Int × (UInt64 × (UInt64 × Unit))) × ((Int × (UInt64 × (UInt64 × Unit))) × ((Int × (UInt64 × (UInt64 × Unit))) × (Int × (Int × ((List Int) × ((List Int) × Unit))))))))) × Unit)))) × Int × Int × Unit) × (((Int × (UInt64 × (UInt64 × Unit))) × ((Int × (UInt64 × (UInt64 × Unit))) × (Int × (Int × (Int × Unit))))) × Unit)) (Lo ((Bool × (List (Int × ((List UInt8) × ((List ((Int × (UInt64 × (UInt64 × Unit))) × ((Int × (UInt64 × (UInt64 × Unit))) × ((Int × (UInt64 × (UInt64 × Unit))) × ((Int × (UInt64 × (UInt64 × Unit))) × (Int × (Int × ((List Int) × ((List Int) × Unit))))))))) × Unit)))) × Int × Int × Unit) × (((Int × (UInt64 × (UInt64 × Unit))) × ((Int × (UInt64 × (UInt64 × Unit))) × (Int × (Int × (Int × Unit))))) × Unit)) ((Unit) × (Unit)) lookup_Rule_R)) :=
  bif (decide (t_22 < t_21)) then
    bif inR t_22 t_20.length then
    Option.bind (decorrelate_Has N (t_20.getD t_22.toNat (((0 : Int), (0 : UInt64), (0 : UInt64), ()), ((0 : Int), (0 : UInt64), (0 : UInt64), ()), ((0 : Int), (0 : UInt64), (0 : UInt64), ()), ((0 : Int), (0 : UInt64), (0 : UInt64), ()), (0 : Int), (0 : Int), (List.replicate 2 (0 : Int)), (List.replicate 2 (0 : Int)), ())) p_4 outbound_2) fun y7 =>
    bif y7.1.1 then
      some (.rt (.rt ((i_8, true, ()), (()))))
    else
      some (.go ((outbound_2, i_8, t_12, t_13, t_14, t_20, t_21, (w64 (t_22 + (1 : Int))), ()), (p_4, ())))
    else none
  else
    some (.br ((outbound_2, t_12, t_13, t_14, ()), (p_4, ())))
noncomputable def lookup_Rule_8 (N : Nat) (outbound_2 : Bool) (t_12 : (List (Int × ((List UInt8) × ((List ((Int × (UInt64 × (UInt64 × Unit))) × ((Int × (UInt64 × (UInt64 × Unit))) × ((Int × (UInt64 × (UInt64 × Unit))) × ((Int × (UInt64 × (UInt64 × Unit))) × (Int × (Int × ((List Int) × ((List Int) × Unit))))))))) × Unit))))) (t_13 : Int) (t_14 : Int) (p_4 : ((Int × (UInt64 × (UInt64 × Unit))) × ((Int × (UInt64 × (UInt64 × Unit))) × (Int × (Int × (Int × Unit)))))) : Option (Lo ((Bool × (List (Int × ((List UInt8) × ((List ((Int × (UInt64 × (UInt64 × Unit))) × ((Int × (UInt64 × (UInt64 × Unit))) × ((Int × (UInt64 × (UInt64 × Unit))) × ((Int × (UInt64 × (UInt64 × Unit))) × (Int × (Int × ((List Int) × ((List Int) × Unit))))))))) × Unit)))) × Int × Int × Unit) × (((Int × (UInt64 × (UInt64 × Unit))) × ((Int × (UInt64 × (UInt64 × Unit))) × (Int × (Int × (Int × Unit))))) × Unit)) ((Unit) × (Unit)) lookup_Rule_R) :=
  some (.go ((outbound_2, t_12, t_13, (w64 (t_14 + (1 : Int))), ()), (p_4, ())))
noncomputable def lookup_Rule_6 (N : Nat) (outbound_2 : Bool) (i_8 : Int) (t_12 : (List (Int × ((List UInt8) × ((List ((Int × (UInt64 × (UInt64 × Unit))) × ((Int × (UInt64 × (UInt64 × Unit))) × ((Int × (UInt64 × (UInt64 × Unit))) × ((Int × (UInt64 × (UInt64 × Unit))) × (Int × (Int × ((List Int) × ((List Int) × Unit))))))))) × Unit))))) (t_13 : Int) (t_14 : Int) (t_20 : (List ((Int × (UInt64 × (UInt64 × Unit))) × ((Int × (UInt64 × (UInt64 × Unit))) × ((Int × (UInt64 × (UInt64 × Unit))) × ((Int × (UInt64 × (UInt64 × Unit))) × (Int × (Int × ((List Int) × ((List Int) × Unit)))))))))) (t_21 : Int) (t_22 : Int) (p_4 : ((Int × (UInt64 × (UInt64 × Unit))) × ((Int × (UInt64 × (UInt64 × Unit))) × (Int × (Int × (Int × Unit)))))) : Option (Lo ((Bool × (List (Int × ((List UInt8) × ((List ((Int × (UInt64 × (UInt64 × Unit))) × ((Int × (UInt64 × (UInt64 × Unit))) × ((Int × (UInt64 × (UInt64 × Unit))) × ((Int × (UInt64 × (UInt64 × Unit))) × (Int × (Int × ((List Int) × ((List Int) × Unit))))))))) × Unit)))) × Int × Int × Unit) × (((Int × (UInt64 × (UInt64 × Unit))) × ((Int × (UInt64 × (UInt64 × Unit))) × (Int × (Int × (Int × Unit))))) × Unit)) ((Unit) × (Unit)) lookup_Rule_R) :=
  loopK N (fun y => lookup_Rule_s7 N y.1.1 y.1.2.1 y.1.2.2.1 y.1.2.2.2.1 y.1.2.2.2.2.1 y.1.2.2.2.2.2.1 y.1.2.2.2.2.2.2.1 y.1.2.2.2.2.2.2.2.1 y.2.1) (fun (e : ((Bool × (List (Int × ((List UInt8) × ((List ((Int × (UInt64 × (UInt64 × Unit))) × ((Int × (UInt64 × (UInt64 × Unit))) × ((Int × (UInt64 × (UInt64 × Unit))) × ((Int × (UInt64 × (UInt64 × Unit))) × (Int × (Int × ((List Int) × ((List Int) × Unit))))))))) × Unit)))) × Int × Int × Unit) × (((Int × (UInt64 × (UInt64 × Unit))) × ((Int × (UInt64 × (UInt64 × Unit))) × (Int × (Int × (Int × Unit))))) × Unit))) => lookup_Rule_8 N e.1.1 e.1.2.1 e.1.2.2.1 e.1.2.2.2.1 e.2.1) ((outbound_2, i_8, t_12, t_13, t_14, t_20, t_21, t_22, ()), (p_4, ()))
noncomputable def lookup_Rule_5 (N : Nat) (outbound_2 : Bool) (t_12 : (List (Int × ((List UInt8) × ((List ((Int × (UInt64 × (UInt64 × Unit))) × ((Int × (UInt64 × (UInt64 × Unit))) × ((Int × (UInt64 × (UInt64 × Unit))) × ((Int × (UInt64 × (UInt64 × Unit))) × (Int × (Int × ((List Int) × ((List Int) × Unit))))))))) × Unit))))) (t_13 : Int) (t_14 : Int) (p_4 : ((Int × (UInt64 × (UInt64 × Unit))) × ((Int × (UInt64 × (UInt64 × Unit))) × (Int × (Int × (Int × Unit)))))) : Option (Lo ((Bool × (List (Int × ((List UInt8) × ((List ((Int × (UInt64 × (UInt64 × Unit))) × ((Int × (UInt64 × (UInt64 × Unit))) × ((Int × (UInt64 × (UInt64 × Unit))) × ((Int × (UInt64 × (UInt64 × Unit))) × (Int × (Int × ((List Int) × ((List Int) × Unit))))))))) × Unit)))) × Int × Int × Unit) × (((Int × (UInt64 × (UInt64 × Unit))) × ((Int × (UInt64 × (UInt64 × Unit))) × (Int × (Int × (Int × Unit))))) × Unit)) ((Unit) × (Unit)) lookup_Rule_R) :=
  bif inR t_14 t_12.length then
  let x3 := t_12.getD t_14.toNat ((0 : Int), ([] : List UInt8), ([] : List ((Int × (UInt64 × (UInt64 × Unit))) × ((Int × (UInt64 × (UInt64 × Unit))) × ((Int × (UInt64 × (UInt64 × Unit))) × ((Int × (UInt64 × (UInt64 × Unit))) × (Int × (Int × ((List Int) × ((List Int) × Unit))))))))), ())
  lookup_Rule_6 N outbound_2 t_14 t_12 t_13 t_14 x3.2.2.1 (x3.2.2.1.length : Int) (0 : Int) p_4
  else none
noncomputable def lookup_Rule_3 (N : Nat) (outbound_2 : Bool) (t_12 : (List (Int × ((List UInt8) × ((List ((Int × (UInt64 × (UInt64 × Unit))) × ((Int × (UInt64 × (UInt64 × Unit))) × ((Int × (UInt64 × (UInt64 × Unit))) × ((Int × (UInt64 × (UInt64 × Unit))) × (Int × (Int × ((List Int) × ((List Int) × Unit))))))))) × Unit))))) (t_13 : Int) (t_14 : Int) (p_4 : ((Int × (UInt64 × (UInt64 × Unit))) × ((Int × (UInt64 × (UInt64 × Unit))) × (Int × (Int × (Int × Unit)))))) : Option (Lo ((Bool × (List (Int × ((List UInt8) × ((List ((Int × (UInt64 × (UInt64 × Unit))) × ((Int × (UInt64 × (UInt64 × Unit))) × ((Int × (UInt64 × (UInt64 × Unit))) × ((Int × (UInt64 × (UInt64 × Unit))) × (Int × (Int × ((List Int) × ((List Int) × Unit))))))))) × Unit)))) × Int × Int × Unit) × (((Int × (UInt64 × (UInt64 × Unit))) × ((Int × (UInt64 × (UInt64 × Unit))) × (Int × (Int × (Int × Unit))))) × Unit)) ((Unit) × (Unit)) lookup_Rule_R) :=
  lookup_Rule_5 N outbound_2 t_12 t_13 t_14 p_4
noncomputable def lookup_Rule_s2 (N : Nat) (outbound_2 : Bool) (t_12 : (List (Int × ((List UInt8) × ((List ((Int × (UInt64 × (UInt64 × Unit))) × ((Int × (UInt64 × (UInt64 × Unit))) × ((Int × (UInt64 × (UInt64 × Unit))) × ((Int × (UInt64 × (UInt64 × Unit))) × (Int × (Int × ((List Int) × ((List Int) × Unit))))))))) × Unit))))) (t_13 : Int) (t_14 : Int) (p_4 : ((Int × (UInt64 × (UInt64 × Unit))) × ((Int × (UInt64 × (UInt64 × Unit))) × (Int × (Int × (Int × Unit)))))) : Option (Lo ((Bool × (List (Int × ((List UInt8) × ((List ((Int × (UInt64 × (UInt64 × Unit))) × ((Int × (UInt64 × (UInt64 × Unit))) × ((Int × (UInt64 × (UInt64 × Unit))) × ((Int × (UInt64 × (UInt64 × Unit))) × (Int × (Int × ((List Int) × ((List Int) × Unit))))))))) × Unit)))) × Int × Int × Unit) × (((Int × (UInt64 × (UInt64 × Unit))) × ((Int × (UInt64 × (UInt64 × Unit))) × (Int × (Int × (Int × Unit))))) × Unit)) ((Unit) × (Unit)) lookup_Rule_R) :=
  bif (decide (t_14 < t_13)) then
    lookup_Rule_3 N outbound_2 t_12 t_13 t_14 p_4
  else
    some (.br ((()), (())))
noncomputable def lookup_Rule_9 (N : Nat) : Option lookup_Rule_R :=
  some (((0 : Int), false, ()), (()))
noncomputable def lookup_Rule_1 (N : Nat) (outbound_2 : Bool) (t_12 : (List (Int × ((List UInt8) × ((List ((Int × (UInt64 × (UInt64 × Unit))) × ((Int × (UInt64 × (UInt64 × Unit))) × ((Int × (UInt64 × (UInt64 × Unit))) × ((Int × (UInt64 × (UInt64 × Unit))) × (Int × (Int × ((List Int) × ((List Int) × Unit))))))))) × Unit))))) (t_13 : Int) (t_14 : Int) (p_4 : ((Int × (UInt64 × (UInt64 × Unit))) × ((Int × (UInt64 × (UInt64 × Unit))) × (Int × (Int × (Int × Unit)))))) : Option lookup_Rule_R :=
  loopK N (fun y => lookup_Rule_s2 N y.1.1 y.1.2.1 y.1.2.2.1 y.1.2.2.2.1 y.2.1) (fun (e : ((Unit) × (Unit))) => lookup_Rule_9 N) ((outbound_2, t_12, t_13, t_14, ()), (p_4, ()))
noncomputable def lookup_Rule (N : Nat) (l_0 : (List (Int × ((List UInt8) × ((List ((Int × (UInt64 × (UInt64 × Unit))) × ((Int × (UInt64 × (UInt64 × Unit))) × ((Int × (UInt64 × (UInt64 × Unit))) × ((Int × (UInt64 × (UInt64 × Unit))) × (Int × (Int × ((List Int) × ((List Int) × Unit))))))))) × Unit))))) (p_1 : ((Int × (UInt64 × (UInt64 × Unit))) × ((Int × (UInt64 × (UInt64 × Unit))) × (Int × (Int × (Int × Unit)))))) (outbound_2 : Bool) : Option lookup_Rule_R :=
  lookup_Rule_1 N outbound_2 l_0 (l_0.length : Int) (0 : Int) p_1
noncomputable def lookup_Rule_C (N : Nat) : Ctx := ⟨33, G_tys, [(51, decorrelate_Has_ctr N)], G_globs⟩
noncomputable def lookup_Rule_S0 : Spec := ⟨[.val .bool, .ref 0 (.pair (.pair .i64 (.pair .u64 (.pair .u64 .unit))) (.pair (.pair .i64 (.pair .u64 (.pair .u64 .unit))) (.pair .i64 (.pair .i64 (.pair .i64 .unit))))), .val .i64, .val (.sl (.pair .i64 (.pair .str (.pair (.sl (.pair (.pair .i64 (.pair .u64 (.pair .u64 .unit))) (.pair (.pair .i64 (.pair .u64 (.pair .u64 .unit))) (.pair (.pair .i64 (.pair .u64 (.pair .u64 .unit))) (.pair (.pair .i64 (.pair .u64 (.pair .u64 .unit))) (.pair .i64 (.pair .i64 (.pair (.arr 2 .i64) (.pair (.arr 2 .i64) .unit))))))))) .unit)))), .val .i64, .val .i64, .val (.sl (.pair (.pair .i64 (.pair .u64 (.pair .u64 .unit))) (.pair (.pair .i64 (.pair .u64 (.pair .u64 .unit))) (.pair (.pair .i64 (.pair .u64 (.pair .u64 .unit))) (.pair (.pair .i64 (.pair .u64 (.pair .u64 .unit))) (.pair .i64 (.pair .i64 (.pair (.arr 2 .i64) (.pair (.arr 2 .i64) .unit))))))))), .val .i64, .val .i64], [(.box 30 (.pair (.pair .i64 (.pair .u64 (.pair .u64 .unit))) (.pair (.pair .i64 (.pair .u64 (.pair .u64 .unit))) (.pair .i64 (.pair .i64 (.pair .i64 .unit))))), .pos 1)]⟩
noncomputable def lookup_Rule_S1 : Spec := ⟨[.val .bool, .ref 0 (.pair (.pair .i64 (.pair .u64 (.pair .u64 .unit))) (.pair (.pair .i64 (.pair .u64 (.pair .u64 .unit))) (.pair .i64 (.pair .i64 (.pair .i64 .unit))))), .val (.sl (.pair .i64 (.pair .str (.pair (.sl (.pair (.pair .i64 (.pair .u64 (.pair .u64 .unit))) (.pair (.pair .i64 (.pair .u64 (.pair .u64 .unit))) (.pair (.pair .i64 (.pair .u64 (.pair .u64 .unit))) (.pair (.pair .i64 (.pair .u64 (.pair .u64 .unit))) (.pair .i64 (.pair .i64 (.pair (.arr 2 .i64) (.pair (.arr 2 .i64) .unit))))))))) .unit)))), .val .i64, .val .i64], [(.box 30 (.pair (.pair .i64 (.pair .u64 (.pair .u64 .unit))) (.pair (.pair .i64 (.pair .u64 (.pair .u64 .unit))) (.pair .i64 (.pair .i64 (.pair .i64 .unit))))), .pos 1)]⟩
noncomputable def lookup_Rule_S2 : Spec := ⟨[], []⟩
noncomputable def lookup_Rule_S3 : Spec := ⟨[.val (.sl (.pair .i64 (.pair .str (.pair (.sl (.pair (.pair .i64 (.pair .u64 (.pair .u64 .unit))) (.pair (.pair .i64 (.pair .u64 (.pair .u64 .unit))) (.pair (.pair .i64 (.pair .u64 (.pair .u64 .unit))) (.pair (.pair .i64 (.pair .u64 (.pair .u64 .unit))) (.pair .i64 (.pair .i64 (.pair (.arr 2 .i64) (.pair (.arr 2 .i64) .unit))))))))) .unit)))), .val (.pair (.pair .i64 (.pair .u64 (.pair .u64 .unit))) (.pair (.pair .i64 (.pair .u64 (.pair .u64 .unit))) (.pair .i64 (.pair .i64 (.pair .i64 .unit))))), .val .bool], []⟩
noncomputable def lookup_Rule_S4 : Spec := ⟨[.val .i64, .val .bool], []⟩
noncomputable def lookup_Rule_K (_N : Nat) : XE → GS → Option lookup_Rule_R := retK 0 [6, 7] [false, false] lookup_Rule_S4
noncomputable def lookup_Rule_L : List Code := (bodyOf (some Try.f38))
noncomputable def lookup_Rule_L2 : List Code := (loopOf (lookup_Rule_L[2]?))
noncomputable def lookup_Rule_L4b : List Code := (blockOf (lookup_Rule_L2[2]?))
noncomputable def lookup_Rule_L7 : List Code := (loopOf (lookup_Rule_L4b[2]?))
noncomputable def lookup_Rule_K2 (N : Nat) : XE → GS → Option (Lo ((Bool × (List (Int × ((List UInt8) × ((List ((Int × (UInt64 × (UInt64 × Unit))) × ((Int × (UInt64 × (UInt64 × Unit))) × ((Int × (UInt64 × (UInt64 × Unit))) × ((Int × (UInt64 × (UInt64 × Unit))) × (Int × (Int × ((List Int) × ((List Int) × Unit))))))))) × Unit)))) × Int × Int × Unit) × (((Int × (UInt64 × (UInt64 × Unit))) × ((Int × (UInt64 × (UInt64 × Unit))) × (Int × (Int × (Int × Unit))))) × Unit)) ((Unit) × (Unit)) lookup_Rule_R) := roundK (some 0) (fit 0 [2, 4, 12, 13, 14] lookup_Rule_S1) (fit 0 [] lookup_Rule_S2) (lookup_Rule_K N)
noncomputable def lookup_Rule_K4 (N : Nat) : XE → GS → Option (Lo ((Bool × (List (Int × ((List UInt8) × ((List ((Int × (UInt64 × (UInt64 × Unit))) × ((Int × (UInt64 × (UInt64 × Unit))) × ((Int × (UInt64 × (UInt64 × Unit))) × ((Int × (UInt64 × (UInt64 × Unit))) × (Int × (Int × ((List Int) × ((List Int) × Unit))))))))) × Unit)))) × Int × Int × Unit) × (((Int × (UInt64 × (UInt64 × Unit))) × ((Int × (UInt64 × (UInt64 × Unit))) × (Int × (Int × (Int × Unit))))) × Unit)) ((Unit) × (Unit)) lookup_Rule_R) := blockK 1 (goK 0 [2, 4, 12, 13, 14] lookup_Rule_S1 (fun y => lookup_Rule_8 N y.1.1 y.1.2.1 y.1.2.2.1 y.1.2.2.2.1 y.2.1)) (lookup_Rule_K2 N)
noncomputable def lookup_Rule_K7 (N : Nat) : XE → GS → Option (Lo ((Bool × Int × (List (Int × ((List UInt8) × ((List ((Int × (UInt64 × (UInt64 × Unit))) × ((Int × (UInt64 × (UInt64 × Unit))) × ((Int × (UInt64 × (UInt64 × Unit))) × ((Int × (UInt64 × (UInt64 × Unit))) × (Int × (Int × ((List Int) × ((List Int) × Unit))))))))) × Unit)))) × Int × Int × (List ((Int × (UInt64 × (UInt64 × Unit))) × ((Int × (UInt64 × (UInt64 × Unit))) × ((Int × (UInt64 × (UInt64 × Unit))) × ((Int × (UInt64 × (UInt64 × Unit))) × (Int × (Int × ((List Int) × ((List Int) × Unit))))))))) × Int × Int × Unit) × (((Int × (UInt64 × (UInt64 × Unit))) × ((Int × (UInt64 × (UInt64 × Unit))) × (Int × (Int × (Int × Unit))))) × Unit)) ((Bool × (List (Int × ((List UInt8) × ((List ((Int × (UInt64 × (UInt64 × Unit))) × ((Int × (UInt64 × (UInt64 × Unit))) × ((Int × (UInt64 × (UInt64 × Unit))) × ((Int × (UInt64 × (UInt64 × Unit))) × (Int × (Int × ((List Int) × ((List Int) × Unit))))))))) × Unit)))) × Int × Int × Unit) × (((Int × (UInt64 × (UInt64 × Unit))) × ((Int × (UInt64 × (UInt64 × Unit))) × (Int × (Int × (Int × Unit))))) × Unit)) (Lo ((Bool × (List (Int × ((List UInt8) × ((List ((Int × (UInt64 × (UInt64 × Unit))) × ((Int × (UInt64 × (UInt64 × Unit))) × ((Int × (UInt64 × (UInt64 × Unit))) × ((Int × (UInt64 × (UInt64 × Unit))) × (Int × (Int × ((List Int) × ((List Int) × Unit))))))))) × Unit)))) × Int × Int × Unit) × (((Int × (UInt64 × (UInt64 × Unit))) × ((Int × (UInt64 × (UInt64 × Unit))) × (Int × (Int × (Int × Unit))))) × Unit)) ((Unit) × (Unit)) lookup_Rule_R)) := roundK (some 2) (fit 0 [2, 4, 8, 12, 13, 14, 20, 21, 22] lookup_Rule_S0) (fit 0 [2, 4, 12, 13, 14] lookup_Rule_S1) (lookup_Rule_K4 N)
theorem lookup_Rule_s7_b {E : Env} (N : Nat) (hb : Base Try.prog (lookup_Rule_C N) E 0) : Blk Try.prog (lookup_Rule_C N) E [2, 4, 8, 12, 13, 14, 20, 21, 22] lookup_Rule_S0 (lookup_Rule_L7.drop 0) (fun y => lookup_Rule_s7 N y.1.1 y.1.2.1 y.1.2.2.1 y.1.2.2.2.1 y.1.2.2.2.2.1 y.1.2.2.2.2.2.1 y.1.2.2.2.2.2.2.1 y.1.2.2.2.2.2.2.2.1 y.2.1) (lookup_Rule_K7 N) :=
  Blk.chunkAt hb 4 (X := (lookup_Rule_K7 N .normal)) (NxOk.end (by kernel_rfl)) rfl (fun x => by kernel_rfl)
theorem lookup_Rule_8_b {E : Env} (N : Nat) (hb : Base Try.prog (lookup_Rule_C N) E 0) : Blk Try.prog (lookup_Rule_C N) E [2, 4, 12, 13, 14] lookup_Rule_S1 (lookup_Rule_L2.drop 3) (fun y => lookup_Rule_8 N y.1.1 y.1.2.1 y.1.2.2.1 y.1.2.2.2.1 y.2.1) (lookup_Rule_K2 N) :=
  Blk.chunkAt hb 1 (X := (lookup_Rule_K2 N .normal)) (NxOk.end (by kernel_rfl)) rfl (fun x => by kernel_rfl)
theorem lookup_Rule_6_b {E : Env} (N : Nat) (hb : Base Try.prog (lookup_Rule_C N) E 0) : Blk Try.prog (lookup_Rule_C N) E [2, 4, 8, 12, 13, 14, 20, 21, 22] lookup_Rule_S0 (lookup_Rule_L4b.drop 2) (fun y => lookup_Rule_6 N y.1.1 y.1.2.1 y.1.2.2.1 y.1.2.2.2.1 y.1.2.2.2.2.1 y.1.2.2.2.2.2.1 y.1.2.2.2.2.2.2.1 y.1.2.2.2.2.2.2.2.1 y.2.1) (lookup_Rule_K4 N) :=
  Blk.loopAt (Nf := N) (hns := [2, 4, 8, 12, 13, 14, 20, 21, 22]) (ans := [2, 4, 12, 13, 14]) (hc := lookup_Rule_S0) (ac := lookup_Rule_S1) (bid := 2) (step := (fun y => lookup_Rule_s7 N y.1.1 y.1.2.1 y.1.2.2.1 y.1.2.2.2.1 y.1.2.2.2.2.1 y.1.2.2.2.2.2.1 y.1.2.2.2.2.2.2.1 y.1.2.2.2.2.2.2.2.1 y.2.1)) (J := (fun e => (lookup_Rule_K4 N .normal) (lookup_Rule_S1.st [2, 4, 12, 13, 14] e))) hb (by kernel_rfl) (Blk.into (X := (lookup_Rule_K4 N .normal)) (NxOk.end (by kernel_rfl)) (fun x => by kernel_rfl)) (lookup_Rule_s7_b N hb) (fun x => by kernel_rfl)
theorem lookup_Rule_5_b {E : Env} (N : Nat) (hb : Base Try.prog (lookup_Rule_C N) E 0) : Blk Try.prog (lookup_Rule_C N) E [2, 4, 12, 13, 14] lookup_Rule_S1 (lookup_Rule_L4b.drop 0) (fun y => lookup_Rule_5 N y.1.1 y.1.2.1 y.1.2.2.1 y.1.2.2.2.1 y.2.1) (lookup_Rule_K4 N) :=
  Blk.chunkAt hb 2 (X := (goK 0 [2, 4, 8, 12, 13, 14, 20, 21, 22] lookup_Rule_S0 (fun y => lookup_Rule_6 N y.1.1 y.1.2.1 y.1.2.2.1 y.1.2.2.2.1 y.1.2.2.2.2.1 y.1.2.2.2.2.2.1 y.1.2.2.2.2.2.2.1 y.1.2.2.2.2.2.2.2.1 y.2.1))) (NxOk.go hb (lookup_Rule_6_b N hb)) rfl (fun x => by kernel_rfl)
theorem lookup_Rule_3_b {E : Env} (N : Nat) (hb : Base Try.prog (lookup_Rule_C N) E 0) : Blk Try.prog (lookup_Rule_C N) E [2, 4, 12, 13, 14] lookup_Rule_S1 (lookup_Rule_L2.drop 2) (fun y => lookup_Rule_3 N y.1.1 y.1.2.1 y.1.2.2.1 y.1.2.2.2.1 y.2.1) (lookup_Rule_K2 N) :=
  Blk.blockAt (bid := 1) (X := (goK 0 [2, 4, 12, 13, 14] lookup_Rule_S1 (fun y => lookup_Rule_8 N y.1.1 y.1.2.1 y.1.2.2.1 y.1.2.2.2.1 y.2.1))) (Y := (goK 0 [2, 4, 12, 13, 14] lookup_Rule_S1 (fun y => lookup_Rule_5 N y.1.1 y.1.2.1 y.1.2.2.1 y.1.2.2.2.1 y.2.1))) (by kernel_rfl) (NxOk.go hb (lookup_Rule_8_b N hb)) (NxOk.go hb (lookup_Rule_5_b N hb)) (fun x => by kernel_rfl)
theorem lookup_Rule_s2_b {E : Env} (N : Nat) (hb : Base Try.prog (lookup_Rule_C N) E 0) : Blk Try.prog (lookup_Rule_C N) E [2, 4, 12, 13, 14] lookup_Rule_S1 (lookup_Rule_L2.drop 0) (fun y => lookup_Rule_s2 N y.1.1 y.1.2.1 y.1.2.2.1 y.1.2.2.2.1 y.2.1) (lookup_Rule_K2 N) :=
  Blk.chunkAt hb 2 (X := (goK 0 [2, 4, 12, 13, 14] lookup_Rule_S1 (fun y => lookup_Rule_3 N y.1.1 y.1.2.1 y.1.2.2.1 y.1.2.2.2.1 y.2.1))) (NxOk.go hb (lookup_Rule_3_b N hb)) rfl (fun x => by kernel_rfl)
theorem lookup_Rule_9_b {E : Env} (N : Nat) (hb : Base Try.prog (lookup_Rule_C N) E 0) : Blk Try.prog (lookup_Rule_C N) E [] lookup_Rule_S2 (lookup_Rule_L.drop 3) (fun y => lookup_Rule_9 N) (lookup_Rule_K N) :=
  Blk.chunkAt hb 2 (X := (lookup_Rule_K N .normal)) (NxOk.end (by kernel_rfl)) rfl (fun x => by kernel_rfl)
theorem lookup_Rule_1_b {E : Env} (N : Nat) (hb : Base Try.prog (lookup_Rule_C N) E 0) : Blk Try.prog (lookup_Rule_C N) E [2, 4, 12, 13, 14] lookup_Rule_S1 (lookup_Rule_L.drop 2) (fun y => lookup_Rule_1 N y.1.1 y.1.2.1 y.1.2.2.1 y.1.2.2.2.1 y.2.1) (lookup_Rule_K N) :=
  Blk.loopAt (Nf := N) (hns := [2, 4, 12, 13, 14]) (ans := []) (hc := lookup_Rule_S1) (ac := lookup_Rule_S2) (bid := 0) (step := (fun y => lookup_Rule_s2 N y.1.1 y.1.2.1 y.1.2.2.1 y.1.2.2.2.1 y.2.1)) (J := (fun e => (goK 0 [] lookup_Rule_S2 (fun y => lookup_Rule_9 N)) (lookup_Rule_S2.st [] e))) hb (by kernel_rfl) (Blk.into (X := (goK 0 [] lookup_Rule_S2 (fun y => lookup_Rule_9 N))) (NxOk.go hb (lookup_Rule_9_b N hb)) (fun x => by kernel_rfl)) (lookup_Rule_s2_b N hb) (fun x => by kernel_rfl)
theorem lookup_Rule_b {E : Env} (N : Nat) (hb : Base Try.prog (lookup_Rule_C N) E 0) : Blk Try.prog (lookup_Rule_C N) E (List.range lookup_Rule_S3.ks.length) lookup_Rule_S3 (lookup_Rule_L.drop 0) (fun y => lookup_Rule N y.1.1 y.1.2.1 y.1.2.2.1) (lookup_Rule_K N) :=
  Blk.chunkAt hb 2 (X := (goK 0 [2, 4, 12, 13, 14] lookup_Rule_S1 (fun y => lookup_Rule_1 N y.1.1 y.1.2.1 y.1.2.2.1 y.1.2.2.2.1 y.2.1))) (NxOk.go hb (lookup_Rule_1_b N hb)) rfl (fun x => by kernel_rfl)
noncomputable def lookup_Rule_ctr (N : Nat) : Ctr := ⟨lookup_Rule_S3, lookup_Rule_S4.un [false, false], 0, (fun y => lookup_Rule N y.1.1 y.1.2.1 y.1.2.2.1)⟩
theorem lookup_Rule_ctrs (N : Nat) : CtrsOk Try.prog (lookup_Rule_C N) := ctrs_of (Γ := lookup_Rule_C N) (by
  intro p hp
  simp only [lookup_Rule_C, List.mem_cons, List.not_mem_nil, or_false] at hp
  rcases hp with rfl
  · exact decorrelate_Has_ok N)
theorem lookup_Rule_ok (N : Nat) : Ctr.ok Try.prog G_globs 38 (lookup_Rule_ctr N) :=
  ctr_fn (Γ := lookup_Rule_C N) (rfit := lookup_Rule_S4) (bs := [false, false]) (res := [6, 7]) (by kernel_rfl) (tys_ok G_tys_ok) (lookup_Rule_ctrs N) Try.func38 (by kernel_rfl) (by kernel_rfl) Try.ntmps38 (by kernel_rfl) (by kernel_rfl) (by kernel_rfl) (by kernel_rfl) (fun E hb => lookup_Rule_b N hb)
end Go.Proofs.Ytgbkkfpheahdfaa
namespace Go.Proofs.Ytgbkkfpheahdfaa
open Go
set_option maxRecDepth 100000
set_option linter.unusedVariables false
/-! ipsecgate/lookup.hidden -/
abbrev lookup_hidden_R : Type := ((Bool × Bool × Unit) × (Unit))
noncomputable def lookup_hidden (N : Nat) (p_0 : ((Int × (UInt64 × (UInt64 × Unit))) × ((Int × (UInt64 × (UInt64 × Unit))) × (Int × (Int × (Int × Unit)))))) : Option lookup_hidden_R :=
  let x1 := decide (p_0.2.2.2.1 = (-1 : Int))
  let x2 := decide (p_0.2.2.2.2.1 = (-1 : Int))
  bif (decide (p_0.2.2.1 = (6 : Int))) then
    some ((x1, x2, ()), (()))
  else
    bif (decide (p_0.2.2.1 = (17 : Int))) then
      some ((x1, x2, ()), (()))
    else
      bif (decide (p_0.2.2.1 = (1 : Int))) then
        some ((x1, false, ()), (()))
      else
        bif (decide (p_0.2.2.1 = (58 : Int))) then
          some ((x1, false, ()), (()))
        else
          some ((false, false, ()), (()))
noncomputable def lookup_hidden_C (N : Nat) : Ctx := ⟨21, G_tys, [], G_globs⟩
noncomputable def lookup_hidden_S0 : Spec := ⟨[.val (.pair (.pair .i64 (.pair .u64 (.pair .u64 .unit))) (.pair (.pair .i64 (.pair .u64 (.pair .u64 .unit))) (.pair .i64 (.pair .i64 (.pair .i64 .unit)))))], []⟩
noncomputable def lookup_hidden_S1 : Spec := ⟨[.val .bool, .val .bool], []⟩
noncomputable def lookup_hidden_K (_N : Nat) : XE → GS → Option lookup_hidden_R := retK 0 [2, 3] [false, false] lookup_hidden_S1
noncomputable def lookup_hidden_L : List Code := (bodyOf (some Try.f87))
theorem lookup_hidden_b {E : Env} (N : Nat) (hb : Base Try.prog (lookup_hidden_C N) E 0) : Blk Try.prog (lookup_hidden_C N) E (List.range lookup_hidden_S0.ks.length) lookup_hidden_S0 (lookup_hidden_L.drop 0) (fun y => lookup_hidden N y.1.1) (lookup_hidden_K N) :=
  Blk.chunkAt hb 6 (X := (lookup_hidden_K N .normal)) (NxOk.end (by kernel_rfl)) rfl (fun x => by kernel_rfl)
noncomputable def lookup_hidden_ctr (N : Nat) : Ctr := ⟨lookup_hidden_S0, lookup_hidden_S1.un [false, false], 0, (fun y => lookup_hidden N y.1.1)⟩
theorem lookup_hidden_ctrs (N : Nat) : CtrsOk Try.prog (lookup_hidden_C N) := ctrs_nil rfl
theorem lookup_hidden_ok (N : Nat) : Ctr.ok Try.prog G_globs 87 (lookup_hidden_ctr N) :=
  ctr_fn (Γ := lookup_hidden_C N) (rfit := lookup_hidden_S1) (bs := [false, false]) (res := [2, 3]) (by kernel_rfl) (tys_ok G_tys_ok) (lookup_hidden_ctrs N) Try.func87 (by kernel_rfl) (by kernel_rfl) Try.ntmps87 (by kernel_rfl) (by kernel_rfl) (by kernel_rfl) (by kernel_rfl) (fun E hb => lookup_hidden_b N hb)
end Go.Proofs.Ytgbkkfpheahdfaa
namespace Go.Proofs.Ytgbkkfpheahdfaa
open Go
set_option maxRecDepth 100000
set_option linter.unusedVariables false
/-! ipsecgate/lookup.could -/
abbrev lookup_could_R : Type := ((Bool × Unit) × (Unit))
noncomputable def lookup_could (N : Nat) (b_0 : ((Int × (UInt64 × (UInt64 × Unit))) × ((Int × (UInt64 × (UInt64 × Unit))) × ((Int × (UInt64 × (UInt64 × Unit))) × ((Int × (UInt64 × (UInt64 × Unit))) × (Int × (Int × ((List Int) × ((List Int) × Unit))))))))) (p_1 : ((Int × (UInt64 × (UInt64 × Unit))) × ((Int × (UInt64 × (UInt64 × Unit))) × (Int × (Int × (Int × Unit)))))) (outbound_2 : Bool) : Option lookup_could_R :=
  Option.bind (lookup_hidden N p_1) fun y1 =>
  bif (!outbound_2) then
    bif y1.1.2.1 then
      let x3 := (b_0.2.2.2.2.2.2.1.getD 1 (0 : Int))
      bif y1.1.1 then
        let x4 := (b_0.2.2.2.2.2.2.2.1.getD 1 (0 : Int))
        bif (!y1.1.2.1) then
          bif (!y1.1.1) then
            Option.bind (decorrelate_Has N b_0 (p_1.1, p_1.2.1, p_1.2.2.1, x4, x3, ()) outbound_2) fun y7 =>
            some ((y7.1.1, ()), (()))
          else
            bif (decide ((0 : Int) ≤ x4)) then
              Option.bind (decorrelate_Has N b_0 (p_1.1, p_1.2.1, p_1.2.2.1, x4, x3, ()) outbound_2) fun y9 =>
              some ((y9.1.1, ()), (()))
            else
              some ((false, ()), (()))
        else
          bif (decide ((0 : Int) ≤ x3)) then
            bif (!y1.1.1) then
              Option.bind (decorrelate_Has N b_0 (p_1.1, p_1.2.1, p_1.2.2.1, x4, x3, ()) outbound_2) fun y12 =>
              some ((y12.1.1, ()), (()))
            else
              bif (decide ((0 : Int) ≤ x4)) then
                Option.bind (decorrelate_Has N b_0 (p_1.1, p_1.2.1, p_1.2.2.1, x4, x3, ()) outbound_2) fun y14 =>
                some ((y14.1.1, ()), (()))
              else
                some ((false, ()), (()))
          else
            some ((false, ()), (()))
      else
        bif (!y1.1.2.1) then
          bif (!y1.1.1) then
            Option.bind (decorrelate_Has N b_0 (p_1.1, p_1.2.1, p_1.2.2.1, p_1.2.2.2.1, x3, ()) outbound_2) fun y17 =>
            some ((y17.1.1, ()), (()))
          else
            bif (decide ((0 : Int) ≤ p_1.2.2.2.1)) then
              Option.bind (decorrelate_Has N b_0 (p_1.1, p_1.2.1, p_1.2.2.1, p_1.2.2.2.1, x3, ()) outbound_2) fun y19 =>
              some ((y19.1.1, ()), (()))
            else
              some ((false, ()), (()))
        else
          bif (decide ((0 : Int) ≤ x3)) then
            bif (!y1.1.1) then
              Option.bind (decorrelate_Has N b_0 (p_1.1, p_1.2.1, p_1.2.2.1, p_1.2.2.2.1, x3, ()) outbound_2) fun y22 =>
              some ((y22.1.1, ()), (()))
            else
              bif (decide ((0 : Int) ≤ p_1.2.2.2.1)) then
                Option.bind (decorrelate_Has N b_0 (p_1.1, p_1.2.1, p_1.2.2.1, p_1.2.2.2.1, x3, ()) outbound_2) fun y24 =>
                some ((y24.1.1, ()), (()))
              else
                some ((false, ()), (()))
          else
            some ((false, ()), (()))
    else
      bif y1.1.1 then
        let x25 := (b_0.2.2.2.2.2.2.2.1.getD 1 (0 : Int))
        bif (!y1.1.2.1) then
          bif (!y1.1.1) then
            Option.bind (decorrelate_Has N b_0 (p_1.1, p_1.2.1, p_1.2.2.1, x25, p_1.2.2.2.2.1, ()) outbound_2) fun y28 =>
            some ((y28.1.1, ()), (()))
          else
            bif (decide ((0 : Int) ≤ x25)) then
              Option.bind (decorrelate_Has N b_0 (p_1.1, p_1.2.1, p_1.2.2.1, x25, p_1.2.2.2.2.1, ()) outbound_2) fun y30 =>
              some ((y30.1.1, ()), (()))
            else
              some ((false, ()), (()))
        else
          bif (decide ((0 : Int) ≤ p_1.2.2.2.2.1)) then
            bif (!y1.1.1) then
              Option.bind (decorrelate_Has N b_0 (p_1.1, p_1.2.1, p_1.2.2.1, x25, p_1.2.2.2.2.1, ()) outbound_2) fun y33 =>
              some ((y33.1.1, ()), (()))
            else
              bif (decide ((0 : Int) ≤ x25)) then
                Option.bind (decorrelate_Has N b_0 (p_1.1, p_1.2.1, p_1.2.2.1, x25, p_1.2.2.2.2.1, ()) outbound_2) fun y35 =>
                some ((y35.1.1, ()), (()))
              else
                some ((false, ()), (()))
          else
            some ((false, ()), (()))
      else
        bif (!y1.1.2.1) then
          bif (!y1.1.1) then
            Option.bind (decorrelate_Has N b_0 p_1 outbound_2) fun y38 =>
            some ((y38.1.1, ()), (()))
          else
            bif (decide ((0 : Int) ≤ p_1.2.2.2.1)) then
              Option.bind (decorrelate_Has N b_0 p_1 outbound_2) fun y40 =>
              some ((y40.1.1, ()), (()))
            else
              some ((false, ()), (()))
        else
          bif (decide ((0 : Int) ≤ p_1.2.2.2.2.1)) then
            bif (!y1.1.1) then
              Option.bind (decorrelate_Has N b_0 p_1 outbound_2) fun y43 =>
              some ((y43.1.1, ()), (()))
            else
              bif (decide ((0 : Int) ≤ p_1.2.2.2.1)) then
                Option.bind (decorrelate_Has N b_0 p_1 outbound_2) fun y45 =>
                some ((y45.1.1, ()), (()))
              else
                some ((false, ()), (()))
          else
            some ((false, ()), (()))
  else
    bif y1.1.1 then
      let x46 := (b_0.2.2.2.2.2.2.1.getD 1 (0 : Int))
      bif y1.1.2.1 then
        let x47 := (b_0.2.2.2.2.2.2.2.1.getD 1 (0 : Int))
        bif (!y1.1.1) then
          bif (!y1.1.2.1) then
            Option.bind (decorrelate_Has N b_0 (p_1.1, p_1.2.1, p_1.2.2.1, x46, x47, ()) outbound_2) fun y50 =>
            some ((y50.1.1, ()), (()))
          else
            bif (decide ((0 : Int) ≤ x47)) then
              Option.bind (decorrelate_Has N b_0 (p_1.1, p_1.2.1, p_1.2.2.1, x46, x47, ()) outbound_2) fun y52 =>
              some ((y52.1.1, ()), (()))
            else
              some ((false, ()), (()))
        else
          bif (decide ((0 : Int) ≤ x46)) then
            bif (!y1.1.2.1) then
              Option.bind (decorrelate_Has N b_0 (p_1.1, p_1.2.1, p_1.2.2.1, x46, x47, ()) outbound_2) fun y55 =>
              some ((y55.1.1, ()), (()))
            else
              bif (decide ((0 : Int) ≤ x47)) then
                Option.bind (decorrelate_Has N b_0 (p_1.1, p_1.2.1, p_1.2.2.1, x46, x47, ()) outbound_2) fun y57 =>
                some ((y57.1.1, ()), (()))
              else
                some ((false, ()), (()))
          else
            some ((false, ()), (()))
      else
        bif (!y1.1.1) then
          bif (!y1.1.2.1) then
            Option.bind (decorrelate_Has N b_0 (p_1.1, p_1.2.1, p_1.2.2.1, x46, p_1.2.2.2.2.1, ()) outbound_2) fun y60 =>
            some ((y60.1.1, ()), (()))
          else
            bif (decide ((0 : Int) ≤ p_1.2.2.2.2.1)) then
              Option.bind (decorrelate_Has N b_0 (p_1.1, p_1.2.1, p_1.2.2.1, x46, p_1.2.2.2.2.1, ()) outbound_2) fun y62 =>
              some ((y62.1.1, ()), (()))
            else
              some ((false, ()), (()))
        else
          bif (decide ((0 : Int) ≤ x46)) then
            bif (!y1.1.2.1) then
              Option.bind (decorrelate_Has N b_0 (p_1.1, p_1.2.1, p_1.2.2.1, x46, p_1.2.2.2.2.1, ()) outbound_2) fun y65 =>
              some ((y65.1.1, ()), (()))
            else
              bif (decide ((0 : Int) ≤ p_1.2.2.2.2.1)) then
                Option.bind (decorrelate_Has N b_0 (p_1.1, p_1.2.1, p_1.2.2.1, x46, p_1.2.2.2.2.1, ()) outbound_2) fun y67 =>
                some ((y67.1.1, ()), (()))
              else
                some ((false, ()), (()))
          else
            some ((false, ()), (()))
    else
      bif y1.1.2.1 then
        let x68 := (b_0.2.2.2.2.2.2.2.1.getD 1 (0 : Int))
        bif (!y1.1.1) then
          bif (!y1.1.2.1) then
            Option.bind (decorrelate_Has N b_0 (p_1.1, p_1.2.1, p_1.2.2.1, p_1.2.2.2.1, x68, ()) outbound_2) fun y71 =>
            some ((y71.1.1, ()), (()))
          else
            bif (decide ((0 : Int) ≤ x68)) then
              Option.bind (decorrelate_Has N b_0 (p_1.1, p_1.2.1, p_1.2.2.1, p_1.2.2.2.1, x68, ()) outbound_2) fun y73 =>
              some ((y73.1.1, ()), (()))
            else
              some ((false, ()), (()))
        else
          bif (decide ((0 : Int) ≤ p_1.2.2.2.1)) then
            bif (!y1.1.2.1) then
              Option.bind (decorrelate_Has N b_0 (p_1.1, p_1.2.1, p_1.2.2.1, p_1.2.2.2.1, x68, ()) outbound_2) fun y76 =>
              some ((y76.1.1, ()), (()))
            else
              bif (decide ((0 : Int) ≤ x68)) then
                Option.bind (decorrelate_Has N b_0 (p_1.1, p_1.2.1, p_1.2.2.1, p_1.2.2.2.1, x68, ()) outbound_2) fun y78 =>
                some ((y78.1.1, ()), (()))
              else
                some ((false, ()), (()))
          else
            some ((false, ()), (()))
      else
        bif (!y1.1.1) then
          bif (!y1.1.2.1) then
            Option.bind (decorrelate_Has N b_0 p_1 outbound_2) fun y81 =>
            some ((y81.1.1, ()), (()))
          else
            bif (decide ((0 : Int) ≤ p_1.2.2.2.2.1)) then
              Option.bind (decorrelate_Has N b_0 p_1 outbound_2) fun y83 =>
              some ((y83.1.1, ()), (()))
            else
              some ((false, ()), (()))
        else
          bif (decide ((0 : Int) ≤ p_1.2.2.2.1)) then
            bif (!y1.1.2.1) then
              Option.bind (decorrelate_Has N b_0 p_1 outbound_2) fun y86 =>
              some ((y86.1.1, ()), (()))
            else
              bif (decide ((0 : Int) ≤ p_1.2.2.2.2.1)) then
                Option.bind (decorrelate_Has N b_0 p_1 outbound_2) fun y88 =>
                some ((y88.1.1, ()), (()))
              else
                some ((false, ()), (()))
          else
            some ((false, ()), (()))
noncomputable def lookup_could_C (N : Nat) : Ctx := ⟨60, G_tys, [(87, lookup_hidden_ctr N), (51, decorrelate_Has_ctr N)], G_globs⟩
noncomputable def lookup_could_S0 : Spec := ⟨[.val (.pair (.pair .i64 (.pair .u64 (.pair .u64 .unit))) (.pair (.pair .i64 (.pair .u64 (.pair .u64 .unit))) (.pair (.pair .i64 (.pair .u64 (.pair .u64 .unit))) (.pair (.pair .i64 (.pair .u64 (.pair .u64 .unit))) (.pair .i64 (.pair .i64 (.pair (.arr 2 .i64) (.pair (.arr 2 .i64) .unit)))))))), .val (.pair (.pair .i64 (.pair .u64 (.pair .u64 .unit))) (.pair (.pair .i64 (.pair .u64 (.pair .u64 .unit))) (.pair .i64 (.pair .i64 (.pair .i64 .unit))))), .val .bool], []⟩
noncomputable def lookup_could_S1 : Spec := ⟨[.val .bool], []⟩
noncomputable def lookup_could_K (_N : Nat) : XE → GS → Option lookup_could_R := retK 0 [6] [false] lookup_could_S1
noncomputable def lookup_could_L : List Code := (bodyOf (some Try.f88))
theorem lookup_could_b {E : Env} (N : Nat) (hb : Base Try.prog (lookup_could_C N) E 0) : Blk Try.prog (lookup_could_C N) E (List.range lookup_could_S0.ks.length) lookup_could_S0 (lookup_could_L.drop 0) (fun y => lookup_could N y.1.1 y.1.2.1 y.1.2.2.1) (lookup_could_K N) :=
  Blk.chunkAt hb 11 (X := (lookup_could_K N .normal)) (NxOk.end (by kernel_rfl)) rfl (fun x => by kernel_rfl)
noncomputable def lookup_could_ctr (N : Nat) : Ctr := ⟨lookup_could_S0, lookup_could_S1.un [false], 0, (fun y => lookup_could N y.1.1 y.1.2.1 y.1.2.2.1)⟩
theorem lookup_could_ctrs (N : Nat) : CtrsOk Try.prog (lookup_could_C N) := ctrs_of (Γ := lookup_could_C N) (by
  intro p hp
  simp only [lookup_could_C, List.mem_cons, List.not_mem_nil, or_false] at hp
  rcases hp with rfl | rfl
  · exact lookup_hidden_ok N
  · exact decorrelate_Has_ok N)
theorem lookup_could_ok (N : Nat) : Ctr.ok Try.prog G_globs 88 (lookup_could_ctr N) :=
  ctr_fn (Γ := lookup_could_C N) (rfit := lookup_could_S1) (bs := [false]) (res := [6]) (by kernel_rfl) (tys_ok G_tys_ok) (lookup_could_ctrs N) Try.func88 (by kernel_rfl) (by kernel_rfl) Try.ntmps88 (by kernel_rfl) (by kernel_rfl) (by kernel_rfl) (by kernel_rfl) (fun E hb => lookup_could_b N hb)
end Go.Proofs.Ytgbkkfpheahdfaa
namespace Go.Proofs.Ytgbkkfpheahdfaa
open Go
set_option maxRecDepth 100000
set_option linter.unusedVariables false
/-! ipsecgate/lookup.Action -/
abbrev lookup_Action_R : Type := ((Int × Int × Unit) × (Unit))
noncomputable def lookup_Action_s12 (N : Nat) (outbound_2 : Bool) (r_8 : Int) (ok_9 : Bool) (i_13 : Int) (t_53 : (List (Int × ((List UInt8) × ((List ((Int × (UInt64 × (UInt64 × Unit))) × ((Int × (UInt64 × (UInt64 × Unit))) × ((Int × (UInt64 × (UInt64 × Unit))) × ((Int × (UInt64 × (UInt64 × Unit))) × (Int × (Int × ((List Int) × ((List Int) × Unit))))))))) × Unit))))) (t_54 : Int) (t_55 : Int) (t_61 : (List ((Int × (UInt64 × (UInt64 × Unit))) × ((Int × (UInt64 × (UInt64 × Unit))) × ((Int × (UInt64 × (UInt64 × Unit))) × ((Int × (UInt64 × (UInt64 × Unit))) × (Int × (Int × ((List Int) × ((List Int) × Unit)))))))))) (t_62 : Int) (t_63 : Int) (p_4 : ((Int × (UInt64 × (UInt64 × Unit))) × ((Int × (UInt64 × (UInt64 × Unit))) × (Int × (Int × (Int × Unit)))))) (x_14 : (Int × ((List UInt8) × ((List ((Int × (UInt64 × (UInt64 × Unit))) × ((Int × (UInt64 × (UInt64 × Unit))) × ((Int × (UInt64 × (UInt64 × Unit))) × ((Int × (UInt64 × (UInt64 × Unit))) × (Int × (Int × ((List Int) × ((List Int) × Unit))))))))) × Unit)))) (x_14_v : (List ((Int × (UInt64 × (UInt64 × Unit))) × ((Int × (UInt64 × (UInt64 × Unit))) × ((Int × (UInt64 × (UInt64 × Unit))) × ((Int × (UInt64 × (UInt64 × Unit))) × (Int × (Int × ((List Int) × ((List Int) × Unit)))))))))) : Option (Lo ((Bool × Int × Bool × Int × (List (Int × ((List UInt8) × ((List ((Int × (UInt64 × (UInt64 × Unit))) × ((Int × (UInt64 × (UInt64 × Unit))) × ((Int × (UInt64 × (UInt64 × Unit))) × ((Int × (UInt64 × (UInt64 × Unit))) × (Int × (Int × ((List Int) × ((List Int) × Unit))))))))) × Unit)))) × Int × Int × (List ((Int × (UInt64 × (UInt64 × Unit))) × ((Int × (UInt64 × (UInt64 × Unit))) × ((Int × (UInt64 × (UInt64 × Unit))) × ((Int × (UInt64 × (UInt64 × Unit))) × (Int × (Int × ((List Int) × ((List Int) × Unit))))))))) × Int × Int × Unit) × (((Int × (UInt64 × (UInt64 × Unit))) × ((Int × (UInt64 × (UInt64 × Unit))) × (Int × (Int × (Int × Unit))))) × (Int × ((List UInt8) × ((List ((Int × (UInt64 × (UInt64 × Unit))) × ((Int × (UInt64 × (UInt64 × Unit))) × ((Int × (UInt64 × (UInt64 × Unit))) × ((Int × (UInt64 × (UInt64 × Unit))) × (Int × (Int × ((List Int) × ((List Int) × Unit))))))))) × Unit))) × (List ((Int × (UInt64 × (UInt64 × Unit))) × ((Int × (UInt64 × (UInt64 × Unit))) × ((Int × (UInt64 × (UInt64 × Unit))) × ((Int × (UInt64 × (UInt64 × Unit))) × (Int × (Int × ((List Int) × ((List Int) × Unit))))))))) × Unit)) ((Bool × Int × Bool × (List (Int × ((List UInt8) × ((List ((Int × (UInt64 × (UInt64 × Unit))) × ((Int × (UInt64 × (UInt64 × Unit))) × ((Int × (UInt64 × (UInt64 × Unit))) × ((Int × (UInt64 × (UInt64 × Unit))) × (Int × (Int × ((List Int) × ((List Int) × Unit))))))))) × Unit)))) × Int × Int × Unit) × (((Int × (UInt64 × (UInt64 × Unit))) × ((Int × (UInt64 × (UInt64 × Unit))) × (Int × (Int × (Int × Unit))))) × Unit)) (Lo ((Bool × Int × Bool × (List (Int × ((List UInt8) × ((List ((Int × (UInt64 × (UInt64 × Unit))) × ((Int × (UInt64 × (UInt64 × Unit))) × ((Int × (UInt64 × (UInt64 × Unit))) × ((Int × (UInt64 × (UInt64 × Unit))) × (Int × (Int × ((List Int) × ((List Int) × Unit))))))))) × Unit)))) × Int × Int × Unit) × (((Int × (UInt64 × (UInt64 × Unit))) × ((Int × (UInt64 × (UInt64 × Unit))) × (Int × (Int × (Int × Unit))))) × Unit)) ((Int × Bool × Unit) × (Unit)) lookup_Action_R)) :=
  bif (decide (t_63 < t_62)) then
    bif inR t_63 t_61.length then
    bif (!(decide (x_14.1 = (1 : Int)))) then
      Option.bind (lookup_could N (t_61.getD t_63.toNat (((0 : Int), (0 : UInt64), (0 : UInt64), ()), ((0 : Int), (0 : UInt64), (0 : UInt64), ()), ((0 : Int), (0 : UInt64), (0 : UInt64), ()), ((0 : Int), (0 : UInt64), (0 : UInt64), ()), (0 : Int), (0 : Int), (List.replicate 2 (0 : Int)), (List.replicate 2 (0 : Int)), ())) p_4 outbound_2) fun y14 =>
      bif y14.1.1 then
        some (.rt (.rt (((0 : Int), i_13, ()), (()))))
      else
        some (.go ((outbound_2, r_8, ok_9, i_13, t_53, t_54, t_55, t_61, t_62, (w64 (t_63 + (1 : Int))), ()), (p_4, x_14, x_14_v, ())))
    else
      some (.go ((outbound_2, r_8, ok_9, i_13, t_53, t_54, t_55, t_61, t_62, (w64 (t_63 + (1 : Int))), ()), (p_4, x_14, x_14_v, ())))
    else none
  else
    some (.br ((outbound_2, r_8, ok_9, t_53, t_54, t_55, ()), (p_4, ())))
noncomputable def lookup_Action_13 (N : Nat) (outbound_2 : Bool) (r_8 : Int) (ok_9 : Bool) (t_53 : (List (Int × ((List UInt8) × ((List ((Int × (UInt64 × (UInt64 × Unit))) × ((Int × (UInt64 × (UInt64 × Unit))) × ((Int × (UInt64 × (UInt64 × Unit))) × ((Int × (UInt64 × (UInt64 × Unit))) × (Int × (Int × ((List Int) × ((List Int) × Unit))))))))) × Unit))))) (t_54 : Int) (t_55 : Int) (p_4 : ((Int × (UInt64 × (UInt64 × Unit))) × ((Int × (UInt64 × (UInt64 × Unit))) × (Int × (Int × (Int × Unit)))))) : Option (Lo ((Bool × Int × Bool × (List (Int × ((List UInt8) × ((List ((Int × (UInt64 × (UInt64 × Unit))) × ((Int × (UInt64 × (UInt64 × Unit))) × ((Int × (UInt64 × (UInt64 × Unit))) × ((Int × (UInt64 × (UInt64 × Unit))) × (Int × (Int × ((List Int) × ((List Int) × Unit))))))))) × Unit)))) × Int × Int × Unit) × (((Int × (UInt64 × (UInt64 × Unit))) × ((Int × (UInt64 × (UInt64 × Unit))) × (Int × (Int × (Int × Unit))))) × Unit)) ((Int × Bool × Unit) × (Unit)) lookup_Action_R) :=
  some (.go ((outbound_2, r_8, ok_9, t_53, t_54, (w64 (t_55 + (1 : Int))), ()), (p_4, ())))
noncomputable def lookup_Action_11 (N : Nat) (outbound_2 : Bool) (r_8 : Int) (ok_9 : Bool) (i_13 : Int) (t_53 : (List (Int × ((List UInt8) × ((List ((Int × (UInt64 × (UInt64 × Unit))) × ((Int × (UInt64 × (UInt64 × Unit))) × ((Int × (UInt64 × (UInt64 × Unit))) × ((Int × (UInt64 × (UInt64 × Unit))) × (Int × (Int × ((List Int) × ((List Int) × Unit))))))))) × Unit))))) (t_54 : Int) (t_55 : Int) (t_61 : (List ((Int × (UInt64 × (UInt64 × Unit))) × ((Int × (UInt64 × (UInt64 × Unit))) × ((Int × (UInt64 × (UInt64 × Unit))) × ((Int × (UInt64 × (UInt64 × Unit))) × (Int × (Int × ((List Int) × ((List Int) × Unit)))))))))) (t_62 : Int) (t_63 : Int) (p_4 : ((Int × (UInt64 × (UInt64 × Unit))) × ((Int × (UInt64 × (UInt64 × Unit))) × (Int × (Int × (Int × Unit)))))) (x_14 : (Int × ((List UInt8) × ((List ((Int × (UInt64 × (UInt64 × Unit))) × ((Int × (UInt64 × (UInt64 × Unit))) × ((Int × (UInt64 × (UInt64 × Unit))) × ((Int × (UInt64 × (UInt64 × Unit))) × (Int × (Int × ((List Int) × ((List Int) × Unit))))))))) × Unit)))) (x_14_v : (List ((Int × (UInt64 × (UInt64 × Unit))) × ((Int × (UInt64 × (UInt64 × Unit))) × ((Int × (UInt64 × (UInt64 × Unit))) × ((Int × (UInt64 × (UInt64 × Unit))) × (Int × (Int × ((List Int) × ((List Int) × Unit)))))))))) : Option (Lo ((Bool × Int × Bool × (List (Int × ((List UInt8) × ((List ((Int × (UInt64 × (UInt64 × Unit))) × ((Int × (UInt64 × (UInt64 × Unit))) × ((Int × (UInt64 × (UInt64 × Unit))) × ((Int × (UInt64 × (UInt64 × Unit))) × (Int × (Int × ((List Int) × ((List Int) × Unit))))))))) × Unit)))) × Int × Int × Unit) × (((Int × (UInt64 × (UInt64 × Unit))) × ((Int × (UInt64 × (UInt64 × Unit))) × (Int × (Int × (Int × Unit))))) × Unit)) ((Int × Bool × Unit) × (Unit)) lookup_Action_R) :=
  loopK N (fun y => lookup_Action_s12 N y.1.1 y.1.2.1 y.1.2.2.1 y.1.2.2.2.1 y.1.2.2.2.2.1 y.1.2.2.2.2.2.1 y.1.2.2.2.2.2.2.1 y.1.2.2.2.2.2.2.2.1 y.1.2.2.2.2.2.2.2.2.1 y.1.2.2.2.2.2.2.2.2.2.1 y.2.1 y.2.2.1 y.2.2.2.1) (fun (e : ((Bool × Int × Bool × (List (Int × ((List UInt8) × ((List ((Int × (UInt64 × (UInt64 × Unit))) × ((Int × (UInt64 × (UInt64 × Unit))) × ((Int × (UInt64 × (UInt64 × Unit))) × ((Int × (UInt64 × (UInt64 × Unit))) × (Int × (Int × ((List Int) × ((List Int) × Unit))))))))) × Unit)))) × Int × Int × Unit) × (((Int × (UInt64 × (UInt64 × Unit))) × ((Int × (UInt64 × (UInt64 × Unit))) × (Int × (Int × (Int × Unit))))) × Unit))) => lookup_Action_13 N e.1.1 e.1.2.1 e.1.2.2.1 e.1.2.2.2.1 e.1.2.2.2.2.1 e.1.2.2.2.2.2.1 e.2.1) ((outbound_2, r_8, ok_9, i_13, t_53, t_54, t_55, t_61, t_62, t_63, ()), (p_4, x_14, x_14_v, ()))
noncomputable def lookup_Action_10 (N : Nat) (outbound_2 : Bool) (r_8 : Int) (ok_9 : Bool) (t_53 : (List (Int × ((List UInt8) × ((List ((Int × (UInt64 × (UInt64 × Unit))) × ((Int × (UInt64 × (UInt64 × Unit))) × ((Int × (UInt64 × (UInt64 × Unit))) × ((Int × (UInt64 × (UInt64 × Unit))) × (Int × (Int × ((List Int) × ((List Int) × Unit))))))))) × Unit))))) (t_54 : Int) (t_55 : Int) (p_4 : ((Int × (UInt64 × (UInt64 × Unit))) × ((Int × (UInt64 × (UInt64 × Unit))) × (Int × (Int × (Int × Unit)))))) : Option (Lo ((Bool × Int × Bool × (List (Int × ((List UInt8) × ((List ((Int × (UInt64 × (UInt64 × Unit))) × ((Int × (UInt64 × (UInt64 × Unit))) × ((Int × (UInt64 × (UInt64 × Unit))) × ((Int × (UInt64 × (UInt64 × Unit))) × (Int × (Int × ((List Int) × ((List Int) × Unit))))))))) × Unit)))) × Int × Int × Unit) × (((Int × (UInt64 × (UInt64 × Unit))) × ((Int × (UInt64 × (UInt64 × Unit))) × (Int × (Int × (Int × Unit))))) × Unit)) ((Int × Bool × Unit) × (Unit)) lookup_Action_R) :=
  bif inR t_55 t_53.length then
  let x9 := t_53.getD t_55.toNat ((0 : Int), ([] : List UInt8), ([] : List ((Int × (UInt64 × (UInt64 × Unit))) × ((Int × (UInt64 × (UInt64 × Unit))) × ((Int × (UInt64 × (UInt64 × Unit))) × ((Int × (UInt64 × (UInt64 × Unit))) × (Int × (Int × ((List Int) × ((List Int) × Unit))))))))), ())
  lookup_Action_11 N outbound_2 r_8 ok_9 t_55 t_53 t_54 t_55 x9.2.2.1 (x9.2.2.1.length : Int) (0 : Int) p_4 x9 x9.2.2.1
  else none
noncomputable def lookup_Action_8 (N : Nat) (outbound_2 : Bool) (r_8 : Int) (ok_9 : Bool) (t_53 : (List (Int × ((List UInt8) × ((List ((Int × (UInt64 × (UInt64 × Unit))) × ((Int × (UInt64 × (UInt64 × Unit))) × ((Int × (UInt64 × (UInt64 × Unit))) × ((Int × (UInt64 × (UInt64 × Unit))) × (Int × (Int × ((List Int) × ((List Int) × Unit))))))))) × Unit))))) (t_54 : Int) (t_55 : Int) (p_4 : ((Int × (UInt64 × (UInt64 × Unit))) × ((Int × (UInt64 × (UInt64 × Unit))) × (Int × (Int × (Int × Unit)))))) : Option (Lo ((Bool × Int × Bool × (List (Int × ((List UInt8) × ((List ((Int × (UInt64 × (UInt64 × Unit))) × ((Int × (UInt64 × (UInt64 × Unit))) × ((Int × (UInt64 × (UInt64 × Unit))) × ((Int × (UInt64 × (UInt64 × Unit))) × (Int × (Int × ((List Int) × ((List Int) × Unit))))))))) × Unit)))) × Int × Int × Unit) × (((Int × (UInt64 × (UInt64 × Unit))) × ((Int × (UInt64 × (UInt64 × Unit))) × (Int × (Int × (Int × Unit))))) × Unit)) ((Int × Bool × Unit) × (Unit)) lookup_Action_R) :=
  lookup_Action_10 N outbound_2 r_8 ok_9 t_53 t_54 t_55 p_4
noncomputable def lookup_Action_s7 (N : Nat) (outbound_2 : Bool) (r_8 : Int) (ok_9 : Bool) (t_53 : (List (Int × ((List UInt8) × ((List ((Int × (UInt64 × (UInt64 × Unit))) × ((Int × (UInt64 × (UInt64 × Unit))) × ((Int × (UInt64 × (UInt64 × Unit))) × ((Int × (UInt64 × (UInt64 × Unit))) × (Int × (Int × ((List Int) × ((List Int) × Unit))))))))) × Unit))))) (t_54 : Int) (t_55 : Int) (p_4 : ((Int × (UInt64 × (UInt64 × Unit))) × ((Int × (UInt64 × (UInt64 × Unit))) × (Int × (Int × (Int × Unit)))))) : Option (Lo ((Bool × Int × Bool × (List (Int × ((List UInt8) × ((List ((Int × (UInt64 × (UInt64 × Unit))) × ((Int × (UInt64 × (UInt64 × Unit))) × ((Int × (UInt64 × (UInt64 × Unit))) × ((Int × (UInt64 × (UInt64 × Unit))) × (Int × (Int × ((List Int) × ((List Int) × Unit))))))))) × Unit)))) × Int × Int × Unit) × (((Int × (UInt64 × (UInt64 × Unit))) × ((Int × (UInt64 × (UInt64 × Unit))) × (Int × (Int × (Int × Unit))))) × Unit)) ((Int × Bool × Unit) × (Unit)) lookup_Action_R) :=
  bif (decide (t_55 < t_54)) then
    lookup_Action_8 N outbound_2 r_8 ok_9 t_53 t_54 t_55 p_4
  else
    some (.br ((r_8, ok_9, ()), (())))
noncomputable def lookup_Action_14 (N : Nat) (r_8 : Int) (ok_9 : Bool) : Option lookup_Action_R :=
  bif !ok_9 then
    some (((0 : Int), (-1 : Int), ()), (()))
  else
    some (((1 : Int), r_8, ()), (()))
noncomputable def lookup_Action_6 (N : Nat) (outbound_2 : Bool) (r_8 : Int) (ok_9 : Bool) (t_53 : (List (Int × ((List UInt8) × ((List ((Int × (UInt64 × (UInt64 × Unit))) × ((Int × (UInt64 × (UInt64 × Unit))) × ((Int × (UInt64 × (UInt64 × Unit))) × ((Int × (UInt64 × (UInt64 × Unit))) × (Int × (Int × ((List Int) × ((List Int) × Unit))))))))) × Unit))))) (t_54 : Int) (t_55 : Int) (p_4 : ((Int × (UInt64 × (UInt64 × Unit))) × ((Int × (UInt64 × (UInt64 × Unit))) × (Int × (Int × (Int × Unit)))))) : Option lookup_Action_R :=
  loopK N (fun y => lookup_Action_s7 N y.1.1 y.1.2.1 y.1.2.2.1 y.1.2.2.2.1 y.1.2.2.2.2.1 y.1.2.2.2.2.2.1 y.2.1) (fun (e : ((Int × Bool × Unit) × (Unit))) => lookup_Action_14 N e.1.1 e.1.2.1) ((outbound_2, r_8, ok_9, t_53, t_54, t_55, ()), (p_4, ()))
noncomputable def lookup_Action_5 (N : Nat) (outbound_2 : Bool) (r_8 : Int) (ok_9 : Bool) (ahead_10 : (List (Int × ((List UInt8) × ((List ((Int × (UInt64 × (UInt64 × Unit))) × ((Int × (UInt64 × (UInt64 × Unit))) × ((Int × (UInt64 × (UInt64 × Unit))) × ((Int × (UInt64 × (UInt64 × Unit))) × (Int × (Int × ((List Int) × ((List Int) × Unit))))))))) × Unit))))) (p_4 : ((Int × (UInt64 × (UInt64 × Unit))) × ((Int × (UInt64 × (UInt64 × Unit))) × (Int × (Int × (Int × Unit)))))) : Option lookup_Action_R :=
  lookup_Action_6 N outbound_2 r_8 ok_9 ahead_10 (ahead_10.length : Int) (0 : Int) p_4
noncomputable def lookup_Action_3 (N : Nat) (outbound_2 : Bool) (r_8 : Int) (ok_9 : Bool) (ahead_10 : (List (Int × ((List UInt8) × ((List ((Int × (UInt64 × (UInt64 × Unit))) × ((Int × (UInt64 × (UInt64 × Unit))) × ((Int × (UInt64 × (UInt64 × Unit))) × ((Int × (UInt64 × (UInt64 × Unit))) × (Int × (Int × ((List Int) × ((List Int) × Unit))))))))) × Unit))))) (t_52 : Bool) (p_4 : ((Int × (UInt64 × (UInt64 × Unit))) × ((Int × (UInt64 × (UInt64 × Unit))) × (Int × (Int × (Int × Unit)))))) : Option lookup_Action_R :=
  bif t_52 then
    lookup_Action_5 N outbound_2 r_8 ok_9 ahead_10 p_4
  else
    lookup_Action_14 N r_8 ok_9
noncomputable def lookup_Action_2 (N : Nat) (outbound_2 : Bool) (r_8 : Int) (ok_9 : Bool) (ahead_10 : (List (Int × ((List UInt8) × ((List ((Int × (UInt64 × (UInt64 × Unit))) × ((Int × (UInt64 × (UInt64 × Unit))) × ((Int × (UInt64 × (UInt64 × Unit))) × ((Int × (UInt64 × (UInt64 × Unit))) × (Int × (Int × ((List Int) × ((List Int) × Unit))))))))) × Unit))))) (p_4 : ((Int × (UInt64 × (UInt64 × Unit))) × ((Int × (UInt64 × (UInt64 × Unit))) × (Int × (Int × (Int × Unit)))))) : Option lookup_Action_R :=
  Option.bind (lookup_hidden N p_4) fun y6 =>
  bif y6.1.1 then
    lookup_Action_3 N outbound_2 r_8 ok_9 ahead_10 true p_4
  else
    lookup_Action_3 N outbound_2 r_8 ok_9 ahead_10 y6.1.2.1 p_4
noncomputable def lookup_Action_1 (N : Nat) (l_0 : (List (Int × ((List UInt8) × ((List ((Int × (UInt64 × (UInt64 × Unit))) × ((Int × (UInt64 × (UInt64 × Unit))) × ((Int × (UInt64 × (UInt64 × Unit))) × ((Int × (UInt64 × (UInt64 × Unit))) × (Int × (Int × ((List Int) × ((List Int) × Unit))))))))) × Unit))))) (outbound_2 : Bool) (r_8 : Int) (ok_9 : Bool) (t_32 : Bool) (p_4 : ((Int × (UInt64 × (UInt64 × Unit))) × ((Int × (UInt64 × (UInt64 × Unit))) × (Int × (Int × (Int × Unit)))))) : Option lookup_Action_R :=
  bif t_32 then
    bif inR r_8 l_0.length then
    some (((l_0.getD r_8.toNat ((0 : Int), ([] : List UInt8), ([] : List ((Int × (UInt64 × (UInt64 × Unit))) × ((Int × (UInt64 × (UInt64 × Unit))) × ((Int × (UInt64 × (UInt64 × Unit))) × ((Int × (UInt64 × (UInt64 × Unit))) × (Int × (Int × ((List Int) × ((List Int) × Unit))))))))), ())).1, r_8, ()), (()))
    else none
  else
    bif ok_9 then
      bif decide (0 ≤ (0 : Int)) && decide ((0 : Int) ≤ r_8) && decide (r_8 ≤ (l_0.length : Int)) && true then
      lookup_Action_2 N outbound_2 r_8 ok_9 (cut l_0 0 r_8.toNat) p_4
      else none
    else
      lookup_Action_2 N outbound_2 r_8 ok_9 l_0 p_4
noncomputable def lookup_Action (N : Nat) (l_0 : (List (Int × ((List UInt8) × ((List ((Int × (UInt64 × (UInt64 × Unit))) × ((Int × (UInt64 × (UInt64 × Unit))) × ((Int × (UInt64 × (UInt64 × Unit))) × ((Int × (UInt64 × (UInt64 × Unit))) × (Int × (Int × ((List Int) × ((List Int) × Unit))))))))) × Unit))))) (p_1 : ((Int × (UInt64 × (UInt64 × Unit))) × ((Int × (UInt64 × (UInt64 × Unit))) × (Int × (Int × (Int × Unit)))))) (outbound_2 : Bool) : Option lookup_Action_R :=
  Option.bind (lookup_Rule N l_0 p_1 outbound_2) fun y1 =>
  bif y1.1.2.1 then
    bif inR y1.1.1 l_0.length then
    lookup_Action_1 N l_0 outbound_2 y1.1.1 y1.1.2.1 (!(decide ((l_0.getD y1.1.1.toNat ((0 : Int), ([] : List UInt8), ([] : List ((Int × (UInt64 × (UInt64 × Unit))) × ((Int × (UInt64 × (UInt64 × Unit))) × ((Int × (UInt64 × (UInt64 × Unit))) × ((Int × (UInt64 × (UInt64 × Unit))) × (Int × (Int × ((List Int) × ((List Int) × Unit))))))))), ())).1 = (1 : Int)))) p_1
    else none
  else
    lookup_Action_1 N l_0 outbound_2 y1.1.1 y1.1.2.1 false p_1
noncomputable def lookup_Action_C (N : Nat) : Ctx := ⟨82, G_tys, [(38, lookup_Rule_ctr N), (87, lookup_hidden_ctr N), (88, lookup_could_ctr N)], G_globs⟩
noncomputable def lookup_Action_S0 : Spec := ⟨[.val .bool, .ref 0 (.pair (.pair .i64 (.pair .u64 (.pair .u64 .unit))) (.pair (.pair .i64 (.pair .u64 (.pair .u64 .unit))) (.pair .i64 (.pair .i64 (.pair .i64 .unit))))), .val .i64, .val .bool, .val .i64, .ref 1 (.pair .i64 (.pair .str (.pair (.sl (.pair (.pair .i64 (.pair .u64 (.pair .u64 .unit))) (.pair (.pair .i64 (.pair .u64 (.pair .u64 .unit))) (.pair (.pair .i64 (.pair .u64 (.pair .u64 .unit))) (.pair (.pair .i64 (.pair .u64 (.pair .u64 .unit))) (.pair .i64 (.pair .i64 (.pair (.arr 2 .i64) (.pair (.arr 2 .i64) .unit))))))))) .unit))), .val (.sl (.pair .i64 (.pair .str (.pair (.sl (.pair (.pair .i64 (.pair .u64 (.pair .u64 .unit))) (.pair (.pair .i64 (.pair .u64 (.pair .u64 .unit))) (.pair (.pair .i64 (.pair .u64 (.pair .u64 .unit))) (.pair (.pair .i64 (.pair .u64 (.pair .u64 .unit))) (.pair .i64 (.pair .i64 (.pair (.arr 2 .i64) (.pair (.arr 2 .i64) .unit))))))))) .unit)))), .val .i64, .val .i64, .val (.sl (.pair (.pair .i64 (.pair .u64 (.pair .u64 .unit))) (.pair (.pair .i64 (.pair .u64 (.pair .u64 .unit))) (.pair (.pair .i64 (.pair .u64 (.pair .u64 .unit))) (.pair (.pair .i64 (.pair .u64 (.pair .u64 .unit))) (.pair .i64 (.pair .i64 (.pair (.arr 2 .i64) (.pair (.arr 2 .i64) .unit))))))))), .val .i64, .val .i64], [(.box 30 (.pair (.pair .i64 (.pair .u64 (.pair .u64 .unit))) (.pair (.pair .i64 (.pair .u64 (.pair .u64 .unit))) (.pair .i64 (.pair .i64 (.pair .i64 .unit))))), .pos 1), (.sval 60 (.pair .i64 (.pair .str (.pair (.sl (.pair (.pair .i64 (.pair .u64 (.pair .u64 .unit))) (.pair (.pair .i64 (.pair .u64 (.pair .u64 .unit))) (.pair (.pair .i64 (.pair .u64 (.pair .u64 .unit))) (.pair (.pair .i64 (.pair .u64 (.pair .u64 .unit))) (.pair .i64 (.pair .i64 (.pair (.arr 2 .i64) (.pair (.arr 2 .i64) .unit))))))))) .unit))) 2 (.sl (.pair (.pair .i64 (.pair .u64 (.pair .u64 .unit))) (.pair (.pair .i64 (.pair .u64 (.pair .u64 .unit))) (.pair (.pair .i64 (.pair .u64 (.pair .u64 .unit))) (.pair (.pair .i64 (.pair .u64 (.pair .u64 .unit))) (.pair .i64 (.pair .i64 (.pair (.arr 2 .i64) (.pair (.arr 2 .i64) .unit))))))))), .pos 5)]⟩
noncomputable def lookup_Action_S1 : Spec := ⟨[.val .bool, .ref 0 (.pair (.pair .i64 (.pair .u64 (.pair .u64 .unit))) (.pair (.pair .i64 (.pair .u64 (.pair .u64 .unit))) (.pair .i64 (.pair .i64 (.pair .i64 .unit))))), .val .i64, .val .bool, .val (.sl (.pair .i64 (.pair .str (.pair (.sl (.pair (.pair .i64 (.pair .u64 (.pair .u64 .unit))) (.pair (.pair .i64 (.pair .u64 (.pair .u64 .unit))) (.pair (.pair .i64 (.pair .u64 (.pair .u64 .unit))) (.pair (.pair .i64 (.pair .u64 (.pair .u64 .unit))) (.pair .i64 (.pair .i64 (.pair (.arr 2 .i64) (.pair (.arr 2 .i64) .unit))))))))) .unit)))), .val .i64, .val .i64], [(.box 30 (.pair (.pair .i64 (.pair .u64 (.pair .u64 .unit))) (.pair (.pair .i64 (.pair .u64 (.pair .u64 .unit))) (.pair .i64 (.pair .i64 (.pair .i64 .unit))))), .pos 1)]⟩
noncomputable def lookup_Action_S2 : Spec := ⟨[.val .i64, .val .bool], []⟩
noncomputable def lookup_Action_S3 : Spec := ⟨[.val .bool, .ref 0 (.pair (.pair .i64 (.pair .u64 (.pair .u64 .unit))) (.pair (.pair .i64 (.pair .u64 (.pair .u64 .unit))) (.pair .i64 (.pair .i64 (.pair .i64 .unit))))), .val .i64, .val .bool, .val (.sl (.pair .i64 (.pair .str (.pair (.sl (.pair (.pair .i64 (.pair .u64 (.pair .u64 .unit))) (.pair (.pair .i64 (.pair .u64 (.pair .u64 .unit))) (.pair (.pair .i64 (.pair .u64 (.pair .u64 .unit))) (.pair (.pair .i64 (.pair .u64 (.pair .u64 .unit))) (.pair .i64 (.pair .i64 (.pair (.arr 2 .i64) (.pair (.arr 2 .i64) .unit))))))))) .unit))))], [(.box 30 (.pair (.pair .i64 (.pair .u64 (.pair .u64 .unit))) (.pair (.pair .i64 (.pair .u64 (.pair .u64 .unit))) (.pair .i64 (.pair .i64 (.pair .i64 .unit))))), .pos 1)]⟩
noncomputable def lookup_Action_S4 : Spec := ⟨[.val .bool, .ref 0 (.pair (.pair .i64 (.pair .u64 (.pair .u64 .unit))) (.pair (.pair .i64 (.pair .u64 (.pair .u64 .unit))) (.pair .i64 (.pair .i64 (.pair .i64 .unit))))), .val .i64, .val .bool, .val (.sl (.pair .i64 (.pair .str (.pair (.sl (.pair (.pair .i64 (.pair .u64 (.pair .u64 .unit))) (.pair (.pair .i64 (.pair .u64 (.pair .u64 .unit))) (.pair (.pair .i64 (.pair .u64 (.pair .u64 .unit))) (.pair (.pair .i64 (.pair .u64 (.pair .u64 .unit))) (.pair .i64 (.pair .i64 (.pair (.arr 2 .i64) (.pair (.arr 2 .i64) .unit))))))))) .unit)))), .val .bool], [(.box 30 (.pair (.pair .i64 (.pair .u64 (.pair .u64 .unit))) (.pair (.pair .i64 (.pair .u64 (.pair .u64 .unit))) (.pair .i64 (.pair .i64 (.pair .i64 .unit))))), .pos 1)]⟩
noncomputable def lookup_Action_S5 : Spec := ⟨[.val (.sl (.pair .i64 (.pair .str (.pair (.sl (.pair (.pair .i64 (.pair .u64 (.pair .u64 .unit))) (.pair (.pair .i64 (.pair .u64 (.pair .u64 .unit))) (.pair (.pair .i64 (.pair .u64 (.pair .u64 .unit))) (.pair (.pair .i64 (.pair .u64 (.pair .u64 .unit))) (.pair .i64 (.pair .i64 (.pair (.arr 2 .i64) (.pair (.arr 2 .i64) .unit))))))))) .unit)))), .val .bool, .ref 0 (.pair (.pair .i64 (.pair .u64 (.pair .u64 .unit))) (.pair (.pair .i64 (.pair .u64 (.pair .u64 .unit))) (.pair .i64 (.pair .i64 (.pair .i64 .unit))))), .val .i64, .val .bool, .val .bool], [(.box 30 (.pair (.pair .i64 (.pair .u64 (.pair .u64 .unit))) (.pair (.pair .i64 (.pair .u64 (.pair .u64 .unit))) (.pair .i64 (.pair .i64 (.pair .i64 .unit))))), .pos 2)]⟩
noncomputable def lookup_Action_S6 : Spec := ⟨[.val (.sl (.pair .i64 (.pair .str (.pair (.sl (.pair (.pair .i64 (.pair .u64 (.pair .u64 .unit))) (.pair (.pair .i64 (.pair .u64 (.pair .u64 .unit))) (.pair (.pair .i64 (.pair .u64 (.pair .u64 .unit))) (.pair (.pair .i64 (.pair .u64 (.pair .u64 .unit))) (.pair .i64 (.pair .i64 (.pair (.arr 2 .i64) (.pair (.arr 2 .i64) .unit))))))))) .unit)))), .val (.pair (.pair .i64 (.pair .u64 (.pair .u64 .unit))) (.pair (.pair .i64 (.pair .u64 (.pair .u64 .unit))) (.pair .i64 (.pair .i64 (.pair .i64 .unit))))), .val .bool], []⟩
noncomputable def lookup_Action_S7 : Spec := ⟨[.val .i64, .val .i64], []⟩
noncomputable def lookup_Action_K (_N : Nat) : XE → GS → Option lookup_Action_R := retK 0 [6, 7] [false, false] lookup_Action_S7
noncomputable def lookup_Action_L : List Code := (bodyOf (some Try.f37))
noncomputable def lookup_Action_L4t : List Code := (thenOf (lookup_Action_L[9]?))
noncomputable def lookup_Action_L7 : List Code := (loopOf (lookup_Action_L4t[1]?))
noncomputable def lookup_Action_L9b : List Code := (blockOf (lookup_Action_L7[2]?))
noncomputable def lookup_Action_L12 : List Code := (loopOf (lookup_Action_L9b[2]?))
noncomputable def lookup_Action_L4e : List Code := (elseOf (lookup_Action_L[9]?))
noncomputable def lookup_Action_K4 (N : Nat) : XE → GS → Option lookup_Action_R := nextK (goK 0 [8, 9] lookup_Action_S2 (fun y => lookup_Action_14 N y.1.1 y.1.2.1)) (lookup_Action_K N)
noncomputable def lookup_Action_K7 (N : Nat) : XE → GS → Option (Lo ((Bool × Int × Bool × (List (Int × ((List UInt8) × ((List ((Int × (UInt64 × (UInt64 × Unit))) × ((Int × (UInt64 × (UInt64 × Unit))) × ((Int × (UInt64 × (UInt64 × Unit))) × ((Int × (UInt64 × (UInt64 × Unit))) × (Int × (Int × ((List Int) × ((List Int) × Unit))))))))) × Unit)))) × Int × Int × Unit) × (((Int × (UInt64 × (UInt64 × Unit))) × ((Int × (UInt64 × (UInt64 × Unit))) × (Int × (Int × (Int × Unit))))) × Unit)) ((Int × Bool × Unit) × (Unit)) lookup_Action_R) := roundK (some 0) (fit 0 [2, 4, 8, 9, 53, 54, 55] lookup_Action_S1) (fit 0 [8, 9] lookup_Action_S2) (lookup_Action_K4 N)
noncomputable def lookup_Action_K9 (N : Nat) : XE → GS → Option (Lo ((Bool × Int × Bool × (List (Int × ((List UInt8) × ((List ((Int × (UInt64 × (UInt64 × Unit))) × ((Int × (UInt64 × (UInt64 × Unit))) × ((Int × (UInt64 × (UInt64 × Unit))) × ((Int × (UInt64 × (UInt64 × Unit))) × (Int × (Int × ((List Int) × ((List Int) × Unit))))))))) × Unit)))) × Int × Int × Unit) × (((Int × (UInt64 × (UInt64 × Unit))) × ((Int × (UInt64 × (UInt64 × Unit))) × (Int × (Int × (Int × Unit))))) × Unit)) ((Int × Bool × Unit) × (Unit)) lookup_Action_R) := blockK 1 (goK 0 [2, 4, 8, 9, 53, 54, 55] lookup_Action_S1 (fun y => lookup_Action_13 N y.1.1 y.1.2.1 y.1.2.2.1 y.1.2.2.2.1 y.1.2.2.2.2.1 y.1.2.2.2.2.2.1 y.2.1)) (lookup_Action_K7 N)
noncomputable def lookup_Action_K12 (N : Nat) : XE → GS → Option (Lo ((Bool × Int × Bool × Int × (List (Int × ((List UInt8) × ((List ((Int × (UInt64 × (UInt64 × Unit))) × ((Int × (UInt64 × (UInt64 × Unit))) × ((Int × (UInt64 × (UInt64 × Unit))) × ((Int × (UInt64 × (UInt64 × Unit))) × (Int × (Int × ((List Int) × ((List Int) × Unit))))))))) × Unit)))) × Int × Int × (List ((Int × (UInt64 × (UInt64 × Unit))) × ((Int × (UInt64 × (UInt64 × Unit))) × ((Int × (UInt64 × (UInt64 × Unit))) × ((Int × (UInt64 × (UInt64 × Unit))) × (Int × (Int × ((List Int) × ((List Int) × Unit))))))))) × Int × Int × Unit) × (((Int × (UInt64 × (UInt64 × Unit))) × ((Int × (UInt64 × (UInt64 × Unit))) × (Int × (Int × (Int × Unit))))) × (Int × ((List UInt8) × ((List ((Int × (UInt64 × (UInt64 × Unit))) × ((Int × (UInt64 × (UInt64 × Unit))) × ((Int × (UInt64 × (UInt64 × Unit))) × ((Int × (UInt64 × (UInt64 × Unit))) × (Int × (Int × ((List Int) × ((List Int) × Unit))))))))) × Unit))) × (List ((Int × (UInt64 × (UInt64 × Unit))) × ((Int × (UInt64 × (UInt64 × Unit))) × ((Int × (UInt64 × (UInt64 × Unit))) × ((Int × (UInt64 × (UInt64 × Unit))) × (Int × (Int × ((List Int) × ((List Int) × Unit))))))))) × Unit)) ((Bool × Int × Bool × (List (Int × ((List UInt8) × ((List ((Int × (UInt64 × (UInt64 × Unit))) × ((Int × (UInt64 × (UInt64 × Unit))) × ((Int × (UInt64 × (UInt64 × Unit))) × ((Int × (UInt64 × (UInt64 × Unit))) × (Int × (Int × ((List Int) × ((List Int) × Unit))))))))) × Unit)))) × Int × Int × Unit) × (((Int × (UInt64 × (UInt64 × Unit))) × ((Int × (UInt64 × (UInt64 × Unit))) × (Int × (Int × (Int × Unit))))) × Unit)) (Lo ((Bool × Int × Bool × (List (Int × ((List UInt8) × ((List ((Int × (UInt64 × (UInt64 × Unit))) × ((Int × (UInt64 × (UInt64 × Unit))) × ((Int × (UInt64 × (UInt64 × Unit))) × ((Int × (UInt64 × (UInt64 × Unit))) × (Int × (Int × ((List Int) × ((List Int) × Unit))))))))) × Unit)))) × Int × Int × Unit) × (((Int × (UInt64 × (UInt64 × Unit))) × ((Int × (UInt64 × (UInt64 × Unit))) × (Int × (Int × (Int × Unit))))) × Unit)) ((Int × Bool × Unit) × (Unit)) lookup_Action_R)) := roundK (some 2) (fit 0 [2, 4, 8, 9, 13, 14, 53, 54, 55, 61, 62, 63] lookup_Action_S0) (fit 0 [2, 4, 8, 9, 53, 54, 55] lookup_Action_S1) (lookup_Action_K9 N)
theorem lookup_Action_s12_b {E : Env} (N : Nat) (hb : Base Try.prog (lookup_Action_C N) E 0) : Blk Try.prog (lookup_Action_C N) E [2, 4, 8, 9, 13, 14, 53, 54, 55, 61, 62, 63] lookup_Action_S0 (lookup_Action_L12.drop 0) (fun y => lookup_Action_s12 N y.1.1 y.1.2.1 y.1.2.2.1 y.1.2.2.2.1 y.1.2.2.2.2.1 y.1.2.2.2.2.2.1 y.1.2.2.2.2.2.2.1 y.1.2.2.2.2.2.2.2.1 y.1.2.2.2.2.2.2.2.2.1 y.1.2.2.2.2.2.2.2.2.2.1 y.2.1 y.2.2.1 y.2.2.2.1) (lookup_Action_K12 N) :=
  Blk.chunkAt hb 4 (X := (lookup_Action_K12 N .normal)) (NxOk.end (by kernel_rfl)) rfl (fun x => by kernel_rfl)
theorem lookup_Action_13_b {E : Env} (N : Nat) (hb : Base Try.prog (lookup_Action_C N) E 0) : Blk Try.prog (lookup_Action_C N) E [2, 4, 8, 9, 53, 54, 55] lookup_Action_S1 (lookup_Action_L7.drop 3) (fun y => lookup_Action_13 N y.1.1 y.1.2.1 y.1.2.2.1 y.1.2.2.2.1 y.1.2.2.2.2.1 y.1.2.2.2.2.2.1 y.2.1) (lookup_Action_K7 N) :=
  Blk.chunkAt hb 1 (X := (lookup_Action_K7 N .normal)) (NxOk.end (by kernel_rfl)) rfl (fun x => by kernel_rfl)
theorem lookup_Action_11_b {E : Env} (N : Nat) (hb : Base Try.prog (lookup_Action_C N) E 0) : Blk Try.prog (lookup_Action_C N) E [2, 4, 8, 9, 13, 14, 53, 54, 55, 61, 62, 63] lookup_Action_S0 (lookup_Action_L9b.drop 2) (fun y => lookup_Action_11 N y.1.1 y.1.2.1 y.1.2.2.1 y.1.2.2.2.1 y.1.2.2.2.2.1 y.1.2.2.2.2.2.1 y.1.2.2.2.2.2.2.1 y.1.2.2.2.2.2.2.2.1 y.1.2.2.2.2.2.2.2.2.1 y.1.2.2.2.2.2.2.2.2.2.1 y.2.1 y.2.2.1 y.2.2.2.1) (lookup_Action_K9 N) :=
  Blk.loopAt (Nf := N) (hns := [2, 4, 8, 9, 13, 14, 53, 54, 55, 61, 62, 63]) (ans := [2, 4, 8, 9, 53, 54, 55]) (hc := lookup_Action_S0) (ac := lookup_Action_S1) (bid := 2) (step := (fun y => lookup_Action_s12 N y.1.1 y.1.2.1 y.1.2.2.1 y.1.2.2.2.1 y.1.2.2.2.2.1 y.1.2.2.2.2.2.1 y.1.2.2.2.2.2.2.1 y.1.2.2.2.2.2.2.2.1 y.1.2.2.2.2.2.2.2.2.1 y.1.2.2.2.2.2.2.2.2.2.1 y.2.1 y.2.2.1 y.2.2.2.1)) (J := (fun e => (lookup_Action_K9 N .normal) (lookup_Action_S1.st [2, 4, 8, 9, 53, 54, 55] e))) hb (by kernel_rfl) (Blk.into (X := (lookup_Action_K9 N .normal)) (NxOk.end (by kernel_rfl)) (fun x => by kernel_rfl)) (lookup_Action_s12_b N hb) (fun x => by kernel_rfl)
theorem lookup_Action_10_b {E : Env} (N : Nat) (hb : Base Try.prog (lookup_Action_C N) E 0) : Blk Try.prog (lookup_Action_C N) E [2, 4, 8, 9, 53, 54, 55] lookup_Action_S1 (lookup_Action_L9b.drop 0) (fun y => lookup_Action_10 N y.1.1 y.1.2.1 y.1.2.2.1 y.1.2.2.2.1 y.1.2.2.2.2.1 y.1.2.2.2.2.2.1 y.2.1) (lookup_Action_K9 N) :=
  Blk.chunkAt hb 2 (X := (goK 0 [2, 4, 8, 9, 13, 14, 53, 54, 55, 61, 62, 63] lookup_Action_S0 (fun y => lookup_Action_11 N y.1.1 y.1.2.1 y.1.2.2.1 y.1.2.2.2.1 y.1.2.2.2.2.1 y.1.2.2.2.2.2.1 y.1.2.2.2.2.2.2.1 y.1.2.2.2.2.2.2.2.1 y.1.2.2.2.2.2.2.2.2.1 y.1.2.2.2.2.2.2.2.2.2.1 y.2.1 y.2.2.1 y.2.2.2.1))) (NxOk.go hb (lookup_Action_11_b N hb)) rfl (fun x => by kernel_rfl)
theorem lookup_Action_8_b {E : Env} (N : Nat) (hb : Base Try.prog (lookup_Action_C N) E 0) : Blk Try.prog (lookup_Action_C N) E [2, 4, 8, 9, 53, 54, 55] lookup_Action_S1 (lookup_Action_L7.drop 2) (fun y => lookup_Action_8 N y.1.1 y.1.2.1 y.1.2.2.1 y.1.2.2.2.1 y.1.2.2.2.2.1 y.1.2.2.2.2.2.1 y.2.1) (lookup_Action_K7 N) :=
  Blk.blockAt (bid := 1) (X := (goK 0 [2, 4, 8, 9, 53, 54, 55] lookup_Action_S1 (fun y => lookup_Action_13 N y.1.1 y.1.2.1 y.1.2.2.1 y.1.2.2.2.1 y.1.2.2.2.2.1 y.1.2.2.2.2.2.1 y.2.1))) (Y := (goK 0 [2, 4, 8, 9, 53, 54, 55] lookup_Action_S1 (fun y => lookup_Action_10 N y.1.1 y.1.2.1 y.1.2.2.1 y.1.2.2.2.1 y.1.2.2.2.2.1 y.1.2.2.2.2.2.1 y.2.1))) (by kernel_rfl) (NxOk.go hb (lookup_Action_13_b N hb)) (NxOk.go hb (lookup_Action_10_b N hb)) (fun x => by kernel_rfl)
theorem lookup_Action_s7_b {E : Env} (N : Nat) (hb : Base Try.prog (lookup_Action_C N) E 0) : Blk Try.prog (lookup_Action_C N) E [2, 4, 8, 9, 53, 54, 55] lookup_Action_S1 (lookup_Action_L7.drop 0) (fun y => lookup_Action_s7 N y.1.1 y.1.2.1 y.1.2.2.1 y.1.2.2.2.1 y.1.2.2.2.2.1 y.1.2.2.2.2.2.1 y.2.1) (lookup_Action_K7 N) :=
  Blk.chunkAt hb 2 (X := (goK 0 [2, 4, 8, 9, 53, 54, 55] lookup_Action_S1 (fun y => lookup_Action_8 N y.1.1 y.1.2.1 y.1.2.2.1 y.1.2.2.2.1 y.1.2.2.2.2.1 y.1.2.2.2.2.2.1 y.2.1))) (NxOk.go hb (lookup_Action_8_b N hb)) rfl (fun x => by kernel_rfl)
theorem lookup_Action_14_b {E : Env} (N : Nat) (hb : Base Try.prog (lookup_Action_C N) E 0) : Blk Try.prog (lookup_Action_C N) E [8, 9] lookup_Action_S2 (lookup_Action_L.drop 10) (fun y => lookup_Action_14 N y.1.1 y.1.2.1) (lookup_Action_K N) :=
  Blk.chunkAt hb 4 (X := (lookup_Action_K N .normal)) (NxOk.end (by kernel_rfl)) rfl (fun x => by kernel_rfl)
theorem lookup_Action_6_b {E : Env} (N : Nat) (hb : Base Try.prog (lookup_Action_C N) E 0) : Blk Try.prog (lookup_Action_C N) E [2, 4, 8, 9, 53, 54, 55] lookup_Action_S1 (lookup_Action_L4t.drop 1) (fun y => lookup_Action_6 N y.1.1 y.1.2.1 y.1.2.2.1 y.1.2.2.2.1 y.1.2.2.2.2.1 y.1.2.2.2.2.2.1 y.2.1) (lookup_Action_K4 N) :=
  Blk.loopAt (Nf := N) (hns := [2, 4, 8, 9, 53, 54, 55]) (ans := [8, 9]) (hc := lookup_Action_S1) (ac := lookup_Action_S2) (bid := 0) (step := (fun y => lookup_Action_s7 N y.1.1 y.1.2.1 y.1.2.2.1 y.1.2.2.2.1 y.1.2.2.2.2.1 y.1.2.2.2.2.2.1 y.2.1)) (J := (fun e => (lookup_Action_K4 N .normal) (lookup_Action_S2.st [8, 9] e))) hb (by kernel_rfl) (Blk.into (X := (lookup_Action_K4 N .normal)) (NxOk.end (by kernel_rfl)) (fun x => by kernel_rfl)) (lookup_Action_s7_b N hb) (fun x => by kernel_rfl)
theorem lookup_Action_5_b {E : Env} (N : Nat) (hb : Base Try.prog (lookup_Action_C N) E 0) : Blk Try.prog (lookup_Action_C N) E [2, 4, 8, 9, 10] lookup_Action_S3 (lookup_Action_L4t.drop 0) (fun y => lookup_Action_5 N y.1.1 y.1.2.1 y.1.2.2.1 y.1.2.2.2.1 y.2.1) (lookup_Action_K4 N) :=
  Blk.chunkAt hb 1 (X := (goK 0 [2, 4, 8, 9, 53, 54, 55] lookup_Action_S1 (fun y => lookup_Action_6 N y.1.1 y.1.2.1 y.1.2.2.1 y.1.2.2.2.1 y.1.2.2.2.2.1 y.1.2.2.2.2.2.1 y.2.1))) (NxOk.go hb (lookup_Action_6_b N hb)) rfl (fun x => by kernel_rfl)
theorem lookup_Action_3_b {E : Env} (N : Nat) (hb : Base Try.prog (lookup_Action_C N) E 0) : Blk Try.prog (lookup_Action_C N) E [2, 4, 8, 9, 10, 52] lookup_Action_S4 (lookup_Action_L.drop 9) (fun y => lookup_Action_3 N y.1.1 y.1.2.1 y.1.2.2.1 y.1.2.2.2.1 y.1.2.2.2.2.1 y.2.1) (lookup_Action_K N) :=
  Blk.condAt (n := 52) (X := (goK 0 [8, 9] lookup_Action_S2 (fun y => lookup_Action_14 N y.1.1 y.1.2.1))) (A := (goK 0 [2, 4, 8, 9, 10] lookup_Action_S3 (fun y => lookup_Action_5 N y.1.1 y.1.2.1 y.1.2.2.1 y.1.2.2.2.1 y.2.1))) (B := (lookup_Action_K4 N .normal)) (by kernel_rfl) (NxOk.go hb (lookup_Action_14_b N hb)) (NxOk.go hb (lookup_Action_5_b N hb)) (NxOk.skipAt (by kernel_rfl)) (fun x => by kernel_rfl)
theorem lookup_Action_2_b {E : Env} (N : Nat) (hb : Base Try.prog (lookup_Action_C N) E 0) : Blk Try.prog (lookup_Action_C N) E [2, 4, 8, 9, 10] lookup_Action_S3 (lookup_Action_L.drop 7) (fun y => lookup_Action_2 N y.1.1 y.1.2.1 y.1.2.2.1 y.1.2.2.2.1 y.2.1) (lookup_Action_K N) :=
  Blk.chunkAt hb 2 (X := (goK 0 [2, 4, 8, 9, 10, 52] lookup_Action_S4 (fun y => lookup_Action_3 N y.1.1 y.1.2.1 y.1.2.2.1 y.1.2.2.2.1 y.1.2.2.2.2.1 y.2.1))) (NxOk.go hb (lookup_Action_3_b N hb)) rfl (fun x => by kernel_rfl)
theorem lookup_Action_1_b {E : Env} (N : Nat) (hb : Base Try.prog (lookup_Action_C N) E 0) : Blk Try.prog (lookup_Action_C N) E [0, 2, 4, 8, 9, 32] lookup_Action_S5 (lookup_Action_L.drop 3) (fun y => lookup_Action_1 N y.1.1 y.1.2.1 y.1.2.2.1 y.1.2.2.2.1 y.1.2.2.2.2.1 y.2.1) (lookup_Action_K N) :=
  Blk.chunkAt hb 4 (X := (goK 0 [2, 4, 8, 9, 10] lookup_Action_S3 (fun y => lookup_Action_2 N y.1.1 y.1.2.1 y.1.2.2.1 y.1.2.2.2.1 y.2.1))) (NxOk.go hb (lookup_Action_2_b N hb)) rfl (fun x => by kernel_rfl)
theorem lookup_Action_b {E : Env} (N : Nat) (hb : Base Try.prog (lookup_Action_C N) E 0) : Blk Try.prog (lookup_Action_C N) E (List.range lookup_Action_S6.ks.length) lookup_Action_S6 (lookup_Action_L.drop 0) (fun y => lookup_Action N y.1.1 y.1.2.1 y.1.2.2.1) (lookup_Action_K N) :=
  Blk.chunkAt hb 3 (X := (goK 0 [0, 2, 4, 8, 9, 32] lookup_Action_S5 (fun y => lookup_Action_1 N y.1.1 y.1.2.1 y.1.2.2.1 y.1.2.2.2.1 y.1.2.2.2.2.1 y.2.1))) (NxOk.go hb (lookup_Action_1_b N hb)) rfl (fun x => by kernel_rfl)
noncomputable def lookup_Action_ctr (N : Nat) : Ctr := ⟨lookup_Action_S6, lookup_Action_S7.un [false, false], 0, (fun y => lookup_Action N y.1.1 y.1.2.1 y.1.2.2.1)⟩
theorem lookup_Action_ctrs (N : Nat) : CtrsOk Try.prog (lookup_Action_C N) := ctrs_of (Γ := lookup_Action_C N) (by
  intro p hp
  simp only [lookup_Action_C, List.mem_cons, List.not_mem_nil, or_false] at hp
  rcases hp with rfl | rfl | rfl
  · exact lookup_Rule_ok N
  · exact lookup_hidden_ok N
  · exact lookup_could_ok N)
theorem lookup_Action_ok (N : Nat) : Ctr.ok Try.prog G_globs 37 (lookup_Action_ctr N) :=
  ctr_fn (Γ := lookup_Action_C N) (rfit := lookup_Action_S7) (bs := [false, false]) (res := [6, 7]) (by kernel_rfl) (tys_ok G_tys_ok) (lookup_Action_ctrs N) Try.func37 (by kernel_rfl) (by kernel_rfl) Try.ntmps37 (by kernel_rfl) (by kernel_rfl) (by kernel_rfl) (by kernel_rfl) (fun E hb => lookup_Action_b N hb)
end Go.Proofs.Ytgbkkfpheahdfaa
namespace Go.Proofs.Ytgbkkfpheahdfaa
open Go
set_option maxRecDepth 100000
set_option linter.unusedVariables false
/-! ipsecgate/ipsecgatelaw22.awake -/
abbrev law22_awake_R : Type := ((Bool × Unit) × (Unit))
noncomputable def law22_awake (N : Nat) : Option law22_awake_R :=
  let x1 := ([(-1 : Int), (65535 : Int)] : List Int)
  let x2 := ([(80 : Int), (80 : Int)] : List Int)
  let x3 := ([(-1 : Int), (65535 : Int)] : List Int)
  Option.bind (lookup_Action N ([((2 : Int), ([103, 111, 108, 100] : List UInt8), ([(((4 : Int), (0 : UInt64), (0 : UInt64), ()), ((4 : Int), (0 : UInt64), (4294967295 : UInt64), ()), ((4 : Int), (0 : UInt64), (0 : UInt64), ()), ((4 : Int), (0 : UInt64), (4294967295 : UInt64), ()), (0 : Int), (255 : Int), x1, x2, ())] : List ((Int × (UInt64 × (UInt64 × Unit))) × ((Int × (UInt64 × (UInt64 × Unit))) × ((Int × (UInt64 × (UInt64 × Unit))) × ((Int × (UInt64 × (UInt64 × Unit))) × (Int × (Int × ((List Int) × ((List Int) × Unit))))))))), ()), ((1 : Int), ([] : List UInt8), ([(((4 : Int), (0 : UInt64), (0 : UInt64), ()), ((4 : Int), (0 : UInt64), (4294967295 : UInt64), ()), ((4 : Int), (0 : UInt64), (0 : UInt64), ()), ((4 : Int), (0 : UInt64), (4294967295 : UInt64), ()), (0 : Int), (255 : Int), x1, x3, ())] : List ((Int × (UInt64 × (UInt64 × Unit))) × ((Int × (UInt64 × (UInt64 × Unit))) × ((Int × (UInt64 × (UInt64 × Unit))) × ((Int × (UInt64 × (UInt64 × Unit))) × (Int × (Int × ((List Int) × ((List Int) × Unit))))))))), ())] : List (Int × ((List UInt8) × ((List ((Int × (UInt64 × (UInt64 × Unit))) × ((Int × (UInt64 × (UInt64 × Unit))) × ((Int × (UInt64 × (UInt64 × Unit))) × ((Int × (UInt64 × (UInt64 × Unit))) × (Int × (Int × ((List Int) × ((List Int) × Unit))))))))) × Unit)))) (((4 : Int), (0 : UInt64), (4294967295 : UInt64), ()), ((4 : Int), (0 : UInt64), (4294967295 : UInt64), ()), (6 : Int), (-1 : Int), (-1 : Int), ()) true) fun y4 =>
  Option.bind (lookup_Action N ([((2 : Int), ([103, 111, 108, 100] : List UInt8), ([(((4 : Int), (0 : UInt64), (0 : UInt64), ()), ((4 : Int), (0 : UInt64), (4294967295 : UInt64), ()), ((4 : Int), (0 : UInt64), (0 : UInt64), ()), ((4 : Int), (0 : UInt64), (4294967295 : UInt64), ()), (0 : Int), (255 : Int), x1, x2, ())] : List ((Int × (UInt64 × (UInt64 × Unit))) × ((Int × (UInt64 × (UInt64 × Unit))) × ((Int × (UInt64 × (UInt64 × Unit))) × ((Int × (UInt64 × (UInt64 × Unit))) × (Int × (Int × ((List Int) × ((List Int) × Unit))))))))), ()), ((1 : Int), ([] : List UInt8), ([(((4 : Int), (0 : UInt64), (0 : UInt64), ()), ((4 : Int), (0 : UInt64), (4294967295 : UInt64), ()), ((4 : Int), (0 : UInt64), (0 : UInt64), ()), ((4 : Int), (0 : UInt64), (4294967295 : UInt64), ()), (0 : Int), (255 : Int), x1, x3, ())] : List ((Int × (UInt64 × (UInt64 × Unit))) × ((Int × (UInt64 × (UInt64 × Unit))) × ((Int × (UInt64 × (UInt64 × Unit))) × ((Int × (UInt64 × (UInt64 × Unit))) × (Int × (Int × ((List Int) × ((List Int) × Unit))))))))), ())] : List (Int × ((List UInt8) × ((List ((Int × (UInt64 × (UInt64 × Unit))) × ((Int × (UInt64 × (UInt64 × Unit))) × ((Int × (UInt64 × (UInt64 × Unit))) × ((Int × (UInt64 × (UInt64 × Unit))) × (Int × (Int × ((List Int) × ((List Int) × Unit))))))))) × Unit)))) (((4 : Int), (0 : UInt64), (4294967295 : UInt64), ()), ((4 : Int), (0 : UInt64), (4294967295 : UInt64), ()), (6 : Int), (1 : Int), (81 : Int), ()) true) fun y5 =>
  bif (decide (y4.1.1 = (0 : Int))) then
    bif (decide (y4.1.2.1 = (0 : Int))) then
      bif (decide (y5.1.1 = (1 : Int))) then
        some (((decide (y5.1.2.1 = (1 : Int))), ()), (()))
      else
        some ((false, ()), (()))
    else
      some ((false, ()), (()))
  else
    some ((false, ()), (()))
noncomputable def law22_awake_C (N : Nat) : Ctx := ⟨59, G_tys, [(37, lookup_Action_ctr N)], G_globs⟩
noncomputable def law22_awake_S0 : Spec := ⟨[], []⟩
noncomputable def law22_awake_S1 : Spec := ⟨[.val .bool], []⟩
noncomputable def law22_awake_K (_N : Nat) : XE → GS → Option law22_awake_R := retK 0 [0] [false] law22_awake_S1
noncomputable def law22_awake_L : List Code := (bodyOf (some Try.f33))
theorem law22_awake_b {E : Env} (N : Nat) (hb : Base Try.prog (law22_awake_C N) E 0) : Blk Try.prog (law22_awake_C N) E (List.range law22_awake_S0.ks.length) law22_awake_S0 (law22_awake_L.drop 0) (fun y => law22_awake N) (law22_awake_K N) :=
  Blk.chunkAt hb 12 (X := (law22_awake_K N .normal)) (NxOk.end (by kernel_rfl)) rfl (fun x => by kernel_rfl)
noncomputable def law22_awake_ctr (N : Nat) : Ctr := ⟨law22_awake_S0, law22_awake_S1.un [false], 0, (fun y => law22_awake N)⟩
theorem law22_awake_ctrs (N : Nat) : CtrsOk Try.prog (law22_awake_C N) := ctrs_of (Γ := law22_awake_C N) (by
  intro p hp
  simp only [law22_awake_C, List.mem_cons, List.not_mem_nil, or_false] at hp
  rcases hp with rfl
  · exact lookup_Action_ok N)
theorem law22_awake_ok (N : Nat) : Ctr.ok Try.prog G_globs 33 (law22_awake_ctr N) :=
  ctr_fn (Γ := law22_awake_C N) (rfit := law22_awake_S1) (bs := [false]) (res := [0]) (by kernel_rfl) (tys_ok G_tys_ok) (law22_awake_ctrs N) Try.func33 (by kernel_rfl) (by kernel_rfl) Try.ntmps33 (by kernel_rfl) (by kernel_rfl) (by kernel_rfl) (by kernel_rfl) (fun E hb => law22_awake_b N hb)
end Go.Proofs.Ytgbkkfpheahdfaa
namespace Go.Proofs.Ytgbkkfpheahdfaa
open Go
set_option maxRecDepth 100000
set_option linter.unusedVariables false
/-! ipsecgate/ipsecgatemake.New -/
abbrev make_New_R : Type := ((Unit) × (((List UInt8) × (Int × Unit)) × Unit))
noncomputable def make_New_1 (N : Nat) (list_0 : (List UInt8)) : Option make_New_R :=
  some ((()), ((list_0, (0 : Int), ()), ()))
noncomputable def make_New (N : Nat) (list_0 : (List UInt8)) (most_1 : Int) : Option make_New_R :=
  bif (decide (most_1 < (list_0.length : Int))) then
    bif decide (0 ≤ (0 : Int)) && decide ((0 : Int) ≤ most_1) && decide (most_1 ≤ (list_0.length : Int)) && true then
    make_New_1 N (cut list_0 0 most_1.toNat)
    else none
  else
    make_New_1 N list_0
noncomputable def make_New_C (N : Nat) : Ctx := ⟨15, G_tys, [], G_globs⟩
noncomputable def make_New_S0 : Spec := ⟨[.val (.sl .u8)], []⟩
noncomputable def make_New_S1 : Spec := ⟨[.val (.sl .u8), .val .i64], []⟩
noncomputable def make_New_S2 : Spec := ⟨[.ref 0 (.pair (.sl .u8) (.pair .i64 .unit))], [(.box 113 (.pair (.sl .u8) (.pair .i64 .unit)), .pos 0)]⟩
noncomputable def make_New_K (_N : Nat) : XE → GS → Option make_New_R := retK 0 [4] [false] make_New_S2
noncomputable def make_New_L : List Code := (bodyOf (some Try.f28))
theorem make_New_1_b {E : Env} (N : Nat) (hb : Base Try.prog (make_New_C N) E 0) : Blk Try.prog (make_New_C N) E [0] make_New_S0 (make_New_L.drop 3) (fun y => make_New_1 N y.1.1) (make_New_K N) :=
  Blk.chunkAt hb 2 (X := (make_New_K N .normal)) (NxOk.end (by kernel_rfl)) rfl (fun x => by kernel_rfl)
theorem make_New_b {E : Env} (N : Nat) (hb : Base Try.prog (make_New_C N) E 0) : Blk Try.prog (make_New_C N) E (List.range make_New_S1.ks.length) make_New_S1 (make_New_L.drop 0) (fun y => make_New N y.1.1 y.1.2.1) (make_New_K N) :=
  Blk.chunkAt hb 3 (X := (goK 0 [0] make_New_S0 (fun y => make_New_1 N y.1.1))) (NxOk.go hb (make_New_1_b N hb)) rfl (fun x => by kernel_rfl)
noncomputable def make_New_ctr (N : Nat) : Ctr := ⟨make_New_S1, make_New_S2.un [false], 0, (fun y => make_New N y.1.1 y.1.2.1)⟩
theorem make_New_ctrs (N : Nat) : CtrsOk Try.prog (make_New_C N) := ctrs_nil rfl
theorem make_New_ok (N : Nat) : Ctr.ok Try.prog G_globs 28 (make_New_ctr N) :=
  ctr_fn (Γ := make_New_C N) (rfit := make_New_S2) (bs := [false]) (res := [4]) (by kernel_rfl) (tys_ok G_tys_ok) (make_New_ctrs N) Try.func28 (by kernel_rfl) (by kernel_rfl) Try.ntmps28 (by kernel_rfl) (by kernel_rfl) (by kernel_rfl) (by kernel_rfl) (fun E hb => make_New_b N hb)
end Go.Proofs.Ytgbkkfpheahdfaa
namespace Go.Proofs.Ytgbkkfpheahdfaa
open Go
set_option maxRecDepth 100000
set_option linter.unusedVariables false
/-! (*ipsecgate/ipsecgatemake.Codes).Left -/
abbrev make_Codes_Left_R : Type := ((Bool × Unit) × (Unit))
noncomputable def make_Codes_Left (N : Nat) (c_0 : ((List UInt8) × (Int × Unit))) : Option make_Codes_Left_R :=
  some (((decide (c_0.2.1 < (c_0.1.length : Int))), ()), (()))
noncomputable def make_Codes_Left_C (N : Nat) : Ctx := ⟨13, G_tys, [], G_globs⟩
noncomputable def make_Codes_Left_S0 : Spec := ⟨[.fp (.pair (.sl .u8) (.pair .i64 .unit))], []⟩
noncomputable def make_Codes_Left_S1 : Spec := ⟨[.val .bool], []⟩
noncomputable def make_Codes_Left_K (_N : Nat) : XE → GS → Option make_Codes_Left_R := retK 0 [2] [false] make_Codes_Left_S1
noncomputable def make_Codes_Left_L : List Code := (bodyOf (some Try.f86))
theorem make_Codes_Left_b {E : Env} (N : Nat) (hb : Base Try.prog (make_Codes_Left_C N) E 0) : Blk Try.prog (make_Codes_Left_C N) E (List.range make_Codes_Left_S0.ks.length) make_Codes_Left_S0 (make_Codes_Left_L.drop 0) (fun y => make_Codes_Left N y.1.1) (make_Codes_Left_K N) :=
  Blk.chunkAt hb 3 (X := (make_Codes_Left_K N .normal)) (NxOk.end (by kernel_rfl)) rfl (fun x => by kernel_rfl)
noncomputable def make_Codes_Left_ctr (N : Nat) : Ctr := ⟨make_Codes_Left_S0, make_Codes_Left_S1.un [false], 0, (fun y => make_Codes_Left N y.1.1)⟩
theorem make_Codes_Left_ctrs (N : Nat) : CtrsOk Try.prog (make_Codes_Left_C N) := ctrs_nil rfl
theorem make_Codes_Left_ok (N : Nat) : Ctr.ok Try.prog G_globs 86 (make_Codes_Left_ctr N) :=
  ctr_fn (Γ := make_Codes_Left_C N) (rfit := make_Codes_Left_S1) (bs := [false]) (res := [2]) (by kernel_rfl) (tys_ok G_tys_ok) (make_Codes_Left_ctrs N) Try.func86 (by kernel_rfl) (by kernel_rfl) Try.ntmps86 (by kernel_rfl) (by kernel_rfl) (by kernel_rfl) (by kernel_rfl) (fun E hb => make_Codes_Left_b N hb)
end Go.Proofs.Ytgbkkfpheahdfaa
namespace Go.Proofs.Ytgbkkfpheahdfaa
open Go
set_option maxRecDepth 100000
set_option linter.unusedVariables false
/-! (*ipsecgate/ipsecgatemake.Codes).Next -/
abbrev make_Codes_Next_R : Type := ((Int × Unit) × (((List UInt8) × (Int × Unit)) × Unit))
noncomputable def make_Codes_Next (N : Nat) (n_1 : Int) (c_0 : ((List UInt8) × (Int × Unit))) : Option make_Codes_Next_R :=
  Option.bind (make_Codes_Left N c_0) fun y1 =>
  bif (!y1.1.1) then
    some (((0 : Int), ()), (c_0, ()))
  else
    let x3 := w64 (c_0.2.1 + (1 : Int))
    let x4 := w64 (x3 - (1 : Int))
    bif inR x4 c_0.1.length then
    bif !(decide (n_1 = 0)) then
    some (((((c_0.1.getD x4.toNat (0 : UInt8)).toNat : Int).tmod n_1), ()), ((c_0.1, x3, ()), ()))
    else none
    else none
noncomputable def make_Codes_Next_C (N : Nat) : Ctx := ⟨29, G_tys, [(86, make_Codes_Left_ctr N)], G_globs⟩
noncomputable def make_Codes_Next_S0 : Spec := ⟨[.ref 0 (.pair (.sl .u8) (.pair .i64 .unit)), .val .i64], [(.box 113 (.pair (.sl .u8) (.pair .i64 .unit)), .pos 0)]⟩
noncomputable def make_Codes_Next_S1 : Spec := ⟨[.val .i64], [(.box 113 (.pair (.sl .u8) (.pair .i64 .unit)), .fix 0)]⟩
noncomputable def make_Codes_Next_K (_N : Nat) : XE → GS → Option make_Codes_Next_R := retK 1 [4] [false] make_Codes_Next_S1
noncomputable def make_Codes_Next_L : List Code := (bodyOf (some Try.f36))
theorem make_Codes_Next_b {E : Env} (N : Nat) (hb : Base Try.prog (make_Codes_Next_C N) E 1) : Blk Try.prog (make_Codes_Next_C N) E (List.range make_Codes_Next_S0.ks.length) make_Codes_Next_S0 (make_Codes_Next_L.drop 0) (fun y => make_Codes_Next N y.1.1 y.2.1) (make_Codes_Next_K N) :=
  Blk.chunkAt hb 6 (X := (make_Codes_Next_K N .normal)) (NxOk.end (by kernel_rfl)) rfl (fun x => by kernel_rfl)
noncomputable def make_Codes_Next_ctr (N : Nat) : Ctr := ⟨make_Codes_Next_S0, make_Codes_Next_S1.un [false], 1, (fun y => make_Codes_Next N y.1.1 y.2.1)⟩
theorem make_Codes_Next_ctrs (N : Nat) : CtrsOk Try.prog (make_Codes_Next_C N) := ctrs_of (Γ := make_Codes_Next_C N) (by
  intro p hp
  simp only [make_Codes_Next_C, List.mem_cons, List.not_mem_nil, or_false] at hp
  rcases hp with rfl
  · exact make_Codes_Left_ok N)
theorem make_Codes_Next_ok (N : Nat) : Ctr.ok Try.prog G_globs 36 (make_Codes_Next_ctr N) :=
  ctr_fn (Γ := make_Codes_Next_C N) (rfit := make_Codes_Next_S1) (bs := [false]) (res := [4]) (by kernel_rfl) (tys_ok G_tys_ok) (make_Codes_Next_ctrs N) Try.func36 (by kernel_rfl) (by kernel_rfl) Try.ntmps36 (by kernel_rfl) (by kernel_rfl) (by kernel_rfl) (by kernel_rfl) (fun E hb => make_Codes_Next_b N hb)
end Go.Proofs.Ytgbkkfpheahdfaa
namespace Go.Proofs.Ytgbkkfpheahdfaa
open Go
set_option maxRecDepth 100000
set_option linter.unusedVariables false
/-! ipsecgate/ipsecgateref05.Valid -/
abbrev ref05_Valid_R : Type := ((Bool × Unit) × (Unit))
noncomputable def ref05_Valid (N : Nat) (a_0 : (Int × (UInt64 × (UInt64 × Unit)))) : Option ref05_Valid_R :=
  bif (decide (a_0.1 = (4 : Int))) then
    bif (decide (a_0.2.1 = (0 : UInt64))) then
      bif (decide (a_0.2.2.1 < (4294967296 : UInt64))) then
        some ((true, ()), (()))
      else
        some (((decide (a_0.1 = (6 : Int))), ()), (()))
    else
      some (((decide (a_0.1 = (6 : Int))), ()), (()))
  else
    some (((decide (a_0.1 = (6 : Int))), ()), (()))
noncomputable def ref05_Valid_C (N : Nat) : Ctx := ⟨21, G_tys, [], G_globs⟩
noncomputable def ref05_Valid_S0 : Spec := ⟨[.val (.pair .i64 (.pair .u64 (.pair .u64 .unit)))], []⟩
noncomputable def ref05_Valid_S1 : Spec := ⟨[.val .bool], []⟩
noncomputable def ref05_Valid_K (_N : Nat) : XE → GS → Option ref05_Valid_R := retK 0 [2] [false] ref05_Valid_S1
noncomputable def ref05_Valid_L : List Code := (bodyOf (some Try.f99))
theorem ref05_Valid_b {E : Env} (N : Nat) (hb : Base Try.prog (ref05_Valid_C N) E 0) : Blk Try.prog (ref05_Valid_C N) E (List.range ref05_Valid_S0.ks.length) ref05_Valid_S0 (ref05_Valid_L.drop 0) (fun y => ref05_Valid N y.1.1) (ref05_Valid_K N) :=
  Blk.chunkAt hb 3 (X := (ref05_Valid_K N .normal)) (NxOk.end (by kernel_rfl)) rfl (fun x => by kernel_rfl)
noncomputable def ref05_Valid_ctr (N : Nat) : Ctr := ⟨ref05_Valid_S0, ref05_Valid_S1.un [false], 0, (fun y => ref05_Valid N y.1.1)⟩
theorem ref05_Valid_ctrs (N : Nat) : CtrsOk Try.prog (ref05_Valid_C N) := ctrs_nil rfl
theorem ref05_Valid_ok (N : Nat) : Ctr.ok Try.prog G_globs 99 (ref05_Valid_ctr N) :=
  ctr_fn (Γ := ref05_Valid_C N) (rfit := ref05_Valid_S1) (bs := [false]) (res := [2]) (by kernel_rfl) (tys_ok G_tys_ok) (ref05_Valid_ctrs N) Try.func99 (by kernel_rfl) (by kernel_rfl) Try.ntmps99 (by kernel_rfl) (by kernel_rfl) (by kernel_rfl) (by kernel_rfl) (fun E hb => ref05_Valid_b N hb)
end Go.Proofs.Ytgbkkfpheahdfaa
namespace Go.Proofs.Ytgbkkfpheahdfaa
open Go
set_option maxRecDepth 100000
set_option linter.unusedVariables false
/-! ipsecgate/ipsecgateref18.bits -/
abbrev ref18_bits_R : Type := ((Int × Unit) × (Unit))
noncomputable def ref18_bits (N : Nat) (family_0 : Int) : Option ref18_bits_R :=
  bif (decide (family_0 = (4 : Int))) then
    some (((32 : Int), ()), (()))
  else
    some (((128 : Int), ()), (()))
noncomputable def ref18_bits_C (N : Nat) : Ctx := ⟨5, G_tys, [], G_globs⟩
noncomputable def ref18_bits_S0 : Spec := ⟨[.val .i64], []⟩
noncomputable def ref18_bits_K (_N : Nat) : XE → GS → Option ref18_bits_R := retK 0 [2] [false] ref18_bits_S0
noncomputable def ref18_bits_L : List Code := (bodyOf (some Try.f166))
theorem ref18_bits_b {E : Env} (N : Nat) (hb : Base Try.prog (ref18_bits_C N) E 0) : Blk Try.prog (ref18_bits_C N) E (List.range ref18_bits_S0.ks.length) ref18_bits_S0 (ref18_bits_L.drop 0) (fun y => ref18_bits N y.1.1) (ref18_bits_K N) :=
  Blk.chunkAt hb 5 (X := (ref18_bits_K N .normal)) (NxOk.end (by kernel_rfl)) rfl (fun x => by kernel_rfl)
noncomputable def ref18_bits_ctr (N : Nat) : Ctr := ⟨ref18_bits_S0, ref18_bits_S0.un [false], 0, (fun y => ref18_bits N y.1.1)⟩
theorem ref18_bits_ctrs (N : Nat) : CtrsOk Try.prog (ref18_bits_C N) := ctrs_nil rfl
theorem ref18_bits_ok (N : Nat) : Ctr.ok Try.prog G_globs 166 (ref18_bits_ctr N) :=
  ctr_fn (Γ := ref18_bits_C N) (rfit := ref18_bits_S0) (bs := [false]) (res := [2]) (by kernel_rfl) (tys_ok G_tys_ok) (ref18_bits_ctrs N) Try.func166 (by kernel_rfl) (by kernel_rfl) Try.ntmps166 (by kernel_rfl) (by kernel_rfl) (by kernel_rfl) (by kernel_rfl) (fun E hb => ref18_bits_b N hb)
end Go.Proofs.Ytgbkkfpheahdfaa
namespace Go.Proofs.Ytgbkkfpheahdfaa
open Go
set_option maxRecDepth 100000
set_option linter.unusedVariables false
/-! ipsecgate/ipsecgateref18.Prefix -/
abbrev ref18_Prefix_R : Type := (((Int × (UInt64 × (UInt64 × Unit))) × (Int × (UInt64 × (UInt64 × Unit))) × Int × Unit) × (Unit))
noncomputable def ref18_Prefix_s3 (N : Nat) (i_9 : Int) (a_2 : (Int × (UInt64 × (UInt64 × Unit)))) (t_4 : (Int × (UInt64 × (UInt64 × Unit)))) (t_5 : (Int × (UInt64 × (UInt64 × Unit)))) (lo_7 : (Int × (UInt64 × (UInt64 × Unit)))) (hi_8 : (Int × (UInt64 × (UInt64 × Unit)))) : Option (Lo ((Int × Unit) × ((Int × (UInt64 × (UInt64 × Unit))) × (Int × (UInt64 × (UInt64 × Unit))) × (Int × (UInt64 × (UInt64 × Unit))) × (Int × (UInt64 × (UInt64 × Unit))) × (Int × (UInt64 × (UInt64 × Unit))) × Unit)) ((Unit) × ((Int × (UInt64 × (UInt64 × Unit))) × (Int × (UInt64 × (UInt64 × Unit))) × (Int × (UInt64 × (UInt64 × Unit))) × (Int × (UInt64 × (UInt64 × Unit))) × Unit)) ref18_Prefix_R) :=
  Option.bind (ref18_bits N a_2.1) fun y4 =>
  bif (decide (i_9 < y4.1.1)) then
    Option.bind (ref18_bits N a_2.1) fun y6 =>
    let x7 := w64 (y6.1.1 - (1 : Int))
    bif (decide ((64 : Int) ≤ (w64 (x7 - i_9)))) then
      some (.go (((w64 (i_9 + (1 : Int))), ()), (a_2, t_4, t_5, (lo_7.1, (lo_7.2.1 &&& ~~~ (shl64 (1 : UInt64) (iu64 (w64 ((w64 (x7 - i_9)) - (64 : Int)))).toNat)), lo_7.2.2.1, ()), (hi_8.1, (hi_8.2.1 ||| (shl64 (1 : UInt64) (iu64 (w64 ((w64 (x7 - i_9)) - (64 : Int)))).toNat)), hi_8.2.2.1, ()), ())))
    else
      some (.go (((w64 (i_9 + (1 : Int))), ()), (a_2, t_4, t_5, (lo_7.1, lo_7.2.1, (lo_7.2.2.1 &&& ~~~ (shl64 (1 : UInt64) (iu64 (w64 (x7 - i_9))).toNat)), ()), (hi_8.1, hi_8.2.1, (hi_8.2.2.1 ||| (shl64 (1 : UInt64) (iu64 (w64 (x7 - i_9))).toNat)), ()), ())))
  else
    some (.br ((()), (t_4, t_5, lo_7, hi_8, ())))
noncomputable def ref18_Prefix_4 (N : Nat) (t_4 : (Int × (UInt64 × (UInt64 × Unit)))) (t_5 : (Int × (UInt64 × (UInt64 × Unit)))) (lo_7 : (Int × (UInt64 × (UInt64 × Unit)))) (hi_8 : (Int × (UInt64 × (UInt64 × Unit)))) : Option ref18_Prefix_R :=
  some ((lo_7, hi_8, (0 : Int), ()), (()))
noncomputable def ref18_Prefix_2 (N : Nat) (i_9 : Int) (a_2 : (Int × (UInt64 × (UInt64 × Unit)))) (t_4 : (Int × (UInt64 × (UInt64 × Unit)))) (t_5 : (Int × (UInt64 × (UInt64 × Unit)))) (lo_7 : (Int × (UInt64 × (UInt64 × Unit)))) (hi_8 : (Int × (UInt64 × (UInt64 × Unit)))) : Option ref18_Prefix_R :=
  loopK N (fun y => ref18_Prefix_s3 N y.1.1 y.2.1 y.2.2.1 y.2.2.2.1 y.2.2.2.2.1 y.2.2.2.2.2.1) (fun (e : ((Unit) × ((Int × (UInt64 × (UInt64 × Unit))) × (Int × (UInt64 × (UInt64 × Unit))) × (Int × (UInt64 × (UInt64 × Unit))) × (Int × (UInt64 × (UInt64 × Unit))) × Unit))) => ref18_Prefix_4 N e.2.1 e.2.2.1 e.2.2.2.1 e.2.2.2.2.1) ((i_9, ()), (a_2, t_4, t_5, lo_7, hi_8, ()))
noncomputable def ref18_Prefix_1 (N : Nat) (n_1 : Int) (t_24 : Bool) (a_2 : (Int × (UInt64 × (UInt64 × Unit)))) (t_4 : (Int × (UInt64 × (UInt64 × Unit)))) (t_5 : (Int × (UInt64 × (UInt64 × Unit)))) : Option ref18_Prefix_R :=
  bif t_24 then
    some ((((0 : Int), (0 : UInt64), (0 : UInt64), ()), ((0 : Int), (0 : UInt64), (0 : UInt64), ()), (5 : Int), ()), (()))
  else
    ref18_Prefix_2 N n_1 a_2 t_4 t_5 a_2 a_2
noncomputable def ref18_Prefix (N : Nat) (a_0 : (Int × (UInt64 × (UInt64 × Unit)))) (n_1 : Int) : Option ref18_Prefix_R :=
  Option.bind (ref05_Valid N a_0) fun y1 =>
  bif (!y1.1.1) then
    some ((((0 : Int), (0 : UInt64), (0 : UInt64), ()), ((0 : Int), (0 : UInt64), (0 : UInt64), ()), (15 : Int), ()), (()))
  else
    bif (decide (n_1 < (0 : Int))) then
      ref18_Prefix_1 N n_1 true a_0 ((0 : Int), (0 : UInt64), (0 : UInt64), ()) ((0 : Int), (0 : UInt64), (0 : UInt64), ())
    else
      Option.bind (ref18_bits N a_0.1) fun y26 =>
      ref18_Prefix_1 N n_1 (decide (y26.1.1 < n_1)) a_0 ((0 : Int), (0 : UInt64), (0 : UInt64), ()) ((0 : Int), (0 : UInt64), (0 : UInt64), ())
noncomputable def ref18_Prefix_C (N : Nat) : Ctx := ⟨77, G_tys, [(99, ref05_Valid_ctr N), (166, ref18_bits_ctr N)], G_globs⟩
noncomputable def ref18_Prefix_S0 : Spec := ⟨[.ref 0 (.pair .i64 (.pair .u64 (.pair .u64 .unit))), .ref 1 (.pair .i64 (.pair .u64 (.pair .u64 .unit))), .ref 2 (.pair .i64 (.pair .u64 (.pair .u64 .unit))), .ref 3 (.pair .i64 (.pair .u64 (.pair .u64 .unit))), .ref 4 (.pair .i64 (.pair .u64 (.pair .u64 .unit))), .val .i64], [(.box 28 (.pair .i64 (.pair .u64 (.pair .u64 .unit))), .pos 0), (.box 28 (.pair .i64 (.pair .u64 (.pair .u64 .unit))), .pos 1), (.box 28 (.pair .i64 (.pair .u64 (.pair .u64 .unit))), .pos 2), (.box 28 (.pair .i64 (.pair .u64 (.pair .u64 .unit))), .pos 3), (.box 28 (.pair .i64 (.pair .u64 (.pair .u64 .unit))), .pos 4)]⟩
noncomputable def ref18_Prefix_S1 : Spec := ⟨[.ref 0 (.pair .i64 (.pair .u64 (.pair .u64 .unit))), .ref 1 (.pair .i64 (.pair .u64 (.pair .u64 .unit))), .ref 2 (.pair .i64 (.pair .u64 (.pair .u64 .unit))), .ref 3 (.pair .i64 (.pair .u64 (.pair .u64 .unit)))], [(.box 28 (.pair .i64 (.pair .u64 (.pair .u64 .unit))), .pos 0), (.box 28 (.pair .i64 (.pair .u64 (.pair .u64 .unit))), .pos 1), (.box 28 (.pair .i64 (.pair .u64 (.pair .u64 .unit))), .pos 2), (.box 28 (.pair .i64 (.pair .u64 (.pair .u64 .unit))), .pos 3)]⟩
noncomputable def ref18_Prefix_S2 : Spec := ⟨[.val .i64, .ref 0 (.pair .i64 (.pair .u64 (.pair .u64 .unit))), .ref 1 (.pair .i64 (.pair .u64 (.pair .u64 .unit))), .ref 2 (.pair .i64 (.pair .u64 (.pair .u64 .unit))), .val .bool], [(.box 28 (.pair .i64 (.pair .u64 (.pair .u64 .unit))), .pos 1), (.box 28 (.pair .i64 (.pair .u64 (.pair .u64 .unit))), .pos 2), (.box 28 (.pair .i64 (.pair .u64 (.pair .u64 .unit))), .pos 3)]⟩
noncomputable def ref18_Prefix_S3 : Spec := ⟨[.val (.pair .i64 (.pair .u64 (.pair .u64 .unit))), .val .i64], []⟩
noncomputable def ref18_Prefix_S4 : Spec := ⟨[.fp (.pair .i64 (.pair .u64 (.pair .u64 .unit))), .fp (.pair .i64 (.pair .u64 (.pair .u64 .unit))), .val .i64], []⟩
noncomputable def ref18_Prefix_K (_N : Nat) : XE → GS → Option ref18_Prefix_R := retK 0 [4, 5, 6] [true, true, false] ref18_Prefix_S4
noncomputable def ref18_Prefix_L : List Code := (bodyOf (some Try.f143))
noncomputable def ref18_Prefix_L3 : List Code := (loopOf (ref18_Prefix_L[7]?))
noncomputable def ref18_Prefix_K3 (N : Nat) : XE → GS → Option (Lo ((Int × Unit) × ((Int × (UInt64 × (UInt64 × Unit))) × (Int × (UInt64 × (UInt64 × Unit))) × (Int × (UInt64 × (UInt64 × Unit))) × (Int × (UInt64 × (UInt64 × Unit))) × (Int × (UInt64 × (UInt64 × Unit))) × Unit)) ((Unit) × ((Int × (UInt64 × (UInt64 × Unit))) × (Int × (UInt64 × (UInt64 × Unit))) × (Int × (UInt64 × (UInt64 × Unit))) × (Int × (UInt64 × (UInt64 × Unit))) × Unit)) ref18_Prefix_R) := roundK (some 0) (fit 0 [2, 4, 5, 7, 8, 9] ref18_Prefix_S0) (fit 0 [4, 5, 7, 8] ref18_Prefix_S1) (ref18_Prefix_K N)
theorem ref18_Prefix_s3_b {E : Env} (N : Nat) (hb : Base Try.prog (ref18_Prefix_C N) E 0) : Blk Try.prog (ref18_Prefix_C N) E [2, 4, 5, 7, 8, 9] ref18_Prefix_S0 (ref18_Prefix_L3.drop 0) (fun y => ref18_Prefix_s3 N y.1.1 y.2.1 y.2.2.1 y.2.2.2.1 y.2.2.2.2.1 y.2.2.2.2.2.1) (ref18_Prefix_K3 N) :=
  Blk.chunkAt hb 4 (X := (ref18_Prefix_K3 N .normal)) (NxOk.end (by kernel_rfl)) rfl (fun x => by kernel_rfl)
theorem ref18_Prefix_4_b {E : Env} (N : Nat) (hb : Base Try.prog (ref18_Prefix_C N) E 0) : Blk Try.prog (ref18_Prefix_C N) E [4, 5, 7, 8] ref18_Prefix_S1 (ref18_Prefix_L.drop 8) (fun y => ref18_Prefix_4 N y.2.1 y.2.2.1 y.2.2.2.1 y.2.2.2.2.1) (ref18_Prefix_K N) :=
  Blk.chunkAt hb 2 (X := (ref18_Prefix_K N .normal)) (NxOk.end (by kernel_rfl)) rfl (fun x => by kernel_rfl)
theorem ref18_Prefix_2_b {E : Env} (N : Nat) (hb : Base Try.prog (ref18_Prefix_C N) E 0) : Blk Try.prog (ref18_Prefix_C N) E [2, 4, 5, 7, 8, 9] ref18_Prefix_S0 (ref18_Prefix_L.drop 7) (fun y => ref18_Prefix_2 N y.1.1 y.2.1 y.2.2.1 y.2.2.2.1 y.2.2.2.2.1 y.2.2.2.2.2.1) (ref18_Prefix_K N) :=
  Blk.loopAt (Nf := N) (hns := [2, 4, 5, 7, 8, 9]) (ans := [4, 5, 7, 8]) (hc := ref18_Prefix_S0) (ac := ref18_Prefix_S1) (bid := 0) (step := (fun y => ref18_Prefix_s3 N y.1.1 y.2.1 y.2.2.1 y.2.2.2.1 y.2.2.2.2.1 y.2.2.2.2.2.1)) (J := (fun e => (goK 0 [4, 5, 7, 8] ref18_Prefix_S1 (fun y => ref18_Prefix_4 N y.2.1 y.2.2.1 y.2.2.2.1 y.2.2.2.2.1)) (ref18_Prefix_S1.st [4, 5, 7, 8] e))) hb (by kernel_rfl) (Blk.into (X := (goK 0 [4, 5, 7, 8] ref18_Prefix_S1 (fun y => ref18_Prefix_4 N y.2.1 y.2.2.1 y.2.2.2.1 y.2.2.2.2.1))) (NxOk.go hb (ref18_Prefix_4_b N hb)) (fun x => by kernel_rfl)) (ref18_Prefix_s3_b N hb) (fun x => by kernel_rfl)
theorem ref18_Prefix_1_b {E : Env} (N : Nat) (hb : Base Try.prog (ref18_Prefix_C N) E 0) : Blk Try.prog (ref18_Prefix_C N) E [1, 2, 4, 5, 24] ref18_Prefix_S2 (ref18_Prefix_L.drop 4) (fun y => ref18_Prefix_1 N y.1.1 y.1.2.1 y.2.1 y.2.2.1 y.2.2.2.1) (ref18_Prefix_K N) :=
  Blk.chunkAt hb 3 (X := (goK 0 [2, 4, 5, 7, 8, 9] ref18_Prefix_S0 (fun y => ref18_Prefix_2 N y.1.1 y.2.1 y.2.2.1 y.2.2.2.1 y.2.2.2.2.1 y.2.2.2.2.2.1))) (NxOk.go hb (ref18_Prefix_2_b N hb)) rfl (fun x => by kernel_rfl)
theorem ref18_Prefix_b {E : Env} (N : Nat) (hb : Base Try.prog (ref18_Prefix_C N) E 0) : Blk Try.prog (ref18_Prefix_C N) E (List.range ref18_Prefix_S3.ks.length) ref18_Prefix_S3 (ref18_Prefix_L.drop 0) (fun y => ref18_Prefix N y.1.1 y.1.2.1) (ref18_Prefix_K N) :=
  Blk.chunkAt hb 4 (X := (goK 0 [1, 2, 4, 5, 24] ref18_Prefix_S2 (fun y => ref18_Prefix_1 N y.1.1 y.1.2.1 y.2.1 y.2.2.1 y.2.2.2.1))) (NxOk.go hb (ref18_Prefix_1_b N hb)) rfl (fun x => by kernel_rfl)
noncomputable def ref18_Prefix_ctr (N : Nat) : Ctr := ⟨ref18_Prefix_S3, ref18_Prefix_S4.un [true, true, false], 0, (fun y => ref18_Prefix N y.1.1 y.1.2.1)⟩
theorem ref18_Prefix_ctrs (N : Nat) : CtrsOk Try.prog (ref18_Prefix_C N) := ctrs_of (Γ := ref18_Prefix_C N) (by
  intro p hp
  simp only [ref18_Prefix_C, List.mem_cons, List.not_mem_nil, or_false] at hp
  rcases hp with rfl | rfl
  · exact ref05_Valid_ok N
  · exact ref18_bits_ok N)
theorem ref18_Prefix_ok (N : Nat) : Ctr.ok Try.prog G_globs 143 (ref18_Prefix_ctr N) :=
  ctr_fn (Γ := ref18_Prefix_C N) (rfit := ref18_Prefix_S4) (bs := [true, true, false]) (res := [4, 5, 6]) (by kernel_rfl) (tys_ok G_tys_ok) (ref18_Prefix_ctrs N) Try.func143 (by kernel_rfl) (by kernel_rfl) Try.ntmps143 (by kernel_rfl) (by kernel_rfl) (by kernel_rfl) (by kernel_rfl) (fun E hb => ref18_Prefix_b N hb)
end Go.Proofs.Ytgbkkfpheahdfaa
namespace Go.Proofs.Ytgbkkfpheahdfaa
open Go
set_option maxRecDepth 100000
set_option linter.unusedVariables false
/-! ipsecgate/ipsecgateref18.All -/
abbrev ref18_All_R : Type := (((Int × (UInt64 × (UInt64 × Unit))) × (Int × (UInt64 × (UInt64 × Unit))) × Unit) × (Unit))
noncomputable def ref18_All (N : Nat) (family_0 : Int) : Option ref18_All_R :=
  Option.bind (ref18_Prefix N (family_0, (0 : UInt64), (0 : UInt64), ()) (0 : Int)) fun y1 =>
  some ((y1.1.1, y1.1.2.1, ()), (()))
noncomputable def ref18_All_C (N : Nat) : Ctx := ⟨16, G_tys, [(143, ref18_Prefix_ctr N)], G_globs⟩
noncomputable def ref18_All_S0 : Spec := ⟨[.val .i64], []⟩
noncomputable def ref18_All_S1 : Spec := ⟨[.fp (.pair .i64 (.pair .u64 (.pair .u64 .unit))), .fp (.pair .i64 (.pair .u64 (.pair .u64 .unit)))], []⟩
noncomputable def ref18_All_K (_N : Nat) : XE → GS → Option ref18_All_R := retK 0 [2, 3] [true, true] ref18_All_S1
noncomputable def ref18_All_L : List Code := (bodyOf (some Try.f142))
theorem ref18_All_b {E : Env} (N : Nat) (hb : Base Try.prog (ref18_All_C N) E 0) : Blk Try.prog (ref18_All_C N) E (List.range ref18_All_S0.ks.length) ref18_All_S0 (ref18_All_L.drop 0) (fun y => ref18_All N y.1.1) (ref18_All_K N) :=
  Blk.chunkAt hb 4 (X := (ref18_All_K N .normal)) (NxOk.end (by kernel_rfl)) rfl (fun x => by kernel_rfl)
noncomputable def ref18_All_ctr (N : Nat) : Ctr := ⟨ref18_All_S0, ref18_All_S1.un [true, true], 0, (fun y => ref18_All N y.1.1)⟩
theorem ref18_All_ctrs (N : Nat) : CtrsOk Try.prog (ref18_All_C N) := ctrs_of (Γ := ref18_All_C N) (by
  intro p hp
  simp only [ref18_All_C, List.mem_cons, List.not_mem_nil, or_false] at hp
  rcases hp with rfl
  · exact ref18_Prefix_ok N)
theorem ref18_All_ok (N : Nat) : Ctr.ok Try.prog G_globs 142 (ref18_All_ctr N) :=
  ctr_fn (Γ := ref18_All_C N) (rfit := ref18_All_S1) (bs := [true, true]) (res := [2, 3]) (by kernel_rfl) (tys_ok G_tys_ok) (ref18_All_ctrs N) Try.func142 (by kernel_rfl) (by kernel_rfl) Try.ntmps142 (by kernel_rfl) (by kernel_rfl) (by kernel_rfl) (by kernel_rfl) (fun E hb => ref18_All_b N hb)
end Go.Proofs.Ytgbkkfpheahdfaa
namespace Go.Proofs.Ytgbkkfpheahdfaa
open Go
set_option maxRecDepth 100000
set_option linter.unusedVariables false
/-! (*ipsecgate/ipsecgatemake.Codes).Address -/
abbrev make_Codes_Address_R : Type := (((Int × (UInt64 × (UInt64 × Unit))) × Unit) × (((List UInt8) × (Int × Unit)) × Unit))
noncomputable def make_Codes_Address (N : Nat) (family_1 : Int) (c_0 : ((List UInt8) × (Int × Unit))) : Option make_Codes_Address_R :=
  bif (decide (family_1 = (4 : Int))) then
    Option.bind (make_Codes_Next N (4 : Int) c_0) fun y2 =>
    bif inR y2.1.1 (([(167772160 : UInt64), (3232235520 : UInt64), (0 : UInt64), (4294967288 : UInt64)] : List UInt64).length) then
    Option.bind (make_Codes_Next N (8 : Int) y2.2.1) fun y4 =>
    some (((family_1, (0 : UInt64), ((([(167772160 : UInt64), (3232235520 : UInt64), (0 : UInt64), (4294967288 : UInt64)] : List UInt64).getD y2.1.1.toNat (0 : UInt64)) + (iu64 y4.1.1)), ()), ()), (y4.2.1, ()))
    else none
  else
    Option.bind (make_Codes_Next N (3 : Int) c_0) fun y7 =>
    bif inR y7.1.1 (([(2306139568115548160 : UInt64), (0 : UInt64), (18446744073709551615 : UInt64)] : List UInt64).length) then
    Option.bind (make_Codes_Next N (3 : Int) y7.2.1) fun y9 =>
    bif inR y9.1.1 (([(0 : UInt64), (18446744073709551608 : UInt64), (9223372036854775808 : UInt64)] : List UInt64).length) then
    Option.bind (make_Codes_Next N (8 : Int) y9.2.1) fun y11 =>
    some (((family_1, (([(2306139568115548160 : UInt64), (0 : UInt64), (18446744073709551615 : UInt64)] : List UInt64).getD y7.1.1.toNat (0 : UInt64)), ((([(0 : UInt64), (18446744073709551608 : UInt64), (9223372036854775808 : UInt64)] : List UInt64).getD y9.1.1.toNat (0 : UInt64)) + (iu64 y11.1.1)), ()), ()), (y11.2.1, ()))
    else none
    else none
noncomputable def make_Codes_Address_C (N : Nat) : Ctx := ⟨38, G_tys, [(36, make_Codes_Next_ctr N)], G_globs⟩
noncomputable def make_Codes_Address_S0 : Spec := ⟨[.ref 0 (.pair (.sl .u8) (.pair .i64 .unit)), .val .i64], [(.box 113 (.pair (.sl .u8) (.pair .i64 .unit)), .pos 0)]⟩
noncomputable def make_Codes_Address_S1 : Spec := ⟨[.fp (.pair .i64 (.pair .u64 (.pair .u64 .unit)))], [(.box 113 (.pair (.sl .u8) (.pair .i64 .unit)), .fix 0)]⟩
noncomputable def make_Codes_Address_K (_N : Nat) : XE → GS → Option make_Codes_Address_R := retK 1 [4] [true] make_Codes_Address_S1
noncomputable def make_Codes_Address_L : List Code := (bodyOf (some Try.f55))
theorem make_Codes_Address_b {E : Env} (N : Nat) (hb : Base Try.prog (make_Codes_Address_C N) E 1) : Blk Try.prog (make_Codes_Address_C N) E (List.range make_Codes_Address_S0.ks.length) make_Codes_Address_S0 (make_Codes_Address_L.drop 0) (fun y => make_Codes_Address N y.1.1 y.2.1) (make_Codes_Address_K N) :=
  Blk.chunkAt hb 8 (X := (make_Codes_Address_K N .normal)) (NxOk.end (by kernel_rfl)) rfl (fun x => by kernel_rfl)
noncomputable def make_Codes_Address_ctr (N : Nat) : Ctr := ⟨make_Codes_Address_S0, make_Codes_Address_S1.un [true], 1, (fun y => make_Codes_Address N y.1.1 y.2.1)⟩
theorem make_Codes_Address_ctrs (N : Nat) : CtrsOk Try.prog (make_Codes_Address_C N) := ctrs_of (Γ := make_Codes_Address_C N) (by
  intro p hp
  simp only [make_Codes_Address_C, List.mem_cons, List.not_mem_nil, or_false] at hp
  rcases hp with rfl
  · exact make_Codes_Next_ok N)
theorem make_Codes_Address_ok (N : Nat) : Ctr.ok Try.prog G_globs 55 (make_Codes_Address_ctr N) :=
  ctr_fn (Γ := make_Codes_Address_C N) (rfit := make_Codes_Address_S1) (bs := [true]) (res := [4]) (by kernel_rfl) (tys_ok G_tys_ok) (make_Codes_Address_ctrs N) Try.func55 (by kernel_rfl) (by kernel_rfl) Try.ntmps55 (by kernel_rfl) (by kernel_rfl) (by kernel_rfl) (by kernel_rfl) (fun E hb => make_Codes_Address_b N hb)
end Go.Proofs.Ytgbkkfpheahdfaa
namespace Go.Proofs.Ytgbkkfpheahdfaa
open Go
set_option maxRecDepth 100000
set_option linter.unusedVariables false
/-! (*ipsecgate/ipsecgatemake.Codes).Span -/
abbrev make_Codes_Span_R : Type := (((Int × (UInt64 × (UInt64 × Unit))) × (Int × (UInt64 × (UInt64 × Unit))) × Unit) × (((List UInt8) × (Int × Unit)) × Unit))
noncomputable def make_Codes_Span_1 (N : Nat) (t_58 : Bool) (p0 : ((List UInt8) × (Int × Unit))) (t_4 : (Int × (UInt64 × (UInt64 × Unit)))) (t_5 : (Int × (UInt64 × (UInt64 × Unit)))) (a_9 : (Int × (UInt64 × (UInt64 × Unit)))) (b_10 : (Int × (UInt64 × (UInt64 × Unit)))) : Option make_Codes_Span_R :=
  bif t_58 then
    some ((b_10, a_9, ()), (p0, ()))
  else
    some ((a_9, b_10, ()), (p0, ()))
noncomputable def make_Codes_Span (N : Nat) (family_1 : Int) (c_0 : ((List UInt8) × (Int × Unit))) : Option make_Codes_Span_R :=
  Option.bind (make_Codes_Next N (5 : Int) c_0) fun y1 =>
  bif (decide (y1.1.1 = (0 : Int))) then
    Option.bind (ref18_All N family_1) fun y3 =>
    some ((y3.1.1, y3.1.2.1, ()), (y1.2.1, ()))
  else
    bif (decide (y1.1.1 = (1 : Int))) then
      Option.bind (make_Codes_Address N family_1 y1.2.1) fun y5 =>
      Option.bind (make_Codes_Next N (25 : Int) y5.2.1) fun y6 =>
      Option.bind (ref18_Prefix N y5.1.1 (w64 ((8 : Int) + y6.1.1))) fun y8 =>
      some ((y8.1.1, y8.1.2.1, ()), (y6.2.1, ()))
    else
      Option.bind (make_Codes_Address N family_1 y1.2.1) fun y9 =>
      Option.bind (make_Codes_Address N family_1 y9.2.1) fun y10 =>
      bif (decide (y10.1.1.2.1 < y9.1.1.2.1)) then
        make_Codes_Span_1 N true y10.2.1 ((0 : Int), (0 : UInt64), (0 : UInt64), ()) ((0 : Int), (0 : UInt64), (0 : UInt64), ()) y9.1.1 y10.1.1
      else
        bif (decide (y9.1.1.2.1 = y10.1.1.2.1)) then
          make_Codes_Span_1 N (decide (y10.1.1.2.2.1 < y9.1.1.2.2.1)) y10.2.1 ((0 : Int), (0 : UInt64), (0 : UInt64), ()) ((0 : Int), (0 : UInt64), (0 : UInt64), ()) y9.1.1 y10.1.1
        else
          make_Codes_Span_1 N false y10.2.1 ((0 : Int), (0 : UInt64), (0 : UInt64), ()) ((0 : Int), (0 : UInt64), (0 : UInt64), ()) y9.1.1 y10.1.1
noncomputable def make_Codes_Span_C (N : Nat) : Ctx := ⟨63, G_tys, [(36, make_Codes_Next_ctr N), (142, ref18_All_ctr N), (55, make_Codes_Address_ctr N), (143, ref18_Prefix_ctr N)], G_globs⟩
noncomputable def make_Codes_Span_S0 : Spec := ⟨[.ref 1 (.pair .i64 (.pair .u64 (.pair .u64 .unit))), .ref 2 (.pair .i64 (.pair .u64 (.pair .u64 .unit))), .ref 3 (.pair .i64 (.pair .u64 (.pair .u64 .unit))), .ref 4 (.pair .i64 (.pair .u64 (.pair .u64 .unit))), .val .bool], [(.box 113 (.pair (.sl .u8) (.pair .i64 .unit)), .fix 0), (.box 28 (.pair .i64 (.pair .u64 (.pair .u64 .unit))), .pos 0), (.box 28 (.pair .i64 (.pair .u64 (.pair .u64 .unit))), .pos 1), (.box 28 (.pair .i64 (.pair .u64 (.pair .u64 .unit))), .pos 2), (.box 28 (.pair .i64 (.pair .u64 (.pair .u64 .unit))), .pos 3)]⟩
noncomputable def make_Codes_Span_S1 : Spec := ⟨[.ref 0 (.pair (.sl .u8) (.pair .i64 .unit)), .val .i64], [(.box 113 (.pair (.sl .u8) (.pair .i64 .unit)), .pos 0)]⟩
noncomputable def make_Codes_Span_S2 : Spec := ⟨[.fp (.pair .i64 (.pair .u64 (.pair .u64 .unit))), .fp (.pair .i64 (.pair .u64 (.pair .u64 .unit)))], [(.box 113 (.pair (.sl .u8) (.pair .i64 .unit)), .fix 0)]⟩
noncomputable def make_Codes_Span_K (_N : Nat) : XE → GS → Option make_Codes_Span_R := retK 1 [4, 5] [true, true] make_Codes_Span_S2
noncomputable def make_Codes_Span_L : List Code := (bodyOf (some Try.f77))
theorem make_Codes_Span_1_b {E : Env} (N : Nat) (hb : Base Try.prog (make_Codes_Span_C N) E 1) : Blk Try.prog (make_Codes_Span_C N) E [4, 5, 9, 10, 58] make_Codes_Span_S0 (make_Codes_Span_L.drop 5) (fun y => make_Codes_Span_1 N y.1.1 y.2.1 y.2.2.1 y.2.2.2.1 y.2.2.2.2.1 y.2.2.2.2.2.1) (make_Codes_Span_K N) :=
  Blk.chunkAt hb 3 (X := (make_Codes_Span_K N .normal)) (NxOk.end (by kernel_rfl)) rfl (fun x => by kernel_rfl)
theorem make_Codes_Span_b {E : Env} (N : Nat) (hb : Base Try.prog (make_Codes_Span_C N) E 1) : Blk Try.prog (make_Codes_Span_C N) E (List.range make_Codes_Span_S1.ks.length) make_Codes_Span_S1 (make_Codes_Span_L.drop 0) (fun y => make_Codes_Span N y.1.1 y.2.1) (make_Codes_Span_K N) :=
  Blk.chunkAt hb 5 (X := (goK 1 [4, 5, 9, 10, 58] make_Codes_Span_S0 (fun y => make_Codes_Span_1 N y.1.1 y.2.1 y.2.2.1 y.2.2.2.1 y.2.2.2.2.1 y.2.2.2.2.2.1))) (NxOk.go hb (make_Codes_Span_1_b N hb)) rfl (fun x => by kernel_rfl)
noncomputable def make_Codes_Span_ctr (N : Nat) : Ctr := ⟨make_Codes_Span_S1, make_Codes_Span_S2.un [true, true], 1, (fun y => make_Codes_Span N y.1.1 y.2.1)⟩
theorem make_Codes_Span_ctrs (N : Nat) : CtrsOk Try.prog (make_Codes_Span_C N) := ctrs_of (Γ := make_Codes_Span_C N) (by
  intro p hp
  simp only [make_Codes_Span_C, List.mem_cons, List.not_mem_nil, or_false] at hp
  rcases hp with rfl | rfl | rfl | rfl
  · exact make_Codes_Next_ok N
  · exact ref18_All_ok N
  · exact make_Codes_Address_ok N
  · exact ref18_Prefix_ok N)
theorem make_Codes_Span_ok (N : Nat) : Ctr.ok Try.prog G_globs 77 (make_Codes_Span_ctr N) :=
  ctr_fn (Γ := make_Codes_Span_C N) (rfit := make_Codes_Span_S2) (bs := [true, true]) (res := [4, 5]) (by kernel_rfl) (tys_ok G_tys_ok) (make_Codes_Span_ctrs N) Try.func77 (by kernel_rfl) (by kernel_rfl) Try.ntmps77 (by kernel_rfl) (by kernel_rfl) (by kernel_rfl) (by kernel_rfl) (fun E hb => make_Codes_Span_b N hb)
end Go.Proofs.Ytgbkkfpheahdfaa
namespace Go.Proofs.Ytgbkkfpheahdfaa
open Go
set_option maxRecDepth 100000
set_option linter.unusedVariables false
/-! (*ipsecgate/ipsecgatemake.Codes).Ports -/
abbrev make_Codes_Ports_R : Type := (((List Int) × Unit) × (((List UInt8) × (Int × Unit)) × Unit))
noncomputable def make_Codes_Ports_1 (N : Nat) (p0 : ((List UInt8) × (Int × Unit))) (t_2 : (List Int)) : Option make_Codes_Ports_R :=
  Option.bind (make_Codes_Next N (4 : Int) p0) fun y13 =>
  bif inR y13.1.1 (([(0 : Int), (80 : Int), (443 : Int), (65530 : Int)] : List Int).length) then
  let x14 := (([(0 : Int), (80 : Int), (443 : Int), (65530 : Int)] : List Int).getD y13.1.1.toNat (0 : Int))
  Option.bind (make_Codes_Next N (6 : Int) y13.2.1) fun y15 =>
  some ((([x14, (w64 (x14 + y15.1.1))] : List Int), ()), (y15.2.1, ()))
  else none
noncomputable def make_Codes_Ports (N : Nat) (c_0 : ((List UInt8) × (Int × Unit))) : Option make_Codes_Ports_R :=
  Option.bind (make_Codes_Next N (7 : Int) c_0) fun y1 =>
  bif (decide (y1.1.1 = (0 : Int))) then
    some ((([(-1 : Int), (65535 : Int)] : List Int), ()), (y1.2.1, ()))
  else
    bif (decide (y1.1.1 = (1 : Int))) then
      some ((([(-1 : Int), (65535 : Int)] : List Int), ()), (y1.2.1, ()))
    else
      bif (decide (y1.1.1 = (2 : Int))) then
        some ((([(-1 : Int), (-1 : Int)] : List Int), ()), (y1.2.1, ()))
      else
        bif (decide (y1.1.1 = (3 : Int))) then
          some ((([(0 : Int), (65535 : Int)] : List Int), ()), (y1.2.1, ()))
        else
          bif (decide (y1.1.1 = (4 : Int))) then
            Option.bind (make_Codes_Next N (9 : Int) y1.2.1) fun y11 =>
            some ((([(-1 : Int), y11.1.1] : List Int), ()), (y11.2.1, ()))
          else
            make_Codes_Ports_1 N y1.2.1 (List.replicate 2 (0 : Int))
noncomputable def make_Codes_Ports_C (N : Nat) : Ctx := ⟨32, G_tys, [(36, make_Codes_Next_ctr N)], G_globs⟩
noncomputable def make_Codes_Ports_S0 : Spec := ⟨[.ref 0 (.pair (.sl .u8) (.pair .i64 .unit)), .ref 1 (.arr 2 .i64)], [(.box 113 (.pair (.sl .u8) (.pair .i64 .unit)), .fix 0), (.box 44 (.arr 2 .i64), .pos 1)]⟩
noncomputable def make_Codes_Ports_S1 : Spec := ⟨[.ref 0 (.pair (.sl .u8) (.pair .i64 .unit))], [(.box 113 (.pair (.sl .u8) (.pair .i64 .unit)), .pos 0)]⟩
noncomputable def make_Codes_Ports_S2 : Spec := ⟨[.fp (.arr 2 .i64)], [(.box 113 (.pair (.sl .u8) (.pair .i64 .unit)), .fix 0)]⟩
noncomputable def make_Codes_Ports_K (_N : Nat) : XE → GS → Option make_Codes_Ports_R := retK 1 [2] [true] make_Codes_Ports_S2
noncomputable def make_Codes_Ports_L : List Code := (bodyOf (some Try.f78))
theorem make_Codes_Ports_1_b {E : Env} (N : Nat) (hb : Base Try.prog (make_Codes_Ports_C N) E 1) : Blk Try.prog (make_Codes_Ports_C N) E [0, 2] make_Codes_Ports_S0 (make_Codes_Ports_L.drop 3) (fun y => make_Codes_Ports_1 N y.2.1 y.2.2.1) (make_Codes_Ports_K N) :=
  Blk.chunkAt hb 3 (X := (make_Codes_Ports_K N .normal)) (NxOk.end (by kernel_rfl)) rfl (fun x => by kernel_rfl)
theorem make_Codes_Ports_b {E : Env} (N : Nat) (hb : Base Try.prog (make_Codes_Ports_C N) E 1) : Blk Try.prog (make_Codes_Ports_C N) E (List.range make_Codes_Ports_S1.ks.length) make_Codes_Ports_S1 (make_Codes_Ports_L.drop 0) (fun y => make_Codes_Ports N y.2.1) (make_Codes_Ports_K N) :=
  Blk.chunkAt hb 3 (X := (goK 1 [0, 2] make_Codes_Ports_S0 (fun y => make_Codes_Ports_1 N y.2.1 y.2.2.1))) (NxOk.go hb (make_Codes_Ports_1_b N hb)) rfl (fun x => by kernel_rfl)
noncomputable def make_Codes_Ports_ctr (N : Nat) : Ctr := ⟨make_Codes_Ports_S1, make_Codes_Ports_S2.un [true], 1, (fun y => make_Codes_Ports N y.2.1)⟩
theorem make_Codes_Ports_ctrs (N : Nat) : CtrsOk Try.prog (make_Codes_Ports_C N) := ctrs_of (Γ := make_Codes_Ports_C N) (by
  intro p hp
  simp only [make_Codes_Ports_C, List.mem_cons, List.not_mem_nil, or_false] at hp
  rcases hp with rfl
  · exact make_Codes_Next_ok N)
theorem make_Codes_Ports_ok (N : Nat) : Ctr.ok Try.prog G_globs 78 (make_Codes_Ports_ctr N) :=
  ctr_fn (Γ := make_Codes_Ports_C N) (rfit := make_Codes_Ports_S2) (bs := [true]) (res := [2]) (by kernel_rfl) (tys_ok G_tys_ok) (make_Codes_Ports_ctrs N) Try.func78 (by kernel_rfl) (by kernel_rfl) Try.ntmps78 (by kernel_rfl) (by kernel_rfl) (by kernel_rfl) (by kernel_rfl) (fun E hb => make_Codes_Ports_b N hb)
end Go.Proofs.Ytgbkkfpheahdfaa
namespace Go.Proofs.Ytgbkkfpheahdfaa
open Go
set_option maxRecDepth 100000
set_option linter.unusedVariables false
/-! (*ipsecgate/ipsecgatemake.Codes).Box -/
abbrev make_Codes_Box_R : Type := ((((Int × (UInt64 × (UInt64 × Unit))) × ((Int × (UInt64 × (UInt64 × Unit))) × ((Int × (UInt64 × (UInt64 × Unit))) × ((Int × (UInt64 × (UInt64 × Unit))) × (Int × (Int × ((List Int) × ((List Int) × Unit)))))))) × Unit) × (((List UInt8) × (Int × Unit)) × Unit))
noncomputable def make_Codes_Box_2 (N : Nat) (p0 : ((List UInt8) × (Int × Unit))) (t_2 : ((Int × (UInt64 × (UInt64 × Unit))) × ((Int × (UInt64 × (UInt64 × Unit))) × ((Int × (UInt64 × (UInt64 × Unit))) × ((Int × (UInt64 × (UInt64 × Unit))) × (Int × (Int × ((List Int) × ((List Int) × Unit))))))))) (b_4 : ((Int × (UInt64 × (UInt64 × Unit))) × ((Int × (UInt64 × (UInt64 × Unit))) × ((Int × (UInt64 × (UInt64 × Unit))) × ((Int × (UInt64 × (UInt64 × Unit))) × (Int × (Int × ((List Int) × ((List Int) × Unit))))))))) : Option make_Codes_Box_R :=
  Option.bind (make_Codes_Ports N p0) fun y10 =>
  Option.bind (make_Codes_Ports N y10.2.1) fun y11 =>
  some (((b_4.1, b_4.2.1, b_4.2.2.1, b_4.2.2.2.1, b_4.2.2.2.2.1, b_4.2.2.2.2.2.1, y10.1.1, y11.1.1, ()), ()), (y11.2.1, ()))
noncomputable def make_Codes_Box_1 (N : Nat) (family_3 : Int) (p0 : ((List UInt8) × (Int × Unit))) (t_2 : ((Int × (UInt64 × (UInt64 × Unit))) × ((Int × (UInt64 × (UInt64 × Unit))) × ((Int × (UInt64 × (UInt64 × Unit))) × ((Int × (UInt64 × (UInt64 × Unit))) × (Int × (Int × ((List Int) × ((List Int) × Unit))))))))) : Option make_Codes_Box_R :=
  Option.bind (make_Codes_Span N family_3 p0) fun y6 =>
  Option.bind (make_Codes_Span N family_3 y6.2.1) fun y7 =>
  Option.bind (make_Codes_Next N (5 : Int) y7.2.1) fun y8 =>
  bif (decide (y8.1.1 = (0 : Int))) then
    make_Codes_Box_2 N y8.2.1 t_2 (y6.1.1, y6.1.2.1, y7.1.1, y7.1.2.1, (0 : Int), (255 : Int), (List.replicate 2 (0 : Int)), (List.replicate 2 (0 : Int)), ())
  else
    bif (decide (y8.1.1 = (1 : Int))) then
      make_Codes_Box_2 N y8.2.1 t_2 (y6.1.1, y6.1.2.1, y7.1.1, y7.1.2.1, (0 : Int), (255 : Int), (List.replicate 2 (0 : Int)), (List.replicate 2 (0 : Int)), ())
    else
      bif (decide (y8.1.1 = (2 : Int))) then
        Option.bind (make_Codes_Next N (5 : Int) y8.2.1) fun y14 =>
        bif inR y14.1.1 (([(0 : Int), (1 : Int), (6 : Int), (17 : Int), (58 : Int)] : List Int).length) then
        let x15 := (([(0 : Int), (1 : Int), (6 : Int), (17 : Int), (58 : Int)] : List Int).getD y14.1.1.toNat (0 : Int))
        make_Codes_Box_2 N y14.2.1 t_2 (y6.1.1, y6.1.2.1, y7.1.1, y7.1.2.1, x15, x15, (List.replicate 2 (0 : Int)), (List.replicate 2 (0 : Int)), ())
        else none
      else
        Option.bind (make_Codes_Next N (7 : Int) y8.2.1) fun y16 =>
        Option.bind (make_Codes_Next N (12 : Int) y16.2.1) fun y17 =>
        make_Codes_Box_2 N y17.2.1 t_2 (y6.1.1, y6.1.2.1, y7.1.1, y7.1.2.1, y16.1.1, (w64 (y16.1.1 + y17.1.1)), (List.replicate 2 (0 : Int)), (List.replicate 2 (0 : Int)), ())
noncomputable def make_Codes_Box (N : Nat) (c_0 : ((List UInt8) × (Int × Unit))) : Option make_Codes_Box_R :=
  Option.bind (make_Codes_Next N (4 : Int) c_0) fun y1 =>
  let x4 := w64 ((4 : Int) + (w64 ((w64 ((2 : Int) * y1.1.1)).tdiv (3 : Int))))
  bif (!(decide (x4 = (4 : Int)))) then
    make_Codes_Box_1 N (6 : Int) y1.2.1 (((0 : Int), (0 : UInt64), (0 : UInt64), ()), ((0 : Int), (0 : UInt64), (0 : UInt64), ()), ((0 : Int), (0 : UInt64), (0 : UInt64), ()), ((0 : Int), (0 : UInt64), (0 : UInt64), ()), (0 : Int), (0 : Int), (List.replicate 2 (0 : Int)), (List.replicate 2 (0 : Int)), ())
  else
    make_Codes_Box_1 N x4 y1.2.1 (((0 : Int), (0 : UInt64), (0 : UInt64), ()), ((0 : Int), (0 : UInt64), (0 : UInt64), ()), ((0 : Int), (0 : UInt64), (0 : UInt64), ()), ((0 : Int), (0 : UInt64), (0 : UInt64), ()), (0 : Int), (0 : Int), (List.replicate 2 (0 : Int)), (List.replicate 2 (0 : Int)), ())
noncomputable def make_Codes_Box_C (N : Nat) : Ctx := ⟨61, G_tys, [(36, make_Codes_Next_ctr N), (77, make_Codes_Span_ctr N), (78, make_Codes_Ports_ctr N)], G_globs⟩
noncomputable def make_Codes_Box_S0 : Spec := ⟨[.ref 0 (.pair (.sl .u8) (.pair .i64 .unit)), .ref 1 (.pair (.pair .i64 (.pair .u64 (.pair .u64 .unit))) (.pair (.pair .i64 (.pair .u64 (.pair .u64 .unit))) (.pair (.pair .i64 (.pair .u64 (.pair .u64 .unit))) (.pair (.pair .i64 (.pair .u64 (.pair .u64 .unit))) (.pair .i64 (.pair .i64 (.pair (.arr 2 .i64) (.pair (.arr 2 .i64) .unit)))))))), .ref 2 (.pair (.pair .i64 (.pair .u64 (.pair .u64 .unit))) (.pair (.pair .i64 (.pair .u64 (.pair .u64 .unit))) (.pair (.pair .i64 (.pair .u64 (.pair .u64 .unit))) (.pair (.pair .i64 (.pair .u64 (.pair .u64 .unit))) (.pair .i64 (.pair .i64 (.pair (.arr 2 .i64) (.pair (.arr 2 .i64) .unit))))))))], [(.box 113 (.pair (.sl .u8) (.pair .i64 .unit)), .fix 0), (.box 46 (.pair (.pair .i64 (.pair .u64 (.pair .u64 .unit))) (.pair (.pair .i64 (.pair .u64 (.pair .u64 .unit))) (.pair (.pair .i64 (.pair .u64 (.pair .u64 .unit))) (.pair (.pair .i64 (.pair .u64 (.pair .u64 .unit))) (.pair .i64 (.pair .i64 (.pair (.arr 2 .i64) (.pair (.arr 2 .i64) .unit)))))))), .pos 1), (.box 46 (.pair (.pair .i64 (.pair .u64 (.pair .u64 .unit))) (.pair (.pair .i64 (.pair .u64 (.pair .u64 .unit))) (.pair (.pair .i64 (.pair .u64 (.pair .u64 .unit))) (.pair (.pair .i64 (.pair .u64 (.pair .u64 .unit))) (.pair .i64 (.pair .i64 (.pair (.arr 2 .i64) (.pair (.arr 2 .i64) .unit)))))))), .pos 2)]⟩
noncomputable def make_Codes_Box_S1 : Spec := ⟨[.ref 0 (.pair (.sl .u8) (.pair .i64 .unit)), .ref 1 (.pair (.pair .i64 (.pair .u64 (.pair .u64 .unit))) (.pair (.pair .i64 (.pair .u64 (.pair .u64 .unit))) (.pair (.pair .i64 (.pair .u64 (.pair .u64 .unit))) (.pair (.pair .i64 (.pair .u64 (.pair .u64 .unit))) (.pair .i64 (.pair .i64 (.pair (.arr 2 .i64) (.pair (.arr 2 .i64) .unit)))))))), .val .i64], [(.box 113 (.pair (.sl .u8) (.pair .i64 .unit)), .fix 0), (.box 46 (.pair (.pair .i64 (.pair .u64 (.pair .u64 .unit))) (.pair (.pair .i64 (.pair .u64 (.pair .u64 .unit))) (.pair (.pair .i64 (.pair .u64 (.pair .u64 .unit))) (.pair (.pair .i64 (.pair .u64 (.pair .u64 .unit))) (.pair .i64 (.pair .i64 (.pair (.arr 2 .i64) (.pair (.arr 2 .i64) .unit)))))))), .pos 1)]⟩
noncomputable def make_Codes_Box_S2 : Spec := ⟨[.ref 0 (.pair (.sl .u8) (.pair .i64 .unit))], [(.box 113 (.pair (.sl .u8) (.pair .i64 .unit)), .pos 0)]⟩
noncomputable def make_Codes_Box_S3 : Spec := ⟨[.fp (.pair (.pair .i64 (.pair .u64 (.pair .u64 .unit))) (.pair (.pair .i64 (.pair .u64 (.pair .u64 .unit))) (.pair (.pair .i64 (.pair .u64 (.pair .u64 .unit))) (.pair (.pair .i64 (.pair .u64 (.pair .u64 .unit))) (.pair .i64 (.pair .i64 (.pair (.arr 2 .i64) (.pair (.arr 2 .i64) .unit))))))))], [(.box 113 (.pair (.sl .u8) (.pair .i64 .unit)), .fix 0)]⟩
noncomputable def make_Codes_Box_K (_N : Nat) : XE → GS → Option make_Codes_Box_R := retK 1 [2] [true] make_Codes_Box_S3
noncomputable def make_Codes_Box_L : List Code := (bodyOf (some Try.f29))
theorem make_Codes_Box_2_b {E : Env} (N : Nat) (hb : Base Try.prog (make_Codes_Box_C N) E 1) : Blk Try.prog (make_Codes_Box_C N) E [0, 2, 4] make_Codes_Box_S0 (make_Codes_Box_L.drop 9) (fun y => make_Codes_Box_2 N y.2.1 y.2.2.1 y.2.2.2.1) (make_Codes_Box_K N) :=
  Blk.chunkAt hb 3 (X := (make_Codes_Box_K N .normal)) (NxOk.end (by kernel_rfl)) rfl (fun x => by kernel_rfl)
theorem make_Codes_Box_1_b {E : Env} (N : Nat) (hb : Base Try.prog (make_Codes_Box_C N) E 1) : Blk Try.prog (make_Codes_Box_C N) E [0, 2, 3] make_Codes_Box_S1 (make_Codes_Box_L.drop 4) (fun y => make_Codes_Box_1 N y.1.1 y.2.1 y.2.2.1) (make_Codes_Box_K N) :=
  Blk.chunkAt hb 5 (X := (goK 1 [0, 2, 4] make_Codes_Box_S0 (fun y => make_Codes_Box_2 N y.2.1 y.2.2.1 y.2.2.2.1))) (NxOk.go hb (make_Codes_Box_2_b N hb)) rfl (fun x => by kernel_rfl)
theorem make_Codes_Box_b {E : Env} (N : Nat) (hb : Base Try.prog (make_Codes_Box_C N) E 1) : Blk Try.prog (make_Codes_Box_C N) E (List.range make_Codes_Box_S2.ks.length) make_Codes_Box_S2 (make_Codes_Box_L.drop 0) (fun y => make_Codes_Box N y.2.1) (make_Codes_Box_K N) :=
  Blk.chunkAt hb 4 (X := (goK 1 [0, 2, 3] make_Codes_Box_S1 (fun y => make_Codes_Box_1 N y.1.1 y.2.1 y.2.2.1))) (NxOk.go hb (make_Codes_Box_1_b N hb)) rfl (fun x => by kernel_rfl)
noncomputable def make_Codes_Box_ctr (N : Nat) : Ctr := ⟨make_Codes_Box_S2, make_Codes_Box_S3.un [true], 1, (fun y => make_Codes_Box N y.2.1)⟩
theorem make_Codes_Box_ctrs (N : Nat) : CtrsOk Try.prog (make_Codes_Box_C N) := ctrs_of (Γ := make_Codes_Box_C N) (by
  intro p hp
  simp only [make_Codes_Box_C, List.mem_cons, List.not_mem_nil, or_false] at hp
  rcases hp with rfl | rfl | rfl
  · exact make_Codes_Next_ok N
  · exact make_Codes_Span_ok N
  · exact make_Codes_Ports_ok N)
theorem make_Codes_Box_ok (N : Nat) : Ctr.ok Try.prog G_globs 29 (make_Codes_Box_ctr N) :=
  ctr_fn (Γ := make_Codes_Box_C N) (rfit := make_Codes_Box_S3) (bs := [true]) (res := [2]) (by kernel_rfl) (tys_ok G_tys_ok) (make_Codes_Box_ctrs N) Try.func29 (by kernel_rfl) (by kernel_rfl) Try.ntmps29 (by kernel_rfl) (by kernel_rfl) (by kernel_rfl) (by kernel_rfl) (fun E hb => make_Codes_Box_b N hb)
end Go.Proofs.Ytgbkkfpheahdfaa
namespace Go.Proofs.Ytgbkkfpheahdfaa
open Go
set_option maxRecDepth 100000
set_option linter.unusedVariables false
/-! (*ipsecgate/ipsecgatemake.Codes).Rules -/
abbrev make_Codes_Rules_R : Type := ((Unit) × (((List UInt8) × (Int × Unit)) × (List (Int × ((List UInt8) × ((List ((Int × (UInt64 × (UInt64 × Unit))) × ((Int × (UInt64 × (UInt64 × Unit))) × ((Int × (UInt64 × (UInt64 × Unit))) × ((Int × (UInt64 × (UInt64 × Unit))) × (Int × (Int × ((List Int) × ((List Int) × Unit))))))))) × Unit)))) × Unit))
noncomputable def make_Codes_Rules_s8 (N : Nat) (n_6 : Int) (k_8 : Int) (p0 : ((List UInt8) × (Int × Unit))) (out_5 : (List (Int × ((List UInt8) × ((List ((Int × (UInt64 × (UInt64 × Unit))) × ((Int × (UInt64 × (UInt64 × Unit))) × ((Int × (UInt64 × (UInt64 × Unit))) × ((Int × (UInt64 × (UInt64 × Unit))) × (Int × (Int × ((List Int) × ((List Int) × Unit))))))))) × Unit))))) (r_7 : (Int × ((List UInt8) × ((List ((Int × (UInt64 × (UInt64 × Unit))) × ((Int × (UInt64 × (UInt64 × Unit))) × ((Int × (UInt64 × (UInt64 × Unit))) × ((Int × (UInt64 × (UInt64 × Unit))) × (Int × (Int × ((List Int) × ((List Int) × Unit))))))))) × Unit)))) (r_7_v : (List ((Int × (UInt64 × (UInt64 × Unit))) × ((Int × (UInt64 × (UInt64 × Unit))) × ((Int × (UInt64 × (UInt64 × Unit))) × ((Int × (UInt64 × (UInt64 × Unit))) × (Int × (Int × ((List Int) × ((List Int) × Unit)))))))))) : Option (Lo ((Int × Int × Unit) × (((List UInt8) × (Int × Unit)) × (List (Int × ((List UInt8) × ((List ((Int × (UInt64 × (UInt64 × Unit))) × ((Int × (UInt64 × (UInt64 × Unit))) × ((Int × (UInt64 × (UInt64 × Unit))) × ((Int × (UInt64 × (UInt64 × Unit))) × (Int × (Int × ((List Int) × ((List Int) × Unit))))))))) × Unit)))) × (Int × ((List UInt8) × ((List ((Int × (UInt64 × (UInt64 × Unit))) × ((Int × (UInt64 × (UInt64 × Unit))) × ((Int × (UInt64 × (UInt64 × Unit))) × ((Int × (UInt64 × (UInt64 × Unit))) × (Int × (Int × ((List Int) × ((List Int) × Unit))))))))) × Unit))) × (List ((Int × (UInt64 × (UInt64 × Unit))) × ((Int × (UInt64 × (UInt64 × Unit))) × ((Int × (UInt64 × (UInt64 × Unit))) × ((Int × (UInt64 × (UInt64 × Unit))) × (Int × (Int × ((List Int) × ((List Int) × Unit))))))))) × Unit)) ((Int × Unit) × (((List UInt8) × (Int × Unit)) × (List (Int × ((List UInt8) × ((List ((Int × (UInt64 × (UInt64 × Unit))) × ((Int × (UInt64 × (UInt64 × Unit))) × ((Int × (UInt64 × (UInt64 × Unit))) × ((Int × (UInt64 × (UInt64 × Unit))) × (Int × (Int × ((List Int) × ((List Int) × Unit))))))))) × Unit)))) × (Int × ((List UInt8) × ((List ((Int × (UInt64 × (UInt64 × Unit))) × ((Int × (UInt64 × (UInt64 × Unit))) × ((Int × (UInt64 × (UInt64 × Unit))) × ((Int × (UInt64 × (UInt64 × Unit))) × (Int × (Int × ((List Int) × ((List Int) × Unit))))))))) × Unit))) × (List ((Int × (UInt64 × (UInt64 × Unit))) × ((Int × (UInt64 × (UInt64 × Unit))) × ((Int × (UInt64 × (UInt64 × Unit))) × ((Int × (UInt64 × (UInt64 × Unit))) × (Int × (Int × ((List Int) × ((List Int) × Unit))))))))) × Unit)) (Lo ((Int × Unit) × (((List UInt8) × (Int × Unit)) × (List (Int × ((List UInt8) × ((List ((Int × (UInt64 × (UInt64 × Unit))) × ((Int × (UInt64 × (UInt64 × Unit))) × ((Int × (UInt64 × (UInt64 × Unit))) × ((Int × (UInt64 × (UInt64 × Unit))) × (Int × (Int × ((List Int) × ((List Int) × Unit))))))))) × Unit)))) × Unit)) ((Unit) × (((List UInt8) × (Int × Unit)) × (List (Int × ((List UInt8) × ((List ((Int × (UInt64 × (UInt64 × Unit))) × ((Int × (UInt64 × (UInt64 × Unit))) × ((Int × (UInt64 × (UInt64 × Unit))) × ((Int × (UInt64 × (UInt64 × Unit))) × (Int × (Int × ((List Int) × ((List Int) × Unit))))))))) × Unit)))) × Unit)) make_Codes_Rules_R)) :=
  bif (decide ((0 : Int) < k_8)) then
    Option.bind (make_Codes_Box N p0) fun y11 =>
    bif room (r_7_v.length + ([y11.1.1] : List ((Int × (UInt64 × (UInt64 × Unit))) × ((Int × (UInt64 × (UInt64 × Unit))) × ((Int × (UInt64 × (UInt64 × Unit))) × ((Int × (UInt64 × (UInt64 × Unit))) × (Int × (Int × ((List Int) × ((List Int) × Unit))))))))).length) 144 then
    some (.go ((n_6, (w64 (k_8 - (1 : Int))), ()), (y11.2.1, out_5, r_7, (r_7_v ++ ([y11.1.1] : List ((Int × (UInt64 × (UInt64 × Unit))) × ((Int × (UInt64 × (UInt64 × Unit))) × ((Int × (UInt64 × (UInt64 × Unit))) × ((Int × (UInt64 × (UInt64 × Unit))) × (Int × (Int × ((List Int) × ((List Int) × Unit)))))))))), ())))
    else none
  else
    some (.br ((n_6, ()), (p0, out_5, r_7, r_7_v, ())))
noncomputable def make_Codes_Rules_10 (N : Nat) (n_6 : Int) (p0 : ((List UInt8) × (Int × Unit))) (out_5 : (List (Int × ((List UInt8) × ((List ((Int × (UInt64 × (UInt64 × Unit))) × ((Int × (UInt64 × (UInt64 × Unit))) × ((Int × (UInt64 × (UInt64 × Unit))) × ((Int × (UInt64 × (UInt64 × Unit))) × (Int × (Int × ((List Int) × ((List Int) × Unit))))))))) × Unit))))) : Option (Lo ((Int × Unit) × (((List UInt8) × (Int × Unit)) × (List (Int × ((List UInt8) × ((List ((Int × (UInt64 × (UInt64 × Unit))) × ((Int × (UInt64 × (UInt64 × Unit))) × ((Int × (UInt64 × (UInt64 × Unit))) × ((Int × (UInt64 × (UInt64 × Unit))) × (Int × (Int × ((List Int) × ((List Int) × Unit))))))))) × Unit)))) × Unit)) ((Unit) × (((List UInt8) × (Int × Unit)) × (List (Int × ((List UInt8) × ((List ((Int × (UInt64 × (UInt64 × Unit))) × ((Int × (UInt64 × (UInt64 × Unit))) × ((Int × (UInt64 × (UInt64 × Unit))) × ((Int × (UInt64 × (UInt64 × Unit))) × (Int × (Int × ((List Int) × ((List Int) × Unit))))))))) × Unit)))) × Unit)) make_Codes_Rules_R) :=
  some (.go (((w64 (n_6 - (1 : Int))), ()), (p0, out_5, ())))
noncomputable def make_Codes_Rules_9 (N : Nat) (n_6 : Int) (p0 : ((List UInt8) × (Int × Unit))) (out_5 : (List (Int × ((List UInt8) × ((List ((Int × (UInt64 × (UInt64 × Unit))) × ((Int × (UInt64 × (UInt64 × Unit))) × ((Int × (UInt64 × (UInt64 × Unit))) × ((Int × (UInt64 × (UInt64 × Unit))) × (Int × (Int × ((List Int) × ((List Int) × Unit))))))))) × Unit))))) (r_7 : (Int × ((List UInt8) × ((List ((Int × (UInt64 × (UInt64 × Unit))) × ((Int × (UInt64 × (UInt64 × Unit))) × ((Int × (UInt64 × (UInt64 × Unit))) × ((Int × (UInt64 × (UInt64 × Unit))) × (Int × (Int × ((List Int) × ((List Int) × Unit))))))))) × Unit)))) (r_7_v : (List ((Int × (UInt64 × (UInt64 × Unit))) × ((Int × (UInt64 × (UInt64 × Unit))) × ((Int × (UInt64 × (UInt64 × Unit))) × ((Int × (UInt64 × (UInt64 × Unit))) × (Int × (Int × ((List Int) × ((List Int) × Unit)))))))))) : Option (Lo ((Int × Unit) × (((List UInt8) × (Int × Unit)) × (List (Int × ((List UInt8) × ((List ((Int × (UInt64 × (UInt64 × Unit))) × ((Int × (UInt64 × (UInt64 × Unit))) × ((Int × (UInt64 × (UInt64 × Unit))) × ((Int × (UInt64 × (UInt64 × Unit))) × (Int × (Int × ((List Int) × ((List Int) × Unit))))))))) × Unit)))) × Unit)) ((Unit) × (((List UInt8) × (Int × Unit)) × (List (Int × ((List UInt8) × ((List ((Int × (UInt64 × (UInt64 × Unit))) × ((Int × (UInt64 × (UInt64 × Unit))) × ((Int × (UInt64 × (UInt64 × Unit))) × ((Int × (UInt64 × (UInt64 × Unit))) × (Int × (Int × ((List Int) × ((List Int) × Unit))))))))) × Unit)))) × Unit)) make_Codes_Rules_R) :=
  bif room (out_5.length + ([(r_7.1, r_7.2.1, r_7_v, ())] : List (Int × ((List UInt8) × ((List ((Int × (UInt64 × (UInt64 × Unit))) × ((Int × (UInt64 × (UInt64 × Unit))) × ((Int × (UInt64 × (UInt64 × Unit))) × ((Int × (UInt64 × (UInt64 × Unit))) × (Int × (Int × ((List Int) × ((List Int) × Unit))))))))) × Unit)))).length) 48 then
  make_Codes_Rules_10 N n_6 p0 (out_5 ++ ([(r_7.1, r_7.2.1, r_7_v, ())] : List (Int × ((List UInt8) × ((List ((Int × (UInt64 × (UInt64 × Unit))) × ((Int × (UInt64 × (UInt64 × Unit))) × ((Int × (UInt64 × (UInt64 × Unit))) × ((Int × (UInt64 × (UInt64 × Unit))) × (Int × (Int × ((List Int) × ((List Int) × Unit))))))))) × Unit)))))
  else none
noncomputable def make_Codes_Rules_7 (N : Nat) (n_6 : Int) (k_8 : Int) (p0 : ((List UInt8) × (Int × Unit))) (out_5 : (List (Int × ((List UInt8) × ((List ((Int × (UInt64 × (UInt64 × Unit))) × ((Int × (UInt64 × (UInt64 × Unit))) × ((Int × (UInt64 × (UInt64 × Unit))) × ((Int × (UInt64 × (UInt64 × Unit))) × (Int × (Int × ((List Int) × ((List Int) × Unit))))))))) × Unit))))) (r_7 : (Int × ((List UInt8) × ((List ((Int × (UInt64 × (UInt64 × Unit))) × ((Int × (UInt64 × (UInt64 × Unit))) × ((Int × (UInt64 × (UInt64 × Unit))) × ((Int × (UInt64 × (UInt64 × Unit))) × (Int × (Int × ((List Int) × ((List Int) × Unit))))))))) × Unit)))) (r_7_v : (List ((Int × (UInt64 × (UInt64 × Unit))) × ((Int × (UInt64 × (UInt64 × Unit))) × ((Int × (UInt64 × (UInt64 × Unit))) × ((Int × (UInt64 × (UInt64 × Unit))) × (Int × (Int × ((List Int) × ((List Int) × Unit)))))))))) : Option (Lo ((Int × Unit) × (((List UInt8) × (Int × Unit)) × (List (Int × ((List UInt8) × ((List ((Int × (UInt64 × (UInt64 × Unit))) × ((Int × (UInt64 × (UInt64 × Unit))) × ((Int × (UInt64 × (UInt64 × Unit))) × ((Int × (UInt64 × (UInt64 × Unit))) × (Int × (Int × ((List Int) × ((List Int) × Unit))))))))) × Unit)))) × Unit)) ((Unit) × (((List UInt8) × (Int × Unit)) × (List (Int × ((List UInt8) × ((List ((Int × (UInt64 × (UInt64 × Unit))) × ((Int × (UInt64 × (UInt64 × Unit))) × ((Int × (UInt64 × (UInt64 × Unit))) × ((Int × (UInt64 × (UInt64 × Unit))) × (Int × (Int × ((List Int) × ((List Int) × Unit))))))))) × Unit)))) × Unit)) make_Codes_Rules_R) :=
  loopK N (fun y => make_Codes_Rules_s8 N y.1.1 y.1.2.1 y.2.1 y.2.2.1 y.2.2.2.1 y.2.2.2.2.1) (fun (e : ((Int × Unit) × (((List UInt8) × (Int × Unit)) × (List (Int × ((List UInt8) × ((List ((Int × (UInt64 × (UInt64 × Unit))) × ((Int × (UInt64 × (UInt64 × Unit))) × ((Int × (UInt64 × (UInt64 × Unit))) × ((Int × (UInt64 × (UInt64 × Unit))) × (Int × (Int × ((List Int) × ((List Int) × Unit))))))))) × Unit)))) × (Int × ((List UInt8) × ((List ((Int × (UInt64 × (UInt64 × Unit))) × ((Int × (UInt64 × (UInt64 × Unit))) × ((Int × (UInt64 × (UInt64 × Unit))) × ((Int × (UInt64 × (UInt64 × Unit))) × (Int × (Int × ((List Int) × ((List Int) × Unit))))))))) × Unit))) × (List ((Int × (UInt64 × (UInt64 × Unit))) × ((Int × (UInt64 × (UInt64 × Unit))) × ((Int × (UInt64 × (UInt64 × Unit))) × ((Int × (UInt64 × (UInt64 × Unit))) × (Int × (Int × ((List Int) × ((List Int) × Unit))))))))) × Unit))) => make_Codes_Rules_9 N e.1.1 e.2.1 e.2.2.1 e.2.2.2.1 e.2.2.2.2.1) ((n_6, k_8, ()), (p0, out_5, r_7, r_7_v, ()))
noncomputable def make_Codes_Rules_6 (N : Nat) (n_6 : Int) (p0 : ((List UInt8) × (Int × Unit))) (out_5 : (List (Int × ((List UInt8) × ((List ((Int × (UInt64 × (UInt64 × Unit))) × ((Int × (UInt64 × (UInt64 × Unit))) × ((Int × (UInt64 × (UInt64 × Unit))) × ((Int × (UInt64 × (UInt64 × Unit))) × (Int × (Int × ((List Int) × ((List Int) × Unit))))))))) × Unit))))) (r_7 : (Int × ((List UInt8) × ((List ((Int × (UInt64 × (UInt64 × Unit))) × ((Int × (UInt64 × (UInt64 × Unit))) × ((Int × (UInt64 × (UInt64 × Unit))) × ((Int × (UInt64 × (UInt64 × Unit))) × (Int × (Int × ((List Int) × ((List Int) × Unit))))))))) × Unit)))) (r_7_v : (List ((Int × (UInt64 × (UInt64 × Unit))) × ((Int × (UInt64 × (UInt64 × Unit))) × ((Int × (UInt64 × (UInt64 × Unit))) × ((Int × (UInt64 × (UInt64 × Unit))) × (Int × (Int × ((List Int) × ((List Int) × Unit)))))))))) : Option (Lo ((Int × Unit) × (((List UInt8) × (Int × Unit)) × (List (Int × ((List UInt8) × ((List ((Int × (UInt64 × (UInt64 × Unit))) × ((Int × (UInt64 × (UInt64 × Unit))) × ((Int × (UInt64 × (UInt64 × Unit))) × ((Int × (UInt64 × (UInt64 × Unit))) × (Int × (Int × ((List Int) × ((List Int) × Unit))))))))) × Unit)))) × Unit)) ((Unit) × (((List UInt8) × (Int × Unit)) × (List (Int × ((List UInt8) × ((List ((Int × (UInt64 × (UInt64 × Unit))) × ((Int × (UInt64 × (UInt64 × Unit))) × ((Int × (UInt64 × (UInt64 × Unit))) × ((Int × (UInt64 × (UInt64 × Unit))) × (Int × (Int × ((List Int) × ((List Int) × Unit))))))))) × Unit)))) × Unit)) make_Codes_Rules_R) :=
  Option.bind (make_Codes_Next N (2 : Int) p0) fun y8 =>
  make_Codes_Rules_7 N n_6 (w64 ((1 : Int) + y8.1.1)) y8.2.1 out_5 r_7 r_7_v
noncomputable def make_Codes_Rules_5 (N : Nat) (n_6 : Int) (p0 : ((List UInt8) × (Int × Unit))) (out_5 : (List (Int × ((List UInt8) × ((List ((Int × (UInt64 × (UInt64 × Unit))) × ((Int × (UInt64 × (UInt64 × Unit))) × ((Int × (UInt64 × (UInt64 × Unit))) × ((Int × (UInt64 × (UInt64 × Unit))) × (Int × (Int × ((List Int) × ((List Int) × Unit))))))))) × Unit))))) : Option (Lo ((Int × Unit) × (((List UInt8) × (Int × Unit)) × (List (Int × ((List UInt8) × ((List ((Int × (UInt64 × (UInt64 × Unit))) × ((Int × (UInt64 × (UInt64 × Unit))) × ((Int × (UInt64 × (UInt64 × Unit))) × ((Int × (UInt64 × (UInt64 × Unit))) × (Int × (Int × ((List Int) × ((List Int) × Unit))))))))) × Unit)))) × Unit)) ((Unit) × (((List UInt8) × (Int × Unit)) × (List (Int × ((List UInt8) × ((List ((Int × (UInt64 × (UInt64 × Unit))) × ((Int × (UInt64 × (UInt64 × Unit))) × ((Int × (UInt64 × (UInt64 × Unit))) × ((Int × (UInt64 × (UInt64 × Unit))) × (Int × (Int × ((List Int) × ((List Int) × Unit))))))))) × Unit)))) × Unit)) make_Codes_Rules_R) :=
  Option.bind (make_Codes_Next N (3 : Int) p0) fun y4 =>
  bif (decide (y4.1.1 = (2 : Int))) then
    Option.bind (make_Codes_Next N (3 : Int) y4.2.1) fun y6 =>
    bif inR y6.1.1 (([([103, 111, 108, 100] : List UInt8), ([115, 105, 108, 118, 101, 114] : List UInt8), ([120, 49] : List UInt8)] : List (List UInt8)).length) then
    make_Codes_Rules_6 N n_6 y6.2.1 out_5 (y4.1.1, (([([103, 111, 108, 100] : List UInt8), ([115, 105, 108, 118, 101, 114] : List UInt8), ([120, 49] : List UInt8)] : List (List UInt8)).getD y6.1.1.toNat ([] : List UInt8)), ([] : List ((Int × (UInt64 × (UInt64 × Unit))) × ((Int × (UInt64 × (UInt64 × Unit))) × ((Int × (UInt64 × (UInt64 × Unit))) × ((Int × (UInt64 × (UInt64 × Unit))) × (Int × (Int × ((List Int) × ((List Int) × Unit))))))))), ()) ([] : List ((Int × (UInt64 × (UInt64 × Unit))) × ((Int × (UInt64 × (UInt64 × Unit))) × ((Int × (UInt64 × (UInt64 × Unit))) × ((Int × (UInt64 × (UInt64 × Unit))) × (Int × (Int × ((List Int) × ((List Int) × Unit)))))))))
    else none
  else
    make_Codes_Rules_6 N n_6 y4.2.1 out_5 (y4.1.1, ([] : List UInt8), ([] : List ((Int × (UInt64 × (UInt64 × Unit))) × ((Int × (UInt64 × (UInt64 × Unit))) × ((Int × (UInt64 × (UInt64 × Unit))) × ((Int × (UInt64 × (UInt64 × Unit))) × (Int × (Int × ((List Int) × ((List Int) × Unit))))))))), ()) ([] : List ((Int × (UInt64 × (UInt64 × Unit))) × ((Int × (UInt64 × (UInt64 × Unit))) × ((Int × (UInt64 × (UInt64 × Unit))) × ((Int × (UInt64 × (UInt64 × Unit))) × (Int × (Int × ((List Int) × ((List Int) × Unit)))))))))
noncomputable def make_Codes_Rules_3 (N : Nat) (n_6 : Int) (p0 : ((List UInt8) × (Int × Unit))) (out_5 : (List (Int × ((List UInt8) × ((List ((Int × (UInt64 × (UInt64 × Unit))) × ((Int × (UInt64 × (UInt64 × Unit))) × ((Int × (UInt64 × (UInt64 × Unit))) × ((Int × (UInt64 × (UInt64 × Unit))) × (Int × (Int × ((List Int) × ((List Int) × Unit))))))))) × Unit))))) : Option (Lo ((Int × Unit) × (((List UInt8) × (Int × Unit)) × (List (Int × ((List UInt8) × ((List ((Int × (UInt64 × (UInt64 × Unit))) × ((Int × (UInt64 × (UInt64 × Unit))) × ((Int × (UInt64 × (UInt64 × Unit))) × ((Int × (UInt64 × (UInt64 × Unit))) × (Int × (Int × ((List Int) × ((List Int) × Unit))))))))) × Unit)))) × Unit)) ((Unit) × (((List UInt8) × (Int × Unit)) × (List (Int × ((List UInt8) × ((List ((Int × (UInt64 × (UInt64 × Unit))) × ((Int × (UInt64 × (UInt64 × Unit))) × ((Int × (UInt64 × (UInt64 × Unit))) × ((Int × (UInt64 × (UInt64 × Unit))) × (Int × (Int × ((List Int) × ((List Int) × Unit))))))))) × Unit)))) × Unit)) make_Codes_Rules_R) :=
  make_Codes_Rules_5 N n_6 p0 out_5
noncomputable def make_Codes_Rules_s2 (N : Nat) (n_6 : Int) (p0 : ((List UInt8) × (Int × Unit))) (out_5 : (List (Int × ((List UInt8) × ((List ((Int × (UInt64 × (UInt64 × Unit))) × ((Int × (UInt64 × (UInt64 × Unit))) × ((Int × (UInt64 × (UInt64 × Unit))) × ((Int × (UInt64 × (UInt64 × Unit))) × (Int × (Int × ((List Int) × ((List Int) × Unit))))))))) × Unit))))) : Option (Lo ((Int × Unit) × (((List UInt8) × (Int × Unit)) × (List (Int × ((List UInt8) × ((List ((Int × (UInt64 × (UInt64 × Unit))) × ((Int × (UInt64 × (UInt64 × Unit))) × ((Int × (UInt64 × (UInt64 × Unit))) × ((Int × (UInt64 × (UInt64 × Unit))) × (Int × (Int × ((List Int) × ((List Int) × Unit))))))))) × Unit)))) × Unit)) ((Unit) × (((List UInt8) × (Int × Unit)) × (List (Int × ((List UInt8) × ((List ((Int × (UInt64 × (UInt64 × Unit))) × ((Int × (UInt64 × (UInt64 × Unit))) × ((Int × (UInt64 × (UInt64 × Unit))) × ((Int × (UInt64 × (UInt64 × Unit))) × (Int × (Int × ((List Int) × ((List Int) × Unit))))))))) × Unit)))) × Unit)) make_Codes_Rules_R) :=
  bif (decide ((0 : Int) < n_6)) then
    make_Codes_Rules_3 N n_6 p0 out_5
  else
    some (.br ((()), (p0, out_5, ())))
noncomputable def make_Codes_Rules_11 (N : Nat) (p0 : ((List UInt8) × (Int × Unit))) (out_5 : (List (Int × ((List UInt8) × ((List ((Int × (UInt64 × (UInt64 × Unit))) × ((Int × (UInt64 × (UInt64 × Unit))) × ((Int × (UInt64 × (UInt64 × Unit))) × ((Int × (UInt64 × (UInt64 × Unit))) × (Int × (Int × ((List Int) × ((List Int) × Unit))))))))) × Unit))))) : Option make_Codes_Rules_R :=
  some ((()), (p0, out_5, ()))
noncomputable def make_Codes_Rules_1 (N : Nat) (n_6 : Int) (p0 : ((List UInt8) × (Int × Unit))) (out_5 : (List (Int × ((List UInt8) × ((List ((Int × (UInt64 × (UInt64 × Unit))) × ((Int × (UInt64 × (UInt64 × Unit))) × ((Int × (UInt64 × (UInt64 × Unit))) × ((Int × (UInt64 × (UInt64 × Unit))) × (Int × (Int × ((List Int) × ((List Int) × Unit))))))))) × Unit))))) : Option make_Codes_Rules_R :=
  loopK N (fun y => make_Codes_Rules_s2 N y.1.1 y.2.1 y.2.2.1) (fun (e : ((Unit) × (((List UInt8) × (Int × Unit)) × (List (Int × ((List UInt8) × ((List ((Int × (UInt64 × (UInt64 × Unit))) × ((Int × (UInt64 × (UInt64 × Unit))) × ((Int × (UInt64 × (UInt64 × Unit))) × ((Int × (UInt64 × (UInt64 × Unit))) × (Int × (Int × ((List Int) × ((List Int) × Unit))))))))) × Unit)))) × Unit))) => make_Codes_Rules_11 N e.2.1 e.2.2.1) ((n_6, ()), (p0, out_5, ()))
noncomputable def make_Codes_Rules (N : Nat) (most_1 : Int) (c_0 : ((List UInt8) × (Int × Unit))) : Option make_Codes_Rules_R :=
  Option.bind (make_Codes_Next N (w64 (most_1 + (1 : Int))) c_0) fun y2 =>
  make_Codes_Rules_1 N y2.1.1 y2.2.1 ([] : List (Int × ((List UInt8) × ((List ((Int × (UInt64 × (UInt64 × Unit))) × ((Int × (UInt64 × (UInt64 × Unit))) × ((Int × (UInt64 × (UInt64 × Unit))) × ((Int × (UInt64 × (UInt64 × Unit))) × (Int × (Int × ((List Int) × ((List Int) × Unit))))))))) × Unit))))
noncomputable def make_Codes_Rules_C (N : Nat) : Ctx := ⟨48, G_tys, [(36, make_Codes_Next_ctr N), (29, make_Codes_Box_ctr N)], G_globs⟩
noncomputable def make_Codes_Rules_S0 : Spec := ⟨[.ref 0 (.pair (.sl .u8) (.pair .i64 .unit)), .row 1, .val .i64, .ref 2 (.pair .i64 (.pair .str (.pair (.sl (.pair (.pair .i64 (.pair .u64 (.pair .u64 .unit))) (.pair (.pair .i64 (.pair .u64 (.pair .u64 .unit))) (.pair (.pair .i64 (.pair .u64 (.pair .u64 .unit))) (.pair (.pair .i64 (.pair .u64 (.pair .u64 .unit))) (.pair .i64 (.pair .i64 (.pair (.arr 2 .i64) (.pair (.arr 2 .i64) .unit))))))))) .unit))), .val .i64], [(.box 113 (.pair (.sl .u8) (.pair .i64 .unit)), .fix 0), (.row 60 (.pair .i64 (.pair .str (.pair (.sl (.pair (.pair .i64 (.pair .u64 (.pair .u64 .unit))) (.pair (.pair .i64 (.pair .u64 (.pair .u64 .unit))) (.pair (.pair .i64 (.pair .u64 (.pair .u64 .unit))) (.pair (.pair .i64 (.pair .u64 (.pair .u64 .unit))) (.pair .i64 (.pair .i64 (.pair (.arr 2 .i64) (.pair (.arr 2 .i64) .unit))))))))) .unit))), .pos 1), (.srow 60 (.pair .i64 (.pair .str (.pair (.sl (.pair (.pair .i64 (.pair .u64 (.pair .u64 .unit))) (.pair (.pair .i64 (.pair .u64 (.pair .u64 .unit))) (.pair (.pair .i64 (.pair .u64 (.pair .u64 .unit))) (.pair (.pair .i64 (.pair .u64 (.pair .u64 .unit))) (.pair .i64 (.pair .i64 (.pair (.arr 2 .i64) (.pair (.arr 2 .i64) .unit))))))))) .unit))) 2 3, .pos 3), (.row 46 (.pair (.pair .i64 (.pair .u64 (.pair .u64 .unit))) (.pair (.pair .i64 (.pair .u64 (.pair .u64 .unit))) (.pair (.pair .i64 (.pair .u64 (.pair .u64 .unit))) (.pair (.pair .i64 (.pair .u64 (.pair .u64 .unit))) (.pair .i64 (.pair .i64 (.pair (.arr 2 .i64) (.pair (.arr 2 .i64) .unit)))))))), .inn 2)]⟩
noncomputable def make_Codes_Rules_S1 : Spec := ⟨[.ref 0 (.pair (.sl .u8) (.pair .i64 .unit)), .row 1, .val .i64], [(.box 113 (.pair (.sl .u8) (.pair .i64 .unit)), .fix 0), (.row 60 (.pair .i64 (.pair .str (.pair (.sl (.pair (.pair .i64 (.pair .u64 (.pair .u64 .unit))) (.pair (.pair .i64 (.pair .u64 (.pair .u64 .unit))) (.pair (.pair .i64 (.pair .u64 (.pair .u64 .unit))) (.pair (.pair .i64 (.pair .u64 (.pair .u64 .unit))) (.pair .i64 (.pair .i64 (.pair (.arr 2 .i64) (.pair (.arr 2 .i64) .unit))))))))) .unit))), .pos 1)]⟩
noncomputable def make_Codes_Rules_S2 : Spec := ⟨[.ref 0 (.pair (.sl .u8) (.pair .i64 .unit)), .row 1, .val .i64, .ref 2 (.pair .i64 (.pair .str (.pair (.sl (.pair (.pair .i64 (.pair .u64 (.pair .u64 .unit))) (.pair (.pair .i64 (.pair .u64 (.pair .u64 .unit))) (.pair (.pair .i64 (.pair .u64 (.pair .u64 .unit))) (.pair (.pair .i64 (.pair .u64 (.pair .u64 .unit))) (.pair .i64 (.pair .i64 (.pair (.arr 2 .i64) (.pair (.arr 2 .i64) .unit))))))))) .unit)))], [(.box 113 (.pair (.sl .u8) (.pair .i64 .unit)), .fix 0), (.row 60 (.pair .i64 (.pair .str (.pair (.sl (.pair (.pair .i64 (.pair .u64 (.pair .u64 .unit))) (.pair (.pair .i64 (.pair .u64 (.pair .u64 .unit))) (.pair (.pair .i64 (.pair .u64 (.pair .u64 .unit))) (.pair (.pair .i64 (.pair .u64 (.pair .u64 .unit))) (.pair .i64 (.pair .i64 (.pair (.arr 2 .i64) (.pair (.arr 2 .i64) .unit))))))))) .unit))), .pos 1), (.srow 60 (.pair .i64 (.pair .str (.pair (.sl (.pair (.pair .i64 (.pair .u64 (.pair .u64 .unit))) (.pair (.pair .i64 (.pair .u64 (.pair .u64 .unit))) (.pair (.pair .i64 (.pair .u64 (.pair .u64 .unit))) (.pair (.pair .i64 (.pair .u64 (.pair .u64 .unit))) (.pair .i64 (.pair .i64 (.pair (.arr 2 .i64) (.pair (.arr 2 .i64) .unit))))))))) .unit))) 2 3, .pos 3), (.row 46 (.pair (.pair .i64 (.pair .u64 (.pair .u64 .unit))) (.pair (.pair .i64 (.pair .u64 (.pair .u64 .unit))) (.pair (.pair .i64 (.pair .u64 (.pair .u64 .unit))) (.pair (.pair .i64 (.pair .u64 (.pair .u64 .unit))) (.pair .i64 (.pair .i64 (.pair (.arr 2 .i64) (.pair (.arr 2 .i64) .unit)))))))), .inn 2)]⟩
noncomputable def make_Codes_Rules_S3 : Spec := ⟨[.row 1], [(.box 113 (.pair (.sl .u8) (.pair .i64 .unit)), .fix 0), (.row 60 (.pair .i64 (.pair .str (.pair (.sl (.pair (.pair .i64 (.pair .u64 (.pair .u64 .unit))) (.pair (.pair .i64 (.pair .u64 (.pair .u64 .unit))) (.pair (.pair .i64 (.pair .u64 (.pair .u64 .unit))) (.pair (.pair .i64 (.pair .u64 (.pair .u64 .unit))) (.pair .i64 (.pair .i64 (.pair (.arr 2 .i64) (.pair (.arr 2 .i64) .unit))))))))) .unit))), .pos 0)]⟩
noncomputable def make_Codes_Rules_S4 : Spec := ⟨[.ref 0 (.pair (.sl .u8) (.pair .i64 .unit)), .val .i64], [(.box 113 (.pair (.sl .u8) (.pair .i64 .unit)), .pos 0)]⟩
noncomputable def make_Codes_Rules_K (_N : Nat) : XE → GS → Option make_Codes_Rules_R := retK 1 [4] [false] make_Codes_Rules_S3
noncomputable def make_Codes_Rules_L : List Code := (bodyOf (some Try.f34))
noncomputable def make_Codes_Rules_L2 : List Code := (loopOf (make_Codes_Rules_L[3]?))
noncomputable def make_Codes_Rules_L4b : List Code := (blockOf (make_Codes_Rules_L2[2]?))
noncomputable def make_Codes_Rules_L8 : List Code := (loopOf (make_Codes_Rules_L4b[4]?))
noncomputable def make_Codes_Rules_K2 (N : Nat) : XE → GS → Option (Lo ((Int × Unit) × (((List UInt8) × (Int × Unit)) × (List (Int × ((List UInt8) × ((List ((Int × (UInt64 × (UInt64 × Unit))) × ((Int × (UInt64 × (UInt64 × Unit))) × ((Int × (UInt64 × (UInt64 × Unit))) × ((Int × (UInt64 × (UInt64 × Unit))) × (Int × (Int × ((List Int) × ((List Int) × Unit))))))))) × Unit)))) × Unit)) ((Unit) × (((List UInt8) × (Int × Unit)) × (List (Int × ((List UInt8) × ((List ((Int × (UInt64 × (UInt64 × Unit))) × ((Int × (UInt64 × (UInt64 × Unit))) × ((Int × (UInt64 × (UInt64 × Unit))) × ((Int × (UInt64 × (UInt64 × Unit))) × (Int × (Int × ((List Int) × ((List Int) × Unit))))))))) × Unit)))) × Unit)) make_Codes_Rules_R) := roundK (some 0) (fit 1 [0, 5, 6] make_Codes_Rules_S1) (fit 1 [5] make_Codes_Rules_S3) (make_Codes_Rules_K N)
noncomputable def make_Codes_Rules_K4 (N : Nat) : XE → GS → Option (Lo ((Int × Unit) × (((List UInt8) × (Int × Unit)) × (List (Int × ((List UInt8) × ((List ((Int × (UInt64 × (UInt64 × Unit))) × ((Int × (UInt64 × (UInt64 × Unit))) × ((Int × (UInt64 × (UInt64 × Unit))) × ((Int × (UInt64 × (UInt64 × Unit))) × (Int × (Int × ((List Int) × ((List Int) × Unit))))))))) × Unit)))) × Unit)) ((Unit) × (((List UInt8) × (Int × Unit)) × (List (Int × ((List UInt8) × ((List ((Int × (UInt64 × (UInt64 × Unit))) × ((Int × (UInt64 × (UInt64 × Unit))) × ((Int × (UInt64 × (UInt64 × Unit))) × ((Int × (UInt64 × (UInt64 × Unit))) × (Int × (Int × ((List Int) × ((List Int) × Unit))))))))) × Unit)))) × Unit)) make_Codes_Rules_R) := blockK 1 (goK 1 [0, 5, 6] make_Codes_Rules_S1 (fun y => make_Codes_Rules_10 N y.1.1 y.2.1 y.2.2.1)) (make_Codes_Rules_K2 N)
noncomputable def make_Codes_Rules_K8 (N : Nat) : XE → GS → Option (Lo ((Int × Int × Unit) × (((List UInt8) × (Int × Unit)) × (List (Int × ((List UInt8) × ((List ((Int × (UInt64 × (UInt64 × Unit))) × ((Int × (UInt64 × (UInt64 × Unit))) × ((Int × (UInt64 × (UInt64 × Unit))) × ((Int × (UInt64 × (UInt64 × Unit))) × (Int × (Int × ((List Int) × ((List Int) × Unit))))))))) × Unit)))) × (Int × ((List UInt8) × ((List ((Int × (UInt64 × (UInt64 × Unit))) × ((Int × (UInt64 × (UInt64 × Unit))) × ((Int × (UInt64 × (UInt64 × Unit))) × ((Int × (UInt64 × (UInt64 × Unit))) × (Int × (Int × ((List Int) × ((List Int) × Unit))))))))) × Unit))) × (List ((Int × (UInt64 × (UInt64 × Unit))) × ((Int × (UInt64 × (UInt64 × Unit))) × ((Int × (UInt64 × (UInt64 × Unit))) × ((Int × (UInt64 × (UInt64 × Unit))) × (Int × (Int × ((List Int) × ((List Int) × Unit))))))))) × Unit)) ((Int × Unit) × (((List UInt8) × (Int × Unit)) × (List (Int × ((List UInt8) × ((List ((Int × (UInt64 × (UInt64 × Unit))) × ((Int × (UInt64 × (UInt64 × Unit))) × ((Int × (UInt64 × (UInt64 × Unit))) × ((Int × (UInt64 × (UInt64 × Unit))) × (Int × (Int × ((List Int) × ((List Int) × Unit))))))))) × Unit)))) × (Int × ((List UInt8) × ((List ((Int × (UInt64 × (UInt64 × Unit))) × ((Int × (UInt64 × (UInt64 × Unit))) × ((Int × (UInt64 × (UInt64 × Unit))) × ((Int × (UInt64 × (UInt64 × Unit))) × (Int × (Int × ((List Int) × ((List Int) × Unit))))))))) × Unit))) × (List ((Int × (UInt64 × (UInt64 × Unit))) × ((Int × (UInt64 × (UInt64 × Unit))) × ((Int × (UInt64 × (UInt64 × Unit))) × ((Int × (UInt64 × (UInt64 × Unit))) × (Int × (Int × ((List Int) × ((List Int) × Unit))))))))) × Unit)) (Lo ((Int × Unit) × (((List UInt8) × (Int × Unit)) × (List (Int × ((List UInt8) × ((List ((Int × (UInt64 × (UInt64 × Unit))) × ((Int × (UInt64 × (UInt64 × Unit))) × ((Int × (UInt64 × (UInt64 × Unit))) × ((Int × (UInt64 × (UInt64 × Unit))) × (Int × (Int × ((List Int) × ((List Int) × Unit))))))))) × Unit)))) × Unit)) ((Unit) × (((List UInt8) × (Int × Unit)) × (List (Int × ((List UInt8) × ((List ((Int × (UInt64 × (UInt64 × Unit))) × ((Int × (UInt64 × (UInt64 × Unit))) × ((Int × (UInt64 × (UInt64 × Unit))) × ((Int × (UInt64 × (UInt64 × Unit))) × (Int × (Int × ((List Int) × ((List Int) × Unit))))))))) × Unit)))) × Unit)) make_Codes_Rules_R)) := roundK (some 2) (fit 1 [0, 5, 6, 7, 8] make_Codes_Rules_S0) (fit 1 [0, 5, 6, 7] make_Codes_Rules_S2) (make_Codes_Rules_K4 N)
theorem make_Codes_Rules_s8_b {E : Env} (N : Nat) (hb : Base Try.prog (make_Codes_Rules_C N) E 1) : Blk Try.prog (make_Codes_Rules_C N) E [0, 5, 6, 7, 8] make_Codes_Rules_S0 (make_Codes_Rules_L8.drop 0) (fun y => make_Codes_Rules_s8 N y.1.1 y.1.2.1 y.2.1 y.2.2.1 y.2.2.2.1 y.2.2.2.2.1) (make_Codes_Rules_K8 N) :=
  Blk.chunkAt hb 4 (X := (make_Codes_Rules_K8 N .normal)) (NxOk.end (by kernel_rfl)) rfl (fun x => by kernel_rfl)
theorem make_Codes_Rules_10_b {E : Env} (N : Nat) (hb : Base Try.prog (make_Codes_Rules_C N) E 1) : Blk Try.prog (make_Codes_Rules_C N) E [0, 5, 6] make_Codes_Rules_S1 (make_Codes_Rules_L2.drop 3) (fun y => make_Codes_Rules_10 N y.1.1 y.2.1 y.2.2.1) (make_Codes_Rules_K2 N) :=
  Blk.chunkAt hb 1 (X := (make_Codes_Rules_K2 N .normal)) (NxOk.end (by kernel_rfl)) rfl (fun x => by kernel_rfl)
theorem make_Codes_Rules_9_b {E : Env} (N : Nat) (hb : Base Try.prog (make_Codes_Rules_C N) E 1) : Blk Try.prog (make_Codes_Rules_C N) E [0, 5, 6, 7] make_Codes_Rules_S2 (make_Codes_Rules_L4b.drop 5) (fun y => make_Codes_Rules_9 N y.1.1 y.2.1 y.2.2.1 y.2.2.2.1 y.2.2.2.2.1) (make_Codes_Rules_K4 N) :=
  Blk.chunkAt hb 1 (X := (make_Codes_Rules_K4 N .normal)) (NxOk.end (by kernel_rfl)) rfl (fun x => by kernel_rfl)
theorem make_Codes_Rules_7_b {E : Env} (N : Nat) (hb : Base Try.prog (make_Codes_Rules_C N) E 1) : Blk Try.prog (make_Codes_Rules_C N) E [0, 5, 6, 7, 8] make_Codes_Rules_S0 (make_Codes_Rules_L4b.drop 4) (fun y => make_Codes_Rules_7 N y.1.1 y.1.2.1 y.2.1 y.2.2.1 y.2.2.2.1 y.2.2.2.2.1) (make_Codes_Rules_K4 N) :=
  Blk.loopAt (Nf := N) (hns := [0, 5, 6, 7, 8]) (ans := [0, 5, 6, 7]) (hc := make_Codes_Rules_S0) (ac := make_Codes_Rules_S2) (bid := 2) (step := (fun y => make_Codes_Rules_s8 N y.1.1 y.1.2.1 y.2.1 y.2.2.1 y.2.2.2.1 y.2.2.2.2.1)) (J := (fun e => (goK 1 [0, 5, 6, 7] make_Codes_Rules_S2 (fun y => make_Codes_Rules_9 N y.1.1 y.2.1 y.2.2.1 y.2.2.2.1 y.2.2.2.2.1)) (make_Codes_Rules_S2.st [0, 5, 6, 7] e))) hb (by kernel_rfl) (Blk.into (X := (goK 1 [0, 5, 6, 7] make_Codes_Rules_S2 (fun y => make_Codes_Rules_9 N y.1.1 y.2.1 y.2.2.1 y.2.2.2.1 y.2.2.2.2.1))) (NxOk.go hb (make_Codes_Rules_9_b N hb)) (fun x => by kernel_rfl)) (make_Codes_Rules_s8_b N hb) (fun x => by kernel_rfl)
theorem make_Codes_Rules_6_b {E : Env} (N : Nat) (hb : Base Try.prog (make_Codes_Rules_C N) E 1) : Blk Try.prog (make_Codes_Rules_C N) E [0, 5, 6, 7] make_Codes_Rules_S2 (make_Codes_Rules_L4b.drop 3) (fun y => make_Codes_Rules_6 N y.1.1 y.2.1 y.2.2.1 y.2.2.2.1 y.2.2.2.2.1) (make_Codes_Rules_K4 N) :=
  Blk.chunkAt hb 1 (X := (goK 1 [0, 5, 6, 7, 8] make_Codes_Rules_S0 (fun y => make_Codes_Rules_7 N y.1.1 y.1.2.1 y.2.1 y.2.2.1 y.2.2.2.1 y.2.2.2.2.1))) (NxOk.go hb (make_Codes_Rules_7_b N hb)) rfl (fun x => by kernel_rfl)
theorem make_Codes_Rules_5_b {E : Env} (N : Nat) (hb : Base Try.prog (make_Codes_Rules_C N) E 1) : Blk Try.prog (make_Codes_Rules_C N) E [0, 5, 6] make_Codes_Rules_S1 (make_Codes_Rules_L4b.drop 0) (fun y => make_Codes_Rules_5 N y.1.1 y.2.1 y.2.2.1) (make_Codes_Rules_K4 N) :=
  Blk.chunkAt hb 3 (X := (goK 1 [0, 5, 6, 7] make_Codes_Rules_S2 (fun y => make_Codes_Rules_6 N y.1.1 y.2.1 y.2.2.1 y.2.2.2.1 y.2.2.2.2.1))) (NxOk.go hb (make_Codes_Rules_6_b N hb)) rfl (fun x => by kernel_rfl)
theorem make_Codes_Rules_3_b {E : Env} (N : Nat) (hb : Base Try.prog (make_Codes_Rules_C N) E 1) : Blk Try.prog (make_Codes_Rules_C N) E [0, 5, 6] make_Codes_Rules_S1 (make_Codes_Rules_L2.drop 2) (fun y => make_Codes_Rules_3 N y.1.1 y.2.1 y.2.2.1) (make_Codes_Rules_K2 N) :=
  Blk.blockAt (bid := 1) (X := (goK 1 [0, 5, 6] make_Codes_Rules_S1 (fun y => make_Codes_Rules_10 N y.1.1 y.2.1 y.2.2.1))) (Y := (goK 1 [0, 5, 6] make_Codes_Rules_S1 (fun y => make_Codes_Rules_5 N y.1.1 y.2.1 y.2.2.1))) (by kernel_rfl) (NxOk.go hb (make_Codes_Rules_10_b N hb)) (NxOk.go hb (make_Codes_Rules_5_b N hb)) (fun x => by kernel_rfl)
theorem make_Codes_Rules_s2_b {E : Env} (N : Nat) (hb : Base Try.prog (make_Codes_Rules_C N) E 1) : Blk Try.prog (make_Codes_Rules_C N) E [0, 5, 6] make_Codes_Rules_S1 (make_Codes_Rules_L2.drop 0) (fun y => make_Codes_Rules_s2 N y.1.1 y.2.1 y.2.2.1) (make_Codes_Rules_K2 N) :=
  Blk.chunkAt hb 2 (X := (goK 1 [0, 5, 6] make_Codes_Rules_S1 (fun y => make_Codes_Rules_3 N y.1.1 y.2.1 y.2.2.1))) (NxOk.go hb (make_Codes_Rules_3_b N hb)) rfl (fun x => by kernel_rfl)
theorem make_Codes_Rules_11_b {E : Env} (N : Nat) (hb : Base Try.prog (make_Codes_Rules_C N) E 1) : Blk Try.prog (make_Codes_Rules_C N) E [5] make_Codes_Rules_S3 (make_Codes_Rules_L.drop 4) (fun y => make_Codes_Rules_11 N y.2.1 y.2.2.1) (make_Codes_Rules_K N) :=
  Blk.chunkAt hb 2 (X := (make_Codes_Rules_K N .normal)) (NxOk.end (by kernel_rfl)) rfl (fun x => by kernel_rfl)
theorem make_Codes_Rules_1_b {E : Env} (N : Nat) (hb : Base Try.prog (make_Codes_Rules_C N) E 1) : Blk Try.prog (make_Codes_Rules_C N) E [0, 5, 6] make_Codes_Rules_S1 (make_Codes_Rules_L.drop 3) (fun y => make_Codes_Rules_1 N y.1.1 y.2.1 y.2.2.1) (make_Codes_Rules_K N) :=
  Blk.loopAt (Nf := N) (hns := [0, 5, 6]) (ans := [5]) (hc := make_Codes_Rules_S1) (ac := make_Codes_Rules_S3) (bid := 0) (step := (fun y => make_Codes_Rules_s2 N y.1.1 y.2.1 y.2.2.1)) (J := (fun e => (goK 1 [5] make_Codes_Rules_S3 (fun y => make_Codes_Rules_11 N y.2.1 y.2.2.1)) (make_Codes_Rules_S3.st [5] e))) hb (by kernel_rfl) (Blk.into (X := (goK 1 [5] make_Codes_Rules_S3 (fun y => make_Codes_Rules_11 N y.2.1 y.2.2.1))) (NxOk.go hb (make_Codes_Rules_11_b N hb)) (fun x => by kernel_rfl)) (make_Codes_Rules_s2_b N hb) (fun x => by kernel_rfl)
theorem make_Codes_Rules_b {E : Env} (N : Nat) (hb : Base Try.prog (make_Codes_Rules_C N) E 1) : Blk Try.prog (make_Codes_Rules_C N) E (List.range make_Codes_Rules_S4.ks.length) make_Codes_Rules_S4 (make_Codes_Rules_L.drop 0) (fun y => make_Codes_Rules N y.1.1 y.2.1) (make_Codes_Rules_K N) :=
  Blk.chunkAt hb 3 (X := (goK 1 [0, 5, 6] make_Codes_Rules_S1 (fun y => make_Codes_Rules_1 N y.1.1 y.2.1 y.2.2.1))) (NxOk.go hb (make_Codes_Rules_1_b N hb)) rfl (fun x => by kernel_rfl)
noncomputable def make_Codes_Rules_ctr (N : Nat) : Ctr := ⟨make_Codes_Rules_S4, make_Codes_Rules_S3.un [false], 1, (fun y => make_Codes_Rules N y.1.1 y.2.1)⟩
theorem make_Codes_Rules_ctrs (N : Nat) : CtrsOk Try.prog (make_Codes_Rules_C N) := ctrs_of (Γ := make_Codes_Rules_C N) (by
  intro p hp
  simp only [make_Codes_Rules_C, List.mem_cons, List.not_mem_nil, or_false] at hp
  rcases hp with rfl | rfl
  · exact make_Codes_Next_ok N
  · exact make_Codes_Box_ok N)
theorem make_Codes_Rules_ok (N : Nat) : Ctr.ok Try.prog G_globs 34 (make_Codes_Rules_ctr N) :=
  ctr_fn (Γ := make_Codes_Rules_C N) (rfit := make_Codes_Rules_S3) (bs := [false]) (res := [4]) (by kernel_rfl) (tys_ok G_tys_ok) (make_Codes_Rules_ctrs N) Try.func34 (by kernel_rfl) (by kernel_rfl) Try.ntmps34 (by kernel_rfl) (by kernel_rfl) (by kernel_rfl) (by kernel_rfl) (fun E hb => make_Codes_Rules_b N hb)
end Go.Proofs.Ytgbkkfpheahdfaa
namespace Go.Proofs.Ytgbkkfpheahdfaa
open Go
set_option maxRecDepth 100000
set_option linter.unusedVariables false
/-! (*ipsecgate/ipsecgatemake.Codes).port -/
abbrev make_Codes_port_R : Type := ((Int × Unit) × (((List UInt8) × (Int × Unit)) × Unit))
noncomputable def make_Codes_port (N : Nat) (c_0 : ((List UInt8) × (Int × Unit))) : Option make_Codes_port_R :=
  Option.bind (make_Codes_Next N (5 : Int) c_0) fun y1 =>
  bif inR y1.1.1 (([(0 : Int), (80 : Int), (443 : Int), (65530 : Int), (1 : Int)] : List Int).length) then
  Option.bind (make_Codes_Next N (6 : Int) y1.2.1) fun y3 =>
  some (((w64 ((([(0 : Int), (80 : Int), (443 : Int), (65530 : Int), (1 : Int)] : List Int).getD y1.1.1.toNat (0 : Int)) + y3.1.1)), ()), (y3.2.1, ()))
  else none
noncomputable def make_Codes_port_C (N : Nat) : Ctx := ⟨11, G_tys, [(36, make_Codes_Next_ctr N)], G_globs⟩
noncomputable def make_Codes_port_S0 : Spec := ⟨[.ref 0 (.pair (.sl .u8) (.pair .i64 .unit))], [(.box 113 (.pair (.sl .u8) (.pair .i64 .unit)), .pos 0)]⟩
noncomputable def make_Codes_port_S1 : Spec := ⟨[.val .i64], [(.box 113 (.pair (.sl .u8) (.pair .i64 .unit)), .fix 0)]⟩
noncomputable def make_Codes_port_K (_N : Nat) : XE → GS → Option make_Codes_port_R := retK 1 [2] [false] make_Codes_port_S1
noncomputable def make_Codes_port_L : List Code := (bodyOf (some Try.f85))
theorem make_Codes_port_b {E : Env} (N : Nat) (hb : Base Try.prog (make_Codes_port_C N) E 1) : Blk Try.prog (make_Codes_port_C N) E (List.range make_Codes_port_S0.ks.length) make_Codes_port_S0 (make_Codes_port_L.drop 0) (fun y => make_Codes_port N y.2.1) (make_Codes_port_K N) :=
  Blk.chunkAt hb 3 (X := (make_Codes_port_K N .normal)) (NxOk.end (by kernel_rfl)) rfl (fun x => by kernel_rfl)
noncomputable def make_Codes_port_ctr (N : Nat) : Ctr := ⟨make_Codes_port_S0, make_Codes_port_S1.un [false], 1, (fun y => make_Codes_port N y.2.1)⟩
theorem make_Codes_port_ctrs (N : Nat) : CtrsOk Try.prog (make_Codes_port_C N) := ctrs_of (Γ := make_Codes_port_C N) (by
  intro p hp
  simp only [make_Codes_port_C, List.mem_cons, List.not_mem_nil, or_false] at hp
  rcases hp with rfl
  · exact make_Codes_Next_ok N)
theorem make_Codes_port_ok (N : Nat) : Ctr.ok Try.prog G_globs 85 (make_Codes_port_ctr N) :=
  ctr_fn (Γ := make_Codes_port_C N) (rfit := make_Codes_port_S1) (bs := [false]) (res := [2]) (by kernel_rfl) (tys_ok G_tys_ok) (make_Codes_port_ctrs N) Try.func85 (by kernel_rfl) (by kernel_rfl) Try.ntmps85 (by kernel_rfl) (by kernel_rfl) (by kernel_rfl) (by kernel_rfl) (fun E hb => make_Codes_port_b N hb)
end Go.Proofs.Ytgbkkfpheahdfaa
namespace Go.Proofs.Ytgbkkfpheahdfaa
open Go
set_option maxRecDepth 100000
set_option linter.unusedVariables false
/-! (*ipsecgate/ipsecgatemake.Codes).Packet -/
abbrev make_Codes_Packet_R : Type := ((((Int × (UInt64 × (UInt64 × Unit))) × ((Int × (UInt64 × (UInt64 × Unit))) × (Int × (Int × (Int × Unit))))) × Unit) × (((List UInt8) × (Int × Unit)) × Unit))
noncomputable def make_Codes_Packet_1 (N : Nat) (family_3 : Int) (p0 : ((List UInt8) × (Int × Unit))) (t_2 : ((Int × (UInt64 × (UInt64 × Unit))) × ((Int × (UInt64 × (UInt64 × Unit))) × (Int × (Int × (Int × Unit)))))) : Option make_Codes_Packet_R :=
  Option.bind (make_Codes_Address N family_3 p0) fun y3 =>
  Option.bind (make_Codes_Address N family_3 y3.2.1) fun y4 =>
  Option.bind (make_Codes_Next N (8 : Int) y4.2.1) fun y5 =>
  bif inR y5.1.1 (([(6 : Int), (17 : Int), (1 : Int), (58 : Int), (0 : Int), (255 : Int), (8 : Int), (3 : Int)] : List Int).length) then
  let x6 := (([(6 : Int), (17 : Int), (1 : Int), (58 : Int), (0 : Int), (255 : Int), (8 : Int), (3 : Int)] : List Int).getD y5.1.1.toNat (0 : Int))
  Option.bind (make_Codes_Next N (4 : Int) y5.2.1) fun y7 =>
  bif (decide (y7.1.1 = (0 : Int))) then
    some (((y3.1.1, y4.1.1, x6, (-1 : Int), (-1 : Int), ()), ()), (y7.2.1, ()))
  else
    bif (decide (y7.1.1 = (1 : Int))) then
      Option.bind (make_Codes_port N y7.2.1) fun y10 =>
      some (((y3.1.1, y4.1.1, x6, y10.1.1, (-1 : Int), ()), ()), (y10.2.1, ()))
    else
      Option.bind (make_Codes_port N y7.2.1) fun y11 =>
      Option.bind (make_Codes_port N y11.2.1) fun y12 =>
      some (((y3.1.1, y4.1.1, x6, y11.1.1, y12.1.1, ()), ()), (y12.2.1, ()))
  else none
noncomputable def make_Codes_Packet (N : Nat) (c_0 : ((List UInt8) × (Int × Unit))) : Option make_Codes_Packet_R :=
  Option.bind (make_Codes_Next N (4 : Int) c_0) fun y1 =>
  bif (decide (y1.1.1 = (3 : Int))) then
    make_Codes_Packet_1 N (6 : Int) y1.2.1 (((0 : Int), (0 : UInt64), (0 : UInt64), ()), ((0 : Int), (0 : UInt64), (0 : UInt64), ()), (0 : Int), (0 : Int), (0 : Int), ())
  else
    make_Codes_Packet_1 N (4 : Int) y1.2.1 (((0 : Int), (0 : UInt64), (0 : UInt64), ()), ((0 : Int), (0 : UInt64), (0 : UInt64), ()), (0 : Int), (0 : Int), (0 : Int), ())
noncomputable def make_Codes_Packet_C (N : Nat) : Ctx := ⟨38, G_tys, [(36, make_Codes_Next_ctr N), (55, make_Codes_Address_ctr N), (85, make_Codes_port_ctr N)], G_globs⟩
noncomputable def make_Codes_Packet_S0 : Spec := ⟨[.ref 0 (.pair (.sl .u8) (.pair .i64 .unit)), .ref 1 (.pair (.pair .i64 (.pair .u64 (.pair .u64 .unit))) (.pair (.pair .i64 (.pair .u64 (.pair .u64 .unit))) (.pair .i64 (.pair .i64 (.pair .i64 .unit))))), .val .i64], [(.box 113 (.pair (.sl .u8) (.pair .i64 .unit)), .fix 0), (.box 30 (.pair (.pair .i64 (.pair .u64 (.pair .u64 .unit))) (.pair (.pair .i64 (.pair .u64 (.pair .u64 .unit))) (.pair .i64 (.pair .i64 (.pair .i64 .unit))))), .pos 1)]⟩
noncomputable def make_Codes_Packet_S1 : Spec := ⟨[.ref 0 (.pair (.sl .u8) (.pair .i64 .unit))], [(.box 113 (.pair (.sl .u8) (.pair .i64 .unit)), .pos 0)]⟩
noncomputable def make_Codes_Packet_S2 : Spec := ⟨[.fp (.pair (.pair .i64 (.pair .u64 (.pair .u64 .unit))) (.pair (.pair .i64 (.pair .u64 (.pair .u64 .unit))) (.pair .i64 (.pair .i64 (.pair .i64 .unit)))))], [(.box 113 (.pair (.sl .u8) (.pair .i64 .unit)), .fix 0)]⟩
noncomputable def make_Codes_Packet_K (_N : Nat) : XE → GS → Option make_Codes_Packet_R := retK 1 [2] [true] make_Codes_Packet_S2
noncomputable def make_Codes_Packet_L : List Code := (bodyOf (some Try.f35))
theorem make_Codes_Packet_1_b {E : Env} (N : Nat) (hb : Base Try.prog (make_Codes_Packet_C N) E 1) : Blk Try.prog (make_Codes_Packet_C N) E [0, 2, 3] make_Codes_Packet_S0 (make_Codes_Packet_L.drop 4) (fun y => make_Codes_Packet_1 N y.1.1 y.2.1 y.2.2.1) (make_Codes_Packet_K N) :=
  Blk.chunkAt hb 6 (X := (make_Codes_Packet_K N .normal)) (NxOk.end (by kernel_rfl)) rfl (fun x => by kernel_rfl)
theorem make_Codes_Packet_b {E : Env} (N : Nat) (hb : Base Try.prog (make_Codes_Packet_C N) E 1) : Blk Try.prog (make_Codes_Packet_C N) E (List.range make_Codes_Packet_S1.ks.length) make_Codes_Packet_S1 (make_Codes_Packet_L.drop 0) (fun y => make_Codes_Packet N y.2.1) (make_Codes_Packet_K N) :=
  Blk.chunkAt hb 4 (X := (goK 1 [0, 2, 3] make_Codes_Packet_S0 (fun y => make_Codes_Packet_1 N y.1.1 y.2.1 y.2.2.1))) (NxOk.go hb (make_Codes_Packet_1_b N hb)) rfl (fun x => by kernel_rfl)
noncomputable def make_Codes_Packet_ctr (N : Nat) : Ctr := ⟨make_Codes_Packet_S1, make_Codes_Packet_S2.un [true], 1, (fun y => make_Codes_Packet N y.2.1)⟩
theorem make_Codes_Packet_ctrs (N : Nat) : CtrsOk Try.prog (make_Codes_Packet_C N) := ctrs_of (Γ := make_Codes_Packet_C N) (by
  intro p hp
  simp only [make_Codes_Packet_C, List.mem_cons, List.not_mem_nil, or_false] at hp
  rcases hp with rfl | rfl | rfl
  · exact make_Codes_Next_ok N
  · exact make_Codes_Address_ok N
  · exact make_Codes_port_ok N)
theorem make_Codes_Packet_ok (N : Nat) : Ctr.ok Try.prog G_globs 35 (make_Codes_Packet_ctr N) :=
  ctr_fn (Γ := make_Codes_Packet_C N) (rfit := make_Codes_Packet_S2) (bs := [true]) (res := [2]) (by kernel_rfl) (tys_ok G_tys_ok) (make_Codes_Packet_ctrs N) Try.func35 (by kernel_rfl) (by kernel_rfl) Try.ntmps35 (by kernel_rfl) (by kernel_rfl) (by kernel_rfl) (by kernel_rfl) (fun E hb => make_Codes_Packet_b N hb)
end Go.Proofs.Ytgbkkfpheahdfaa