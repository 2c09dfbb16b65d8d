/- Functions of the program as plain functions, each with the proof that the text computes it. -/
import Derived.Test.YtgbkkfpheahdfaaGmRule
import Derived.Test.YtgbkkfpheahdfaaProg
set_option linter.unusedVariables false
set_option linter.unusedSimpArgs false
namespace Go.Proofs.Ytgbkkfpheahdfaa
open Go
set_option maxRecDepth 100000
set_option linter.unusedVariables false
noncomputable def G_tys : List (Nat × TI) := [(2, ⟨.i64, 8, 0, false⟩), (3, ⟨.i64, 8, 0, false⟩), (4, ⟨.bool, 1, 0, false⟩), (5, ⟨.u8, 1, 0, false⟩), (6, ⟨.u8, 1, 0, false⟩), (7, ⟨(.pair .i64 (.pair .i64 (.pair .bool (.pair .u8 .unit)))), 24, 0, false⟩), (8, ⟨(.pair .i64 (.pair .i64 (.pair .bool (.pair .u8 .unit)))), 24, 0, false⟩), (9, ⟨.str, 16, 0, false⟩), (10, ⟨.str, 16, 0, false⟩), (11, ⟨.str, 16, 0, false⟩), (12, ⟨.u64, 8, 0, false⟩), (13, ⟨(.pair .str (.pair .u64 .unit)), 24, 0, false⟩), (14, ⟨(.pair .str (.pair .u64 .unit)), 24, 0, false⟩), (22, ⟨(.sl .u8), 24, 5, false⟩), (26, ⟨.u64, 8, 0, false⟩), (27, ⟨(.pair .i64 (.pair .u64 (.pair .u64 .unit))), 24, 0, false⟩), (28, ⟨(.pair .i64 (.pair .u64 (.pair .u64 .unit))), 24, 0, true⟩), (29, ⟨(.pair (.pair .i64 (.pair .u64 (.pair .u64 .unit))) (.pair (.pair .i64 (.pair .u64 (.pair .u64 .unit))) (.pair .i64 (.pair .i64 (.pair .i64 .unit))))), 72, 0, false⟩), (30, ⟨(.pair (.pair .i64 (.pair .u64 (.pair .u64 .unit))) (.pair (.pair .i64 (.pair .u64 (.pair .u64 .unit))) (.pair .i64 (.pair .i64 (.pair .i64 .unit))))), 72, 0, false⟩), (35, ⟨(.sl .i64), 24, 3, false⟩), (36, ⟨(.sl (.pair (.pair .i64 (.pair .u64 (.pair .u64 .unit))) (.pair (.pair .i64 (.pair .u64 (.pair .u64 .unit))) (.pair .i64 (.pair .i64 (.pair .bool (.pair (.sl .u8) .unit))))))), 24, 98, false⟩), (37, ⟨.i64, 8, 0, false⟩), (44, ⟨(.arr 2 .i64), 16, 3, true⟩), (45, ⟨(.pair (.pair .i64 (.pair .u64 (.pair .u64 .unit))) (.pair (.pair .i64 (.pair .u64 (.pair .u64 .unit))) (.pair (.pair .i64 (.pair .u64 (.pair .u64 .unit))) (.pair (.pair .i64 (.pair .u64 (.pair .u64 .unit))) (.pair .i64 (.pair .i64 (.pair (.arr 2 .i64) (.pair (.arr 2 .i64) .unit)))))))), 144, 0, false⟩), (46, ⟨(.pair (.pair .i64 (.pair .u64 (.pair .u64 .unit))) (.pair (.pair .i64 (.pair .u64 (.pair .u64 .unit))) (.pair (.pair .i64 (.pair .u64 (.pair .u64 .unit))) (.pair (.pair .i64 (.pair .u64 (.pair .u64 .unit))) (.pair .i64 (.pair .i64 (.pair (.arr 2 .i64) (.pair (.arr 2 .i64) .unit)))))))), 144, 0, true⟩), (48, ⟨(.sl (.pair (.pair .i64 (.pair .u64 (.pair .u64 .unit))) (.pair (.pair .i64 (.pair .u64 (.pair .u64 .unit))) (.pair (.pair .i64 (.pair .u64 (.pair .u64 .unit))) (.pair (.pair .i64 (.pair .u64 (.pair .u64 .unit))) (.pair .i64 (.pair .i64 (.pair (.arr 2 .i64) (.pair (.arr 2 .i64) .unit))))))))), 24, 46, false⟩), (54, ⟨(.sl (.pair .i64 (.pair .str (.pair (.sl (.pair (.pair .i64 (.pair .u64 (.pair .u64 .unit))) (.pair (.pair .i64 (.pair .u64 (.pair .u64 .unit))) (.pair (.pair .i64 (.pair .u64 (.pair .u64 .unit))) (.pair (.pair .i64 (.pair .u64 (.pair .u64 .unit))) (.pair .i64 (.pair .i64 (.pair (.arr 2 .i64) (.pair (.arr 2 .i64) .unit))))))))) .unit)))), 24, 60, false⟩), (59, ⟨(.pair .i64 (.pair .str (.pair (.sl (.pair (.pair .i64 (.pair .u64 (.pair .u64 .unit))) (.pair (.pair .i64 (.pair .u64 (.pair .u64 .unit))) (.pair (.pair .i64 (.pair .u64 (.pair .u64 .unit))) (.pair (.pair .i64 (.pair .u64 (.pair .u64 .unit))) (.pair .i64 (.pair .i64 (.pair (.arr 2 .i64) (.pair (.arr 2 .i64) .unit))))))))) .unit))), 48, 0, false⟩), (60, ⟨(.pair .i64 (.pair .str (.pair (.sl (.pair (.pair .i64 (.pair .u64 (.pair .u64 .unit))) (.pair (.pair .i64 (.pair .u64 (.pair .u64 .unit))) (.pair (.pair .i64 (.pair .u64 (.pair .u64 .unit))) (.pair (.pair .i64 (.pair .u64 (.pair .u64 .unit))) (.pair .i64 (.pair .i64 (.pair (.arr 2 .i64) (.pair (.arr 2 .i64) .unit))))))))) .unit))), 48, 0, false⟩), (65, ⟨(.sl (.pair (.pair (.pair .i64 (.pair .u64 (.pair .u64 .unit))) (.pair (.pair .i64 (.pair .u64 (.pair .u64 .unit))) (.pair (.pair .i64 (.pair .u64 (.pair .u64 .unit))) (.pair (.pair .i64 (.pair .u64 (.pair .u64 .unit))) (.pair .i64 (.pair .i64 (.pair (.arr 2 .i64) (.pair (.arr 2 .i64) .unit)))))))) (.pair .i64 .unit))), 24, 86, false⟩), (68, ⟨(.sl (.pair (.pair .i64 (.pair .u64 (.pair .u64 .unit))) (.pair (.pair .i64 (.pair .u64 (.pair .u64 .unit))) (.pair .i64 (.pair .i64 (.pair .i64 .unit)))))), 24, 30, false⟩), (71, ⟨(.arr 2 (.pair (.pair .i64 (.pair .u64 (.pair .u64 .unit))) (.pair (.pair .i64 (.pair .u64 (.pair .u64 .unit))) (.pair (.pair .i64 (.pair .u64 (.pair .u64 .unit))) (.pair (.pair .i64 (.pair .u64 (.pair .u64 .unit))) (.pair .i64 (.pair .i64 (.pair (.arr 2 .i64) (.pair (.arr 2 .i64) .unit))))))))), 288, 46, false⟩), (72, ⟨(.sl (.arr 2 (.pair (.pair .i64 (.pair .u64 (.pair .u64 .unit))) (.pair (.pair .i64 (.pair .u64 (.pair .u64 .unit))) (.pair (.pair .i64 (.pair .u64 (.pair .u64 .unit))) (.pair (.pair .i64 (.pair .u64 (.pair .u64 .unit))) (.pair .i64 (.pair .i64 (.pair (.arr 2 .i64) (.pair (.arr 2 .i64) .unit)))))))))), 24, 71, false⟩), (81, ⟨(.sl (.sl .u8)), 24, 22, false⟩), (85, ⟨(.pair (.pair (.pair .i64 (.pair .u64 (.pair .u64 .unit))) (.pair (.pair .i64 (.pair .u64 (.pair .u64 .unit))) (.pair (.pair .i64 (.pair .u64 (.pair .u64 .unit))) (.pair (.pair .i64 (.pair .u64 (.pair .u64 .unit))) (.pair .i64 (.pair .i64 (.pair (.arr 2 .i64) (.pair (.arr 2 .i64) .unit)))))))) (.pair .i64 .unit)), 152, 0, false⟩), (86, ⟨(.pair (.pair (.pair .i64 (.pair .u64 (.pair .u64 .unit))) (.pair (.pair .i64 (.pair .u64 (.pair .u64 .unit))) (.pair (.pair .i64 (.pair .u64 (.pair .u64 .unit))) (.pair (.pair .i64 (.pair .u64 (.pair .u64 .unit))) (.pair .i64 (.pair .i64 (.pair (.arr 2 .i64) (.pair (.arr 2 .i64) .unit)))))))) (.pair .i64 .unit)), 152, 0, false⟩), (90, ⟨(.pair (.pair (.pair .i64 (.pair .u64 (.pair .u64 .unit))) (.pair (.pair .i64 (.pair .u64 (.pair .u64 .unit))) (.pair .i64 (.pair .i64 (.pair .i64 .unit))))) (.pair .i64 (.pair .bool (.pair .bool (.pair .i64 .unit))))), 96, 0, false⟩), (91, ⟨(.pair (.pair (.pair .i64 (.pair .u64 (.pair .u64 .unit))) (.pair (.pair .i64 (.pair .u64 (.pair .u64 .unit))) (.pair .i64 (.pair .i64 (.pair .i64 .unit))))) (.pair .i64 (.pair .bool (.pair .bool (.pair .i64 .unit))))), 96, 0, false⟩), (94, ⟨(.sl (.pair (.pair .i64 (.pair .u64 (.pair .u64 .unit))) (.pair (.pair .i64 (.pair .u64 (.pair .u64 .unit))) (.pair .i64 (.pair (.sl (.pair (.pair .i64 (.pair .u64 (.pair .u64 .unit))) (.pair (.pair .i64 (.pair .u64 (.pair .u64 .unit))) (.pair .i64 (.pair .i64 (.pair .bool (.pair (.sl .u8) .unit))))))) (.pair .i64 .unit)))))), 24, 100, false⟩), (97, ⟨(.pair (.pair .i64 (.pair .u64 (.pair .u64 .unit))) (.pair (.pair .i64 (.pair .u64 (.pair .u64 .unit))) (.pair .i64 (.pair .i64 (.pair .bool (.pair (.sl .u8) .unit)))))), 96, 0, false⟩), (98, ⟨(.pair (.pair .i64 (.pair .u64 (.pair .u64 .unit))) (.pair (.pair .i64 (.pair .u64 (.pair .u64 .unit))) (.pair .i64 (.pair .i64 (.pair .bool (.pair (.sl .u8) .unit)))))), 96, 0, false⟩), (99, ⟨(.pair (.pair .i64 (.pair .u64 (.pair .u64 .unit))) (.pair (.pair .i64 (.pair .u64 (.pair .u64 .unit))) (.pair .i64 (.pair (.sl (.pair (.pair .i64 (.pair .u64 (.pair .u64 .unit))) (.pair (.pair .i64 (.pair .u64 (.pair .u64 .unit))) (.pair .i64 (.pair .i64 (.pair .bool (.pair (.sl .u8) .unit))))))) (.pair .i64 .unit))))), 88, 0, false⟩), (100, ⟨(.pair (.pair .i64 (.pair .u64 (.pair .u64 .unit))) (.pair (.pair .i64 (.pair .u64 (.pair .u64 .unit))) (.pair .i64 (.pair (.sl (.pair (.pair .i64 (.pair .u64 (.pair .u64 .unit))) (.pair (.pair .i64 (.pair .u64 (.pair .u64 .unit))) (.pair .i64 (.pair .i64 (.pair .bool (.pair (.sl .u8) .unit))))))) (.pair .i64 .unit))))), 88, 0, false⟩), (103, ⟨(.sl (.sl (.pair .i64 (.pair .str (.pair (.sl (.pair (.pair .i64 (.pair .u64 (.pair .u64 .unit))) (.pair (.pair .i64 (.pair .u64 (.pair .u64 .unit))) (.pair (.pair .i64 (.pair .u64 (.pair .u64 .unit))) (.pair (.pair .i64 (.pair .u64 (.pair .u64 .unit))) (.pair .i64 (.pair .i64 (.pair (.arr 2 .i64) (.pair (.arr 2 .i64) .unit))))))))) .unit))))), 24, 54, false⟩), (107, ⟨(.pair (.sl .u8) (.pair .i64 .unit)), 32, 0, false⟩), (108, ⟨(.pair (.sl .u8) (.pair .i64 .unit)), 32, 0, false⟩), (112, ⟨(.pair (.sl .u8) (.pair .i64 .unit)), 32, 0, false⟩), (113, ⟨(.pair (.sl .u8) (.pair .i64 .unit)), 32, 0, false⟩), (117, ⟨(.pair .i64 (.pair .u64 (.pair .u64 .unit))), 24, 0, false⟩), (118, ⟨(.pair .i64 (.pair .u64 (.pair .u64 .unit))), 24, 0, false⟩), (119, ⟨(.pair (.pair .i64 (.pair .u64 (.pair .u64 .unit))) (.pair (.pair .i64 (.pair .u64 (.pair .u64 .unit))) .unit)), 48, 0, false⟩), (120, ⟨(.pair (.pair .i64 (.pair .u64 (.pair .u64 .unit))) (.pair (.pair .i64 (.pair .u64 (.pair .u64 .unit))) .unit)), 48, 0, false⟩), (121, ⟨(.arr 5 (.pair (.pair .i64 (.pair .u64 (.pair .u64 .unit))) (.pair (.pair .i64 (.pair .u64 (.pair .u64 .unit))) .unit))), 240, 120, false⟩), (122, ⟨(.arr 5 (.pair (.pair .i64 (.pair .u64 (.pair .u64 .unit))) (.pair (.pair .i64 (.pair .u64 (.pair .u64 .unit))) .unit))), 240, 120, false⟩), (128, ⟨(.sl .str), 24, 9, false⟩), (132, ⟨(.sl (.pair .i64 (.pair .u64 (.pair .u64 .unit)))), 24, 28, false⟩), (143, ⟨(.arr 5 (.pair .i64 (.pair .u64 (.pair .u64 .unit)))), 120, 118, false⟩), (147, ⟨(.sl .u64), 24, 26, false⟩), (150, ⟨.u64, 8, 0, false⟩)]
noncomputable def G_globs : List (Nat × Dt) := []
theorem G_tys_ok : tyChk Try.prog G_tys = true := by kernel_rfl
end Go.Proofs.Ytgbkkfpheahdfaa
namespace Go.Proofs.Ytgbkkfpheahdfaa
open Go
set_option maxRecDepth 100000
set_option linter.unusedVariables false
/-! ipsecgate/decorrelate.ofAddress -/
abbrev decorrelate_ofAddress_R : Type := (((Int × (UInt64 × (UInt64 × Unit))) × Unit) × (Unit))
noncomputable def decorrelate_ofAddress (N : Nat) (a_0 : (Int × (UInt64 × (UInt64 × Unit)))) : Option decorrelate_ofAddress_R :=
  some (((a_0.1, a_0.2.1, a_0.2.2.1, ()), ()), (()))
noncomputable def decorrelate_ofAddress_C (N : Nat) : Ctx := ⟨10, G_tys, [], G_globs⟩
noncomputable def decorrelate_ofAddress_S0 : Spec := ⟨[.val (.pair .i64 (.pair .u64 (.pair .u64 .unit)))], []⟩
noncomputable def decorrelate_ofAddress_S1 : Spec := ⟨[.fp (.pair .i64 (.pair .u64 (.pair .u64 .unit)))], []⟩
noncomputable def decorrelate_ofAddress_K (_N : Nat) : XE → GS → Option decorrelate_ofAddress_R := retK 0 [2] [true] decorrelate_ofAddress_S1
noncomputable def decorrelate_ofAddress_L : List Code := (bodyOf (some Try.f103))
theorem decorrelate_ofAddress_b {E : Env} (N : Nat) (hb : Base Try.prog (decorrelate_ofAddress_C N) E 0) : Blk Try.prog (decorrelate_ofAddress_C N) E (List.range decorrelate_ofAddress_S0.ks.length) decorrelate_ofAddress_S0 (decorrelate_ofAddress_L.drop 0) (fun y => decorrelate_ofAddress N y.1.1) (decorrelate_ofAddress_K N) :=
  Blk.chunkAt hb 3 (X := (decorrelate_ofAddress_K N .normal)) (NxOk.end (by kernel_rfl)) rfl (fun x => by kernel_rfl)
noncomputable def decorrelate_ofAddress_ctr (N : Nat) : Ctr := ⟨decorrelate_ofAddress_S0, decorrelate_ofAddress_S1.un [true], 0, (fun y => decorrelate_ofAddress N y.1.1)⟩
theorem decorrelate_ofAddress_ctrs (N : Nat) : CtrsOk Try.prog (decorrelate_ofAddress_C N) := ctrs_nil rfl
theorem decorrelate_ofAddress_ok (N : Nat) : Ctr.ok Try.prog G_globs 103 (decorrelate_ofAddress_ctr N) :=
  ctr_fn (Γ := decorrelate_ofAddress_C N) (rfit := decorrelate_ofAddress_S1) (bs := [true]) (res := [2]) (by kernel_rfl) (tys_ok G_tys_ok) (decorrelate_ofAddress_ctrs N) Try.func103 (by kernel_rfl) (by kernel_rfl) Try.ntmps103 (by kernel_rfl) (by kernel_rfl) (by kernel_rfl) (by kernel_rfl) (fun E hb => decorrelate_ofAddress_b N hb)
end Go.Proofs.Ytgbkkfpheahdfaa
namespace Go.Proofs.Ytgbkkfpheahdfaa
open Go
set_option maxRecDepth 100000
set_option linter.unusedVariables false
/-! ipsecgate/decorrelate.ofNumber -/
abbrev decorrelate_ofNumber_R : Type := (((Int × (UInt64 × (UInt64 × Unit))) × Unit) × (Unit))
noncomputable def decorrelate_ofNumber (N : Nat) (n_0 : Int) : Option decorrelate_ofNumber_R :=
  some ((((0 : Int), (0 : UInt64), (iu64 (w64 (n_0 + (1 : Int)))), ()), ()), (()))
noncomputable def decorrelate_ofNumber_C (N : Nat) : Ctx := ⟨7, G_tys, [], G_globs⟩
noncomputable def decorrelate_ofNumber_S0 : Spec := ⟨[.val .i64], []⟩
noncomputable def decorrelate_ofNumber_S1 : Spec := ⟨[.fp (.pair .i64 (.pair .u64 (.pair .u64 .unit)))], []⟩
noncomputable def decorrelate_ofNumber_K (_N : Nat) : XE → GS → Option decorrelate_ofNumber_R := retK 0 [2] [true] decorrelate_ofNumber_S1
noncomputable def decorrelate_ofNumber_L : List Code := (bodyOf (some Try.f104))
theorem decorrelate_ofNumber_b {E : Env} (N : Nat) (hb : Base Try.prog (decorrelate_ofNumber_C N) E 0) : Blk Try.prog (decorrelate_ofNumber_C N) E (List.range decorrelate_ofNumber_S0.ks.length) decorrelate_ofNumber_S0 (decorrelate_ofNumber_L.drop 0) (fun y => decorrelate_ofNumber N y.1.1) (decorrelate_ofNumber_K N) :=
  Blk.chunkAt hb 3 (X := (decorrelate_ofNumber_K N .normal)) (NxOk.end (by kernel_rfl)) rfl (fun x => by kernel_rfl)
noncomputable def decorrelate_ofNumber_ctr (N : Nat) : Ctr := ⟨decorrelate_ofNumber_S0, decorrelate_ofNumber_S1.un [true], 0, (fun y => decorrelate_ofNumber N y.1.1)⟩
theorem decorrelate_ofNumber_ctrs (N : Nat) : CtrsOk Try.prog (decorrelate_ofNumber_C N) := ctrs_nil rfl
theorem decorrelate_ofNumber_ok (N : Nat) : Ctr.ok Try.prog G_globs 104 (decorrelate_ofNumber_ctr N) :=
  ctr_fn (Γ := decorrelate_ofNumber_C N) (rfit := decorrelate_ofNumber_S1) (bs := [true]) (res := [2]) (by kernel_rfl) (tys_ok G_tys_ok) (decorrelate_ofNumber_ctrs N) Try.func104 (by kernel_rfl) (by kernel_rfl) Try.ntmps104 (by kernel_rfl) (by kernel_rfl) (by kernel_rfl) (by kernel_rfl) (fun E hb => decorrelate_ofNumber_b N hb)
end Go.Proofs.Ytgbkkfpheahdfaa
namespace Go.Proofs.Ytgbkkfpheahdfaa
open Go
set_option maxRecDepth 100000
set_option linter.unusedVariables false
/-! ipsecgate/decorrelate.numbers -/
abbrev decorrelate_numbers_R : Type := ((((Int × (UInt64 × (UInt64 × Unit))) × ((Int × (UInt64 × (UInt64 × Unit))) × Unit)) × Unit) × (Unit))
noncomputable def decorrelate_numbers (N : Nat) (lo_0 : Int) (hi_1 : Int) : Option decorrelate_numbers_R :=
  Option.bind (decorrelate_ofNumber N lo_0) fun y1 =>
  Option.bind (decorrelate_ofNumber N hi_1) fun y2 =>
  some (((y1.1.1, y2.1.1, ()), ()), (()))
noncomputable def decorrelate_numbers_C (N : Nat) : Ctx := ⟨10, G_tys, [(104, decorrelate_ofNumber_ctr N)], G_globs⟩
noncomputable def decorrelate_numbers_S0 : Spec := ⟨[.val .i64, .val .i64], []⟩
noncomputable def decorrelate_numbers_S1 : Spec := ⟨[.fp (.pair (.pair .i64 (.pair .u64 (.pair .u64 .unit))) (.pair (.pair .i64 (.pair .u64 (.pair .u64 .unit))) .unit))], []⟩
noncomputable def decorrelate_numbers_K (_N : Nat) : XE → GS → Option decorrelate_numbers_R := retK 0 [4] [true] decorrelate_numbers_S1
noncomputable def decorrelate_numbers_L : List Code := (bodyOf (some Try.f144))
theorem decorrelate_numbers_b {E : Env} (N : Nat) (hb : Base Try.prog (decorrelate_numbers_C N) E 0) : Blk Try.prog (decorrelate_numbers_C N) E (List.range decorrelate_numbers_S0.ks.length) decorrelate_numbers_S0 (decorrelate_numbers_L.drop 0) (fun y => decorrelate_numbers N y.1.1 y.1.2.1) (decorrelate_numbers_K N) :=
  Blk.chunkAt hb 3 (X := (decorrelate_numbers_K N .normal)) (NxOk.end (by kernel_rfl)) rfl (fun x => by kernel_rfl)
noncomputable def decorrelate_numbers_ctr (N : Nat) : Ctr := ⟨decorrelate_numbers_S0, decorrelate_numbers_S1.un [true], 0, (fun y => decorrelate_numbers N y.1.1 y.1.2.1)⟩
theorem decorrelate_numbers_ctrs (N : Nat) : CtrsOk Try.prog (decorrelate_numbers_C N) := ctrs_of (Γ := decorrelate_numbers_C N) (by
  intro p hp
  simp only [decorrelate_numbers_C, List.mem_cons, List.not_mem_nil, or_false] at hp
  rcases hp with rfl
  · exact decorrelate_ofNumber_ok N)
theorem decorrelate_numbers_ok (N : Nat) : Ctr.ok Try.prog G_globs 144 (decorrelate_numbers_ctr N) :=
  ctr_fn (Γ := decorrelate_numbers_C N) (rfit := decorrelate_numbers_S1) (bs := [true]) (res := [4]) (by kernel_rfl) (tys_ok G_tys_ok) (decorrelate_numbers_ctrs N) Try.func144 (by kernel_rfl) (by kernel_rfl) Try.ntmps144 (by kernel_rfl) (by kernel_rfl) (by kernel_rfl) (by kernel_rfl) (fun E hb => decorrelate_numbers_b N hb)
end Go.Proofs.Ytgbkkfpheahdfaa
namespace Go.Proofs.Ytgbkkfpheahdfaa
open Go
set_option maxRecDepth 100000
set_option linter.unusedVariables false
/-! ipsecgate/decorrelate.ofBox -/
abbrev decorrelate_ofBox_R : Type := (((List ((Int × (UInt64 × (UInt64 × Unit))) × ((Int × (UInt64 × (UInt64 × Unit))) × Unit))) × Unit) × (Unit))
noncomputable def decorrelate_ofBox (N : Nat) (b_0 : ((Int × (UInt64 × (UInt64 × Unit))) × ((Int × (UInt64 × (UInt64 × Unit))) × ((Int × (UInt64 × (UInt64 × Unit))) × ((Int × (UInt64 × (UInt64 × Unit))) × (Int × (Int × ((List Int) × ((List Int) × Unit))))))))) : Option decorrelate_ofBox_R :=
  Option.bind (decorrelate_ofAddress N b_0.1) fun y1 =>
  Option.bind (decorrelate_ofAddress N b_0.2.1) fun y2 =>
  Option.bind (decorrelate_ofAddress N b_0.2.2.1) fun y3 =>
  Option.bind (decorrelate_ofAddress N b_0.2.2.2.1) fun y4 =>
  Option.bind (decorrelate_numbers N b_0.2.2.2.2.1 b_0.2.2.2.2.2.1) fun y5 =>
  Option.bind (decorrelate_numbers N (b_0.2.2.2.2.2.2.1.getD 0 (0 : Int)) (b_0.2.2.2.2.2.2.1.getD 1 (0 : Int))) fun y8 =>
  Option.bind (decorrelate_numbers N (b_0.2.2.2.2.2.2.2.1.getD 0 (0 : Int)) (b_0.2.2.2.2.2.2.2.1.getD 1 (0 : Int))) fun y11 =>
  some ((([(y1.1.1, y2.1.1, ()), (y3.1.1, y4.1.1, ()), y5.1.1, y8.1.1, y11.1.1] : List ((Int × (UInt64 × (UInt64 × Unit))) × ((Int × (UInt64 × (UInt64 × Unit))) × Unit))), ()), (()))
noncomputable def decorrelate_ofBox_C (N : Nat) : Ctx := ⟨37, G_tys, [(103, decorrelate_ofAddress_ctr N), (144, decorrelate_numbers_ctr N)], G_globs⟩
noncomputable def decorrelate_ofBox_S0 : Spec := ⟨[.val (.pair (.pair .i64 (.pair .u64 (.pair .u64 .unit))) (.pair (.pair .i64 (.pair .u64 (.pair .u64 .unit))) (.pair (.pair .i64 (.pair .u64 (.pair .u64 .unit))) (.pair (.pair .i64 (.pair .u64 (.pair .u64 .unit))) (.pair .i64 (.pair .i64 (.pair (.arr 2 .i64) (.pair (.arr 2 .i64) .unit))))))))], []⟩
noncomputable def decorrelate_ofBox_S1 : Spec := ⟨[.fp (.arr 5 (.pair (.pair .i64 (.pair .u64 (.pair .u64 .unit))) (.pair (.pair .i64 (.pair .u64 (.pair .u64 .unit))) .unit)))], []⟩
noncomputable def decorrelate_ofBox_K (_N : Nat) : XE → GS → Option decorrelate_ofBox_R := retK 0 [2] [true] decorrelate_ofBox_S1
noncomputable def decorrelate_ofBox_L : List Code := (bodyOf (some Try.f79))
theorem decorrelate_ofBox_b {E : Env} (N : Nat) (hb : Base Try.prog (decorrelate_ofBox_C N) E 0) : Blk Try.prog (decorrelate_ofBox_C N) E (List.range decorrelate_ofBox_S0.ks.length) decorrelate_ofBox_S0 (decorrelate_ofBox_L.drop 0) (fun y => decorrelate_ofBox N y.1.1) (decorrelate_ofBox_K N) :=
  Blk.chunkAt hb 3 (X := (decorrelate_ofBox_K N .normal)) (NxOk.end (by kernel_rfl)) rfl (fun x => by kernel_rfl)
noncomputable def decorrelate_ofBox_ctr (N : Nat) : Ctr := ⟨decorrelate_ofBox_S0, decorrelate_ofBox_S1.un [true], 0, (fun y => decorrelate_ofBox N y.1.1)⟩
theorem decorrelate_ofBox_ctrs (N : Nat) : CtrsOk Try.prog (decorrelate_ofBox_C N) := ctrs_of (Γ := decorrelate_ofBox_C N) (by
  intro p hp
  simp only [decorrelate_ofBox_C, List.mem_cons, List.not_mem_nil, or_false] at hp
  rcases hp with rfl | rfl
  · exact decorrelate_ofAddress_ok N
  · exact decorrelate_numbers_ok N)
theorem decorrelate_ofBox_ok (N : Nat) : Ctr.ok Try.prog G_globs 79 (decorrelate_ofBox_ctr N) :=
  ctr_fn (Γ := decorrelate_ofBox_C N) (rfit := decorrelate_ofBox_S1) (bs := [true]) (res := [2]) (by kernel_rfl) (tys_ok G_tys_ok) (decorrelate_ofBox_ctrs N) Try.func79 (by kernel_rfl) (by kernel_rfl) Try.ntmps79 (by kernel_rfl) (by kernel_rfl) (by kernel_rfl) (by kernel_rfl) (fun E hb => decorrelate_ofBox_b N hb)
end Go.Proofs.Ytgbkkfpheahdfaa
namespace Go.Proofs.Ytgbkkfpheahdfaa
open Go
set_option maxRecDepth 100000
set_option linter.unusedVariables false
/-! cmp.isNaN[int] -/
abbrev cmp_isNaN_int__R : Type := ((Bool × Unit) × (Unit))
noncomputable def cmp_isNaN_int_ (N : Nat) (x_0 : Int) : Option cmp_isNaN_int__R :=
  some (((!(decide (x_0 = x_0))), ()), (()))
noncomputable def cmp_isNaN_int__C (N : Nat) : Ctx := ⟨6, G_tys, [], G_globs⟩
noncomputable def cmp_isNaN_int__S0 : Spec := ⟨[.val .i64], []⟩
noncomputable def cmp_isNaN_int__S1 : Spec := ⟨[.val .bool], []⟩
noncomputable def cmp_isNaN_int__K (_N : Nat) : XE → GS → Option cmp_isNaN_int__R := retK 0 [2] [false] cmp_isNaN_int__S1
noncomputable def cmp_isNaN_int__L : List Code := (bodyOf (some Try.f167))
theorem cmp_isNaN_int__b {E : Env} (N : Nat) (hb : Base Try.prog (cmp_isNaN_int__C N) E 0) : Blk Try.prog (cmp_isNaN_int__C N) E (List.range cmp_isNaN_int__S0.ks.length) cmp_isNaN_int__S0 (cmp_isNaN_int__L.drop 0) (fun y => cmp_isNaN_int_ N y.1.1) (cmp_isNaN_int__K N) :=
  Blk.chunkAt hb 3 (X := (cmp_isNaN_int__K N .normal)) (NxOk.end (by kernel_rfl)) rfl (fun x => by kernel_rfl)
noncomputable def cmp_isNaN_int__ctr (N : Nat) : Ctr := ⟨cmp_isNaN_int__S0, cmp_isNaN_int__S1.un [false], 0, (fun y => cmp_isNaN_int_ N y.1.1)⟩
theorem cmp_isNaN_int__ctrs (N : Nat) : CtrsOk Try.prog (cmp_isNaN_int__C N) := ctrs_nil rfl
theorem cmp_isNaN_int__ok (N : Nat) : Ctr.ok Try.prog G_globs 167 (cmp_isNaN_int__ctr N) :=
  ctr_fn (Γ := cmp_isNaN_int__C N) (rfit := cmp_isNaN_int__S1) (bs := [false]) (res := [2]) (by kernel_rfl) (tys_ok G_tys_ok) (cmp_isNaN_int__ctrs N) Try.func167 (by kernel_rfl) (by kernel_rfl) Try.ntmps167 (by kernel_rfl) (by kernel_rfl) (by kernel_rfl) (by kernel_rfl) (fun E hb => cmp_isNaN_int__b N hb)
end Go.Proofs.Ytgbkkfpheahdfaa
namespace Go.Proofs.Ytgbkkfpheahdfaa
open Go
set_option maxRecDepth 100000
set_option linter.unusedVariables false
/-! cmp.Compare[int] -/
abbrev cmp_Compare_int__R : Type := ((Int × Unit) × (Unit))
noncomputable def cmp_Compare_int_ (N : Nat) (x_0 : Int) (y_1 : Int) : Option cmp_Compare_int__R :=
  Option.bind (cmp_isNaN_int_ N x_0) fun y1 =>
  Option.bind (cmp_isNaN_int_ N y_1) fun y2 =>
  bif y1.1.1 then
    bif y2.1.1 then
      some (((0 : Int), ()), (()))
    else
      some (((-1 : Int), ()), (()))
  else
    bif y2.1.1 then
      some (((1 : Int), ()), (()))
    else
      bif (decide (x_0 < y_1)) then
        some (((-1 : Int), ()), (()))
      else
        bif (decide (y_1 < x_0)) then
          some (((1 : Int), ()), (()))
        else
          some (((0 : Int), ()), (()))
noncomputable def cmp_Compare_int__C (N : Nat) : Ctx := ⟨20, G_tys, [(167, cmp_isNaN_int__ctr N)], G_globs⟩
noncomputable def cmp_Compare_int__S0 : Spec := ⟨[.val .i64, .val .i64], []⟩
noncomputable def cmp_Compare_int__S1 : Spec := ⟨[.val .i64], []⟩
noncomputable def cmp_Compare_int__K (_N : Nat) : XE → GS → Option cmp_Compare_int__R := retK 0 [4] [false] cmp_Compare_int__S1
noncomputable def cmp_Compare_int__L : List Code := (bodyOf (some Try.f147))
theorem cmp_Compare_int__b {E : Env} (N : Nat) (hb : Base Try.prog (cmp_Compare_int__C N) E 0) : Blk Try.prog (cmp_Compare_int__C N) E (List.range cmp_Compare_int__S0.ks.length) cmp_Compare_int__S0 (cmp_Compare_int__L.drop 0) (fun y => cmp_Compare_int_ N y.1.1 y.1.2.1) (cmp_Compare_int__K N) :=
  Blk.chunkAt hb 13 (X := (cmp_Compare_int__K N .normal)) (NxOk.end (by kernel_rfl)) rfl (fun x => by kernel_rfl)
noncomputable def cmp_Compare_int__ctr (N : Nat) : Ctr := ⟨cmp_Compare_int__S0, cmp_Compare_int__S1.un [false], 0, (fun y => cmp_Compare_int_ N y.1.1 y.1.2.1)⟩
theorem cmp_Compare_int__ctrs (N : Nat) : CtrsOk Try.prog (cmp_Compare_int__C N) := ctrs_of (Γ := cmp_Compare_int__C N) (by
  intro p hp
  simp only [cmp_Compare_int__C, List.mem_cons, List.not_mem_nil, or_false] at hp
  rcases hp with rfl
  · exact cmp_isNaN_int__ok N)
theorem cmp_Compare_int__ok (N : Nat) : Ctr.ok Try.prog G_globs 147 (cmp_Compare_int__ctr N) :=
  ctr_fn (Γ := cmp_Compare_int__C N) (rfit := cmp_Compare_int__S1) (bs := [false]) (res := [4]) (by kernel_rfl) (tys_ok G_tys_ok) (cmp_Compare_int__ctrs N) Try.func147 (by kernel_rfl) (by kernel_rfl) Try.ntmps147 (by kernel_rfl) (by kernel_rfl) (by kernel_rfl) (by kernel_rfl) (fun E hb => cmp_Compare_int__b N hb)
end Go.Proofs.Ytgbkkfpheahdfaa
namespace Go.Proofs.Ytgbkkfpheahdfaa
open Go
set_option maxRecDepth 100000
set_option linter.unusedVariables false
/-! cmp.isNaN[uint64] -/
abbrev cmp_isNaN_uint64__R : Type := ((Bool × Unit) × (Unit))
noncomputable def cmp_isNaN_uint64_ (N : Nat) (x_0 : UInt64) : Option cmp_isNaN_uint64__R :=
  some (((!(decide (x_0 = x_0))), ()), (()))
noncomputable def cmp_isNaN_uint64__C (N : Nat) : Ctx := ⟨6, G_tys, [], G_globs⟩
noncomputable def cmp_isNaN_uint64__S0 : Spec := ⟨[.val .u64], []⟩
noncomputable def cmp_isNaN_uint64__S1 : Spec := ⟨[.val .bool], []⟩
noncomputable def cmp_isNaN_uint64__K (_N : Nat) : XE → GS → Option cmp_isNaN_uint64__R := retK 0 [2] [false] cmp_isNaN_uint64__S1
noncomputable def cmp_isNaN_uint64__L : List Code := (bodyOf (some Try.f168))
theorem cmp_isNaN_uint64__b {E : Env} (N : Nat) (hb : Base Try.prog (cmp_isNaN_uint64__C N) E 0) : Blk Try.prog (cmp_isNaN_uint64__C N) E (List.range cmp_isNaN_uint64__S0.ks.length) cmp_isNaN_uint64__S0 (cmp_isNaN_uint64__L.drop 0) (fun y => cmp_isNaN_uint64_ N y.1.1) (cmp_isNaN_uint64__K N) :=
  Blk.chunkAt hb 3 (X := (cmp_isNaN_uint64__K N .normal)) (NxOk.end (by kernel_rfl)) rfl (fun x => by kernel_rfl)
noncomputable def cmp_isNaN_uint64__ctr (N : Nat) : Ctr := ⟨cmp_isNaN_uint64__S0, cmp_isNaN_uint64__S1.un [false], 0, (fun y => cmp_isNaN_uint64_ N y.1.1)⟩
theorem cmp_isNaN_uint64__ctrs (N : Nat) : CtrsOk Try.prog (cmp_isNaN_uint64__C N) := ctrs_nil rfl
theorem cmp_isNaN_uint64__ok (N : Nat) : Ctr.ok Try.prog G_globs 168 (cmp_isNaN_uint64__ctr N) :=
  ctr_fn (Γ := cmp_isNaN_uint64__C N) (rfit := cmp_isNaN_uint64__S1) (bs := [false]) (res := [2]) (by kernel_rfl) (tys_ok G_tys_ok) (cmp_isNaN_uint64__ctrs N) Try.func168 (by kernel_rfl) (by kernel_rfl) Try.ntmps168 (by kernel_rfl) (by kernel_rfl) (by kernel_rfl) (by kernel_rfl) (fun E hb => cmp_isNaN_uint64__b N hb)
end Go.Proofs.Ytgbkkfpheahdfaa
namespace Go.Proofs.Ytgbkkfpheahdfaa
open Go
set_option maxRecDepth 100000
set_option linter.unusedVariables false
/-! cmp.Compare[uint64] -/
abbrev cmp_Compare_uint64__R : Type := ((Int × Unit) × (Unit))
noncomputable def cmp_Compare_uint64_ (N : Nat) (x_0 : UInt64) (y_1 : UInt64) : Option cmp_Compare_uint64__R :=
  Option.bind (cmp_isNaN_uint64_ N x_0) fun y1 =>
  Option.bind (cmp_isNaN_uint64_ N y_1) fun y2 =>
  bif y1.1.1 then
    bif y2.1.1 then
      some (((0 : Int), ()), (()))
    else
      some (((-1 : Int), ()), (()))
  else
    bif y2.1.1 then
      some (((1 : Int), ()), (()))
    else
      bif (decide (x_0 < y_1)) then
        some (((-1 : Int), ()), (()))
      else
        bif (decide (y_1 < x_0)) then
          some (((1 : Int), ()), (()))
        else
          some (((0 : Int), ()), (()))
noncomputable def cmp_Compare_uint64__C (N : Nat) : Ctx := ⟨20, G_tys, [(168, cmp_isNaN_uint64__ctr N)], G_globs⟩
noncomputable def cmp_Compare_uint64__S0 : Spec := ⟨[.val .u64, .val .u64], []⟩
noncomputable def cmp_Compare_uint64__S1 : Spec := ⟨[.val .i64], []⟩
noncomputable def cmp_Compare_uint64__K (_N : Nat) : XE → GS → Option cmp_Compare_uint64__R := retK 0 [4] [false] cmp_Compare_uint64__S1
noncomputable def cmp_Compare_uint64__L : List Code := (bodyOf (some Try.f148))
theorem cmp_Compare_uint64__b {E : Env} (N : Nat) (hb : Base Try.prog (cmp_Compare_uint64__C N) E 0) : Blk Try.prog (cmp_Compare_uint64__C N) E (List.range cmp_Compare_uint64__S0.ks.length) cmp_Compare_uint64__S0 (cmp_Compare_uint64__L.drop 0) (fun y => cmp_Compare_uint64_ N y.1.1 y.1.2.1) (cmp_Compare_uint64__K N) :=
  Blk.chunkAt hb 13 (X := (cmp_Compare_uint64__K N .normal)) (NxOk.end (by kernel_rfl)) rfl (fun x => by kernel_rfl)
noncomputable def cmp_Compare_uint64__ctr (N : Nat) : Ctr := ⟨cmp_Compare_uint64__S0, cmp_Compare_uint64__S1.un [false], 0, (fun y => cmp_Compare_uint64_ N y.1.1 y.1.2.1)⟩
theorem cmp_Compare_uint64__ctrs (N : Nat) : CtrsOk Try.prog (cmp_Compare_uint64__C N) := ctrs_of (Γ := cmp_Compare_uint64__C N) (by
  intro p hp
  simp only [cmp_Compare_uint64__C, List.mem_cons, List.not_mem_nil, or_false] at hp
  rcases hp with rfl
  · exact cmp_isNaN_uint64__ok N)
theorem cmp_Compare_uint64__ok (N : Nat) : Ctr.ok Try.prog G_globs 148 (cmp_Compare_uint64__ctr N) :=
  ctr_fn (Γ := cmp_Compare_uint64__C N) (rfit := cmp_Compare_uint64__S1) (bs := [false]) (res := [4]) (by kernel_rfl) (tys_ok G_tys_ok) (cmp_Compare_uint64__ctrs N) Try.func148 (by kernel_rfl) (by kernel_rfl) Try.ntmps148 (by kernel_rfl) (by kernel_rfl) (by kernel_rfl) (by kernel_rfl) (fun E hb => cmp_Compare_uint64__b N hb)
end Go.Proofs.Ytgbkkfpheahdfaa
namespace Go.Proofs.Ytgbkkfpheahdfaa
open Go
set_option maxRecDepth 100000
set_option linter.unusedVariables false
/-! cmp.Or[int] -/
abbrev cmp_Or_int__R : Type := ((Int × Unit) × (Unit))
noncomputable def cmp_Or_int__s2 (N : Nat) (zero_3 : Int) (t_6 : (List Int)) (t_7 : Int) (t_8 : Int) : Option (Lo ((Int × (List Int) × Int × Int × Unit) × (Unit)) ((Int × Unit) × (Unit)) cmp_Or_int__R) :=
  bif (decide (t_8 < t_7)) then
    bif inR t_8 t_6.length then
    let x3 := t_6.getD t_8.toNat (0 : Int)
    bif (!(decide (x3 = zero_3))) then
      some (.rt ((x3, ()), (())))
    else
      some (.go ((zero_3, t_6, t_7, (w64 (t_8 + (1 : Int))), ()), (())))
    else none
  else
    some (.br ((zero_3, ()), (())))
noncomputable def cmp_Or_int__3 (N : Nat) (zero_3 : Int) : Option cmp_Or_int__R :=
  some ((zero_3, ()), (()))
noncomputable def cmp_Or_int__1 (N : Nat) (zero_3 : Int) (t_6 : (List Int)) (t_7 : Int) (t_8 : Int) : Option cmp_Or_int__R :=
  loopK N (fun y => cmp_Or_int__s2 N y.1.1 y.1.2.1 y.1.2.2.1 y.1.2.2.2.1) (fun (e : ((Int × Unit) × (Unit))) => cmp_Or_int__3 N e.1.1) ((zero_3, t_6, t_7, t_8, ()), (()))
noncomputable def cmp_Or_int_ (N : Nat) (vals_0 : (List Int)) : Option cmp_Or_int__R :=
  cmp_Or_int__1 N (0 : Int) vals_0 (vals_0.length : Int) (0 : Int)
noncomputable def cmp_Or_int__C (N : Nat) : Ctx := ⟨18, G_tys, [], G_globs⟩
noncomputable def cmp_Or_int__S0 : Spec := ⟨[.val .i64, .val (.sl .i64), .val .i64, .val .i64], []⟩
noncomputable def cmp_Or_int__S1 : Spec := ⟨[.val .i64], []⟩
noncomputable def cmp_Or_int__S2 : Spec := ⟨[.val (.sl .i64)], []⟩
noncomputable def cmp_Or_int__K (_N : Nat) : XE → GS → Option cmp_Or_int__R := retK 0 [2] [false] cmp_Or_int__S1
noncomputable def cmp_Or_int__L : List Code := (bodyOf (some Try.f146))
noncomputable def cmp_Or_int__L2 : List Code := (loopOf (cmp_Or_int__L[3]?))
noncomputable def cmp_Or_int__K2 (N : Nat) : XE → GS → Option (Lo ((Int × (List Int) × Int × Int × Unit) × (Unit)) ((Int × Unit) × (Unit)) cmp_Or_int__R) := roundK (some 0) (fit 0 [3, 6, 7, 8] cmp_Or_int__S0) (fit 0 [3] cmp_Or_int__S1) (cmp_Or_int__K N)
theorem cmp_Or_int__s2_b {E : Env} (N : Nat) (hb : Base Try.prog (cmp_Or_int__C N) E 0) : Blk Try.prog (cmp_Or_int__C N) E [3, 6, 7, 8] cmp_Or_int__S0 (cmp_Or_int__L2.drop 0) (fun y => cmp_Or_int__s2 N y.1.1 y.1.2.1 y.1.2.2.1 y.1.2.2.2.1) (cmp_Or_int__K2 N) :=
  Blk.chunkAt hb 4 (X := (cmp_Or_int__K2 N .normal)) (NxOk.end (by kernel_rfl)) rfl (fun x => by kernel_rfl)
theorem cmp_Or_int__3_b {E : Env} (N : Nat) (hb : Base Try.prog (cmp_Or_int__C N) E 0) : Blk Try.prog (cmp_Or_int__C N) E [3] cmp_Or_int__S1 (cmp_Or_int__L.drop 4) (fun y => cmp_Or_int__3 N y.1.1) (cmp_Or_int__K N) :=
  Blk.chunkAt hb 2 (X := (cmp_Or_int__K N .normal)) (NxOk.end (by kernel_rfl)) rfl (fun x => by kernel_rfl)
theorem cmp_Or_int__1_b {E : Env} (N : Nat) (hb : Base Try.prog (cmp_Or_int__C N) E 0) : Blk Try.prog (cmp_Or_int__C N) E [3, 6, 7, 8] cmp_Or_int__S0 (cmp_Or_int__L.drop 3) (fun y => cmp_Or_int__1 N y.1.1 y.1.2.1 y.1.2.2.1 y.1.2.2.2.1) (cmp_Or_int__K N) :=
  Blk.loopAt (Nf := N) (hns := [3, 6, 7, 8]) (ans := [3]) (hc := cmp_Or_int__S0) (ac := cmp_Or_int__S1) (bid := 0) (step := (fun y => cmp_Or_int__s2 N y.1.1 y.1.2.1 y.1.2.2.1 y.1.2.2.2.1)) (J := (fun e => (goK 0 [3] cmp_Or_int__S1 (fun y => cmp_Or_int__3 N y.1.1)) (cmp_Or_int__S1.st [3] e))) hb (by kernel_rfl) (Blk.into (X := (goK 0 [3] cmp_Or_int__S1 (fun y => cmp_Or_int__3 N y.1.1))) (NxOk.go hb (cmp_Or_int__3_b N hb)) (fun x => by kernel_rfl)) (cmp_Or_int__s2_b N hb) (fun x => by kernel_rfl)
theorem cmp_Or_int__b {E : Env} (N : Nat) (hb : Base Try.prog (cmp_Or_int__C N) E 0) : Blk Try.prog (cmp_Or_int__C N) E (List.range cmp_Or_int__S2.ks.length) cmp_Or_int__S2 (cmp_Or_int__L.drop 0) (fun y => cmp_Or_int_ N y.1.1) (cmp_Or_int__K N) :=
  Blk.chunkAt hb 3 (X := (goK 0 [3, 6, 7, 8] cmp_Or_int__S0 (fun y => cmp_Or_int__1 N y.1.1 y.1.2.1 y.1.2.2.1 y.1.2.2.2.1))) (NxOk.go hb (cmp_Or_int__1_b N hb)) rfl (fun x => by kernel_rfl)
noncomputable def cmp_Or_int__ctr (N : Nat) : Ctr := ⟨cmp_Or_int__S2, cmp_Or_int__S1.un [false], 0, (fun y => cmp_Or_int_ N y.1.1)⟩
theorem cmp_Or_int__ctrs (N : Nat) : CtrsOk Try.prog (cmp_Or_int__C N) := ctrs_nil rfl
theorem cmp_Or_int__ok (N : Nat) : Ctr.ok Try.prog G_globs 146 (cmp_Or_int__ctr N) :=
  ctr_fn (Γ := cmp_Or_int__C N) (rfit := cmp_Or_int__S1) (bs := [false]) (res := [2]) (by kernel_rfl) (tys_ok G_tys_ok) (cmp_Or_int__ctrs N) Try.func146 (by kernel_rfl) (by kernel_rfl) Try.ntmps146 (by kernel_rfl) (by kernel_rfl) (by kernel_rfl) (by kernel_rfl) (fun E hb => cmp_Or_int__b N hb)
end Go.Proofs.Ytgbkkfpheahdfaa
namespace Go.Proofs.Ytgbkkfpheahdfaa
open Go
set_option maxRecDepth 100000
set_option linter.unusedVariables false
/-! (ipsecgate/decorrelate.value).compare -/
abbrev decorrelate_value_compare_R : Type := ((Int × Unit) × (Unit))
noncomputable def decorrelate_value_compare (N : Nat) (a_0 : (Int × (UInt64 × (UInt64 × Unit)))) (b_1 : (Int × (UInt64 × (UInt64 × Unit)))) : Option decorrelate_value_compare_R :=
  Option.bind (cmp_Compare_int_ N a_0.1 b_1.1) fun y1 =>
  Option.bind (cmp_Compare_uint64_ N a_0.2.1 b_1.2.1) fun y2 =>
  Option.bind (cmp_Compare_uint64_ N a_0.2.2.1 b_1.2.2.1) fun y3 =>
  Option.bind (cmp_Or_int_ N ([y1.1.1, y2.1.1, y3.1.1] : List Int)) fun y4 =>
  some ((y4.1.1, ()), (()))
noncomputable def decorrelate_value_compare_C (N : Nat) : Ctx := ⟨22, G_tys, [(147, cmp_Compare_int__ctr N), (148, cmp_Compare_uint64__ctr N), (146, cmp_Or_int__ctr N)], G_globs⟩
noncomputable def decorrelate_value_compare_S0 : Spec := ⟨[.val (.pair .i64 (.pair .u64 (.pair .u64 .unit))), .val (.pair .i64 (.pair .u64 (.pair .u64 .unit)))], []⟩
noncomputable def decorrelate_value_compare_S1 : Spec := ⟨[.val .i64], []⟩
noncomputable def decorrelate_value_compare_K (_N : Nat) : XE → GS → Option decorrelate_value_compare_R := retK 0 [4] [false] decorrelate_value_compare_S1
noncomputable def decorrelate_value_compare_L : List Code := (bodyOf (some Try.f81))
theorem decorrelate_value_compare_b {E : Env} (N : Nat) (hb : Base Try.prog (decorrelate_value_compare_C N) E 0) : Blk Try.prog (decorrelate_value_compare_C N) E (List.range decorrelate_value_compare_S0.ks.length) decorrelate_value_compare_S0 (decorrelate_value_compare_L.drop 0) (fun y => decorrelate_value_compare N y.1.1 y.1.2.1) (decorrelate_value_compare_K N) :=
  Blk.chunkAt hb 3 (X := (decorrelate_value_compare_K N .normal)) (NxOk.end (by kernel_rfl)) rfl (fun x => by kernel_rfl)
noncomputable def decorrelate_value_compare_ctr (N : Nat) : Ctr := ⟨decorrelate_value_compare_S0, decorrelate_value_compare_S1.un [false], 0, (fun y => decorrelate_value_compare N y.1.1 y.1.2.1)⟩
theorem decorrelate_value_compare_ctrs (N : Nat) : CtrsOk Try.prog (decorrelate_value_compare_C N) := ctrs_of (Γ := decorrelate_value_compare_C N) (by
  intro p hp
  simp only [decorrelate_value_compare_C, List.mem_cons, List.not_mem_nil, or_false] at hp
  rcases hp with rfl | rfl | rfl
  · exact cmp_Compare_int__ok N
  · exact cmp_Compare_uint64__ok N
  · exact cmp_Or_int__ok N)
theorem decorrelate_value_compare_ok (N : Nat) : Ctr.ok Try.prog G_globs 81 (decorrelate_value_compare_ctr N) :=
  ctr_fn (Γ := decorrelate_value_compare_C N) (rfit := decorrelate_value_compare_S1) (bs := [false]) (res := [4]) (by kernel_rfl) (tys_ok G_tys_ok) (decorrelate_value_compare_ctrs N) Try.func81 (by kernel_rfl) (by kernel_rfl) Try.ntmps81 (by kernel_rfl) (by kernel_rfl) (by kernel_rfl) (by kernel_rfl) (fun E hb => decorrelate_value_compare_b N hb)
end Go.Proofs.Ytgbkkfpheahdfaa
namespace Go.Proofs.Ytgbkkfpheahdfaa
open Go
set_option maxRecDepth 100000
set_option linter.unusedVariables false
/-! (ipsecgate/decorrelate.side).meet -/
abbrev decorrelate_side_meet_R : Type := ((((Int × (UInt64 × (UInt64 × Unit))) × ((Int × (UInt64 × (UInt64 × Unit))) × Unit)) × Bool × Unit) × (Unit))
noncomputable def decorrelate_side_meet_2 (N : Nat) (s_2 : ((Int × (UInt64 × (UInt64 × Unit))) × ((Int × (UInt64 × (UInt64 × Unit))) × Unit))) (t_4 : ((Int × (UInt64 × (UInt64 × Unit))) × ((Int × (UInt64 × (UInt64 × Unit))) × Unit))) : Option decorrelate_side_meet_R :=
  Option.bind (decorrelate_value_compare N s_2.1 s_2.2.1) fun y5 =>
  some ((s_2, (decide (y5.1.1 ≤ (0 : Int))), ()), (()))
noncomputable def decorrelate_side_meet_1 (N : Nat) (s_2 : ((Int × (UInt64 × (UInt64 × Unit))) × ((Int × (UInt64 × (UInt64 × Unit))) × Unit))) (t_3 : ((Int × (UInt64 × (UInt64 × Unit))) × ((Int × (UInt64 × (UInt64 × Unit))) × Unit))) (t_4 : ((Int × (UInt64 × (UInt64 × Unit))) × ((Int × (UInt64 × (UInt64 × Unit))) × Unit))) : Option decorrelate_side_meet_R :=
  Option.bind (decorrelate_value_compare N t_3.2.1 s_2.2.1) fun y3 =>
  bif (decide (y3.1.1 < (0 : Int))) then
    decorrelate_side_meet_2 N (s_2.1, t_3.2.1, ()) t_4
  else
    decorrelate_side_meet_2 N s_2 t_4
noncomputable def decorrelate_side_meet (N : Nat) (s_0 : ((Int × (UInt64 × (UInt64 × Unit))) × ((Int × (UInt64 × (UInt64 × Unit))) × Unit))) (t_1 : ((Int × (UInt64 × (UInt64 × Unit))) × ((Int × (UInt64 × (UInt64 × Unit))) × Unit))) : Option decorrelate_side_meet_R :=
  Option.bind (decorrelate_value_compare N t_1.1 s_0.1) fun y1 =>
  bif (decide ((0 : Int) < y1.1.1)) then
    decorrelate_side_meet_1 N (t_1.1, s_0.2.1, ()) t_1 (((0 : Int), (0 : UInt64), (0 : UInt64), ()), ((0 : Int), (0 : UInt64), (0 : UInt64), ()), ())
  else
    decorrelate_side_meet_1 N s_0 t_1 (((0 : Int), (0 : UInt64), (0 : UInt64), ()), ((0 : Int), (0 : UInt64), (0 : UInt64), ()), ())
noncomputable def decorrelate_side_meet_C (N : Nat) : Ctx := ⟨31, G_tys, [(81, decorrelate_value_compare_ctr N)], G_globs⟩
noncomputable def decorrelate_side_meet_S0 : Spec := ⟨[.ref 0 (.pair (.pair .i64 (.pair .u64 (.pair .u64 .unit))) (.pair (.pair .i64 (.pair .u64 (.pair .u64 .unit))) .unit)), .ref 1 (.pair (.pair .i64 (.pair .u64 (.pair .u64 .unit))) (.pair (.pair .i64 (.pair .u64 (.pair .u64 .unit))) .unit))], [(.box 120 (.pair (.pair .i64 (.pair .u64 (.pair .u64 .unit))) (.pair (.pair .i64 (.pair .u64 (.pair .u64 .unit))) .unit)), .pos 0), (.box 120 (.pair (.pair .i64 (.pair .u64 (.pair .u64 .unit))) (.pair (.pair .i64 (.pair .u64 (.pair .u64 .unit))) .unit)), .pos 1)]⟩
noncomputable def decorrelate_side_meet_S1 : Spec := ⟨[.ref 0 (.pair (.pair .i64 (.pair .u64 (.pair .u64 .unit))) (.pair (.pair .i64 (.pair .u64 (.pair .u64 .unit))) .unit)), .ref 1 (.pair (.pair .i64 (.pair .u64 (.pair .u64 .unit))) (.pair (.pair .i64 (.pair .u64 (.pair .u64 .unit))) .unit)), .ref 2 (.pair (.pair .i64 (.pair .u64 (.pair .u64 .unit))) (.pair (.pair .i64 (.pair .u64 (.pair .u64 .unit))) .unit))], [(.box 120 (.pair (.pair .i64 (.pair .u64 (.pair .u64 .unit))) (.pair (.pair .i64 (.pair .u64 (.pair .u64 .unit))) .unit)), .pos 0), (.box 120 (.pair (.pair .i64 (.pair .u64 (.pair .u64 .unit))) (.pair (.pair .i64 (.pair .u64 (.pair .u64 .unit))) .unit)), .pos 1), (.box 120 (.pair (.pair .i64 (.pair .u64 (.pair .u64 .unit))) (.pair (.pair .i64 (.pair .u64 (.pair .u64 .unit))) .unit)), .pos 2)]⟩
noncomputable def decorrelate_side_meet_S2 : Spec := ⟨[.val (.pair (.pair .i64 (.pair .u64 (.pair .u64 .unit))) (.pair (.pair .i64 (.pair .u64 (.pair .u64 .unit))) .unit)), .val (.pair (.pair .i64 (.pair .u64 (.pair .u64 .unit))) (.pair (.pair .i64 (.pair .u64 (.pair .u64 .unit))) .unit))], []⟩
noncomputable def decorrelate_side_meet_S3 : Spec := ⟨[.fp (.pair (.pair .i64 (.pair .u64 (.pair .u64 .unit))) (.pair (.pair .i64 (.pair .u64 (.pair .u64 .unit))) .unit)), .val .bool], []⟩
noncomputable def decorrelate_side_meet_K (_N : Nat) : XE → GS → Option decorrelate_side_meet_R := retK 0 [4, 5] [true, false] decorrelate_side_meet_S3
noncomputable def decorrelate_side_meet_L : List Code := (bodyOf (some Try.f145))
theorem decorrelate_side_meet_2_b {E : Env} (N : Nat) (hb : Base Try.prog (decorrelate_side_meet_C N) E 0) : Blk Try.prog (decorrelate_side_meet_C N) E [2, 4] decorrelate_side_meet_S0 (decorrelate_side_meet_L.drop 5) (fun y => decorrelate_side_meet_2 N y.2.1 y.2.2.1) (decorrelate_side_meet_K N) :=
  Blk.chunkAt hb 2 (X := (decorrelate_side_meet_K N .normal)) (NxOk.end (by kernel_rfl)) rfl (fun x => by kernel_rfl)
theorem decorrelate_side_meet_1_b {E : Env} (N : Nat) (hb : Base Try.prog (decorrelate_side_meet_C N) E 0) : Blk Try.prog (decorrelate_side_meet_C N) E [2, 3, 4] decorrelate_side_meet_S1 (decorrelate_side_meet_L.drop 3) (fun y => decorrelate_side_meet_1 N y.2.1 y.2.2.1 y.2.2.2.1) (decorrelate_side_meet_K N) :=
  Blk.chunkAt hb 2 (X := (goK 0 [2, 4] decorrelate_side_meet_S0 (fun y => decorrelate_side_meet_2 N y.2.1 y.2.2.1))) (NxOk.go hb (decorrelate_side_meet_2_b N hb)) rfl (fun x => by kernel_rfl)
theorem decorrelate_side_meet_b {E : Env} (N : Nat) (hb : Base Try.prog (decorrelate_side_meet_C N) E 0) : Blk Try.prog (decorrelate_side_meet_C N) E (List.range decorrelate_side_meet_S2.ks.length) decorrelate_side_meet_S2 (decorrelate_side_meet_L.drop 0) (fun y => decorrelate_side_meet N y.1.1 y.1.2.1) (decorrelate_side_meet_K N) :=
  Blk.chunkAt hb 3 (X := (goK 0 [2, 3, 4] decorrelate_side_meet_S1 (fun y => decorrelate_side_meet_1 N y.2.1 y.2.2.1 y.2.2.2.1))) (NxOk.go hb (decorrelate_side_meet_1_b N hb)) rfl (fun x => by kernel_rfl)
noncomputable def decorrelate_side_meet_ctr (N : Nat) : Ctr := ⟨decorrelate_side_meet_S2, decorrelate_side_meet_S3.un [true, false], 0, (fun y => decorrelate_side_meet N y.1.1 y.1.2.1)⟩
theorem decorrelate_side_meet_ctrs (N : Nat) : CtrsOk Try.prog (decorrelate_side_meet_C N) := ctrs_of (Γ := decorrelate_side_meet_C N) (by
  intro p hp
  simp only [decorrelate_side_meet_C, List.mem_cons, List.not_mem_nil, or_false] at hp
  rcases hp with rfl
  · exact decorrelate_value_compare_ok N)
theorem decorrelate_side_meet_ok (N : Nat) : Ctr.ok Try.prog G_globs 145 (decorrelate_side_meet_ctr N) :=
  ctr_fn (Γ := decorrelate_side_meet_C N) (rfit := decorrelate_side_meet_S3) (bs := [true, false]) (res := [4, 5]) (by kernel_rfl) (tys_ok G_tys_ok) (decorrelate_side_meet_ctrs N) Try.func145 (by kernel_rfl) (by kernel_rfl) Try.ntmps145 (by kernel_rfl) (by kernel_rfl) (by kernel_rfl) (by kernel_rfl) (fun E hb => decorrelate_side_meet_b N hb)
end Go.Proofs.Ytgbkkfpheahdfaa
namespace Go.Proofs.Ytgbkkfpheahdfaa
open Go
set_option maxRecDepth 100000
set_option linter.unusedVariables false
/-! (ipsecgate/decorrelate.product).meet -/
abbrev decorrelate_product_meet_R : Type := (((List ((Int × (UInt64 × (UInt64 × Unit))) × ((Int × (UInt64 × (UInt64 × Unit))) × Unit))) × Bool × Unit) × (Unit))
noncomputable def decorrelate_product_meet_s2 (N : Nat) (t_9 : Int) (p_2 : (List ((Int × (UInt64 × (UInt64 × Unit))) × ((Int × (UInt64 × (UInt64 × Unit))) × Unit)))) (q_3 : (List ((Int × (UInt64 × (UInt64 × Unit))) × ((Int × (UInt64 × (UInt64 × Unit))) × Unit)))) (t_4 : (List ((Int × (UInt64 × (UInt64 × Unit))) × ((Int × (UInt64 × (UInt64 × Unit))) × Unit)))) : Option (Lo ((Int × Unit) × ((List ((Int × (UInt64 × (UInt64 × Unit))) × ((Int × (UInt64 × (UInt64 × Unit))) × Unit))) × (List ((Int × (UInt64 × (UInt64 × Unit))) × ((Int × (UInt64 × (UInt64 × Unit))) × Unit))) × (List ((Int × (UInt64 × (UInt64 × Unit))) × ((Int × (UInt64 × (UInt64 × Unit))) × Unit))) × Unit)) ((Unit) × ((List ((Int × (UInt64 × (UInt64 × Unit))) × ((Int × (UInt64 × (UInt64 × Unit))) × Unit))) × (List ((Int × (UInt64 × (UInt64 × Unit))) × ((Int × (UInt64 × (UInt64 × Unit))) × Unit))) × Unit)) decorrelate_product_meet_R) :=
  bif (decide (t_9 < (5 : Int))) then
    bif inR t_9 5 then
    bif inR t_9 5 then
    Option.bind (decorrelate_side_meet N (p_2.getD t_9.toNat (((0 : Int), (0 : UInt64), (0 : UInt64), ()), ((0 : Int), (0 : UInt64), (0 : UInt64), ()), ())) (q_3.getD t_9.toNat (((0 : Int), (0 : UInt64), (0 : UInt64), ()), ((0 : Int), (0 : UInt64), (0 : UInt64), ()), ()))) fun y4 =>
    bif (!y4.1.2.1) then
      some (.rt (((List.replicate 5 (((0 : Int), (0 : UInt64), (0 : UInt64), ()), ((0 : Int), (0 : UInt64), (0 : UInt64), ()), ())), false, ()), (())))
    else
      bif inR t_9 5 then
      some (.go (((w64 (t_9 + (1 : Int))), ()), ((p_2.set t_9.toNat y4.1.1), q_3, t_4, ())))
      else none
    else none
    else none
  else
    some (.br ((()), (p_2, t_4, ())))
noncomputable def decorrelate_product_meet_3 (N : Nat) (p_2 : (List ((Int × (UInt64 × (UInt64 × Unit))) × ((Int × (UInt64 × (UInt64 × Unit))) × Unit)))) (t_4 : (List ((Int × (UInt64 × (UInt64 × Unit))) × ((Int × (UInt64 × (UInt64 × Unit))) × Unit)))) : Option decorrelate_product_meet_R :=
  some ((p_2, true, ()), (()))
noncomputable def decorrelate_product_meet_1 (N : Nat) (t_9 : Int) (p_2 : (List ((Int × (UInt64 × (UInt64 × Unit))) × ((Int × (UInt64 × (UInt64 × Unit))) × Unit)))) (q_3 : (List ((Int × (UInt64 × (UInt64 × Unit))) × ((Int × (UInt64 × (UInt64 × Unit))) × Unit)))) (t_4 : (List ((Int × (UInt64 × (UInt64 × Unit))) × ((Int × (UInt64 × (UInt64 × Unit))) × Unit)))) : Option decorrelate_product_meet_R :=
  loopK N (fun y => decorrelate_product_meet_s2 N y.1.1 y.2.1 y.2.2.1 y.2.2.2.1) (fun (e : ((Unit) × ((List ((Int × (UInt64 × (UInt64 × Unit))) × ((Int × (UInt64 × (UInt64 × Unit))) × Unit))) × (List ((Int × (UInt64 × (UInt64 × Unit))) × ((Int × (UInt64 × (UInt64 × Unit))) × Unit))) × Unit))) => decorrelate_product_meet_3 N e.2.1 e.2.2.1) ((t_9, ()), (p_2, q_3, t_4, ()))
noncomputable def decorrelate_product_meet (N : Nat) (p_0 : (List ((Int × (UInt64 × (UInt64 × Unit))) × ((Int × (UInt64 × (UInt64 × Unit))) × Unit)))) (q_1 : (List ((Int × (UInt64 × (UInt64 × Unit))) × ((Int × (UInt64 × (UInt64 × Unit))) × Unit)))) : Option decorrelate_product_meet_R :=
  decorrelate_product_meet_1 N (0 : Int) p_0 q_1 (List.replicate 5 (((0 : Int), (0 : UInt64), (0 : UInt64), ()), ((0 : Int), (0 : UInt64), (0 : UInt64), ()), ()))
noncomputable def decorrelate_product_meet_C (N : Nat) : Ctx := ⟨30, G_tys, [(145, decorrelate_side_meet_ctr N)], G_globs⟩
noncomputable def decorrelate_product_meet_S0 : Spec := ⟨[.ref 0 (.arr 5 (.pair (.pair .i64 (.pair .u64 (.pair .u64 .unit))) (.pair (.pair .i64 (.pair .u64 (.pair .u64 .unit))) .unit))), .ref 1 (.arr 5 (.pair (.pair .i64 (.pair .u64 (.pair .u64 .unit))) (.pair (.pair .i64 (.pair .u64 (.pair .u64 .unit))) .unit))), .ref 2 (.arr 5 (.pair (.pair .i64 (.pair .u64 (.pair .u64 .unit))) (.pair (.pair .i64 (.pair .u64 (.pair .u64 .unit))) .unit))), .val .i64], [(.box 122 (.arr 5 (.pair (.pair .i64 (.pair .u64 (.pair .u64 .unit))) (.pair (.pair .i64 (.pair .u64 (.pair .u64 .unit))) .unit))), .pos 0), (.box 122 (.arr 5 (.pair (.pair .i64 (.pair .u64 (.pair .u64 .unit))) (.pair (.pair .i64 (.pair .u64 (.pair .u64 .unit))) .unit))), .pos 1), (.box 122 (.arr 5 (.pair (.pair .i64 (.pair .u64 (.pair .u64 .unit))) (.pair (.pair .i64 (.pair .u64 (.pair .u64 .unit))) .unit))), .pos 2)]⟩
noncomputable def decorrelate_product_meet_S1 : Spec := ⟨[.ref 0 (.arr 5 (.pair (.pair .i64 (.pair .u64 (.pair .u64 .unit))) (.pair (.pair .i64 (.pair .u64 (.pair .u64 .unit))) .unit))), .ref 1 (.arr 5 (.pair (.pair .i64 (.pair .u64 (.pair .u64 .unit))) (.pair (.pair .i64 (.pair .u64 (.pair .u64 .unit))) .unit)))], [(.box 122 (.arr 5 (.pair (.pair .i64 (.pair .u64 (.pair .u64 .unit))) (.pair (.pair .i64 (.pair .u64 (.pair .u64 .unit))) .unit))), .pos 0), (.box 122 (.arr 5 (.pair (.pair .i64 (.pair .u64 (.pair .u64 .unit))) (.pair (.pair .i64 (.pair .u64 (.pair .u64 .unit))) .unit))), .pos 1)]⟩
noncomputable def decorrelate_product_meet_S2 : Spec := ⟨[.val (.arr 5 (.pair (.pair .i64 (.pair .u64 (.pair .u64 .unit))) (.pair (.pair .i64 (.pair .u64 (.pair .u64 .unit))) .unit))), .val (.arr 5 (.pair (.pair .i64 (.pair .u64 (.pair .u64 .unit))) (.pair (.pair .i64 (.pair .u64 (.pair .u64 .unit))) .unit)))], []⟩
noncomputable def decorrelate_product_meet_S3 : Spec := ⟨[.fp (.arr 5 (.pair (.pair .i64 (.pair .u64 (.pair .u64 .unit))) (.pair (.pair .i64 (.pair .u64 (.pair .u64 .unit))) .unit))), .val .bool], []⟩
noncomputable def decorrelate_product_meet_K (_N : Nat) : XE → GS → Option decorrelate_product_meet_R := retK 0 [4, 5] [true, false] decorrelate_product_meet_S3
noncomputable def decorrelate_product_meet_L : List Code := (bodyOf (some Try.f80))
noncomputable def decorrelate_product_meet_L2 : List Code := (loopOf (decorrelate_product_meet_L[2]?))
noncomputable def decorrelate_product_meet_K2 (N : Nat) : XE → GS → Option (Lo ((Int × Unit) × ((List ((Int × (UInt64 × (UInt64 × Unit))) × ((Int × (UInt64 × (UInt64 × Unit))) × Unit))) × (List ((Int × (UInt64 × (UInt64 × Unit))) × ((Int × (UInt64 × (UInt64 × Unit))) × Unit))) × (List ((Int × (UInt64 × (UInt64 × Unit))) × ((Int × (UInt64 × (UInt64 × Unit))) × Unit))) × Unit)) ((Unit) × ((List ((Int × (UInt64 × (UInt64 × Unit))) × ((Int × (UInt64 × (UInt64 × Unit))) × Unit))) × (List ((Int × (UInt64 × (UInt64 × Unit))) × ((Int × (UInt64 × (UInt64 × Unit))) × Unit))) × Unit)) decorrelate_product_meet_R) := roundK (some 0) (fit 0 [2, 3, 4, 9] decorrelate_product_meet_S0) (fit 0 [2, 4] decorrelate_product_meet_S1) (decorrelate_product_meet_K N)
theorem decorrelate_product_meet_s2_b {E : Env} (N : Nat) (hb : Base Try.prog (decorrelate_product_meet_C N) E 0) : Blk Try.prog (decorrelate_product_meet_C N) E [2, 3, 4, 9] decorrelate_product_meet_S0 (decorrelate_product_meet_L2.drop 0) (fun y => decorrelate_product_meet_s2 N y.1.1 y.2.1 y.2.2.1 y.2.2.2.1) (decorrelate_product_meet_K2 N) :=
  Blk.chunkAt hb 4 (X := (decorrelate_product_meet_K2 N .normal)) (NxOk.end (by kernel_rfl)) rfl (fun x => by kernel_rfl)
theorem decorrelate_product_meet_3_b {E : Env} (N : Nat) (hb : Base Try.prog (decorrelate_product_meet_C N) E 0) : Blk Try.prog (decorrelate_product_meet_C N) E [2, 4] decorrelate_product_meet_S1 (decorrelate_product_meet_L.drop 3) (fun y => decorrelate_product_meet_3 N y.2.1 y.2.2.1) (decorrelate_product_meet_K N) :=
  Blk.chunkAt hb 2 (X := (decorrelate_product_meet_K N .normal)) (NxOk.end (by kernel_rfl)) rfl (fun x => by kernel_rfl)
theorem decorrelate_product_meet_1_b {E : Env} (N : Nat) (hb : Base Try.prog (decorrelate_product_meet_C N) E 0) : Blk Try.prog (decorrelate_product_meet_C N) E [2, 3, 4, 9] decorrelate_product_meet_S0 (decorrelate_product_meet_L.drop 2) (fun y => decorrelate_product_meet_1 N y.1.1 y.2.1 y.2.2.1 y.2.2.2.1) (decorrelate_product_meet_K N) :=
  Blk.loopAt (Nf := N) (hns := [2, 3, 4, 9]) (ans := [2, 4]) (hc := decorrelate_product_meet_S0) (ac := decorrelate_product_meet_S1) (bid := 0) (step := (fun y => decorrelate_product_meet_s2 N y.1.1 y.2.1 y.2.2.1 y.2.2.2.1)) (J := (fun e => (goK 0 [2, 4] decorrelate_product_meet_S1 (fun y => decorrelate_product_meet_3 N y.2.1 y.2.2.1)) (decorrelate_product_meet_S1.st [2, 4] e))) hb (by kernel_rfl) (Blk.into (X := (goK 0 [2, 4] decorrelate_product_meet_S1 (fun y => decorrelate_product_meet_3 N y.2.1 y.2.2.1))) (NxOk.go hb (decorrelate_product_meet_3_b N hb)) (fun x => by kernel_rfl)) (decorrelate_product_meet_s2_b N hb) (fun x => by kernel_rfl)
theorem decorrelate_product_meet_b {E : Env} (N : Nat) (hb : Base Try.prog (decorrelate_product_meet_C N) E 0) : Blk Try.prog (decorrelate_product_meet_C N) E (List.range decorrelate_product_meet_S2.ks.length) decorrelate_product_meet_S2 (decorrelate_product_meet_L.drop 0) (fun y => decorrelate_product_meet N y.1.1 y.1.2.1) (decorrelate_product_meet_K N) :=
  Blk.chunkAt hb 2 (X := (goK 0 [2, 3, 4, 9] decorrelate_product_meet_S0 (fun y => decorrelate_product_meet_1 N y.1.1 y.2.1 y.2.2.1 y.2.2.2.1))) (NxOk.go hb (decorrelate_product_meet_1_b N hb)) rfl (fun x => by kernel_rfl)
noncomputable def decorrelate_product_meet_ctr (N : Nat) : Ctr := ⟨decorrelate_product_meet_S2, decorrelate_product_meet_S3.un [true, false], 0, (fun y => decorrelate_product_meet N y.1.1 y.1.2.1)⟩
theorem decorrelate_product_meet_ctrs (N : Nat) : CtrsOk Try.prog (decorrelate_product_meet_C N) := ctrs_of (Γ := decorrelate_product_meet_C N) (by
  intro p hp
  simp only [decorrelate_product_meet_C, List.mem_cons, List.not_mem_nil, or_false] at hp
  rcases hp with rfl
  · exact decorrelate_side_meet_ok N)
theorem decorrelate_product_meet_ok (N : Nat) : Ctr.ok Try.prog G_globs 80 (decorrelate_product_meet_ctr N) :=
  ctr_fn (Γ := decorrelate_product_meet_C N) (rfit := decorrelate_product_meet_S3) (bs := [true, false]) (res := [4, 5]) (by kernel_rfl) (tys_ok G_tys_ok) (decorrelate_product_meet_ctrs N) Try.func80 (by kernel_rfl) (by kernel_rfl) Try.ntmps80 (by kernel_rfl) (by kernel_rfl) (by kernel_rfl) (by kernel_rfl) (fun E hb => decorrelate_product_meet_b N hb)
end Go.Proofs.Ytgbkkfpheahdfaa
namespace Go.Proofs.Ytgbkkfpheahdfaa
open Go
set_option maxRecDepth 100000
set_option linter.unusedVariables false
/-! (ipsecgate/decorrelate.value).ahead -/
abbrev decorrelate_value_ahead_R : Type := (((Int × (UInt64 × (UInt64 × Unit))) × Unit) × (Unit))
noncomputable def decorrelate_value_ahead_1 (N : Nat) (a_1 : (Int × (UInt64 × (UInt64 × Unit)))) (t_2 : (Int × (UInt64 × (UInt64 × Unit)))) : Option decorrelate_value_ahead_R :=
  some (((a_1.1, a_1.2.1, (a_1.2.2.1 - (1 : UInt64)), ()), ()), (()))
noncomputable def decorrelate_value_ahead (N : Nat) (a_0 : (Int × (UInt64 × (UInt64 × Unit)))) : Option decorrelate_value_ahead_R :=
  bif (decide (a_0.2.2.1 = (0 : UInt64))) then
    decorrelate_value_ahead_1 N (a_0.1, (a_0.2.1 - (1 : UInt64)), a_0.2.2.1, ()) ((0 : Int), (0 : UInt64), (0 : UInt64), ())
  else
    decorrelate_value_ahead_1 N a_0 ((0 : Int), (0 : UInt64), (0 : UInt64), ())
noncomputable def decorrelate_value_ahead_C (N : Nat) : Ctx := ⟨15, G_tys, [], G_globs⟩
noncomputable def decorrelate_value_ahead_S0 : Spec := ⟨[.ref 0 (.pair .i64 (.pair .u64 (.pair .u64 .unit))), .ref 1 (.pair .i64 (.pair .u64 (.pair .u64 .unit)))], [(.box 118 (.pair .i64 (.pair .u64 (.pair .u64 .unit))), .pos 0), (.box 118 (.pair .i64 (.pair .u64 (.pair .u64 .unit))), .pos 1)]⟩
noncomputable def decorrelate_value_ahead_S1 : Spec := ⟨[.val (.pair .i64 (.pair .u64 (.pair .u64 .unit)))], []⟩
noncomputable def decorrelate_value_ahead_S2 : Spec := ⟨[.fp (.pair .i64 (.pair .u64 (.pair .u64 .unit)))], []⟩
noncomputable def decorrelate_value_ahead_K (_N : Nat) : XE → GS → Option decorrelate_value_ahead_R := retK 0 [2] [true] decorrelate_value_ahead_S2
noncomputable def decorrelate_value_ahead_L : List Code := (bodyOf (some Try.f82))
theorem decorrelate_value_ahead_1_b {E : Env} (N : Nat) (hb : Base Try.prog (decorrelate_value_ahead_C N) E 0) : Blk Try.prog (decorrelate_value_ahead_C N) E [1, 2] decorrelate_value_ahead_S0 (decorrelate_value_ahead_L.drop 3) (fun y => decorrelate_value_ahead_1 N y.2.1 y.2.2.1) (decorrelate_value_ahead_K N) :=
  Blk.chunkAt hb 3 (X := (decorrelate_value_ahead_K N .normal)) (NxOk.end (by kernel_rfl)) rfl (fun x => by kernel_rfl)
theorem decorrelate_value_ahead_b {E : Env} (N : Nat) (hb : Base Try.prog (decorrelate_value_ahead_C N) E 0) : Blk Try.prog (decorrelate_value_ahead_C N) E (List.range decorrelate_value_ahead_S1.ks.length) decorrelate_value_ahead_S1 (decorrelate_value_ahead_L.drop 0) (fun y => decorrelate_value_ahead N y.1.1) (decorrelate_value_ahead_K N) :=
  Blk.chunkAt hb 3 (X := (goK 0 [1, 2] decorrelate_value_ahead_S0 (fun y => decorrelate_value_ahead_1 N y.2.1 y.2.2.1))) (NxOk.go hb (decorrelate_value_ahead_1_b N hb)) rfl (fun x => by kernel_rfl)
noncomputable def decorrelate_value_ahead_ctr (N : Nat) : Ctr := ⟨decorrelate_value_ahead_S1, decorrelate_value_ahead_S2.un [true], 0, (fun y => decorrelate_value_ahead N y.1.1)⟩
theorem decorrelate_value_ahead_ctrs (N : Nat) : CtrsOk Try.prog (decorrelate_value_ahead_C N) := ctrs_nil rfl
theorem decorrelate_value_ahead_ok (N : Nat) : Ctr.ok Try.prog G_globs 82 (decorrelate_value_ahead_ctr N) :=
  ctr_fn (Γ := decorrelate_value_ahead_C N) (rfit := decorrelate_value_ahead_S2) (bs := [true]) (res := [2]) (by kernel_rfl) (tys_ok G_tys_ok) (decorrelate_value_ahead_ctrs N) Try.func82 (by kernel_rfl) (by kernel_rfl) Try.ntmps82 (by kernel_rfl) (by kernel_rfl) (by kernel_rfl) (by kernel_rfl) (fun E hb => decorrelate_value_ahead_b N hb)
end Go.Proofs.Ytgbkkfpheahdfaa
namespace Go.Proofs.Ytgbkkfpheahdfaa
open Go
set_option maxRecDepth 100000
set_option linter.unusedVariables false
/-! (ipsecgate/decorrelate.value).address -/
abbrev decorrelate_value_address_R : Type := (((Int × (UInt64 × (UInt64 × Unit))) × Unit) × (Unit))
noncomputable def decorrelate_value_address (N : Nat) (a_0 : (Int × (UInt64 × (UInt64 × Unit)))) : Option decorrelate_value_address_R :=
  some (((a_0.1, a_0.2.1, a_0.2.2.1, ()), ()), (()))
noncomputable def decorrelate_value_address_C (N : Nat) : Ctx := ⟨10, G_tys, [], G_globs⟩
noncomputable def decorrelate_value_address_S0 : Spec := ⟨[.val (.pair .i64 (.pair .u64 (.pair .u64 .unit)))], []⟩
noncomputable def decorrelate_value_address_S1 : Spec := ⟨[.fp (.pair .i64 (.pair .u64 (.pair .u64 .unit)))], []⟩
noncomputable def decorrelate_value_address_K (_N : Nat) : XE → GS → Option decorrelate_value_address_R := retK 0 [2] [true] decorrelate_value_address_S1
noncomputable def decorrelate_value_address_L : List Code := (bodyOf (some Try.f149))
theorem decorrelate_value_address_b {E : Env} (N : Nat) (hb : Base Try.prog (decorrelate_value_address_C N) E 0) : Blk Try.prog (decorrelate_value_address_C N) E (List.range decorrelate_value_address_S0.ks.length) decorrelate_value_address_S0 (decorrelate_value_address_L.drop 0) (fun y => decorrelate_value_address N y.1.1) (decorrelate_value_address_K N) :=
  Blk.chunkAt hb 3 (X := (decorrelate_value_address_K N .normal)) (NxOk.end (by kernel_rfl)) rfl (fun x => by kernel_rfl)
noncomputable def decorrelate_value_address_ctr (N : Nat) : Ctr := ⟨decorrelate_value_address_S0, decorrelate_value_address_S1.un [true], 0, (fun y => decorrelate_value_address N y.1.1)⟩
theorem decorrelate_value_address_ctrs (N : Nat) : CtrsOk Try.prog (decorrelate_value_address_C N) := ctrs_nil rfl
theorem decorrelate_value_address_ok (N : Nat) : Ctr.ok Try.prog G_globs 149 (decorrelate_value_address_ctr N) :=
  ctr_fn (Γ := decorrelate_value_address_C N) (rfit := decorrelate_value_address_S1) (bs := [true]) (res := [2]) (by kernel_rfl) (tys_ok G_tys_ok) (decorrelate_value_address_ctrs N) Try.func149 (by kernel_rfl) (by kernel_rfl) Try.ntmps149 (by kernel_rfl) (by kernel_rfl) (by kernel_rfl) (by kernel_rfl) (fun E hb => decorrelate_value_address_b N hb)
end Go.Proofs.Ytgbkkfpheahdfaa
namespace Go.Proofs.Ytgbkkfpheahdfaa
open Go
set_option maxRecDepth 100000
set_option linter.unusedVariables false
/-! (ipsecgate/decorrelate.value).number -/
abbrev decorrelate_value_number_R : Type := ((Int × Unit) × (Unit))
noncomputable def decorrelate_value_number (N : Nat) (a_0 : (Int × (UInt64 × (UInt64 × Unit)))) : Option decorrelate_value_number_R :=
  some (((w64 ((w64 (a_0.2.2.1.toNat : Int)) - (1 : Int))), ()), (()))
noncomputable def decorrelate_value_number_C (N : Nat) : Ctx := ⟨7, G_tys, [], G_globs⟩
noncomputable def decorrelate_value_number_S0 : Spec := ⟨[.val (.pair .i64 (.pair .u64 (.pair .u64 .unit)))], []⟩
noncomputable def decorrelate_value_number_S1 : Spec := ⟨[.val .i64], []⟩
noncomputable def decorrelate_value_number_K (_N : Nat) : XE → GS → Option decorrelate_value_number_R := retK 0 [2] [false] decorrelate_value_number_S1
noncomputable def decorrelate_value_number_L : List Code := (bodyOf (some Try.f150))
theorem decorrelate_value_number_b {E : Env} (N : Nat) (hb : Base Try.prog (decorrelate_value_number_C N) E 0) : Blk Try.prog (decorrelate_value_number_C N) E (List.range decorrelate_value_number_S0.ks.length) decorrelate_value_number_S0 (decorrelate_value_number_L.drop 0) (fun y => decorrelate_value_number N y.1.1) (decorrelate_value_number_K N) :=
  Blk.chunkAt hb 3 (X := (decorrelate_value_number_K N .normal)) (NxOk.end (by kernel_rfl)) rfl (fun x => by kernel_rfl)
noncomputable def decorrelate_value_number_ctr (N : Nat) : Ctr := ⟨decorrelate_value_number_S0, decorrelate_value_number_S1.un [false], 0, (fun y => decorrelate_value_number N y.1.1)⟩
theorem decorrelate_value_number_ctrs (N : Nat) : CtrsOk Try.prog (decorrelate_value_number_C N) := ctrs_nil rfl
theorem decorrelate_value_number_ok (N : Nat) : Ctr.ok Try.prog G_globs 150 (decorrelate_value_number_ctr N) :=
  ctr_fn (Γ := decorrelate_value_number_C N) (rfit := decorrelate_value_number_S1) (bs := [false]) (res := [2]) (by kernel_rfl) (tys_ok G_tys_ok) (decorrelate_value_number_ctrs N) Try.func150 (by kernel_rfl) (by kernel_rfl) Try.ntmps150 (by kernel_rfl) (by kernel_rfl) (by kernel_rfl) (by kernel_rfl) (fun E hb => decorrelate_value_number_b N hb)
end Go.Proofs.Ytgbkkfpheahdfaa
namespace Go.Proofs.Ytgbkkfpheahdfaa
open Go
set_option maxRecDepth 100000
set_option linter.unusedVariables false
/-! (ipsecgate/decorrelate.product).box -/
abbrev decorrelate_product_box_R : Type := ((((Int × (UInt64 × (UInt64 × Unit))) × ((Int × (UInt64 × (UInt64 × Unit))) × ((Int × (UInt64 × (UInt64 × Unit))) × ((Int × (UInt64 × (UInt64 × Unit))) × (Int × (Int × ((List Int) × ((List Int) × Unit)))))))) × Unit) × (Unit))
noncomputable def decorrelate_product_box (N : Nat) (p_0 : (List ((Int × (UInt64 × (UInt64 × Unit))) × ((Int × (UInt64 × (UInt64 × Unit))) × Unit)))) : Option decorrelate_product_box_R :=
  Option.bind (decorrelate_value_address N ((p_0.getD 0 (((0 : Int), (0 : UInt64), (0 : UInt64), ()), ((0 : Int), (0 : UInt64), (0 : UInt64), ()), ())).1)) fun y2 =>
  Option.bind (decorrelate_value_address N ((p_0.getD 0 (((0 : Int), (0 : UInt64), (0 : UInt64), ()), ((0 : Int), (0 : UInt64), (0 : UInt64), ()), ())).2.1)) fun y4 =>
  Option.bind (decorrelate_value_address N ((p_0.getD 1 (((0 : Int), (0 : UInt64), (0 : UInt64), ()), ((0 : Int), (0 : UInt64), (0 : UInt64), ()), ())).1)) fun y6 =>
  Option.bind (decorrelate_value_address N ((p_0.getD 1 (((0 : Int), (0 : UInt64), (0 : UInt64), ()), ((0 : Int), (0 : UInt64), (0 : UInt64), ()), ())).2.1)) fun y8 =>
  Option.bind (decorrelate_value_number N ((p_0.getD 2 (((0 : Int), (0 : UInt64), (0 : UInt64), ()), ((0 : Int), (0 : UInt64), (0 : UInt64), ()), ())).1)) fun y10 =>
  Option.bind (decorrelate_value_number N ((p_0.getD 2 (((0 : Int), (0 : UInt64), (0 : UInt64), ()), ((0 : Int), (0 : UInt64), (0 : UInt64), ()), ())).2.1)) fun y12 =>
  Option.bind (decorrelate_value_number N ((p_0.getD 3 (((0 : Int), (0 : UInt64), (0 : UInt64), ()), ((0 : Int), (0 : UInt64), (0 : UInt64), ()), ())).1)) fun y14 =>
  Option.bind (decorrelate_value_number N ((p_0.getD 3 (((0 : Int), (0 : UInt64), (0 : UInt64), ()), ((0 : Int), (0 : UInt64), (0 : UInt64), ()), ())).2.1)) fun y16 =>
  Option.bind (decorrelate_value_number N ((p_0.getD 4 (((0 : Int), (0 : UInt64), (0 : UInt64), ()), ((0 : Int), (0 : UInt64), (0 : UInt64), ()), ())).1)) fun y19 =>
  Option.bind (decorrelate_value_number N ((p_0.getD 4 (((0 : Int), (0 : UInt64), (0 : UInt64), ()), ((0 : Int), (0 : UInt64), (0 : UInt64), ()), ())).2.1)) fun y21 =>
  some (((y2.1.1, y4.1.1, y6.1.1, y8.1.1, y10.1.1, y12.1.1, ([y14.1.1, y16.1.1] : List Int), ([y19.1.1, y21.1.1] : List Int), ()), ()), (()))
noncomputable def decorrelate_product_box_C (N : Nat) : Ctx := ⟨46, G_tys, [(149, decorrelate_value_address_ctr N), (150, decorrelate_value_number_ctr N)], G_globs⟩
noncomputable def decorrelate_product_box_S0 : Spec := ⟨[.val (.arr 5 (.pair (.pair .i64 (.pair .u64 (.pair .u64 .unit))) (.pair (.pair .i64 (.pair .u64 (.pair .u64 .unit))) .unit)))], []⟩
noncomputable def decorrelate_product_box_S1 : Spec := ⟨[.fp (.pair (.pair .i64 (.pair .u64 (.pair .u64 .unit))) (.pair (.pair .i64 (.pair .u64 (.pair .u64 .unit))) (.pair (.pair .i64 (.pair .u64 (.pair .u64 .unit))) (.pair (.pair .i64 (.pair .u64 (.pair .u64 .unit))) (.pair .i64 (.pair .i64 (.pair (.arr 2 .i64) (.pair (.arr 2 .i64) .unit))))))))], []⟩
noncomputable def decorrelate_product_box_K (_N : Nat) : XE → GS → Option decorrelate_product_box_R := retK 0 [2] [true] decorrelate_product_box_S1
noncomputable def decorrelate_product_box_L : List Code := (bodyOf (some Try.f83))
theorem decorrelate_product_box_b {E : Env} (N : Nat) (hb : Base Try.prog (decorrelate_product_box_C N) E 0) : Blk Try.prog (decorrelate_product_box_C N) E (List.range decorrelate_product_box_S0.ks.length) decorrelate_product_box_S0 (decorrelate_product_box_L.drop 0) (fun y => decorrelate_product_box N y.1.1) (decorrelate_product_box_K N) :=
  Blk.chunkAt hb 3 (X := (decorrelate_product_box_K N .normal)) (NxOk.end (by kernel_rfl)) rfl (fun x => by kernel_rfl)
noncomputable def decorrelate_product_box_ctr (N : Nat) : Ctr := ⟨decorrelate_product_box_S0, decorrelate_product_box_S1.un [true], 0, (fun y => decorrelate_product_box N y.1.1)⟩
theorem decorrelate_product_box_ctrs (N : Nat) : CtrsOk Try.prog (decorrelate_product_box_C N) := ctrs_of (Γ := decorrelate_product_box_C N) (by
  intro p hp
  simp only [decorrelate_product_box_C, List.mem_cons, List.not_mem_nil, or_false] at hp
  rcases hp with rfl | rfl
  · exact decorrelate_value_address_ok N
  · exact decorrelate_value_number_ok N)
theorem decorrelate_product_box_ok (N : Nat) : Ctr.ok Try.prog G_globs 83 (decorrelate_product_box_ctr N) :=
  ctr_fn (Γ := decorrelate_product_box_C N) (rfit := decorrelate_product_box_S1) (bs := [true]) (res := [2]) (by kernel_rfl) (tys_ok G_tys_ok) (decorrelate_product_box_ctrs N) Try.func83 (by kernel_rfl) (by kernel_rfl) Try.ntmps83 (by kernel_rfl) (by kernel_rfl) (by kernel_rfl) (by kernel_rfl) (fun E hb => decorrelate_product_box_b N hb)
end Go.Proofs.Ytgbkkfpheahdfaa
namespace Go.Proofs.Ytgbkkfpheahdfaa
open Go
set_option maxRecDepth 100000
set_option linter.unusedVariables false
/-! (ipsecgate/decorrelate.value).behind -/
abbrev decorrelate_value_behind_R : Type := (((Int × (UInt64 × (UInt64 × Unit))) × Unit) × (Unit))
noncomputable def decorrelate_value_behind (N : Nat) (a_0 : (Int × (UInt64 × (UInt64 × Unit)))) : Option decorrelate_value_behind_R :=
  let x1 := a_0.2.2.1 + (1 : UInt64)
  bif (decide (x1 = (0 : UInt64))) then
    some (((a_0.1, (a_0.2.1 + (1 : UInt64)), x1, ()), ()), (()))
  else
    some (((a_0.1, a_0.2.1, x1, ()), ()), (()))
noncomputable def decorrelate_value_behind_C (N : Nat) : Ctx := ⟨15, G_tys, [], G_globs⟩
noncomputable def decorrelate_value_behind_S0 : Spec := ⟨[.val (.pair .i64 (.pair .u64 (.pair .u64 .unit)))], []⟩
noncomputable def decorrelate_value_behind_S1 : Spec := ⟨[.fp (.pair .i64 (.pair .u64 (.pair .u64 .unit)))], []⟩
noncomputable def decorrelate_value_behind_K (_N : Nat) : XE → GS → Option decorrelate_value_behind_R := retK 0 [2] [true] decorrelate_value_behind_S1
noncomputable def decorrelate_value_behind_L : List Code := (bodyOf (some Try.f84))
theorem decorrelate_value_behind_b {E : Env} (N : Nat) (hb : Base Try.prog (decorrelate_value_behind_C N) E 0) : Blk Try.prog (decorrelate_value_behind_C N) E (List.range decorrelate_value_behind_S0.ks.length) decorrelate_value_behind_S0 (decorrelate_value_behind_L.drop 0) (fun y => decorrelate_value_behind N y.1.1) (decorrelate_value_behind_K N) :=
  Blk.chunkAt hb 6 (X := (decorrelate_value_behind_K N .normal)) (NxOk.end (by kernel_rfl)) rfl (fun x => by kernel_rfl)
noncomputable def decorrelate_value_behind_ctr (N : Nat) : Ctr := ⟨decorrelate_value_behind_S0, decorrelate_value_behind_S1.un [true], 0, (fun y => decorrelate_value_behind N y.1.1)⟩
theorem decorrelate_value_behind_ctrs (N : Nat) : CtrsOk Try.prog (decorrelate_value_behind_C N) := ctrs_nil rfl
theorem decorrelate_value_behind_ok (N : Nat) : Ctr.ok Try.prog G_globs 84 (decorrelate_value_behind_ctr N) :=
  ctr_fn (Γ := decorrelate_value_behind_C N) (rfit := decorrelate_value_behind_S1) (bs := [true]) (res := [2]) (by kernel_rfl) (tys_ok G_tys_ok) (decorrelate_value_behind_ctrs N) Try.func84 (by kernel_rfl) (by kernel_rfl) Try.ntmps84 (by kernel_rfl) (by kernel_rfl) (by kernel_rfl) (by kernel_rfl) (fun E hb => decorrelate_value_behind_b N hb)
end Go.Proofs.Ytgbkkfpheahdfaa
namespace Go.Proofs.Ytgbkkfpheahdfaa
open Go
set_option maxRecDepth 100000
set_option linter.unusedVariables false
/-! ipsecgate/decorrelate.Minus -/
abbrev decorrelate_Minus_R : Type := ((Unit) × ((List ((Int × (UInt64 × (UInt64 × Unit))) × ((Int × (UInt64 × (UInt64 × Unit))) × ((Int × (UInt64 × (UInt64 × Unit))) × ((Int × (UInt64 × (UInt64 × Unit))) × (Int × (Int × ((List Int) × ((List Int) × Unit))))))))) × Unit))
noncomputable def decorrelate_Minus_s2 (N : Nat) (t_25 : Int) (c_5 : (List ((Int × (UInt64 × (UInt64 × Unit))) × ((Int × (UInt64 × (UInt64 × Unit))) × Unit)))) (out_6 : (List ((Int × (UInt64 × (UInt64 × Unit))) × ((Int × (UInt64 × (UInt64 × Unit))) × ((Int × (UInt64 × (UInt64 × Unit))) × ((Int × (UInt64 × (UInt64 × Unit))) × (Int × (Int × ((List Int) × ((List Int) × Unit)))))))))) (m_7 : (List ((Int × (UInt64 × (UInt64 × Unit))) × ((Int × (UInt64 × (UInt64 × Unit))) × Unit)))) : Option (Lo ((Int × Unit) × ((List ((Int × (UInt64 × (UInt64 × Unit))) × ((Int × (UInt64 × (UInt64 × Unit))) × Unit))) × (List ((Int × (UInt64 × (UInt64 × Unit))) × ((Int × (UInt64 × (UInt64 × Unit))) × ((Int × (UInt64 × (UInt64 × Unit))) × ((Int × (UInt64 × (UInt64 × Unit))) × (Int × (Int × ((List Int) × ((List Int) × Unit))))))))) × (List ((Int × (UInt64 × (UInt64 × Unit))) × ((Int × (UInt64 × (UInt64 × Unit))) × Unit))) × Unit)) ((Unit) × ((List ((Int × (UInt64 × (UInt64 × Unit))) × ((Int × (UInt64 × (UInt64 × Unit))) × ((Int × (UInt64 × (UInt64 × Unit))) × ((Int × (UInt64 × (UInt64 × Unit))) × (Int × (Int × ((List Int) × ((List Int) × Unit))))))))) × Unit)) decorrelate_Minus_R) :=
  bif (decide (t_25 < (5 : Int))) then
    bif inR t_25 5 then
    bif inR t_25 5 then
    Option.bind (decorrelate_value_compare N ((c_5.getD t_25.toNat (((0 : Int), (0 : UInt64), (0 : UInt64), ()), ((0 : Int), (0 : UInt64), (0 : UInt64), ()), ())).1) ((m_7.getD t_25.toNat (((0 : Int), (0 : UInt64), (0 : UInt64), ()), ((0 : Int), (0 : UInt64), (0 : UInt64), ()), ())).1)) fun y8 =>
    bif (decide (y8.1.1 < (0 : Int))) then
      bif inR t_25 5 then
      bif inR t_25 5 then
      Option.bind (decorrelate_value_ahead N ((m_7.getD t_25.toNat (((0 : Int), (0 : UInt64), (0 : UInt64), ()), ((0 : Int), (0 : UInt64), (0 : UInt64), ()), ())).1)) fun y12 =>
      bif inR t_25 5 then
      let x13 := (c_5.set t_25.toNat (((c_5.getD t_25.toNat (((0 : Int), (0 : UInt64), (0 : UInt64), ()), ((0 : Int), (0 : UInt64), (0 : UInt64), ()), ())).1), y12.1.1, ()))
      Option.bind (decorrelate_product_box N x13) fun y14 =>
      bif room (out_6.length + ([y14.1.1] : List ((Int × (UInt64 × (UInt64 × Unit))) × ((Int × (UInt64 × (UInt64 × Unit))) × ((Int × (UInt64 × (UInt64 × Unit))) × ((Int × (UInt64 × (UInt64 × Unit))) × (Int × (Int × ((List Int) × ((List Int) × Unit))))))))).length) 144 then
      let x15 := out_6 ++ ([y14.1.1] : List ((Int × (UInt64 × (UInt64 × Unit))) × ((Int × (UInt64 × (UInt64 × Unit))) × ((Int × (UInt64 × (UInt64 × Unit))) × ((Int × (UInt64 × (UInt64 × Unit))) × (Int × (Int × ((List Int) × ((List Int) × Unit)))))))))
      bif inR t_25 5 then
      bif inR t_25 5 then
      Option.bind (decorrelate_value_compare N ((m_7.getD t_25.toNat (((0 : Int), (0 : UInt64), (0 : UInt64), ()), ((0 : Int), (0 : UInt64), (0 : UInt64), ()), ())).2.1) ((c_5.getD t_25.toNat (((0 : Int), (0 : UInt64), (0 : UInt64), ()), ((0 : Int), (0 : UInt64), (0 : UInt64), ()), ())).2.1)) fun y18 =>
      bif (decide (y18.1.1 < (0 : Int))) then
        bif inR t_25 5 then
        Option.bind (decorrelate_value_behind N ((m_7.getD t_25.toNat (((0 : Int), (0 : UInt64), (0 : UInt64), ()), ((0 : Int), (0 : UInt64), (0 : UInt64), ()), ())).2.1)) fun y21 =>
        bif inR t_25 5 then
        bif inR t_25 5 then
        Option.bind (decorrelate_product_box N (x13.set t_25.toNat (y21.1.1, ((c_5.getD t_25.toNat (((0 : Int), (0 : UInt64), (0 : UInt64), ()), ((0 : Int), (0 : UInt64), (0 : UInt64), ()), ())).2.1), ()))) fun y24 =>
        bif room (x15.length + ([y24.1.1] : List ((Int × (UInt64 × (UInt64 × Unit))) × ((Int × (UInt64 × (UInt64 × Unit))) × ((Int × (UInt64 × (UInt64 × Unit))) × ((Int × (UInt64 × (UInt64 × Unit))) × (Int × (Int × ((List Int) × ((List Int) × Unit))))))))).length) 144 then
        bif inR t_25 5 then
        bif inR t_25 5 then
        some (.go (((w64 (t_25 + (1 : Int))), ()), ((c_5.set t_25.toNat (m_7.getD t_25.toNat (((0 : Int), (0 : UInt64), (0 : UInt64), ()), ((0 : Int), (0 : UInt64), (0 : UInt64), ()), ()))), (x15 ++ ([y24.1.1] : List ((Int × (UInt64 × (UInt64 × Unit))) × ((Int × (UInt64 × (UInt64 × Unit))) × ((Int × (UInt64 × (UInt64 × Unit))) × ((Int × (UInt64 × (UInt64 × Unit))) × (Int × (Int × ((List Int) × ((List Int) × Unit)))))))))), m_7, ())))
        else none
        else none
        else none
        else none
        else none
        else none
      else
        bif inR t_25 5 then
        bif inR t_25 5 then
        some (.go (((w64 (t_25 + (1 : Int))), ()), ((c_5.set t_25.toNat (m_7.getD t_25.toNat (((0 : Int), (0 : UInt64), (0 : UInt64), ()), ((0 : Int), (0 : UInt64), (0 : UInt64), ()), ()))), x15, m_7, ())))
        else none
        else none
      else none
      else none
      else none
      else none
      else none
      else none
    else
      bif inR t_25 5 then
      bif inR t_25 5 then
      Option.bind (decorrelate_value_compare N ((m_7.getD t_25.toNat (((0 : Int), (0 : UInt64), (0 : UInt64), ()), ((0 : Int), (0 : UInt64), (0 : UInt64), ()), ())).2.1) ((c_5.getD t_25.toNat (((0 : Int), (0 : UInt64), (0 : UInt64), ()), ((0 : Int), (0 : UInt64), (0 : UInt64), ()), ())).2.1)) fun y34 =>
      bif (decide (y34.1.1 < (0 : Int))) then
        bif inR t_25 5 then
        Option.bind (decorrelate_value_behind N ((m_7.getD t_25.toNat (((0 : Int), (0 : UInt64), (0 : UInt64), ()), ((0 : Int), (0 : UInt64), (0 : UInt64), ()), ())).2.1)) fun y37 =>
        bif inR t_25 5 then
        bif inR t_25 5 then
        Option.bind (decorrelate_product_box N (c_5.set t_25.toNat (y37.1.1, ((c_5.getD t_25.toNat (((0 : Int), (0 : UInt64), (0 : UInt64), ()), ((0 : Int), (0 : UInt64), (0 : UInt64), ()), ())).2.1), ()))) fun y40 =>
        bif room (out_6.length + ([y40.1.1] : List ((Int × (UInt64 × (UInt64 × Unit))) × ((Int × (UInt64 × (UInt64 × Unit))) × ((Int × (UInt64 × (UInt64 × Unit))) × ((Int × (UInt64 × (UInt64 × Unit))) × (Int × (Int × ((List Int) × ((List Int) × Unit))))))))).length) 144 then
        bif inR t_25 5 then
        bif inR t_25 5 then
        some (.go (((w64 (t_25 + (1 : Int))), ()), ((c_5.set t_25.toNat (m_7.getD t_25.toNat (((0 : Int), (0 : UInt64), (0 : UInt64), ()), ((0 : Int), (0 : UInt64), (0 : UInt64), ()), ()))), (out_6 ++ ([y40.1.1] : List ((Int × (UInt64 × (UInt64 × Unit))) × ((Int × (UInt64 × (UInt64 × Unit))) × ((Int × (UInt64 × (UInt64 × Unit))) × ((Int × (UInt64 × (UInt64 × Unit))) × (Int × (Int × ((List Int) × ((List Int) × Unit)))))))))), m_7, ())))
        else none
        else none
        else none
        else none
        else none
        else none
      else
        bif inR t_25 5 then
        bif inR t_25 5 then
        some (.go (((w64 (t_25 + (1 : Int))), ()), ((c_5.set t_25.toNat (m_7.getD t_25.toNat (((0 : Int), (0 : UInt64), (0 : UInt64), ()), ((0 : Int), (0 : UInt64), (0 : UInt64), ()), ()))), out_6, m_7, ())))
        else none
        else none
      else none
      else none
    else none
    else none
  else
    some (.br ((()), (out_6, ())))
noncomputable def decorrelate_Minus_3 (N : Nat) (out_6 : (List ((Int × (UInt64 × (UInt64 × Unit))) × ((Int × (UInt64 × (UInt64 × Unit))) × ((Int × (UInt64 × (UInt64 × Unit))) × ((Int × (UInt64 × (UInt64 × Unit))) × (Int × (Int × ((List Int) × ((List Int) × Unit)))))))))) : Option decorrelate_Minus_R :=
  some ((()), (out_6, ()))
noncomputable def decorrelate_Minus_1 (N : Nat) (t_25 : Int) (c_5 : (List ((Int × (UInt64 × (UInt64 × Unit))) × ((Int × (UInt64 × (UInt64 × Unit))) × Unit)))) (out_6 : (List ((Int × (UInt64 × (UInt64 × Unit))) × ((Int × (UInt64 × (UInt64 × Unit))) × ((Int × (UInt64 × (UInt64 × Unit))) × ((Int × (UInt64 × (UInt64 × Unit))) × (Int × (Int × ((List Int) × ((List Int) × Unit)))))))))) (m_7 : (List ((Int × (UInt64 × (UInt64 × Unit))) × ((Int × (UInt64 × (UInt64 × Unit))) × Unit)))) : Option decorrelate_Minus_R :=
  loopK N (fun y => decorrelate_Minus_s2 N y.1.1 y.2.1 y.2.2.1 y.2.2.2.1) (fun (e : ((Unit) × ((List ((Int × (UInt64 × (UInt64 × Unit))) × ((Int × (UInt64 × (UInt64 × Unit))) × ((Int × (UInt64 × (UInt64 × Unit))) × ((Int × (UInt64 × (UInt64 × Unit))) × (Int × (Int × ((List Int) × ((List Int) × Unit))))))))) × Unit))) => decorrelate_Minus_3 N e.2.1) ((t_25, ()), (c_5, out_6, m_7, ()))
noncomputable def decorrelate_Minus (N : Nat) (a_0 : ((Int × (UInt64 × (UInt64 × Unit))) × ((Int × (UInt64 × (UInt64 × Unit))) × ((Int × (UInt64 × (UInt64 × Unit))) × ((Int × (UInt64 × (UInt64 × Unit))) × (Int × (Int × ((List Int) × ((List Int) × Unit))))))))) (b_1 : ((Int × (UInt64 × (UInt64 × Unit))) × ((Int × (UInt64 × (UInt64 × Unit))) × ((Int × (UInt64 × (UInt64 × Unit))) × ((Int × (UInt64 × (UInt64 × Unit))) × (Int × (Int × ((List Int) × ((List Int) × Unit))))))))) : Option decorrelate_Minus_R :=
  Option.bind (decorrelate_ofBox N a_0) fun y1 =>
  Option.bind (decorrelate_ofBox N b_1) fun y2 =>
  Option.bind (decorrelate_product_meet N y1.1.1 y2.1.1) fun y3 =>
  bif (!y3.1.2.1) then
    some ((()), (([a_0] : List ((Int × (UInt64 × (UInt64 × Unit))) × ((Int × (UInt64 × (UInt64 × Unit))) × ((Int × (UInt64 × (UInt64 × Unit))) × ((Int × (UInt64 × (UInt64 × Unit))) × (Int × (Int × ((List Int) × ((List Int) × Unit))))))))), ()))
  else
    decorrelate_Minus_1 N (0 : Int) y1.1.1 ([] : List ((Int × (UInt64 × (UInt64 × Unit))) × ((Int × (UInt64 × (UInt64 × Unit))) × ((Int × (UInt64 × (UInt64 × Unit))) × ((Int × (UInt64 × (UInt64 × Unit))) × (Int × (Int × ((List Int) × ((List Int) × Unit))))))))) y3.1.1
noncomputable def decorrelate_Minus_C (N : Nat) : Ctx := ⟨90, G_tys, [(79, decorrelate_ofBox_ctr N), (80, decorrelate_product_meet_ctr N), (81, decorrelate_value_compare_ctr N), (82, decorrelate_value_ahead_ctr N), (83, decorrelate_product_box_ctr N), (84, decorrelate_value_behind_ctr N)], G_globs⟩
noncomputable def decorrelate_Minus_S0 : Spec := ⟨[.ref 0 (.arr 5 (.pair (.pair .i64 (.pair .u64 (.pair .u64 .unit))) (.pair (.pair .i64 (.pair .u64 (.pair .u64 .unit))) .unit))), .row 1, .ref 2 (.arr 5 (.pair (.pair .i64 (.pair .u64 (.pair .u64 .unit))) (.pair (.pair .i64 (.pair .u64 (.pair .u64 .unit))) .unit))), .val .i64], [(.box 122 (.arr 5 (.pair (.pair .i64 (.pair .u64 (.pair .u64 .unit))) (.pair (.pair .i64 (.pair .u64 (.pair .u64 .unit))) .unit))), .pos 0), (.row 46 (.pair (.pair .i64 (.pair .u64 (.pair .u64 .unit))) (.pair (.pair .i64 (.pair .u64 (.pair .u64 .unit))) (.pair (.pair .i64 (.pair .u64 (.pair .u64 .unit))) (.pair (.pair .i64 (.pair .u64 (.pair .u64 .unit))) (.pair .i64 (.pair .i64 (.pair (.arr 2 .i64) (.pair (.arr 2 .i64) .unit)))))))), .pos 1), (.box 122 (.arr 5 (.pair (.pair .i64 (.pair .u64 (.pair .u64 .unit))) (.pair (.pair .i64 (.pair .u64 (.pair .u64 .unit))) .unit))), .pos 2)]⟩
noncomputable def decorrelate_Minus_S1 : Spec := ⟨[.row 0], [(.row 46 (.pair (.pair .i64 (.pair .u64 (.pair .u64 .unit))) (.pair (.pair .i64 (.pair .u64 (.pair .u64 .unit))) (.pair (.pair .i64 (.pair .u64 (.pair .u64 .unit))) (.pair (.pair .i64 (.pair .u64 (.pair .u64 .unit))) (.pair .i64 (.pair .i64 (.pair (.arr 2 .i64) (.pair (.arr 2 .i64) .unit)))))))), .pos 0)]⟩
noncomputable def decorrelate_Minus_S2 : Spec := ⟨[.val (.pair (.pair .i64 (.pair .u64 (.pair .u64 .unit))) (.pair (.pair .i64 (.pair .u64 (.pair .u64 .unit))) (.pair (.pair .i64 (.pair .u64 (.pair .u64 .unit))) (.pair (.pair .i64 (.pair .u64 (.pair .u64 .unit))) (.pair .i64 (.pair .i64 (.pair (.arr 2 .i64) (.pair (.arr 2 .i64) .unit)))))))), .val (.pair (.pair .i64 (.pair .u64 (.pair .u64 .unit))) (.pair (.pair .i64 (.pair .u64 (.pair .u64 .unit))) (.pair (.pair .i64 (.pair .u64 (.pair .u64 .unit))) (.pair (.pair .i64 (.pair .u64 (.pair .u64 .unit))) (.pair .i64 (.pair .i64 (.pair (.arr 2 .i64) (.pair (.arr 2 .i64) .unit))))))))], []⟩
noncomputable def decorrelate_Minus_K (_N : Nat) : XE → GS → Option decorrelate_Minus_R := retK 0 [4] [false] decorrelate_Minus_S1
noncomputable def decorrelate_Minus_L : List Code := (bodyOf (some Try.f30))
noncomputable def decorrelate_Minus_L2 : List Code := (loopOf (decorrelate_Minus_L[6]?))
noncomputable def decorrelate_Minus_K2 (N : Nat) : XE → GS → Option (Lo ((Int × Unit) × ((List ((Int × (UInt64 × (UInt64 × Unit))) × ((Int × (UInt64 × (UInt64 × Unit))) × Unit))) × (List ((Int × (UInt64 × (UInt64 × Unit))) × ((Int × (UInt64 × (UInt64 × Unit))) × ((Int × (UInt64 × (UInt64 × Unit))) × ((Int × (UInt64 × (UInt64 × Unit))) × (Int × (Int × ((List Int) × ((List Int) × Unit))))))))) × (List ((Int × (UInt64 × (UInt64 × Unit))) × ((Int × (UInt64 × (UInt64 × Unit))) × Unit))) × Unit)) ((Unit) × ((List ((Int × (UInt64 × (UInt64 × Unit))) × ((Int × (UInt64 × (UInt64 × Unit))) × ((Int × (UInt64 × (UInt64 × Unit))) × ((Int × (UInt64 × (UInt64 × Unit))) × (Int × (Int × ((List Int) × ((List Int) × Unit))))))))) × Unit)) decorrelate_Minus_R) := roundK (some 0) (fit 0 [5, 6, 7, 25] decorrelate_Minus_S0) (fit 0 [6] decorrelate_Minus_S1) (decorrelate_Minus_K N)
theorem decorrelate_Minus_s2_b {E : Env} (N : Nat) (hb : Base Try.prog (decorrelate_Minus_C N) E 0) : Blk Try.prog (decorrelate_Minus_C N) E [5, 6, 7, 25] decorrelate_Minus_S0 (decorrelate_Minus_L2.drop 0) (fun y => decorrelate_Minus_s2 N y.1.1 y.2.1 y.2.2.1 y.2.2.2.1) (decorrelate_Minus_K2 N) :=
  Blk.chunkAt hb 4 (X := (decorrelate_Minus_K2 N .normal)) (NxOk.end (by kernel_rfl)) rfl (fun x => by kernel_rfl)
theorem decorrelate_Minus_3_b {E : Env} (N : Nat) (hb : Base Try.prog (decorrelate_Minus_C N) E 0) : Blk Try.prog (decorrelate_Minus_C N) E [6] decorrelate_Minus_S1 (decorrelate_Minus_L.drop 7) (fun y => decorrelate_Minus_3 N y.2.1) (decorrelate_Minus_K N) :=
  Blk.chunkAt hb 2 (X := (decorrelate_Minus_K N .normal)) (NxOk.end (by kernel_rfl)) rfl (fun x => by kernel_rfl)
theorem decorrelate_Minus_1_b {E : Env} (N : Nat) (hb : Base Try.prog (decorrelate_Minus_C N) E 0) : Blk Try.prog (decorrelate_Minus_C N) E [5, 6, 7, 25] decorrelate_Minus_S0 (decorrelate_Minus_L.drop 6) (fun y => decorrelate_Minus_1 N y.1.1 y.2.1 y.2.2.1 y.2.2.2.1) (decorrelate_Minus_K N) :=
  Blk.loopAt (Nf := N) (hns := [5, 6, 7, 25]) (ans := [6]) (hc := decorrelate_Minus_S0) (ac := decorrelate_Minus_S1) (bid := 0) (step := (fun y => decorrelate_Minus_s2 N y.1.1 y.2.1 y.2.2.1 y.2.2.2.1)) (J := (fun e => (goK 0 [6] decorrelate_Minus_S1 (fun y => decorrelate_Minus_3 N y.2.1)) (decorrelate_Minus_S1.st [6] e))) hb (by kernel_rfl) (Blk.into (X := (goK 0 [6] decorrelate_Minus_S1 (fun y => decorrelate_Minus_3 N y.2.1))) (NxOk.go hb (decorrelate_Minus_3_b N hb)) (fun x => by kernel_rfl)) (decorrelate_Minus_s2_b N hb) (fun x => by kernel_rfl)
theorem decorrelate_Minus_b {E : Env} (N : Nat) (hb : Base Try.prog (decorrelate_Minus_C N) E 0) : Blk Try.prog (decorrelate_Minus_C N) E (List.range decorrelate_Minus_S2.ks.length) decorrelate_Minus_S2 (decorrelate_Minus_L.drop 0) (fun y => decorrelate_Minus N y.1.1 y.1.2.1) (decorrelate_Minus_K N) :=
  Blk.chunkAt hb 6 (X := (goK 0 [5, 6, 7, 25] decorrelate_Minus_S0 (fun y => decorrelate_Minus_1 N y.1.1 y.2.1 y.2.2.1 y.2.2.2.1))) (NxOk.go hb (decorrelate_Minus_1_b N hb)) rfl (fun x => by kernel_rfl)
noncomputable def decorrelate_Minus_ctr (N : Nat) : Ctr := ⟨decorrelate_Minus_S2, decorrelate_Minus_S1.un [false], 0, (fun y => decorrelate_Minus N y.1.1 y.1.2.1)⟩
theorem decorrelate_Minus_ctrs (N : Nat) : CtrsOk Try.prog (decorrelate_Minus_C N) := ctrs_of (Γ := decorrelate_Minus_C N) (by
  intro p hp
  simp only [decorrelate_Minus_C, List.mem_cons, List.not_mem_nil, or_false] at hp
  rcases hp with rfl | rfl | rfl | rfl | rfl | rfl
  · exact decorrelate_ofBox_ok N
  · exact decorrelate_product_meet_ok N
  · exact decorrelate_value_compare_ok N
  · exact decorrelate_value_ahead_ok N
  · exact decorrelate_product_box_ok N
  · exact decorrelate_value_behind_ok N)
theorem decorrelate_Minus_ok (N : Nat) : Ctr.ok Try.prog G_globs 30 (decorrelate_Minus_ctr N) :=
  ctr_fn (Γ := decorrelate_Minus_C N) (rfit := decorrelate_Minus_S1) (bs := [false]) (res := [4]) (by kernel_rfl) (tys_ok G_tys_ok) (decorrelate_Minus_ctrs N) Try.func30 (by kernel_rfl) (by kernel_rfl) Try.ntmps30 (by kernel_rfl) (by kernel_rfl) (by kernel_rfl) (by kernel_rfl) (fun E hb => decorrelate_Minus_b N hb)
end Go.Proofs.Ytgbkkfpheahdfaa
namespace Go.Proofs.Ytgbkkfpheahdfaa
open Go
set_option maxRecDepth 100000
set_option linter.unusedVariables false
/-! ipsecgate/ipsecgatelaw20.awake -/
abbrev law20_awake_R : Type := ((Bool × Unit) × (Unit))
noncomputable def law20_awake (N : Nat) : Option law20_awake_R :=
  let x2 := ([(-1 : Int), (65535 : Int)] : List Int)
  Option.bind (decorrelate_Minus N (((4 : Int), (0 : UInt64), (0 : UInt64), ()), ((4 : Int), (0 : UInt64), (0 : UInt64), ()), ((4 : Int), (0 : UInt64), (0 : UInt64), ()), ((4 : Int), (0 : UInt64), (0 : UInt64), ()), (0 : Int), (255 : Int), ([(0 : Int), (100 : Int)] : List Int), x2, ()) (((4 : Int), (0 : UInt64), (0 : UInt64), ()), ((4 : Int), (0 : UInt64), (0 : UInt64), ()), ((4 : Int), (0 : UInt64), (0 : UInt64), ()), ((4 : Int), (0 : UInt64), (0 : UInt64), ()), (0 : Int), (255 : Int), ([(10 : Int), (20 : Int)] : List Int), x2, ())) fun y4 =>
  bif (decide ((y4.2.1.length : Int) = (2 : Int))) then
    bif inR (0 : Int) y4.2.1.length then
    bif (dq (.arr 2 .i64) ((y4.2.1.getD 0 (((0 : Int), (0 : UInt64), (0 : UInt64), ()), ((0 : Int), (0 : UInt64), (0 : UInt64), ()), ((0 : Int), (0 : UInt64), (0 : UInt64), ()), ((0 : Int), (0 : UInt64), (0 : UInt64), ()), (0 : Int), (0 : Int), (List.replicate 2 (0 : Int)), (List.replicate 2 (0 : Int)), ())).2.2.2.2.2.2.1) ([(0 : Int), (9 : Int)] : List Int)) then
      bif inR (1 : Int) y4.2.1.length then
      some (((dq (.arr 2 .i64) ((y4.2.1.getD 1 (((0 : Int), (0 : UInt64), (0 : UInt64), ()), ((0 : Int), (0 : UInt64), (0 : UInt64), ()), ((0 : Int), (0 : UInt64), (0 : UInt64), ()), ((0 : Int), (0 : UInt64), (0 : UInt64), ()), (0 : Int), (0 : Int), (List.replicate 2 (0 : Int)), (List.replicate 2 (0 : Int)), ())).2.2.2.2.2.2.1) ([(21 : Int), (100 : Int)] : List Int)), ()), (()))
      else none
    else
      some ((false, ()), (()))
    else none
  else
    some ((false, ()), (()))
noncomputable def law20_awake_C (N : Nat) : Ctx := ⟨36, G_tys, [(30, decorrelate_Minus_ctr N)], G_globs⟩
noncomputable def law20_awake_S0 : Spec := ⟨[], []⟩
noncomputable def law20_awake_S1 : Spec := ⟨[.val .bool], []⟩
noncomputable def law20_awake_K (_N : Nat) : XE → GS → Option law20_awake_R := retK 0 [0] [false] law20_awake_S1
noncomputable def law20_awake_L : List Code := (bodyOf (some Try.f27))
theorem law20_awake_b {E : Env} (N : Nat) (hb : Base Try.prog (law20_awake_C N) E 0) : Blk Try.prog (law20_awake_C N) E (List.range law20_awake_S0.ks.length) law20_awake_S0 (law20_awake_L.drop 0) (fun y => law20_awake N) (law20_awake_K N) :=
  Blk.chunkAt hb 7 (X := (law20_awake_K N .normal)) (NxOk.end (by kernel_rfl)) rfl (fun x => by kernel_rfl)
noncomputable def law20_awake_ctr (N : Nat) : Ctr := ⟨law20_awake_S0, law20_awake_S1.un [false], 0, (fun y => law20_awake N)⟩
theorem law20_awake_ctrs (N : Nat) : CtrsOk Try.prog (law20_awake_C N) := ctrs_of (Γ := law20_awake_C N) (by
  intro p hp
  simp only [law20_awake_C, List.mem_cons, List.not_mem_nil, or_false] at hp
  rcases hp with rfl
  · exact decorrelate_Minus_ok N)
theorem law20_awake_ok (N : Nat) : Ctr.ok Try.prog G_globs 27 (law20_awake_ctr N) :=
  ctr_fn (Γ := law20_awake_C N) (rfit := law20_awake_S1) (bs := [false]) (res := [0]) (by kernel_rfl) (tys_ok G_tys_ok) (law20_awake_ctrs N) Try.func27 (by kernel_rfl) (by kernel_rfl) Try.ntmps27 (by kernel_rfl) (by kernel_rfl) (by kernel_rfl) (by kernel_rfl) (fun E hb => law20_awake_b N hb)
end Go.Proofs.Ytgbkkfpheahdfaa
namespace Go.Proofs.Ytgbkkfpheahdfaa
open Go
set_option maxRecDepth 100000
set_option linter.unusedVariables false
/-! ipsecgate/ipsecgatemake.New -/
abbrev make_New_R : Type := ((Unit) × (((List UInt8) × (Int × Unit)) × Unit))
noncomputable def make_New_1 (N : Nat) (list_0 : (List UInt8)) : Option make_New_R :=
  some ((()), ((list_0, (0 : Int), ()), ()))
noncomputable def make_New (N : Nat) (list_0 : (List UInt8)) (most_1 : Int) : Option make_New_R :=
  bif (decide (most_1 < (list_0.length : Int))) then
    bif decide (0 ≤ (0 : Int)) && decide ((0 : Int) ≤ most_1) && decide (most_1 ≤ (list_0.length : Int)) && true then
    make_New_1 N (cut list_0 0 most_1.toNat)
    else none
  else
    make_New_1 N list_0
noncomputable def make_New_C (N : Nat) : Ctx := ⟨15, G_tys, [], G_globs⟩
noncomputable def make_New_S0 : Spec := ⟨[.val (.sl .u8)], []⟩
noncomputable def make_New_S1 : Spec := ⟨[.val (.sl .u8), .val .i64], []⟩
noncomputable def make_New_S2 : Spec := ⟨[.ref 0 (.pair (.sl .u8) (.pair .i64 .unit))], [(.box 113 (.pair (.sl .u8) (.pair .i64 .unit)), .pos 0)]⟩
noncomputable def make_New_K (_N : Nat) : XE → GS → Option make_New_R := retK 0 [4] [false] make_New_S2
noncomputable def make_New_L : List Code := (bodyOf (some Try.f28))
theorem make_New_1_b {E : Env} (N : Nat) (hb : Base Try.prog (make_New_C N) E 0) : Blk Try.prog (make_New_C N) E [0] make_New_S0 (make_New_L.drop 3) (fun y => make_New_1 N y.1.1) (make_New_K N) :=
  Blk.chunkAt hb 2 (X := (make_New_K N .normal)) (NxOk.end (by kernel_rfl)) rfl (fun x => by kernel_rfl)
theorem make_New_b {E : Env} (N : Nat) (hb : Base Try.prog (make_New_C N) E 0) : Blk Try.prog (make_New_C N) E (List.range make_New_S1.ks.length) make_New_S1 (make_New_L.drop 0) (fun y => make_New N y.1.1 y.1.2.1) (make_New_K N) :=
  Blk.chunkAt hb 3 (X := (goK 0 [0] make_New_S0 (fun y => make_New_1 N y.1.1))) (NxOk.go hb (make_New_1_b N hb)) rfl (fun x => by kernel_rfl)
noncomputable def make_New_ctr (N : Nat) : Ctr := ⟨make_New_S1, make_New_S2.un [false], 0, (fun y => make_New N y.1.1 y.1.2.1)⟩
theorem make_New_ctrs (N : Nat) : CtrsOk Try.prog (make_New_C N) := ctrs_nil rfl
theorem make_New_ok (N : Nat) : Ctr.ok Try.prog G_globs 28 (make_New_ctr N) :=
  ctr_fn (Γ := make_New_C N) (rfit := make_New_S2) (bs := [false]) (res := [4]) (by kernel_rfl) (tys_ok G_tys_ok) (make_New_ctrs N) Try.func28 (by kernel_rfl) (by kernel_rfl) Try.ntmps28 (by kernel_rfl) (by kernel_rfl) (by kernel_rfl) (by kernel_rfl) (fun E hb => make_New_b N hb)
end Go.Proofs.Ytgbkkfpheahdfaa
namespace Go.Proofs.Ytgbkkfpheahdfaa
open Go
set_option maxRecDepth 100000
set_option linter.unusedVariables false
/-! (*ipsecgate/ipsecgatemake.Codes).Left -/
abbrev make_Codes_Left_R : Type := ((Bool × Unit) × (Unit))
noncomputable def make_Codes_Left (N : Nat) (c_0 : ((List UInt8) × (Int × Unit))) : Option make_Codes_Left_R :=
  some (((decide (c_0.2.1 < (c_0.1.length : Int))), ()), (()))
noncomputable def make_Codes_Left_C (N : Nat) : Ctx := ⟨13, G_tys, [], G_globs⟩
noncomputable def make_Codes_Left_S0 : Spec := ⟨[.fp (.pair (.sl .u8) (.pair .i64 .unit))], []⟩
noncomputable def make_Codes_Left_S1 : Spec := ⟨[.val .bool], []⟩
noncomputable def make_Codes_Left_K (_N : Nat) : XE → GS → Option make_Codes_Left_R := retK 0 [2] [false] make_Codes_Left_S1
noncomputable def make_Codes_Left_L : List Code := (bodyOf (some Try.f86))
theorem make_Codes_Left_b {E : Env} (N : Nat) (hb : Base Try.prog (make_Codes_Left_C N) E 0) : Blk Try.prog (make_Codes_Left_C N) E (List.range make_Codes_Left_S0.ks.length) make_Codes_Left_S0 (make_Codes_Left_L.drop 0) (fun y => make_Codes_Left N y.1.1) (make_Codes_Left_K N) :=
  Blk.chunkAt hb 3 (X := (make_Codes_Left_K N .normal)) (NxOk.end (by kernel_rfl)) rfl (fun x => by kernel_rfl)
noncomputable def make_Codes_Left_ctr (N : Nat) : Ctr := ⟨make_Codes_Left_S0, make_Codes_Left_S1.un [false], 0, (fun y => make_Codes_Left N y.1.1)⟩
theorem make_Codes_Left_ctrs (N : Nat) : CtrsOk Try.prog (make_Codes_Left_C N) := ctrs_nil rfl
theorem make_Codes_Left_ok (N : Nat) : Ctr.ok Try.prog G_globs 86 (make_Codes_Left_ctr N) :=
  ctr_fn (Γ := make_Codes_Left_C N) (rfit := make_Codes_Left_S1) (bs := [false]) (res := [2]) (by kernel_rfl) (tys_ok G_tys_ok) (make_Codes_Left_ctrs N) Try.func86 (by kernel_rfl) (by kernel_rfl) Try.ntmps86 (by kernel_rfl) (by kernel_rfl) (by kernel_rfl) (by kernel_rfl) (fun E hb => make_Codes_Left_b N hb)
end Go.Proofs.Ytgbkkfpheahdfaa
namespace Go.Proofs.Ytgbkkfpheahdfaa
open Go
set_option maxRecDepth 100000
set_option linter.unusedVariables false
/-! (*ipsecgate/ipsecgatemake.Codes).Next -/
abbrev make_Codes_Next_R : Type := ((Int × Unit) × (((List UInt8) × (Int × Unit)) × Unit))
noncomputable def make_Codes_Next (N : Nat) (n_1 : Int) (c_0 : ((List UInt8) × (Int × Unit))) : Option make_Codes_Next_R :=
  Option.bind (make_Codes_Left N c_0) fun y1 =>
  bif (!y1.1.1) then
    some (((0 : Int), ()), (c_0, ()))
  else
    let x3 := w64 (c_0.2.1 + (1 : Int))
    let x4 := w64 (x3 - (1 : Int))
    bif inR x4 c_0.1.length then
    bif !(decide (n_1 = 0)) then
    some (((((c_0.1.getD x4.toNat (0 : UInt8)).toNat : Int).tmod n_1), ()), ((c_0.1, x3, ()), ()))
    else none
    else none
noncomputable def make_Codes_Next_C (N : Nat) : Ctx := ⟨29, G_tys, [(86, make_Codes_Left_ctr N)], G_globs⟩
noncomputable def make_Codes_Next_S0 : Spec := ⟨[.ref 0 (.pair (.sl .u8) (.pair .i64 .unit)), .val .i64], [(.box 113 (.pair (.sl .u8) (.pair .i64 .unit)), .pos 0)]⟩
noncomputable def make_Codes_Next_S1 : Spec := ⟨[.val .i64], [(.box 113 (.pair (.sl .u8) (.pair .i64 .unit)), .fix 0)]⟩
noncomputable def make_Codes_Next_K (_N : Nat) : XE → GS → Option make_Codes_Next_R := retK 1 [4] [false] make_Codes_Next_S1
noncomputable def make_Codes_Next_L : List Code := (bodyOf (some Try.f36))
theorem make_Codes_Next_b {E : Env} (N : Nat) (hb : Base Try.prog (make_Codes_Next_C N) E 1) : Blk Try.prog (make_Codes_Next_C N) E (List.range make_Codes_Next_S0.ks.length) make_Codes_Next_S0 (make_Codes_Next_L.drop 0) (fun y => make_Codes_Next N y.1.1 y.2.1) (make_Codes_Next_K N) :=
  Blk.chunkAt hb 6 (X := (make_Codes_Next_K N .normal)) (NxOk.end (by kernel_rfl)) rfl (fun x => by kernel_rfl)
noncomputable def make_Codes_Next_ctr (N : Nat) : Ctr := ⟨make_Codes_Next_S0, make_Codes_Next_S1.un [false], 1, (fun y => make_Codes_Next N y.1.1 y.2.1)⟩
theorem make_Codes_Next_ctrs (N : Nat) : CtrsOk Try.prog (make_Codes_Next_C N) := ctrs_of (Γ := make_Codes_Next_C N) (by
  intro p hp
  simp only [make_Codes_Next_C, List.mem_cons, List.not_mem_nil, or_false] at hp
  rcases hp with rfl
  · exact make_Codes_Left_ok N)
theorem make_Codes_Next_ok (N : Nat) : Ctr.ok Try.prog G_globs 36 (make_Codes_Next_ctr N) :=
  ctr_fn (Γ := make_Codes_Next_C N) (rfit := make_Codes_Next_S1) (bs := [false]) (res := [4]) (by kernel_rfl) (tys_ok G_tys_ok) (make_Codes_Next_ctrs N) Try.func36 (by kernel_rfl) (by kernel_rfl) Try.ntmps36 (by kernel_rfl) (by kernel_rfl) (by kernel_rfl) (by kernel_rfl) (fun E hb => make_Codes_Next_b N hb)
end Go.Proofs.Ytgbkkfpheahdfaa
namespace Go.Proofs.Ytgbkkfpheahdfaa
open Go
set_option maxRecDepth 100000
set_option linter.unusedVariables false
/-! ipsecgate/ipsecgateref05.Valid -/
abbrev ref05_Valid_R : Type := ((Bool × Unit) × (Unit))
noncomputable def ref05_Valid (N : Nat) (a_0 : (Int × (UInt64 × (UInt64 × Unit)))) : Option ref05_Valid_R :=
  bif (decide (a_0.1 = (4 : Int))) then
    bif (decide (a_0.2.1 = (0 : UInt64))) then
      bif (decide (a_0.2.2.1 < (4294967296 : UInt64))) then
        some ((true, ()), (()))
      else
        some (((decide (a_0.1 = (6 : Int))), ()), (()))
    else
      some (((decide (a_0.1 = (6 : Int))), ()), (()))
  else
    some (((decide (a_0.1 = (6 : Int))), ()), (()))
noncomputable def ref05_Valid_C (N : Nat) : Ctx := ⟨21, G_tys, [], G_globs⟩
noncomputable def ref05_Valid_S0 : Spec := ⟨[.val (.pair .i64 (.pair .u64 (.pair .u64 .unit)))], []⟩
noncomputable def ref05_Valid_S1 : Spec := ⟨[.val .bool], []⟩
noncomputable def ref05_Valid_K (_N : Nat) : XE → GS → Option ref05_Valid_R := retK 0 [2] [false] ref05_Valid_S1
noncomputable def ref05_Valid_L : List Code := (bodyOf (some Try.f99))
theorem ref05_Valid_b {E : Env} (N : Nat) (hb : Base Try.prog (ref05_Valid_C N) E 0) : Blk Try.prog (ref05_Valid_C N) E (List.range ref05_Valid_S0.ks.length) ref05_Valid_S0 (ref05_Valid_L.drop 0) (fun y => ref05_Valid N y.1.1) (ref05_Valid_K N) :=
  Blk.chunkAt hb 3 (X := (ref05_Valid_K N .normal)) (NxOk.end (by kernel_rfl)) rfl (fun x => by kernel_rfl)
noncomputable def ref05_Valid_ctr (N : Nat) : Ctr := ⟨ref05_Valid_S0, ref05_Valid_S1.un [false], 0, (fun y => ref05_Valid N y.1.1)⟩
theorem ref05_Valid_ctrs (N : Nat) : CtrsOk Try.prog (ref05_Valid_C N) := ctrs_nil rfl
theorem ref05_Valid_ok (N : Nat) : Ctr.ok Try.prog G_globs 99 (ref05_Valid_ctr N) :=
  ctr_fn (Γ := ref05_Valid_C N) (rfit := ref05_Valid_S1) (bs := [false]) (res := [2]) (by kernel_rfl) (tys_ok G_tys_ok) (ref05_Valid_ctrs N) Try.func99 (by kernel_rfl) (by kernel_rfl) Try.ntmps99 (by kernel_rfl) (by kernel_rfl) (by kernel_rfl) (by kernel_rfl) (fun E hb => ref05_Valid_b N hb)
end Go.Proofs.Ytgbkkfpheahdfaa
namespace Go.Proofs.Ytgbkkfpheahdfaa
open Go
set_option maxRecDepth 100000
set_option linter.unusedVariables false
/-! ipsecgate/ipsecgateref18.bits -/
abbrev ref18_bits_R : Type := ((Int × Unit) × (Unit))
noncomputable def ref18_bits (N : Nat) (family_0 : Int) : Option ref18_bits_R :=
  bif (decide (family_0 = (4 : Int))) then
    some (((32 : Int), ()), (()))
  else
    some (((128 : Int), ()), (()))
noncomputable def ref18_bits_C (N : Nat) : Ctx := ⟨5, G_tys, [], G_globs⟩
noncomputable def ref18_bits_S0 : Spec := ⟨[.val .i64], []⟩
noncomputable def ref18_bits_K (_N : Nat) : XE → GS → Option ref18_bits_R := retK 0 [2] [false] ref18_bits_S0
noncomputable def ref18_bits_L : List Code := (bodyOf (some Try.f166))
theorem ref18_bits_b {E : Env} (N : Nat) (hb : Base Try.prog (ref18_bits_C N) E 0) : Blk Try.prog (ref18_bits_C N) E (List.range ref18_bits_S0.ks.length) ref18_bits_S0 (ref18_bits_L.drop 0) (fun y => ref18_bits N y.1.1) (ref18_bits_K N) :=
  Blk.chunkAt hb 5 (X := (ref18_bits_K N .normal)) (NxOk.end (by kernel_rfl)) rfl (fun x => by kernel_rfl)
noncomputable def ref18_bits_ctr (N : Nat) : Ctr := ⟨ref18_bits_S0, ref18_bits_S0.un [false], 0, (fun y => ref18_bits N y.1.1)⟩
theorem ref18_bits_ctrs (N : Nat) : CtrsOk Try.prog (ref18_bits_C N) := ctrs_nil rfl
theorem ref18_bits_ok (N : Nat) : Ctr.ok Try.prog G_globs 166 (ref18_bits_ctr N) :=
  ctr_fn (Γ := ref18_bits_C N) (rfit := ref18_bits_S0) (bs := [false]) (res := [2]) (by kernel_rfl) (tys_ok G_tys_ok) (ref18_bits_ctrs N) Try.func166 (by kernel_rfl) (by kernel_rfl) Try.ntmps166 (by kernel_rfl) (by kernel_rfl) (by kernel_rfl) (by kernel_rfl) (fun E hb => ref18_bits_b N hb)
end Go.Proofs.Ytgbkkfpheahdfaa
namespace Go.Proofs.Ytgbkkfpheahdfaa
open Go
set_option maxRecDepth 100000
set_option linter.unusedVariables false
/-! ipsecgate/ipsecgateref18.Prefix -/
abbrev ref18_Prefix_R : Type := (((Int × (UInt64 × (UInt64 × Unit))) × (Int × (UInt64 × (UInt64 × Unit))) × Int × Unit) × (Unit))
noncomputable def ref18_Prefix_s3 (N : Nat) (i_9 : Int) (a_2 : (Int × (UInt64 × (UInt64 × Unit)))) (t_4 : (Int × (UInt64 × (UInt64 × Unit)))) (t_5 : (Int × (UInt64 × (UInt64 × Unit)))) (lo_7 : (Int × (UInt64 × (UInt64 × Unit)))) (hi_8 : (Int × (UInt64 × (UInt64 × Unit)))) : Option (Lo ((Int × Unit) × ((Int × (UInt64 × (UInt64 × Unit))) × (Int × (UInt64 × (UInt64 × Unit))) × (Int × (UInt64 × (UInt64 × Unit))) × (Int × (UInt64 × (UInt64 × Unit))) × (Int × (UInt64 × (UInt64 × Unit))) × Unit)) ((Unit) × ((Int × (UInt64 × (UInt64 × Unit))) × (Int × (UInt64 × (UInt64 × Unit))) × (Int × (UInt64 × (UInt64 × Unit))) × (Int × (UInt64 × (UInt64 × Unit))) × Unit)) ref18_Prefix_R) :=
  Option.bind (ref18_bits N a_2.1) fun y4 =>
  bif (decide (i_9 < y4.1.1)) then
    Option.bind (ref18_bits N a_2.1) fun y6 =>
    let x7 := w64 (y6.1.1 - (1 : Int))
    bif (decide ((64 : Int) ≤ (w64 (x7 - i_9)))) then
      some (.go (((w64 (i_9 + (1 : Int))), ()), (a_2, t_4, t_5, (lo_7.1, (lo_7.2.1 &&& ~~~ (shl64 (1 : UInt64) (iu64 (w64 ((w64 (x7 - i_9)) - (64 : Int)))).toNat)), lo_7.2.2.1, ()), (hi_8.1, (hi_8.2.1 ||| (shl64 (1 : UInt64) (iu64 (w64 ((w64 (x7 - i_9)) - (64 : Int)))).toNat)), hi_8.2.2.1, ()), ())))
    else
      some (.go (((w64 (i_9 + (1 : Int))), ()), (a_2, t_4, t_5, (lo_7.1, lo_7.2.1, (lo_7.2.2.1 &&& ~~~ (shl64 (1 : UInt64) (iu64 (w64 (x7 - i_9))).toNat)), ()), (hi_8.1, hi_8.2.1, (hi_8.2.2.1 ||| (shl64 (1 : UInt64) (iu64 (w64 (x7 - i_9))).toNat)), ()), ())))
  else
    some (.br ((()), (t_4, t_5, lo_7, hi_8, ())))
noncomputable def ref18_Prefix_4 (N : Nat) (t_4 : (Int × (UInt64 × (UInt64 × Unit)))) (t_5 : (Int × (UInt64 × (UInt64 × Unit)))) (lo_7 : (Int × (UInt64 × (UInt64 × Unit)))) (hi_8 : (Int × (UInt64 × (UInt64 × Unit)))) : Option ref18_Prefix_R :=
  some ((lo_7, hi_8, (0 : Int), ()), (()))
noncomputable def ref18_Prefix_2 (N : Nat) (i_9 : Int) (a_2 : (Int × (UInt64 × (UInt64 × Unit)))) (t_4 : (Int × (UInt64 × (UInt64 × Unit)))) (t_5 : (Int × (UInt64 × (UInt64 × Unit)))) (lo_7 : (Int × (UInt64 × (UInt64 × Unit)))) (hi_8 : (Int × (UInt64 × (UInt64 × Unit)))) : Option ref18_Prefix_R :=
  loopK N (fun y => ref18_Prefix_s3 N y.1.1 y.2.1 y.2.2.1 y.2.2.2.1 y.2.2.2.2.1 y.2.2.2.2.2.1) (fun (e : ((Unit) × ((Int × (UInt64 × (UInt64 × Unit))) × (Int × (UInt64 × (UInt64 × Unit))) × (Int × (UInt64 × (UInt64 × Unit))) × (Int × (UInt64 × (UInt64 × Unit))) × Unit))) => ref18_Prefix_4 N e.2.1 e.2.2.1 e.2.2.2.1 e.2.2.2.2.1) ((i_9, ()), (a_2, t_4, t_5, lo_7, hi_8, ()))
noncomputable def ref18_Prefix_1 (N : Nat) (n_1 : Int) (t_24 : Bool) (a_2 : (Int × (UInt64 × (UInt64 × Unit)))) (t_4 : (Int × (UInt64 × (UInt64 × Unit)))) (t_5 : (Int × (UInt64 × (UInt64 × Unit)))) : Option ref18_Prefix_R :=
  bif t_24 then
    some ((((0 : Int), (0 : UInt64), (0 : UInt64), ()), ((0 : Int), (0 : UInt64), (0 : UInt64), ()), (5 : Int), ()), (()))
  else
    ref18_Prefix_2 N n_1 a_2 t_4 t_5 a_2 a_2
noncomputable def ref18_Prefix (N : Nat) (a_0 : (Int × (UInt64 × (UInt64 × Unit)))) (n_1 : Int) : Option ref18_Prefix_R :=
  Option.bind (ref05_Valid N a_0) fun y1 =>
  bif (!y1.1.1) then
    some ((((0 : Int), (0 : UInt64), (0 : UInt64), ()), ((0 : Int), (0 : UInt64), (0 : UInt64), ()), (15 : Int), ()), (()))
  else
    bif (decide (n_1 < (0 : Int))) then
      ref18_Prefix_1 N n_1 true a_0 ((0 : Int), (0 : UInt64), (0 : UInt64), ()) ((0 : Int), (0 : UInt64), (0 : UInt64), ())
    else
      Option.bind (ref18_bits N a_0.1) fun y26 =>
      ref18_Prefix_1 N n_1 (decide (y26.1.1 < n_1)) a_0 ((0 : Int), (0 : UInt64), (0 : UInt64), ()) ((0 : Int), (0 : UInt64), (0 : UInt64), ())
noncomputable def ref18_Prefix_C (N : Nat) : Ctx := ⟨77, G_tys, [(99, ref05_Valid_ctr N), (166, ref18_bits_ctr N)], G_globs⟩
noncomputable def ref18_Prefix_S0 : Spec := ⟨[.ref 0 (.pair .i64 (.pair .u64 (.pair .u64 .unit))), .ref 1 (.pair .i64 (.pair .u64 (.pair .u64 .unit))), .ref 2 (.pair .i64 (.pair .u64 (.pair .u64 .unit))), .ref 3 (.pair .i64 (.pair .u64 (.pair .u64 .unit))), .ref 4 (.pair .i64 (.pair .u64 (.pair .u64 .unit))), .val .i64], [(.box 28 (.pair .i64 (.pair .u64 (.pair .u64 .unit))), .pos 0), (.box 28 (.pair .i64 (.pair .u64 (.pair .u64 .unit))), .pos 1), (.box 28 (.pair .i64 (.pair .u64 (.pair .u64 .unit))), .pos 2), (.box 28 (.pair .i64 (.pair .u64 (.pair .u64 .unit))), .pos 3), (.box 28 (.pair .i64 (.pair .u64 (.pair .u64 .unit))), .pos 4)]⟩
noncomputable def ref18_Prefix_S1 : Spec := ⟨[.ref 0 (.pair .i64 (.pair .u64 (.pair .u64 .unit))), .ref 1 (.pair .i64 (.pair .u64 (.pair .u64 .unit))), .ref 2 (.pair .i64 (.pair .u64 (.pair .u64 .unit))), .ref 3 (.pair .i64 (.pair .u64 (.pair .u64 .unit)))], [(.box 28 (.pair .i64 (.pair .u64 (.pair .u64 .unit))), .pos 0), (.box 28 (.pair .i64 (.pair .u64 (.pair .u64 .unit))), .pos 1), (.box 28 (.pair .i64 (.pair .u64 (.pair .u64 .unit))), .pos 2), (.box 28 (.pair .i64 (.pair .u64 (.pair .u64 .unit))), .pos 3)]⟩
noncomputable def ref18_Prefix_S2 : Spec := ⟨[.val .i64, .ref 0 (.pair .i64 (.pair .u64 (.pair .u64 .unit))), .ref 1 (.pair .i64 (.pair .u64 (.pair .u64 .unit))), .ref 2 (.pair .i64 (.pair .u64 (.pair .u64 .unit))), .val .bool], [(.box 28 (.pair .i64 (.pair .u64 (.pair .u64 .unit))), .pos 1), (.box 28 (.pair .i64 (.pair .u64 (.pair .u64 .unit))), .pos 2), (.box 28 (.pair .i64 (.pair .u64 (.pair .u64 .unit))), .pos 3)]⟩
noncomputable def ref18_Prefix_S3 : Spec := ⟨[.val (.pair .i64 (.pair .u64 (.pair .u64 .unit))), .val .i64], []⟩
noncomputable def ref18_Prefix_S4 : Spec := ⟨[.fp (.pair .i64 (.pair .u64 (.pair .u64 .unit))), .fp (.pair .i64 (.pair .u64 (.pair .u64 .unit))), .val .i64], []⟩
noncomputable def ref18_Prefix_K (_N : Nat) : XE → GS → Option ref18_Prefix_R := retK 0 [4, 5, 6] [true, true, false] ref18_Prefix_S4
noncomputable def ref18_Prefix_L : List Code := (bodyOf (some Try.f143))
noncomputable def ref18_Prefix_L3 : List Code := (loopOf (ref18_Prefix_L[7]?))
noncomputable def ref18_Prefix_K3 (N : Nat) : XE → GS → Option (Lo ((Int × Unit) × ((Int × (UInt64 × (UInt64 × Unit))) × (Int × (UInt64 × (UInt64 × Unit))) × (Int × (UInt64 × (UInt64 × Unit))) × (Int × (UInt64 × (UInt64 × Unit))) × (Int × (UInt64 × (UInt64 × Unit))) × Unit)) ((Unit) × ((Int × (UInt64 × (UInt64 × Unit))) × (Int × (UInt64 × (UInt64 × Unit))) × (Int × (UInt64 × (UInt64 × Unit))) × (Int × (UInt64 × (UInt64 × Unit))) × Unit)) ref18_Prefix_R) := roundK (some 0) (fit 0 [2, 4, 5, 7, 8, 9] ref18_Prefix_S0) (fit 0 [4, 5, 7, 8] ref18_Prefix_S1) (ref18_Prefix_K N)
theorem ref18_Prefix_s3_b {E : Env} (N : Nat) (hb : Base Try.prog (ref18_Prefix_C N) E 0) : Blk Try.prog (ref18_Prefix_C N) E [2, 4, 5, 7, 8, 9] ref18_Prefix_S0 (ref18_Prefix_L3.drop 0) (fun y => ref18_Prefix_s3 N y.1.1 y.2.1 y.2.2.1 y.2.2.2.1 y.2.2.2.2.1 y.2.2.2.2.2.1) (ref18_Prefix_K3 N) :=
  Blk.chunkAt hb 4 (X := (ref18_Prefix_K3 N .normal)) (NxOk.end (by kernel_rfl)) rfl (fun x => by kernel_rfl)
theorem ref18_Prefix_4_b {E : Env} (N : Nat) (hb : Base Try.prog (ref18_Prefix_C N) E 0) : Blk Try.prog (ref18_Prefix_C N) E [4, 5, 7, 8] ref18_Prefix_S1 (ref18_Prefix_L.drop 8) (fun y => ref18_Prefix_4 N y.2.1 y.2.2.1 y.2.2.2.1 y.2.2.2.2.1) (ref18_Prefix_K N) :=
  Blk.chunkAt hb 2 (X := (ref18_Prefix_K N .normal)) (NxOk.end (by kernel_rfl)) rfl (fun x => by kernel_rfl)
theorem ref18_Prefix_2_b {E : Env} (N : Nat) (hb : Base Try.prog (ref18_Prefix_C N) E 0) : Blk Try.prog (ref18_Prefix_C N) E [2, 4, 5, 7, 8, 9] ref18_Prefix_S0 (ref18_Prefix_L.drop 7) (fun y => ref18_Prefix_2 N y.1.1 y.2.1 y.2.2.1 y.2.2.2.1 y.2.2.2.2.1 y.2.2.2.2.2.1) (ref18_Prefix_K N) :=
  Blk.loopAt (Nf := N) (hns := [2, 4, 5, 7, 8, 9]) (ans := [4, 5, 7, 8]) (hc := ref18_Prefix_S0) (ac := ref18_Prefix_S1) (bid := 0) (step := (fun y => ref18_Prefix_s3 N y.1.1 y.2.1 y.2.2.1 y.2.2.2.1 y.2.2.2.2.1 y.2.2.2.2.2.1)) (J := (fun e => (goK 0 [4, 5, 7, 8] ref18_Prefix_S1 (fun y => ref18_Prefix_4 N y.2.1 y.2.2.1 y.2.2.2.1 y.2.2.2.2.1)) (ref18_Prefix_S1.st [4, 5, 7, 8] e))) hb (by kernel_rfl) (Blk.into (X := (goK 0 [4, 5, 7, 8] ref18_Prefix_S1 (fun y => ref18_Prefix_4 N y.2.1 y.2.2.1 y.2.2.2.1 y.2.2.2.2.1))) (NxOk.go hb (ref18_Prefix_4_b N hb)) (fun x => by kernel_rfl)) (ref18_Prefix_s3_b N hb) (fun x => by kernel_rfl)
theorem ref18_Prefix_1_b {E : Env} (N : Nat) (hb : Base Try.prog (ref18_Prefix_C N) E 0) : Blk Try.prog (ref18_Prefix_C N) E [1, 2, 4, 5, 24] ref18_Prefix_S2 (ref18_Prefix_L.drop 4) (fun y => ref18_Prefix_1 N y.1.1 y.1.2.1 y.2.1 y.2.2.1 y.2.2.2.1) (ref18_Prefix_K N) :=
  Blk.chunkAt hb 3 (X := (goK 0 [2, 4, 5, 7, 8, 9] ref18_Prefix_S0 (fun y => ref18_Prefix_2 N y.1.1 y.2.1 y.2.2.1 y.2.2.2.1 y.2.2.2.2.1 y.2.2.2.2.2.1))) (NxOk.go hb (ref18_Prefix_2_b N hb)) rfl (fun x => by kernel_rfl)
theorem ref18_Prefix_b {E : Env} (N : Nat) (hb : Base Try.prog (ref18_Prefix_C N) E 0) : Blk Try.prog (ref18_Prefix_C N) E (List.range ref18_Prefix_S3.ks.length) ref18_Prefix_S3 (ref18_Prefix_L.drop 0) (fun y => ref18_Prefix N y.1.1 y.1.2.1) (ref18_Prefix_K N) :=
  Blk.chunkAt hb 4 (X := (goK 0 [1, 2, 4, 5, 24] ref18_Prefix_S2 (fun y => ref18_Prefix_1 N y.1.1 y.1.2.1 y.2.1 y.2.2.1 y.2.2.2.1))) (NxOk.go hb (ref18_Prefix_1_b N hb)) rfl (fun x => by kernel_rfl)
noncomputable def ref18_Prefix_ctr (N : Nat) : Ctr := ⟨ref18_Prefix_S3, ref18_Prefix_S4.un [true, true, false], 0, (fun y => ref18_Prefix N y.1.1 y.1.2.1)⟩
theorem ref18_Prefix_ctrs (N : Nat) : CtrsOk Try.prog (ref18_Prefix_C N) := ctrs_of (Γ := ref18_Prefix_C N) (by
  intro p hp
  simp only [ref18_Prefix_C, List.mem_cons, List.not_mem_nil, or_false] at hp
  rcases hp with rfl | rfl
  · exact ref05_Valid_ok N
  · exact ref18_bits_ok N)
theorem ref18_Prefix_ok (N : Nat) : Ctr.ok Try.prog G_globs 143 (ref18_Prefix_ctr N) :=
  ctr_fn (Γ := ref18_Prefix_C N) (rfit := ref18_Prefix_S4) (bs := [true, true, false]) (res := [4, 5, 6]) (by kernel_rfl) (tys_ok G_tys_ok) (ref18_Prefix_ctrs N) Try.func143 (by kernel_rfl) (by kernel_rfl) Try.ntmps143 (by kernel_rfl) (by kernel_rfl) (by kernel_rfl) (by kernel_rfl) (fun E hb => ref18_Prefix_b N hb)
end Go.Proofs.Ytgbkkfpheahdfaa
namespace Go.Proofs.Ytgbkkfpheahdfaa
open Go
set_option maxRecDepth 100000
set_option linter.unusedVariables false
/-! ipsecgate/ipsecgateref18.All -/
abbrev ref18_All_R : Type := (((Int × (UInt64 × (UInt64 × Unit))) × (Int × (UInt64 × (UInt64 × Unit))) × Unit) × (Unit))
noncomputable def ref18_All (N : Nat) (family_0 : Int) : Option ref18_All_R :=
  Option.bind (ref18_Prefix N (family_0, (0 : UInt64), (0 : UInt64), ()) (0 : Int)) fun y1 =>
  some ((y1.1.1, y1.1.2.1, ()), (()))
noncomputable def ref18_All_C (N : Nat) : Ctx := ⟨16, G_tys, [(143, ref18_Prefix_ctr N)], G_globs⟩
noncomputable def ref18_All_S0 : Spec := ⟨[.val .i64], []⟩
noncomputable def ref18_All_S1 : Spec := ⟨[.fp (.pair .i64 (.pair .u64 (.pair .u64 .unit))), .fp (.pair .i64 (.pair .u64 (.pair .u64 .unit)))], []⟩
noncomputable def ref18_All_K (_N : Nat) : XE → GS → Option ref18_All_R := retK 0 [2, 3] [true, true] ref18_All_S1
noncomputable def ref18_All_L : List Code := (bodyOf (some Try.f142))
theorem ref18_All_b {E : Env} (N : Nat) (hb : Base Try.prog (ref18_All_C N) E 0) : Blk Try.prog (ref18_All_C N) E (List.range ref18_All_S0.ks.length) ref18_All_S0 (ref18_All_L.drop 0) (fun y => ref18_All N y.1.1) (ref18_All_K N) :=
  Blk.chunkAt hb 4 (X := (ref18_All_K N .normal)) (NxOk.end (by kernel_rfl)) rfl (fun x => by kernel_rfl)
noncomputable def ref18_All_ctr (N : Nat) : Ctr := ⟨ref18_All_S0, ref18_All_S1.un [true, true], 0, (fun y => ref18_All N y.1.1)⟩
theorem ref18_All_ctrs (N : Nat) : CtrsOk Try.prog (ref18_All_C N) := ctrs_of (Γ := ref18_All_C N) (by
  intro p hp
  simp only [ref18_All_C, List.mem_cons, List.not_mem_nil, or_false] at hp
  rcases hp with rfl
  · exact ref18_Prefix_ok N)
theorem ref18_All_ok (N : Nat) : Ctr.ok Try.prog G_globs 142 (ref18_All_ctr N) :=
  ctr_fn (Γ := ref18_All_C N) (rfit := ref18_All_S1) (bs := [true, true]) (res := [2, 3]) (by kernel_rfl) (tys_ok G_tys_ok) (ref18_All_ctrs N) Try.func142 (by kernel_rfl) (by kernel_rfl) Try.ntmps142 (by kernel_rfl) (by kernel_rfl) (by kernel_rfl) (by kernel_rfl) (fun E hb => ref18_All_b N hb)
end Go.Proofs.Ytgbkkfpheahdfaa
namespace Go.Proofs.Ytgbkkfpheahdfaa
open Go
set_option maxRecDepth 100000
set_option linter.unusedVariables false
/-! (*ipsecgate/ipsecgatemake.Codes).Address -/
abbrev make_Codes_Address_R : Type := (((Int × (UInt64 × (UInt64 × Unit))) × Unit) × (((List UInt8) × (Int × Unit)) × Unit))
noncomputable def make_Codes_Address (N : Nat) (family_1 : Int) (c_0 : ((List UInt8) × (Int × Unit))) : Option make_Codes_Address_R :=
  bif (decide (family_1 = (4 : Int))) then
    Option.bind (make_Codes_Next N (4 : Int) c_0) fun y2 =>
    bif inR y2.1.1 (([(167772160 : UInt64), (3232235520 : UInt64), (0 : UInt64), (4294967288 : UInt64)] : List UInt64).length) then
    Option.bind (make_Codes_Next N (8 : Int) y2.2.1) fun y4 =>
    some (((family_1, (0 : UInt64), ((([(167772160 : UInt64), (3232235520 : UInt64), (0 : UInt64), (4294967288 : UInt64)] : List UInt64).getD y2.1.1.toNat (0 : UInt64)) + (iu64 y4.1.1)), ()), ()), (y4.2.1, ()))
    else none
  else
    Option.bind (make_Codes_Next N (3 : Int) c_0) fun y7 =>
    bif inR y7.1.1 (([(2306139568115548160 : UInt64), (0 : UInt64), (18446744073709551615 : UInt64)] : List UInt64).length) then
    Option.bind (make_Codes_Next N (3 : Int) y7.2.1) fun y9 =>
    bif inR y9.1.1 (([(0 : UInt64), (18446744073709551608 : UInt64), (9223372036854775808 : UInt64)] : List UInt64).length) then
    Option.bind (make_Codes_Next N (8 : Int) y9.2.1) fun y11 =>
    some (((family_1, (([(2306139568115548160 : UInt64), (0 : UInt64), (18446744073709551615 : UInt64)] : List UInt64).getD y7.1.1.toNat (0 : UInt64)), ((([(0 : UInt64), (18446744073709551608 : UInt64), (9223372036854775808 : UInt64)] : List UInt64).getD y9.1.1.toNat (0 : UInt64)) + (iu64 y11.1.1)), ()), ()), (y11.2.1, ()))
    else none
    else none
noncomputable def make_Codes_Address_C (N : Nat) : Ctx := ⟨38, G_tys, [(36, make_Codes_Next_ctr N)], G_globs⟩
noncomputable def make_Codes_Address_S0 : Spec := ⟨[.ref 0 (.pair (.sl .u8) (.pair .i64 .unit)), .val .i64], [(.box 113 (.pair (.sl .u8) (.pair .i64 .unit)), .pos 0)]⟩
noncomputable def make_Codes_Address_S1 : Spec := ⟨[.fp (.pair .i64 (.pair .u64 (.pair .u64 .unit)))], [(.box 113 (.pair (.sl .u8) (.pair .i64 .unit)), .fix 0)]⟩
noncomputable def make_Codes_Address_K (_N : Nat) : XE → GS → Option make_Codes_Address_R := retK 1 [4] [true] make_Codes_Address_S1
noncomputable def make_Codes_Address_L : List Code := (bodyOf (some Try.f55))
theorem make_Codes_Address_b {E : Env} (N : Nat) (hb : Base Try.prog (make_Codes_Address_C N) E 1) : Blk Try.prog (make_Codes_Address_C N) E (List.range make_Codes_Address_S0.ks.length) make_Codes_Address_S0 (make_Codes_Address_L.drop 0) (fun y => make_Codes_Address N y.1.1 y.2.1) (make_Codes_Address_K N) :=
  Blk.chunkAt hb 8 (X := (make_Codes_Address_K N .normal)) (NxOk.end (by kernel_rfl)) rfl (fun x => by kernel_rfl)
noncomputable def make_Codes_Address_ctr (N : Nat) : Ctr := ⟨make_Codes_Address_S0, make_Codes_Address_S1.un [true], 1, (fun y => make_Codes_Address N y.1.1 y.2.1)⟩
theorem make_Codes_Address_ctrs (N : Nat) : CtrsOk Try.prog (make_Codes_Address_C N) := ctrs_of (Γ := make_Codes_Address_C N) (by
  intro p hp
  simp only [make_Codes_Address_C, List.mem_cons, List.not_mem_nil, or_false] at hp
  rcases hp with rfl
  · exact make_Codes_Next_ok N)
theorem make_Codes_Address_ok (N : Nat) : Ctr.ok Try.prog G_globs 55 (make_Codes_Address_ctr N) :=
  ctr_fn (Γ := make_Codes_Address_C N) (rfit := make_Codes_Address_S1) (bs := [true]) (res := [4]) (by kernel_rfl) (tys_ok G_tys_ok) (make_Codes_Address_ctrs N) Try.func55 (by kernel_rfl) (by kernel_rfl) Try.ntmps55 (by kernel_rfl) (by kernel_rfl) (by kernel_rfl) (by kernel_rfl) (fun E hb => make_Codes_Address_b N hb)
end Go.Proofs.Ytgbkkfpheahdfaa
namespace Go.Proofs.Ytgbkkfpheahdfaa
open Go
set_option maxRecDepth 100000
set_option linter.unusedVariables false
/-! (*ipsecgate/ipsecgatemake.Codes).Span -/
abbrev make_Codes_Span_R : Type := (((Int × (UInt64 × (UInt64 × Unit))) × (Int × (UInt64 × (UInt64 × Unit))) × Unit) × (((List UInt8) × (Int × Unit)) × Unit))
noncomputable def make_Codes_Span_1 (N : Nat) (t_58 : Bool) (p0 : ((List UInt8) × (Int × Unit))) (t_4 : (Int × (UInt64 × (UInt64 × Unit)))) (t_5 : (Int × (UInt64 × (UInt64 × Unit)))) (a_9 : (Int × (UInt64 × (UInt64 × Unit)))) (b_10 : (Int × (UInt64 × (UInt64 × Unit)))) : Option make_Codes_Span_R :=
  bif t_58 then
    some ((b_10, a_9, ()), (p0, ()))
  else
    some ((a_9, b_10, ()), (p0, ()))
noncomputable def make_Codes_Span (N : Nat) (family_1 : Int) (c_0 : ((List UInt8) × (Int × Unit))) : Option make_Codes_Span_R :=
  Option.bind (make_Codes_Next N (5 : Int) c_0) fun y1 =>
  bif (decide (y1.1.1 = (0 : Int))) then
    Option.bind (ref18_All N family_1) fun y3 =>
    some ((y3.1.1, y3.1.2.1, ()), (y1.2.1, ()))
  else
    bif (decide (y1.1.1 = (1 : Int))) then
      Option.bind (make_Codes_Address N family_1 y1.2.1) fun y5 =>
      Option.bind (make_Codes_Next N (25 : Int) y5.2.1) fun y6 =>
      Option.bind (ref18_Prefix N y5.1.1 (w64 ((8 : Int) + y6.1.1))) fun y8 =>
      some ((y8.1.1, y8.1.2.1, ()), (y6.2.1, ()))
    else
      Option.bind (make_Codes_Address N family_1 y1.2.1) fun y9 =>
      Option.bind (make_Codes_Address N family_1 y9.2.1) fun y10 =>
      bif (decide (y10.1.1.2.1 < y9.1.1.2.1)) then
        make_Codes_Span_1 N true y10.2.1 ((0 : Int), (0 : UInt64), (0 : UInt64), ()) ((0 : Int), (0 : UInt64), (0 : UInt64), ()) y9.1.1 y10.1.1
      else
        bif (decide (y9.1.1.2.1 = y10.1.1.2.1)) then
          make_Codes_Span_1 N (decide (y10.1.1.2.2.1 < y9.1.1.2.2.1)) y10.2.1 ((0 : Int), (0 : UInt64), (0 : UInt64), ()) ((0 : Int), (0 : UInt64), (0 : UInt64), ()) y9.1.1 y10.1.1
        else
          make_Codes_Span_1 N false y10.2.1 ((0 : Int), (0 : UInt64), (0 : UInt64), ()) ((0 : Int), (0 : UInt64), (0 : UInt64), ()) y9.1.1 y10.1.1
noncomputable def make_Codes_Span_C (N : Nat) : Ctx := ⟨63, G_tys, [(36, make_Codes_Next_ctr N), (142, ref18_All_ctr N), (55, make_Codes_Address_ctr N), (143, ref18_Prefix_ctr N)], G_globs⟩
noncomputable def make_Codes_Span_S0 : Spec := ⟨[.ref 1 (.pair .i64 (.pair .u64 (.pair .u64 .unit))), .ref 2 (.pair .i64 (.pair .u64 (.pair .u64 .unit))), .ref 3 (.pair .i64 (.pair .u64 (.pair .u64 .unit))), .ref 4 (.pair .i64 (.pair .u64 (.pair .u64 .unit))), .val .bool], [(.box 113 (.pair (.sl .u8) (.pair .i64 .unit)), .fix 0), (.box 28 (.pair .i64 (.pair .u64 (.pair .u64 .unit))), .pos 0), (.box 28 (.pair .i64 (.pair .u64 (.pair .u64 .unit))), .pos 1), (.box 28 (.pair .i64 (.pair .u64 (.pair .u64 .unit))), .pos 2), (.box 28 (.pair .i64 (.pair .u64 (.pair .u64 .unit))), .pos 3)]⟩
noncomputable def make_Codes_Span_S1 : Spec := ⟨[.ref 0 (.pair (.sl .u8) (.pair .i64 .unit)), .val .i64], [(.box 113 (.pair (.sl .u8) (.pair .i64 .unit)), .pos 0)]⟩
noncomputable def make_Codes_Span_S2 : Spec := ⟨[.fp (.pair .i64 (.pair .u64 (.pair .u64 .unit))), .fp (.pair .i64 (.pair .u64 (.pair .u64 .unit)))], [(.box 113 (.pair (.sl .u8) (.pair .i64 .unit)), .fix 0)]⟩
noncomputable def make_Codes_Span_K (_N : Nat) : XE → GS → Option make_Codes_Span_R := retK 1 [4, 5] [true, true] make_Codes_Span_S2
noncomputable def make_Codes_Span_L : List Code := (bodyOf (some Try.f77))
theorem make_Codes_Span_1_b {E : Env} (N : Nat) (hb : Base Try.prog (make_Codes_Span_C N) E 1) : Blk Try.prog (make_Codes_Span_C N) E [4, 5, 9, 10, 58] make_Codes_Span_S0 (make_Codes_Span_L.drop 5) (fun y => make_Codes_Span_1 N y.1.1 y.2.1 y.2.2.1 y.2.2.2.1 y.2.2.2.2.1 y.2.2.2.2.2.1) (make_Codes_Span_K N) :=
  Blk.chunkAt hb 3 (X := (make_Codes_Span_K N .normal)) (NxOk.end (by kernel_rfl)) rfl (fun x => by kernel_rfl)
theorem make_Codes_Span_b {E : Env} (N : Nat) (hb : Base Try.prog (make_Codes_Span_C N) E 1) : Blk Try.prog (make_Codes_Span_C N) E (List.range make_Codes_Span_S1.ks.length) make_Codes_Span_S1 (make_Codes_Span_L.drop 0) (fun y => make_Codes_Span N y.1.1 y.2.1) (make_Codes_Span_K N) :=
  Blk.chunkAt hb 5 (X := (goK 1 [4, 5, 9, 10, 58] make_Codes_Span_S0 (fun y => make_Codes_Span_1 N y.1.1 y.2.1 y.2.2.1 y.2.2.2.1 y.2.2.2.2.1 y.2.2.2.2.2.1))) (NxOk.go hb (make_Codes_Span_1_b N hb)) rfl (fun x => by kernel_rfl)
noncomputable def make_Codes_Span_ctr (N : Nat) : Ctr := ⟨make_Codes_Span_S1, make_Codes_Span_S2.un [true, true], 1, (fun y => make_Codes_Span N y.1.1 y.2.1)⟩
theorem make_Codes_Span_ctrs (N : Nat) : CtrsOk Try.prog (make_Codes_Span_C N) := ctrs_of (Γ := make_Codes_Span_C N) (by
  intro p hp
  simp only [make_Codes_Span_C, List.mem_cons, List.not_mem_nil, or_false] at hp
  rcases hp with rfl | rfl | rfl | rfl
  · exact make_Codes_Next_ok N
  · exact ref18_All_ok N
  · exact make_Codes_Address_ok N
  · exact ref18_Prefix_ok N)
theorem make_Codes_Span_ok (N : Nat) : Ctr.ok Try.prog G_globs 77 (make_Codes_Span_ctr N) :=
  ctr_fn (Γ := make_Codes_Span_C N) (rfit := make_Codes_Span_S2) (bs := [true, true]) (res := [4, 5]) (by kernel_rfl) (tys_ok G_tys_ok) (make_Codes_Span_ctrs N) Try.func77 (by kernel_rfl) (by kernel_rfl) Try.ntmps77 (by kernel_rfl) (by kernel_rfl) (by kernel_rfl) (by kernel_rfl) (fun E hb => make_Codes_Span_b N hb)
end Go.Proofs.Ytgbkkfpheahdfaa
namespace Go.Proofs.Ytgbkkfpheahdfaa
open Go
set_option maxRecDepth 100000
set_option linter.unusedVariables false
/-! (*ipsecgate/ipsecgatemake.Codes).Ports -/
abbrev make_Codes_Ports_R : Type := (((List Int) × Unit) × (((List UInt8) × (Int × Unit)) × Unit))
noncomputable def make_Codes_Ports_1 (N : Nat) (p0 : ((List UInt8) × (Int × Unit))) (t_2 : (List Int)) : Option make_Codes_Ports_R :=
  Option.bind (make_Codes_Next N (4 : Int) p0) fun y13 =>
  bif inR y13.1.1 (([(0 : Int), (80 : Int), (443 : Int), (65530 : Int)] : List Int).length) then
  let x14 := (([(0 : Int), (80 : Int), (443 : Int), (65530 : Int)] : List Int).getD y13.1.1.toNat (0 : Int))
  Option.bind (make_Codes_Next N (6 : Int) y13.2.1) fun y15 =>
  some ((([x14, (w64 (x14 + y15.1.1))] : List Int), ()), (y15.2.1, ()))
  else none
noncomputable def make_Codes_Ports (N : Nat) (c_0 : ((List UInt8) × (Int × Unit))) : Option make_Codes_Ports_R :=
  Option.bind (make_Codes_Next N (7 : Int) c_0) fun y1 =>
  bif (decide (y1.1.1 = (0 : Int))) then
    some ((([(-1 : Int), (65535 : Int)] : List Int), ()), (y1.2.1, ()))
  else
    bif (decide (y1.1.1 = (1 : Int))) then
      some ((([(-1 : Int), (65535 : Int)] : List Int), ()), (y1.2.1, ()))
    else
      bif (decide (y1.1.1 = (2 : Int))) then
        some ((([(-1 : Int), (-1 : Int)] : List Int), ()), (y1.2.1, ()))
      else
        bif (decide (y1.1.1 = (3 : Int))) then
          some ((([(0 : Int), (65535 : Int)] : List Int), ()), (y1.2.1, ()))
        else
          bif (decide (y1.1.1 = (4 : Int))) then
            Option.bind (make_Codes_Next N (9 : Int) y1.2.1) fun y11 =>
            some ((([(-1 : Int), y11.1.1] : List Int), ()), (y11.2.1, ()))
          else
            make_Codes_Ports_1 N y1.2.1 (List.replicate 2 (0 : Int))
noncomputable def make_Codes_Ports_C (N : Nat) : Ctx := ⟨32, G_tys, [(36, make_Codes_Next_ctr N)], G_globs⟩
noncomputable def make_Codes_Ports_S0 : Spec := ⟨[.ref 0 (.pair (.sl .u8) (.pair .i64 .unit)), .ref 1 (.arr 2 .i64)], [(.box 113 (.pair (.sl .u8) (.pair .i64 .unit)), .fix 0), (.box 44 (.arr 2 .i64), .pos 1)]⟩
noncomputable def make_Codes_Ports_S1 : Spec := ⟨[.ref 0 (.pair (.sl .u8) (.pair .i64 .unit))], [(.box 113 (.pair (.sl .u8) (.pair .i64 .unit)), .pos 0)]⟩
noncomputable def make_Codes_Ports_S2 : Spec := ⟨[.fp (.arr 2 .i64)], [(.box 113 (.pair (.sl .u8) (.pair .i64 .unit)), .fix 0)]⟩
noncomputable def make_Codes_Ports_K (_N : Nat) : XE → GS → Option make_Codes_Ports_R := retK 1 [2] [true] make_Codes_Ports_S2
noncomputable def make_Codes_Ports_L : List Code := (bodyOf (some Try.f78))
theorem make_Codes_Ports_1_b {E : Env} (N : Nat) (hb : Base Try.prog (make_Codes_Ports_C N) E 1) : Blk Try.prog (make_Codes_Ports_C N) E [0, 2] make_Codes_Ports_S0 (make_Codes_Ports_L.drop 3) (fun y => make_Codes_Ports_1 N y.2.1 y.2.2.1) (make_Codes_Ports_K N) :=
  Blk.chunkAt hb 3 (X := (make_Codes_Ports_K N .normal)) (NxOk.end (by kernel_rfl)) rfl (fun x => by kernel_rfl)
theorem make_Codes_Ports_b {E : Env} (N : Nat) (hb : Base Try.prog (make_Codes_Ports_C N) E 1) : Blk Try.prog (make_Codes_Ports_C N) E (List.range make_Codes_Ports_S1.ks.length) make_Codes_Ports_S1 (make_Codes_Ports_L.drop 0) (fun y => make_Codes_Ports N y.2.1) (make_Codes_Ports_K N) :=
  Blk.chunkAt hb 3 (X := (goK 1 [0, 2] make_Codes_Ports_S0 (fun y => make_Codes_Ports_1 N y.2.1 y.2.2.1))) (NxOk.go hb (make_Codes_Ports_1_b N hb)) rfl (fun x => by kernel_rfl)
noncomputable def make_Codes_Ports_ctr (N : Nat) : Ctr := ⟨make_Codes_Ports_S1, make_Codes_Ports_S2.un [true], 1, (fun y => make_Codes_Ports N y.2.1)⟩
theorem make_Codes_Ports_ctrs (N : Nat) : CtrsOk Try.prog (make_Codes_Ports_C N) := ctrs_of (Γ := make_Codes_Ports_C N) (by
  intro p hp
  simp only [make_Codes_Ports_C, List.mem_cons, List.not_mem_nil, or_false] at hp
  rcases hp with rfl
  · exact make_Codes_Next_ok N)
theorem make_Codes_Ports_ok (N : Nat) : Ctr.ok Try.prog G_globs 78 (make_Codes_Ports_ctr N) :=
  ctr_fn (Γ := make_Codes_Ports_C N) (rfit := make_Codes_Ports_S2) (bs := [true]) (res := [2]) (by kernel_rfl) (tys_ok G_tys_ok) (make_Codes_Ports_ctrs N) Try.func78 (by kernel_rfl) (by kernel_rfl) Try.ntmps78 (by kernel_rfl) (by kernel_rfl) (by kernel_rfl) (by kernel_rfl) (fun E hb => make_Codes_Ports_b N hb)
end Go.Proofs.Ytgbkkfpheahdfaa
namespace Go.Proofs.Ytgbkkfpheahdfaa
open Go
set_option maxRecDepth 100000
set_option linter.unusedVariables false
/-! (*ipsecgate/ipsecgatemake.Codes).Box -/
abbrev make_Codes_Box_R : Type := ((((Int × (UInt64 × (UInt64 × Unit))) × ((Int × (UInt64 × (UInt64 × Unit))) × ((Int × (UInt64 × (UInt64 × Unit))) × ((Int × (UInt64 × (UInt64 × Unit))) × (Int × (Int × ((List Int) × ((List Int) × Unit)))))))) × Unit) × (((List UInt8) × (Int × Unit)) × Unit))
noncomputable def make_Codes_Box_2 (N : Nat) (p0 : ((List UInt8) × (Int × Unit))) (t_2 : ((Int × (UInt64 × (UInt64 × Unit))) × ((Int × (UInt64 × (UInt64 × Unit))) × ((Int × (UInt64 × (UInt64 × Unit))) × ((Int × (UInt64 × (UInt64 × Unit))) × (Int × (Int × ((List Int) × ((List Int) × Unit))))))))) (b_4 : ((Int × (UInt64 × (UInt64 × Unit))) × ((Int × (UInt64 × (UInt64 × Unit))) × ((Int × (UInt64 × (UInt64 × Unit))) × ((Int × (UInt64 × (UInt64 × Unit))) × (Int × (Int × ((List Int) × ((List Int) × Unit))))))))) : Option make_Codes_Box_R :=
  Option.bind (make_Codes_Ports N p0) fun y10 =>
  Option.bind (make_Codes_Ports N y10.2.1) fun y11 =>
  some (((b_4.1, b_4.2.1, b_4.2.2.1, b_4.2.2.2.1, b_4.2.2.2.2.1, b_4.2.2.2.2.2.1, y10.1.1, y11.1.1, ()), ()), (y11.2.1, ()))
noncomputable def make_Codes_Box_1 (N : Nat) (family_3 : Int) (p0 : ((List UInt8) × (Int × Unit))) (t_2 : ((Int × (UInt64 × (UInt64 × Unit))) × ((Int × (UInt64 × (UInt64 × Unit))) × ((Int × (UInt64 × (UInt64 × Unit))) × ((Int × (UInt64 × (UInt64 × Unit))) × (Int × (Int × ((List Int) × ((List Int) × Unit))))))))) : Option make_Codes_Box_R :=
  Option.bind (make_Codes_Span N family_3 p0) fun y6 =>
  Option.bind (make_Codes_Span N family_3 y6.2.1) fun y7 =>
  Option.bind (make_Codes_Next N (5 : Int) y7.2.1) fun y8 =>
  bif (decide (y8.1.1 = (0 : Int))) then
    make_Codes_Box_2 N y8.2.1 t_2 (y6.1.1, y6.1.2.1, y7.1.1, y7.1.2.1, (0 : Int), (255 : Int), (List.replicate 2 (0 : Int)), (List.replicate 2 (0 : Int)), ())
  else
    bif (decide (y8.1.1 = (1 : Int))) then
      make_Codes_Box_2 N y8.2.1 t_2 (y6.1.1, y6.1.2.1, y7.1.1, y7.1.2.1, (0 : Int), (255 : Int), (List.replicate 2 (0 : Int)), (List.replicate 2 (0 : Int)), ())
    else
      bif (decide (y8.1.1 = (2 : Int))) then
        Option.bind (make_Codes_Next N (5 : Int) y8.2.1) fun y14 =>
        bif inR y14.1.1 (([(0 : Int), (1 : Int), (6 : Int), (17 : Int), (58 : Int)] : List Int).length) then
        let x15 := (([(0 : Int), (1 : Int), (6 : Int), (17 : Int), (58 : Int)] : List Int).getD y14.1.1.toNat (0 : Int))
        make_Codes_Box_2 N y14.2.1 t_2 (y6.1.1, y6.1.2.1, y7.1.1, y7.1.2.1, x15, x15, (List.replicate 2 (0 : Int)), (List.replicate 2 (0 : Int)), ())
        else none
      else
        Option.bind (make_Codes_Next N (7 : Int) y8.2.1) fun y16 =>
        Option.bind (make_Codes_Next N (12 : Int) y16.2.1) fun y17 =>
        make_Codes_Box_2 N y17.2.1 t_2 (y6.1.1, y6.1.2.1, y7.1.1, y7.1.2.1, y16.1.1, (w64 (y16.1.1 + y17.1.1)), (List.replicate 2 (0 : Int)), (List.replicate 2 (0 : Int)), ())
noncomputable def make_Codes_Box (N : Nat) (c_0 : ((List UInt8) × (Int × Unit))) : Option make_Codes_Box_R :=
  Option.bind (make_Codes_Next N (4 : Int) c_0) fun y1 =>
  let x4 := w64 ((4 : Int) + (w64 ((w64 ((2 : Int) * y1.1.1)).tdiv (3 : Int))))
  bif (!(decide (x4 = (4 : Int)))) then
    make_Codes_Box_1 N (6 : Int) y1.2.1 (((0 : Int), (0 : UInt64), (0 : UInt64), ()), ((0 : Int), (0 : UInt64), (0 : UInt64), ()), ((0 : Int), (0 : UInt64), (0 : UInt64), ()), ((0 : Int), (0 : UInt64), (0 : UInt64), ()), (0 : Int), (0 : Int), (List.replicate 2 (0 : Int)), (List.replicate 2 (0 : Int)), ())
  else
    make_Codes_Box_1 N x4 y1.2.1 (((0 : Int), (0 : UInt64), (0 : UInt64), ()), ((0 : Int), (0 : UInt64), (0 : UInt64), ()), ((0 : Int), (0 : UInt64), (0 : UInt64), ()), ((0 : Int), (0 : UInt64), (0 : UInt64), ()), (0 : Int), (0 : Int), (List.replicate 2 (0 : Int)), (List.replicate 2 (0 : Int)), ())
noncomputable def make_Codes_Box_C (N : Nat) : Ctx := ⟨61, G_tys, [(36, make_Codes_Next_ctr N), (77, make_Codes_Span_ctr N), (78, make_Codes_Ports_ctr N)], G_globs⟩
noncomputable def make_Codes_Box_S0 : Spec := ⟨[.ref 0 (.pair (.sl .u8) (.pair .i64 .unit)), .ref 1 (.pair (.pair .i64 (.pair .u64 (.pair .u64 .unit))) (.pair (.pair .i64 (.pair .u64 (.pair .u64 .unit))) (.pair (.pair .i64 (.pair .u64 (.pair .u64 .unit))) (.pair (.pair .i64 (.pair .u64 (.pair .u64 .unit))) (.pair .i64 (.pair .i64 (.pair (.arr 2 .i64) (.pair (.arr 2 .i64) .unit)))))))), .ref 2 (.pair (.pair .i64 (.pair .u64 (.pair .u64 .unit))) (.pair (.pair .i64 (.pair .u64 (.pair .u64 .unit))) (.pair (.pair .i64 (.pair .u64 (.pair .u64 .unit))) (.pair (.pair .i64 (.pair .u64 (.pair .u64 .unit))) (.pair .i64 (.pair .i64 (.pair (.arr 2 .i64) (.pair (.arr 2 .i64) .unit))))))))], [(.box 113 (.pair (.sl .u8) (.pair .i64 .unit)), .fix 0), (.box 46 (.pair (.pair .i64 (.pair .u64 (.pair .u64 .unit))) (.pair (.pair .i64 (.pair .u64 (.pair .u64 .unit))) (.pair (.pair .i64 (.pair .u64 (.pair .u64 .unit))) (.pair (.pair .i64 (.pair .u64 (.pair .u64 .unit))) (.pair .i64 (.pair .i64 (.pair (.arr 2 .i64) (.pair (.arr 2 .i64) .unit)))))))), .pos 1), (.box 46 (.pair (.pair .i64 (.pair .u64 (.pair .u64 .unit))) (.pair (.pair .i64 (.pair .u64 (.pair .u64 .unit))) (.pair (.pair .i64 (.pair .u64 (.pair .u64 .unit))) (.pair (.pair .i64 (.pair .u64 (.pair .u64 .unit))) (.pair .i64 (.pair .i64 (.pair (.arr 2 .i64) (.pair (.arr 2 .i64) .unit)))))))), .pos 2)]⟩
noncomputable def make_Codes_Box_S1 : Spec := ⟨[.ref 0 (.pair (.sl .u8) (.pair .i64 .unit)), .ref 1 (.pair (.pair .i64 (.pair .u64 (.pair .u64 .unit))) (.pair (.pair .i64 (.pair .u64 (.pair .u64 .unit))) (.pair (.pair .i64 (.pair .u64 (.pair .u64 .unit))) (.pair (.pair .i64 (.pair .u64 (.pair .u64 .unit))) (.pair .i64 (.pair .i64 (.pair (.arr 2 .i64) (.pair (.arr 2 .i64) .unit)))))))), .val .i64], [(.box 113 (.pair (.sl .u8) (.pair .i64 .unit)), .fix 0), (.box 46 (.pair (.pair .i64 (.pair .u64 (.pair .u64 .unit))) (.pair (.pair .i64 (.pair .u64 (.pair .u64 .unit))) (.pair (.pair .i64 (.pair .u64 (.pair .u64 .unit))) (.pair (.pair .i64 (.pair .u64 (.pair .u64 .unit))) (.pair .i64 (.pair .i64 (.pair (.arr 2 .i64) (.pair (.arr 2 .i64) .unit)))))))), .pos 1)]⟩
noncomputable def make_Codes_Box_S2 : Spec := ⟨[.ref 0 (.pair (.sl .u8) (.pair .i64 .unit))], [(.box 113 (.pair (.sl .u8) (.pair .i64 .unit)), .pos 0)]⟩
noncomputable def make_Codes_Box_S3 : Spec := ⟨[.fp (.pair (.pair .i64 (.pair .u64 (.pair .u64 .unit))) (.pair (.pair .i64 (.pair .u64 (.pair .u64 .unit))) (.pair (.pair .i64 (.pair .u64 (.pair .u64 .unit))) (.pair (.pair .i64 (.pair .u64 (.pair .u64 .unit))) (.pair .i64 (.pair .i64 (.pair (.arr 2 .i64) (.pair (.arr 2 .i64) .unit))))))))], [(.box 113 (.pair (.sl .u8) (.pair .i64 .unit)), .fix 0)]⟩
noncomputable def make_Codes_Box_K (_N : Nat) : XE → GS → Option make_Codes_Box_R := retK 1 [2] [true] make_Codes_Box_S3
noncomputable def make_Codes_Box_L : List Code := (bodyOf (some Try.f29))
theorem make_Codes_Box_2_b {E : Env} (N : Nat) (hb : Base Try.prog (make_Codes_Box_C N) E 1) : Blk Try.prog (make_Codes_Box_C N) E [0, 2, 4] make_Codes_Box_S0 (make_Codes_Box_L.drop 9) (fun y => make_Codes_Box_2 N y.2.1 y.2.2.1 y.2.2.2.1) (make_Codes_Box_K N) :=
  Blk.chunkAt hb 3 (X := (make_Codes_Box_K N .normal)) (NxOk.end (by kernel_rfl)) rfl (fun x => by kernel_rfl)
theorem make_Codes_Box_1_b {E : Env} (N : Nat) (hb : Base Try.prog (make_Codes_Box_C N) E 1) : Blk Try.prog (make_Codes_Box_C N) E [0, 2, 3] make_Codes_Box_S1 (make_Codes_Box_L.drop 4) (fun y => make_Codes_Box_1 N y.1.1 y.2.1 y.2.2.1) (make_Codes_Box_K N) :=
  Blk.chunkAt hb 5 (X := (goK 1 [0, 2, 4] make_Codes_Box_S0 (fun y => make_Codes_Box_2 N y.2.1 y.2.2.1 y.2.2.2.1))) (NxOk.go hb (make_Codes_Box_2_b N hb)) rfl (fun x => by kernel_rfl)
theorem make_Codes_Box_b {E : Env} (N : Nat) (hb : Base Try.prog (make_Codes_Box_C N) E 1) : Blk Try.prog (make_Codes_Box_C N) E (List.range make_Codes_Box_S2.ks.length) make_Codes_Box_S2 (make_Codes_Box_L.drop 0) (fun y => make_Codes_Box N y.2.1) (make_Codes_Box_K N) :=
  Blk.chunkAt hb 4 (X := (goK 1 [0, 2, 3] make_Codes_Box_S1 (fun y => make_Codes_Box_1 N y.1.1 y.2.1 y.2.2.1))) (NxOk.go hb (make_Codes_Box_1_b N hb)) rfl (fun x => by kernel_rfl)
noncomputable def make_Codes_Box_ctr (N : Nat) : Ctr := ⟨make_Codes_Box_S2, make_Codes_Box_S3.un [true], 1, (fun y => make_Codes_Box N y.2.1)⟩
theorem make_Codes_Box_ctrs (N : Nat) : CtrsOk Try.prog (make_Codes_Box_C N) := ctrs_of (Γ := make_Codes_Box_C N) (by
  intro p hp
  simp only [make_Codes_Box_C, List.mem_cons, List.not_mem_nil, or_false] at hp
  rcases hp with rfl | rfl | rfl
  · exact make_Codes_Next_ok N
  · exact make_Codes_Span_ok N
  · exact make_Codes_Ports_ok N)
theorem make_Codes_Box_ok (N : Nat) : Ctr.ok Try.prog G_globs 29 (make_Codes_Box_ctr N) :=
  ctr_fn (Γ := make_Codes_Box_C N) (rfit := make_Codes_Box_S3) (bs := [true]) (res := [2]) (by kernel_rfl) (tys_ok G_tys_ok) (make_Codes_Box_ctrs N) Try.func29 (by kernel_rfl) (by kernel_rfl) Try.ntmps29 (by kernel_rfl) (by kernel_rfl) (by kernel_rfl) (by kernel_rfl) (fun E hb => make_Codes_Box_b N hb)
end Go.Proofs.Ytgbkkfpheahdfaa
namespace Go.Proofs.Ytgbkkfpheahdfaa
open Go
set_option maxRecDepth 100000
set_option linter.unusedVariables false
/-! ipsecgate/decorrelate.Meet -/
abbrev decorrelate_Meet_R : Type := ((((Int × (UInt64 × (UInt64 × Unit))) × ((Int × (UInt64 × (UInt64 × Unit))) × ((Int × (UInt64 × (UInt64 × Unit))) × ((Int × (UInt64 × (UInt64 × Unit))) × (Int × (Int × ((List Int) × ((List Int) × Unit)))))))) × Bool × Unit) × (Unit))
noncomputable def decorrelate_Meet (N : Nat) (a_0 : ((Int × (UInt64 × (UInt64 × Unit))) × ((Int × (UInt64 × (UInt64 × Unit))) × ((Int × (UInt64 × (UInt64 × Unit))) × ((Int × (UInt64 × (UInt64 × Unit))) × (Int × (Int × ((List Int) × ((List Int) × Unit))))))))) (b_1 : ((Int × (UInt64 × (UInt64 × Unit))) × ((Int × (UInt64 × (UInt64 × Unit))) × ((Int × (UInt64 × (UInt64 × Unit))) × ((Int × (UInt64 × (UInt64 × Unit))) × (Int × (Int × ((List Int) × ((List Int) × Unit))))))))) : Option decorrelate_Meet_R :=
  Option.bind (decorrelate_ofBox N a_0) fun y1 =>
  Option.bind (decorrelate_ofBox N b_1) fun y2 =>
  Option.bind (decorrelate_product_meet N y1.1.1 y2.1.1) fun y3 =>
  bif (!y3.1.2.1) then
    some (((((0 : Int), (0 : UInt64), (0 : UInt64), ()), ((0 : Int), (0 : UInt64), (0 : UInt64), ()), ((0 : Int), (0 : UInt64), (0 : UInt64), ()), ((0 : Int), (0 : UInt64), (0 : UInt64), ()), (0 : Int), (0 : Int), (List.replicate 2 (0 : Int)), (List.replicate 2 (0 : Int)), ()), false, ()), (()))
  else
    Option.bind (decorrelate_product_box N y3.1.1) fun y5 =>
    some ((y5.1.1, true, ()), (()))
noncomputable def decorrelate_Meet_C (N : Nat) : Ctx := ⟨21, G_tys, [(79, decorrelate_ofBox_ctr N), (80, decorrelate_product_meet_ctr N), (83, decorrelate_product_box_ctr N)], G_globs⟩
noncomputable def decorrelate_Meet_S0 : Spec := ⟨[.val (.pair (.pair .i64 (.pair .u64 (.pair .u64 .unit))) (.pair (.pair .i64 (.pair .u64 (.pair .u64 .unit))) (.pair (.pair .i64 (.pair .u64 (.pair .u64 .unit))) (.pair (.pair .i64 (.pair .u64 (.pair .u64 .unit))) (.pair .i64 (.pair .i64 (.pair (.arr 2 .i64) (.pair (.arr 2 .i64) .unit)))))))), .val (.pair (.pair .i64 (.pair .u64 (.pair .u64 .unit))) (.pair (.pair .i64 (.pair .u64 (.pair .u64 .unit))) (.pair (.pair .i64 (.pair .u64 (.pair .u64 .unit))) (.pair (.pair .i64 (.pair .u64 (.pair .u64 .unit))) (.pair .i64 (.pair .i64 (.pair (.arr 2 .i64) (.pair (.arr 2 .i64) .unit))))))))], []⟩
noncomputable def decorrelate_Meet_S1 : Spec := ⟨[.fp (.pair (.pair .i64 (.pair .u64 (.pair .u64 .unit))) (.pair (.pair .i64 (.pair .u64 (.pair .u64 .unit))) (.pair (.pair .i64 (.pair .u64 (.pair .u64 .unit))) (.pair (.pair .i64 (.pair .u64 (.pair .u64 .unit))) (.pair .i64 (.pair .i64 (.pair (.arr 2 .i64) (.pair (.arr 2 .i64) .unit)))))))), .val .bool], []⟩
noncomputable def decorrelate_Meet_K (_N : Nat) : XE → GS → Option decorrelate_Meet_R := retK 0 [4, 5] [true, false] decorrelate_Meet_S1
noncomputable def decorrelate_Meet_L : List Code := (bodyOf (some Try.f32))
theorem decorrelate_Meet_b {E : Env} (N : Nat) (hb : Base Try.prog (decorrelate_Meet_C N) E 0) : Blk Try.prog (decorrelate_Meet_C N) E (List.range decorrelate_Meet_S0.ks.length) decorrelate_Meet_S0 (decorrelate_Meet_L.drop 0) (fun y => decorrelate_Meet N y.1.1 y.1.2.1) (decorrelate_Meet_K N) :=
  Blk.chunkAt hb 6 (X := (decorrelate_Meet_K N .normal)) (NxOk.end (by kernel_rfl)) rfl (fun x => by kernel_rfl)
noncomputable def decorrelate_Meet_ctr (N : Nat) : Ctr := ⟨decorrelate_Meet_S0, decorrelate_Meet_S1.un [true, false], 0, (fun y => decorrelate_Meet N y.1.1 y.1.2.1)⟩
theorem decorrelate_Meet_ctrs (N : Nat) : CtrsOk Try.prog (decorrelate_Meet_C N) := ctrs_of (Γ := decorrelate_Meet_C N) (by
  intro p hp
  simp only [decorrelate_Meet_C, List.mem_cons, List.not_mem_nil, or_false] at hp
  rcases hp with rfl | rfl | rfl
  · exact decorrelate_ofBox_ok N
  · exact decorrelate_product_meet_ok N
  · exact decorrelate_product_box_ok N)
theorem decorrelate_Meet_ok (N : Nat) : Ctr.ok Try.prog G_globs 32 (decorrelate_Meet_ctr N) :=
  ctr_fn (Γ := decorrelate_Meet_C N) (rfit := decorrelate_Meet_S1) (bs := [true, false]) (res := [4, 5]) (by kernel_rfl) (tys_ok G_tys_ok) (decorrelate_Meet_ctrs N) Try.func32 (by kernel_rfl) (by kernel_rfl) Try.ntmps32 (by kernel_rfl) (by kernel_rfl) (by kernel_rfl) (by kernel_rfl) (fun E hb => decorrelate_Meet_b N hb)
end Go.Proofs.Ytgbkkfpheahdfaa
namespace Go.Proofs.Ytgbkkfpheahdfaa
open Go
set_option maxRecDepth 100000
set_option linter.unusedVariables false
/-! ipsecgate/ipsecgateref05.Less -/
abbrev ref05_Less_R : Type := ((Bool × Unit) × (Unit))
noncomputable def ref05_Less (N : Nat) (a_0 : (Int × (UInt64 × (UInt64 × Unit)))) (b_1 : (Int × (UInt64 × (UInt64 × Unit)))) : Option ref05_Less_R :=
  bif (!(decide (a_0.1 = b_1.1))) then
    some (((decide (a_0.1 < b_1.1)), ()), (()))
  else
    bif (!(decide (a_0.2.1 = b_1.2.1))) then
      some (((decide (a_0.2.1 < b_1.2.1)), ()), (()))
    else
      some (((decide (a_0.2.2.1 < b_1.2.2.1)), ()), (()))
noncomputable def ref05_Less_C (N : Nat) : Ctx := ⟨30, G_tys, [], G_globs⟩
noncomputable def ref05_Less_S0 : Spec := ⟨[.val (.pair .i64 (.pair .u64 (.pair .u64 .unit))), .val (.pair .i64 (.pair .u64 (.pair .u64 .unit)))], []⟩
noncomputable def ref05_Less_S1 : Spec := ⟨[.val .bool], []⟩
noncomputable def ref05_Less_K (_N : Nat) : XE → GS → Option ref05_Less_R := retK 0 [4] [false] ref05_Less_S1
noncomputable def ref05_Less_L : List Code := (bodyOf (some Try.f97))
theorem ref05_Less_b {E : Env} (N : Nat) (hb : Base Try.prog (ref05_Less_C N) E 0) : Blk Try.prog (ref05_Less_C N) E (List.range ref05_Less_S0.ks.length) ref05_Less_S0 (ref05_Less_L.drop 0) (fun y => ref05_Less N y.1.1 y.1.2.1) (ref05_Less_K N) :=
  Blk.chunkAt hb 7 (X := (ref05_Less_K N .normal)) (NxOk.end (by kernel_rfl)) rfl (fun x => by kernel_rfl)
noncomputable def ref05_Less_ctr (N : Nat) : Ctr := ⟨ref05_Less_S0, ref05_Less_S1.un [false], 0, (fun y => ref05_Less N y.1.1 y.1.2.1)⟩
theorem ref05_Less_ctrs (N : Nat) : CtrsOk Try.prog (ref05_Less_C N) := ctrs_nil rfl
theorem ref05_Less_ok (N : Nat) : Ctr.ok Try.prog G_globs 97 (ref05_Less_ctr N) :=
  ctr_fn (Γ := ref05_Less_C N) (rfit := ref05_Less_S1) (bs := [false]) (res := [4]) (by kernel_rfl) (tys_ok G_tys_ok) (ref05_Less_ctrs N) Try.func97 (by kernel_rfl) (by kernel_rfl) Try.ntmps97 (by kernel_rfl) (by kernel_rfl) (by kernel_rfl) (by kernel_rfl) (fun E hb => ref05_Less_b N hb)
end Go.Proofs.Ytgbkkfpheahdfaa
namespace Go.Proofs.Ytgbkkfpheahdfaa
open Go
set_option maxRecDepth 100000
set_option linter.unusedVariables false
/-! ipsecgate/ipsecgateref19.ports -/
abbrev ref19_ports_R : Type := ((Bool × Unit) × (Unit))
noncomputable def ref19_ports (N : Nat) (p_0 : (List Int)) : Option ref19_ports_R :=
  bif (decide ((-1 : Int) ≤ (p_0.getD 0 (0 : Int)))) then
    bif (decide ((p_0.getD 1 (0 : Int)) ≤ (65535 : Int))) then
      some (((decide ((p_0.getD 0 (0 : Int)) ≤ (p_0.getD 1 (0 : Int)))), ()), (()))
    else
      some ((false, ()), (()))
  else
    some ((false, ()), (()))
noncomputable def ref19_ports_C (N : Nat) : Ctx := ⟨18, G_tys, [], G_globs⟩
noncomputable def ref19_ports_S0 : Spec := ⟨[.val (.arr 2 .i64)], []⟩
noncomputable def ref19_ports_S1 : Spec := ⟨[.val .bool], []⟩
noncomputable def ref19_ports_K (_N : Nat) : XE → GS → Option ref19_ports_R := retK 0 [2] [false] ref19_ports_S1
noncomputable def ref19_ports_L : List Code := (bodyOf (some Try.f100))
theorem ref19_ports_b {E : Env} (N : Nat) (hb : Base Try.prog (ref19_ports_C N) E 0) : Blk Try.prog (ref19_ports_C N) E (List.range ref19_ports_S0.ks.length) ref19_ports_S0 (ref19_ports_L.drop 0) (fun y => ref19_ports N y.1.1) (ref19_ports_K N) :=
  Blk.chunkAt hb 3 (X := (ref19_ports_K N .normal)) (NxOk.end (by kernel_rfl)) rfl (fun x => by kernel_rfl)
noncomputable def ref19_ports_ctr (N : Nat) : Ctr := ⟨ref19_ports_S0, ref19_ports_S1.un [false], 0, (fun y => ref19_ports N y.1.1)⟩
theorem ref19_ports_ctrs (N : Nat) : CtrsOk Try.prog (ref19_ports_C N) := ctrs_nil rfl
theorem ref19_ports_ok (N : Nat) : Ctr.ok Try.prog G_globs 100 (ref19_ports_ctr N) :=
  ctr_fn (Γ := ref19_ports_C N) (rfit := ref19_ports_S1) (bs := [false]) (res := [2]) (by kernel_rfl) (tys_ok G_tys_ok) (ref19_ports_ctrs N) Try.func100 (by kernel_rfl) (by kernel_rfl) Try.ntmps100 (by kernel_rfl) (by kernel_rfl) (by kernel_rfl) (by kernel_rfl) (fun E hb => ref19_ports_b N hb)
end Go.Proofs.Ytgbkkfpheahdfaa
namespace Go.Proofs.Ytgbkkfpheahdfaa
open Go
set_option maxRecDepth 100000
set_option linter.unusedVariables false
/-! ipsecgate/ipsecgateref19.CheckBox -/
abbrev ref19_CheckBox_R : Type := ((Int × Unit) × (Unit))
noncomputable def ref19_CheckBox_s2 (N : Nat) (i_4 : Int) (b_1 : ((Int × (UInt64 × (UInt64 × Unit))) × ((Int × (UInt64 × (UInt64 × Unit))) × ((Int × (UInt64 × (UInt64 × Unit))) × ((Int × (UInt64 × (UInt64 × Unit))) × (Int × (Int × ((List Int) × ((List Int) × Unit))))))))) (l_3 : (List (Int × (UInt64 × (UInt64 × Unit))))) : Option (Lo ((Int × Unit) × (((Int × (UInt64 × (UInt64 × Unit))) × ((Int × (UInt64 × (UInt64 × Unit))) × ((Int × (UInt64 × (UInt64 × Unit))) × ((Int × (UInt64 × (UInt64 × Unit))) × (Int × (Int × ((List Int) × ((List Int) × Unit)))))))) × (List (Int × (UInt64 × (UInt64 × Unit)))) × Unit)) ((Unit) × (((Int × (UInt64 × (UInt64 × Unit))) × ((Int × (UInt64 × (UInt64 × Unit))) × ((Int × (UInt64 × (UInt64 × Unit))) × ((Int × (UInt64 × (UInt64 × Unit))) × (Int × (Int × ((List Int) × ((List Int) × Unit)))))))) × (List (Int × (UInt64 × (UInt64 × Unit)))) × Unit)) ref19_CheckBox_R) :=
  bif (decide (i_4 < (4 : Int))) then
    bif inR i_4 l_3.length then
    Option.bind (ref05_Valid N (l_3.getD i_4.toNat ((0 : Int), (0 : UInt64), (0 : UInt64), ()))) fun y3 =>
    bif (!y3.1.1) then
      some (.rt (((15 : Int), ()), (())))
    else
      bif inR i_4 l_3.length then
      bif inR (0 : Int) l_3.length then
      bif (!(decide (((l_3.getD i_4.toNat ((0 : Int), (0 : UInt64), (0 : UInt64), ())).1) = ((l_3.getD 0 ((0 : Int), (0 : UInt64), (0 : UInt64), ())).1)))) then
        some (.rt (((15 : Int), ()), (())))
      else
        some (.go (((w64 (i_4 + (1 : Int))), ()), (b_1, l_3, ())))
      else none
      else none
    else none
  else
    some (.br ((()), (b_1, l_3, ())))
noncomputable def ref19_CheckBox_3 (N : Nat) (b_1 : ((Int × (UInt64 × (UInt64 × Unit))) × ((Int × (UInt64 × (UInt64 × Unit))) × ((Int × (UInt64 × (UInt64 × Unit))) × ((Int × (UInt64 × (UInt64 × Unit))) × (Int × (Int × ((List Int) × ((List Int) × Unit))))))))) (l_3 : (List (Int × (UInt64 × (UInt64 × Unit))))) : Option ref19_CheckBox_R :=
  bif inR (1 : Int) l_3.length then
  bif inR (0 : Int) l_3.length then
  Option.bind (ref05_Less N (l_3.getD 1 ((0 : Int), (0 : UInt64), (0 : UInt64), ())) (l_3.getD 0 ((0 : Int), (0 : UInt64), (0 : UInt64), ()))) fun y11 =>
  bif y11.1.1 then
    some (((5 : Int), ()), (()))
  else
    bif inR (3 : Int) l_3.length then
    bif inR (2 : Int) l_3.length then
    Option.bind (ref05_Less N (l_3.getD 3 ((0 : Int), (0 : UInt64), (0 : UInt64), ())) (l_3.getD 2 ((0 : Int), (0 : UInt64), (0 : UInt64), ()))) fun y14 =>
    bif y14.1.1 then
      some (((5 : Int), ()), (()))
    else
      bif (decide (b_1.2.2.2.2.1 < (0 : Int))) then
        some (((5 : Int), ()), (()))
      else
        bif (decide ((255 : Int) < b_1.2.2.2.2.2.1)) then
          some (((5 : Int), ()), (()))
        else
          bif (decide (b_1.2.2.2.2.2.1 < b_1.2.2.2.2.1)) then
            some (((5 : Int), ()), (()))
          else
            Option.bind (ref19_ports N b_1.2.2.2.2.2.2.1) fun y18 =>
            bif (!y18.1.1) then
              some (((5 : Int), ()), (()))
            else
              Option.bind (ref19_ports N b_1.2.2.2.2.2.2.2.1) fun y20 =>
              bif (!y20.1.1) then
                some (((5 : Int), ()), (()))
              else
                some (((0 : Int), ()), (()))
    else none
    else none
  else none
  else none
noncomputable def ref19_CheckBox_1 (N : Nat) (i_4 : Int) (b_1 : ((Int × (UInt64 × (UInt64 × Unit))) × ((Int × (UInt64 × (UInt64 × Unit))) × ((Int × (UInt64 × (UInt64 × Unit))) × ((Int × (UInt64 × (UInt64 × Unit))) × (Int × (Int × ((List Int) × ((List Int) × Unit))))))))) (l_3 : (List (Int × (UInt64 × (UInt64 × Unit))))) : Option ref19_CheckBox_R :=
  loopK N (fun y => ref19_CheckBox_s2 N y.1.1 y.2.1 y.2.2.1) (fun (e : ((Unit) × (((Int × (UInt64 × (UInt64 × Unit))) × ((Int × (UInt64 × (UInt64 × Unit))) × ((Int × (UInt64 × (UInt64 × Unit))) × ((Int × (UInt64 × (UInt64 × Unit))) × (Int × (Int × ((List Int) × ((List Int) × Unit)))))))) × (List (Int × (UInt64 × (UInt64 × Unit)))) × Unit))) => ref19_CheckBox_3 N e.2.1 e.2.2.1) ((i_4, ()), (b_1, l_3, ()))
noncomputable def ref19_CheckBox (N : Nat) (b_0 : ((Int × (UInt64 × (UInt64 × Unit))) × ((Int × (UInt64 × (UInt64 × Unit))) × ((Int × (UInt64 × (UInt64 × Unit))) × ((Int × (UInt64 × (UInt64 × Unit))) × (Int × (Int × ((List Int) × ((List Int) × Unit))))))))) : Option ref19_CheckBox_R :=
  ref19_CheckBox_1 N (0 : Int) b_0 ([b_0.1, b_0.2.1, b_0.2.2.1, b_0.2.2.2.1] : List (Int × (UInt64 × (UInt64 × Unit))))
noncomputable def ref19_CheckBox_C (N : Nat) : Ctx := ⟨81, G_tys, [(99, ref05_Valid_ctr N), (97, ref05_Less_ctr N), (100, ref19_ports_ctr N)], G_globs⟩
noncomputable def ref19_CheckBox_S0 : Spec := ⟨[.ref 0 (.pair (.pair .i64 (.pair .u64 (.pair .u64 .unit))) (.pair (.pair .i64 (.pair .u64 (.pair .u64 .unit))) (.pair (.pair .i64 (.pair .u64 (.pair .u64 .unit))) (.pair (.pair .i64 (.pair .u64 (.pair .u64 .unit))) (.pair .i64 (.pair .i64 (.pair (.arr 2 .i64) (.pair (.arr 2 .i64) .unit)))))))), .row 1, .val .i64], [(.box 46 (.pair (.pair .i64 (.pair .u64 (.pair .u64 .unit))) (.pair (.pair .i64 (.pair .u64 (.pair .u64 .unit))) (.pair (.pair .i64 (.pair .u64 (.pair .u64 .unit))) (.pair (.pair .i64 (.pair .u64 (.pair .u64 .unit))) (.pair .i64 (.pair .i64 (.pair (.arr 2 .i64) (.pair (.arr 2 .i64) .unit)))))))), .pos 0), (.row 28 (.pair .i64 (.pair .u64 (.pair .u64 .unit))), .pos 1)]⟩
noncomputable def ref19_CheckBox_S1 : Spec := ⟨[.ref 0 (.pair (.pair .i64 (.pair .u64 (.pair .u64 .unit))) (.pair (.pair .i64 (.pair .u64 (.pair .u64 .unit))) (.pair (.pair .i64 (.pair .u64 (.pair .u64 .unit))) (.pair (.pair .i64 (.pair .u64 (.pair .u64 .unit))) (.pair .i64 (.pair .i64 (.pair (.arr 2 .i64) (.pair (.arr 2 .i64) .unit)))))))), .row 1], [(.box 46 (.pair (.pair .i64 (.pair .u64 (.pair .u64 .unit))) (.pair (.pair .i64 (.pair .u64 (.pair .u64 .unit))) (.pair (.pair .i64 (.pair .u64 (.pair .u64 .unit))) (.pair (.pair .i64 (.pair .u64 (.pair .u64 .unit))) (.pair .i64 (.pair .i64 (.pair (.arr 2 .i64) (.pair (.arr 2 .i64) .unit)))))))), .pos 0), (.row 28 (.pair .i64 (.pair .u64 (.pair .u64 .unit))), .pos 1)]⟩
noncomputable def ref19_CheckBox_S2 : Spec := ⟨[.val (.pair (.pair .i64 (.pair .u64 (.pair .u64 .unit))) (.pair (.pair .i64 (.pair .u64 (.pair .u64 .unit))) (.pair (.pair .i64 (.pair .u64 (.pair .u64 .unit))) (.pair (.pair .i64 (.pair .u64 (.pair .u64 .unit))) (.pair .i64 (.pair .i64 (.pair (.arr 2 .i64) (.pair (.arr 2 .i64) .unit))))))))], []⟩
noncomputable def ref19_CheckBox_S3 : Spec := ⟨[.val .i64], []⟩
noncomputable def ref19_CheckBox_K (_N : Nat) : XE → GS → Option ref19_CheckBox_R := retK 0 [2] [false] ref19_CheckBox_S3
noncomputable def ref19_CheckBox_L : List Code := (bodyOf (some Try.f46))
noncomputable def ref19_CheckBox_L2 : List Code := (loopOf (ref19_CheckBox_L[3]?))
noncomputable def ref19_CheckBox_K2 (N : Nat) : XE → GS → Option (Lo ((Int × Unit) × (((Int × (UInt64 × (UInt64 × Unit))) × ((Int × (UInt64 × (UInt64 × Unit))) × ((Int × (UInt64 × (UInt64 × Unit))) × ((Int × (UInt64 × (UInt64 × Unit))) × (Int × (Int × ((List Int) × ((List Int) × Unit)))))))) × (List (Int × (UInt64 × (UInt64 × Unit)))) × Unit)) ((Unit) × (((Int × (UInt64 × (UInt64 × Unit))) × ((Int × (UInt64 × (UInt64 × Unit))) × ((Int × (UInt64 × (UInt64 × Unit))) × ((Int × (UInt64 × (UInt64 × Unit))) × (Int × (Int × ((List Int) × ((List Int) × Unit)))))))) × (List (Int × (UInt64 × (UInt64 × Unit)))) × Unit)) ref19_CheckBox_R) := roundK (some 0) (fit 0 [1, 3, 4] ref19_CheckBox_S0) (fit 0 [1, 3] ref19_CheckBox_S1) (ref19_CheckBox_K N)
theorem ref19_CheckBox_s2_b {E : Env} (N : Nat) (hb : Base Try.prog (ref19_CheckBox_C N) E 0) : Blk Try.prog (ref19_CheckBox_C N) E [1, 3, 4] ref19_CheckBox_S0 (ref19_CheckBox_L2.drop 0) (fun y => ref19_CheckBox_s2 N y.1.1 y.2.1 y.2.2.1) (ref19_CheckBox_K2 N) :=
  Blk.chunkAt hb 4 (X := (ref19_CheckBox_K2 N .normal)) (NxOk.end (by kernel_rfl)) rfl (fun x => by kernel_rfl)
theorem ref19_CheckBox_3_b {E : Env} (N : Nat) (hb : Base Try.prog (ref19_CheckBox_C N) E 0) : Blk Try.prog (ref19_CheckBox_C N) E [1, 3] ref19_CheckBox_S1 (ref19_CheckBox_L.drop 4) (fun y => ref19_CheckBox_3 N y.2.1 y.2.2.1) (ref19_CheckBox_K N) :=
  Blk.chunkAt hb 4 (X := (ref19_CheckBox_K N .normal)) (NxOk.end (by kernel_rfl)) rfl (fun x => by kernel_rfl)
theorem ref19_CheckBox_1_b {E : Env} (N : Nat) (hb : Base Try.prog (ref19_CheckBox_C N) E 0) : Blk Try.prog (ref19_CheckBox_C N) E [1, 3, 4] ref19_CheckBox_S0 (ref19_CheckBox_L.drop 3) (fun y => ref19_CheckBox_1 N y.1.1 y.2.1 y.2.2.1) (ref19_CheckBox_K N) :=
  Blk.loopAt (Nf := N) (hns := [1, 3, 4]) (ans := [1, 3]) (hc := ref19_CheckBox_S0) (ac := ref19_CheckBox_S1) (bid := 0) (step := (fun y => ref19_CheckBox_s2 N y.1.1 y.2.1 y.2.2.1)) (J := (fun e => (goK 0 [1, 3] ref19_CheckBox_S1 (fun y => ref19_CheckBox_3 N y.2.1 y.2.2.1)) (ref19_CheckBox_S1.st [1, 3] e))) hb (by kernel_rfl) (Blk.into (X := (goK 0 [1, 3] ref19_CheckBox_S1 (fun y => ref19_CheckBox_3 N y.2.1 y.2.2.1))) (NxOk.go hb (ref19_CheckBox_3_b N hb)) (fun x => by kernel_rfl)) (ref19_CheckBox_s2_b N hb) (fun x => by kernel_rfl)
theorem ref19_CheckBox_b {E : Env} (N : Nat) (hb : Base Try.prog (ref19_CheckBox_C N) E 0) : Blk Try.prog (ref19_CheckBox_C N) E (List.range ref19_CheckBox_S2.ks.length) ref19_CheckBox_S2 (ref19_CheckBox_L.drop 0) (fun y => ref19_CheckBox N y.1.1) (ref19_CheckBox_K N) :=
  Blk.chunkAt hb 3 (X := (goK 0 [1, 3, 4] ref19_CheckBox_S0 (fun y => ref19_CheckBox_1 N y.1.1 y.2.1 y.2.2.1))) (NxOk.go hb (ref19_CheckBox_1_b N hb)) rfl (fun x => by kernel_rfl)
noncomputable def ref19_CheckBox_ctr (N : Nat) : Ctr := ⟨ref19_CheckBox_S2, ref19_CheckBox_S3.un [false], 0, (fun y => ref19_CheckBox N y.1.1)⟩
theorem ref19_CheckBox_ctrs (N : Nat) : CtrsOk Try.prog (ref19_CheckBox_C N) := ctrs_of (Γ := ref19_CheckBox_C N) (by
  intro p hp
  simp only [ref19_CheckBox_C, List.mem_cons, List.not_mem_nil, or_false] at hp
  rcases hp with rfl | rfl | rfl
  · exact ref05_Valid_ok N
  · exact ref05_Less_ok N
  · exact ref19_ports_ok N)
theorem ref19_CheckBox_ok (N : Nat) : Ctr.ok Try.prog G_globs 46 (ref19_CheckBox_ctr N) :=
  ctr_fn (Γ := ref19_CheckBox_C N) (rfit := ref19_CheckBox_S3) (bs := [false]) (res := [2]) (by kernel_rfl) (tys_ok G_tys_ok) (ref19_CheckBox_ctrs N) Try.func46 (by kernel_rfl) (by kernel_rfl) Try.ntmps46 (by kernel_rfl) (by kernel_rfl) (by kernel_rfl) (by kernel_rfl) (fun E hb => ref19_CheckBox_b N hb)
end Go.Proofs.Ytgbkkfpheahdfaa
namespace Go.Proofs.Ytgbkkfpheahdfaa
open Go
set_option maxRecDepth 100000
set_option linter.unusedVariables false
/-! ipsecgate/ipsecgateref20.number -/
abbrev ref20_number_R : Type := (((Int × (UInt64 × (UInt64 × Unit))) × Unit) × (Unit))
noncomputable def ref20_number (N : Nat) (n_0 : Int) : Option ref20_number_R :=
  some ((((0 : Int), (0 : UInt64), (iu64 (w64 (n_0 + (1 : Int)))), ()), ()), (()))
noncomputable def ref20_number_C (N : Nat) : Ctx := ⟨7, G_tys, [], G_globs⟩
noncomputable def ref20_number_S0 : Spec := ⟨[.val .i64], []⟩
noncomputable def ref20_number_S1 : Spec := ⟨[.fp (.pair .i64 (.pair .u64 (.pair .u64 .unit)))], []⟩
noncomputable def ref20_number_K (_N : Nat) : XE → GS → Option ref20_number_R := retK 0 [2] [true] ref20_number_S1
noncomputable def ref20_number_L : List Code := (bodyOf (some Try.f152))
theorem ref20_number_b {E : Env} (N : Nat) (hb : Base Try.prog (ref20_number_C N) E 0) : Blk Try.prog (ref20_number_C N) E (List.range ref20_number_S0.ks.length) ref20_number_S0 (ref20_number_L.drop 0) (fun y => ref20_number N y.1.1) (ref20_number_K N) :=
  Blk.chunkAt hb 3 (X := (ref20_number_K N .normal)) (NxOk.end (by kernel_rfl)) rfl (fun x => by kernel_rfl)
noncomputable def ref20_number_ctr (N : Nat) : Ctr := ⟨ref20_number_S0, ref20_number_S1.un [true], 0, (fun y => ref20_number N y.1.1)⟩
theorem ref20_number_ctrs (N : Nat) : CtrsOk Try.prog (ref20_number_C N) := ctrs_nil rfl
theorem ref20_number_ok (N : Nat) : Ctr.ok Try.prog G_globs 152 (ref20_number_ctr N) :=
  ctr_fn (Γ := ref20_number_C N) (rfit := ref20_number_S1) (bs := [true]) (res := [2]) (by kernel_rfl) (tys_ok G_tys_ok) (ref20_number_ctrs N) Try.func152 (by kernel_rfl) (by kernel_rfl) Try.ntmps152 (by kernel_rfl) (by kernel_rfl) (by kernel_rfl) (by kernel_rfl) (fun E hb => ref20_number_b N hb)
end Go.Proofs.Ytgbkkfpheahdfaa
namespace Go.Proofs.Ytgbkkfpheahdfaa
open Go
set_option maxRecDepth 100000
set_option linter.unusedVariables false
/-! ipsecgate/ipsecgateref20.low -/
abbrev ref20_low_R : Type := (((Int × (UInt64 × (UInt64 × Unit))) × Unit) × (Unit))
noncomputable def ref20_low (N : Nat) (b_0 : ((Int × (UInt64 × (UInt64 × Unit))) × ((Int × (UInt64 × (UInt64 × Unit))) × ((Int × (UInt64 × (UInt64 × Unit))) × ((Int × (UInt64 × (UInt64 × Unit))) × (Int × (Int × ((List Int) × ((List Int) × Unit))))))))) (k_1 : Int) : Option ref20_low_R :=
  bif (decide (k_1 = (0 : Int))) then
    some ((b_0.1, ()), (()))
  else
    bif (decide (k_1 = (1 : Int))) then
      some ((b_0.2.2.1, ()), (()))
    else
      bif (decide (k_1 = (2 : Int))) then
        Option.bind (ref20_number N b_0.2.2.2.2.1) fun y4 =>
        some ((y4.1.1, ()), (()))
      else
        bif (decide (k_1 = (3 : Int))) then
          Option.bind (ref20_number N (b_0.2.2.2.2.2.2.1.getD 0 (0 : Int))) fun y7 =>
          some ((y7.1.1, ()), (()))
        else
          Option.bind (ref20_number N (b_0.2.2.2.2.2.2.2.1.getD 0 (0 : Int))) fun y9 =>
          some ((y9.1.1, ()), (()))
noncomputable def ref20_low_C (N : Nat) : Ctx := ⟨29, G_tys, [(152, ref20_number_ctr N)], G_globs⟩
noncomputable def ref20_low_S0 : Spec := ⟨[.val (.pair (.pair .i64 (.pair .u64 (.pair .u64 .unit))) (.pair (.pair .i64 (.pair .u64 (.pair .u64 .unit))) (.pair (.pair .i64 (.pair .u64 (.pair .u64 .unit))) (.pair (.pair .i64 (.pair .u64 (.pair .u64 .unit))) (.pair .i64 (.pair .i64 (.pair (.arr 2 .i64) (.pair (.arr 2 .i64) .unit)))))))), .val .i64], []⟩
noncomputable def ref20_low_S1 : Spec := ⟨[.fp (.pair .i64 (.pair .u64 (.pair .u64 .unit)))], []⟩
noncomputable def ref20_low_K (_N : Nat) : XE → GS → Option ref20_low_R := retK 0 [4] [true] ref20_low_S1
noncomputable def ref20_low_L : List Code := (bodyOf (some Try.f94))
theorem ref20_low_b {E : Env} (N : Nat) (hb : Base Try.prog (ref20_low_C N) E 0) : Blk Try.prog (ref20_low_C N) E (List.range ref20_low_S0.ks.length) ref20_low_S0 (ref20_low_L.drop 0) (fun y => ref20_low N y.1.1 y.1.2.1) (ref20_low_K N) :=
  Blk.chunkAt hb 5 (X := (ref20_low_K N .normal)) (NxOk.end (by kernel_rfl)) rfl (fun x => by kernel_rfl)
noncomputable def ref20_low_ctr (N : Nat) : Ctr := ⟨ref20_low_S0, ref20_low_S1.un [true], 0, (fun y => ref20_low N y.1.1 y.1.2.1)⟩
theorem ref20_low_ctrs (N : Nat) : CtrsOk Try.prog (ref20_low_C N) := ctrs_of (Γ := ref20_low_C N) (by
  intro p hp
  simp only [ref20_low_C, List.mem_cons, List.not_mem_nil, or_false] at hp
  rcases hp with rfl
  · exact ref20_number_ok N)
theorem ref20_low_ok (N : Nat) : Ctr.ok Try.prog G_globs 94 (ref20_low_ctr N) :=
  ctr_fn (Γ := ref20_low_C N) (rfit := ref20_low_S1) (bs := [true]) (res := [4]) (by kernel_rfl) (tys_ok G_tys_ok) (ref20_low_ctrs N) Try.func94 (by kernel_rfl) (by kernel_rfl) Try.ntmps94 (by kernel_rfl) (by kernel_rfl) (by kernel_rfl) (by kernel_rfl) (fun E hb => ref20_low_b N hb)
end Go.Proofs.Ytgbkkfpheahdfaa
namespace Go.Proofs.Ytgbkkfpheahdfaa
open Go
set_option maxRecDepth 100000
set_option linter.unusedVariables false
/-! ipsecgate/ipsecgateref05.Greater -/
abbrev ref05_Greater_R : Type := (((Int × (UInt64 × (UInt64 × Unit))) × Unit) × (Unit))
noncomputable def ref05_Greater (N : Nat) (a_0 : (Int × (UInt64 × (UInt64 × Unit)))) (b_1 : (Int × (UInt64 × (UInt64 × Unit)))) : Option ref05_Greater_R :=
  Option.bind (ref05_Less N a_0 b_1) fun y1 =>
  bif y1.1.1 then
    some ((b_1, ()), (()))
  else
    some ((a_0, ()), (()))
noncomputable def ref05_Greater_C (N : Nat) : Ctx := ⟨10, G_tys, [(97, ref05_Less_ctr N)], G_globs⟩
noncomputable def ref05_Greater_S0 : Spec := ⟨[.val (.pair .i64 (.pair .u64 (.pair .u64 .unit))), .val (.pair .i64 (.pair .u64 (.pair .u64 .unit)))], []⟩
noncomputable def ref05_Greater_S1 : Spec := ⟨[.fp (.pair .i64 (.pair .u64 (.pair .u64 .unit)))], []⟩
noncomputable def ref05_Greater_K (_N : Nat) : XE → GS → Option ref05_Greater_R := retK 0 [4] [true] ref05_Greater_S1
noncomputable def ref05_Greater_L : List Code := (bodyOf (some Try.f93))
theorem ref05_Greater_b {E : Env} (N : Nat) (hb : Base Try.prog (ref05_Greater_C N) E 0) : Blk Try.prog (ref05_Greater_C N) E (List.range ref05_Greater_S0.ks.length) ref05_Greater_S0 (ref05_Greater_L.drop 0) (fun y => ref05_Greater N y.1.1 y.1.2.1) (ref05_Greater_K N) :=
  Blk.chunkAt hb 5 (X := (ref05_Greater_K N .normal)) (NxOk.end (by kernel_rfl)) rfl (fun x => by kernel_rfl)
noncomputable def ref05_Greater_ctr (N : Nat) : Ctr := ⟨ref05_Greater_S0, ref05_Greater_S1.un [true], 0, (fun y => ref05_Greater N y.1.1 y.1.2.1)⟩
theorem ref05_Greater_ctrs (N : Nat) : CtrsOk Try.prog (ref05_Greater_C N) := ctrs_of (Γ := ref05_Greater_C N) (by
  intro p hp
  simp only [ref05_Greater_C, List.mem_cons, List.not_mem_nil, or_false] at hp
  rcases hp with rfl
  · exact ref05_Less_ok N)
theorem ref05_Greater_ok (N : Nat) : Ctr.ok Try.prog G_globs 93 (ref05_Greater_ctr N) :=
  ctr_fn (Γ := ref05_Greater_C N) (rfit := ref05_Greater_S1) (bs := [true]) (res := [4]) (by kernel_rfl) (tys_ok G_tys_ok) (ref05_Greater_ctrs N) Try.func93 (by kernel_rfl) (by kernel_rfl) Try.ntmps93 (by kernel_rfl) (by kernel_rfl) (by kernel_rfl) (by kernel_rfl) (fun E hb => ref05_Greater_b N hb)
end Go.Proofs.Ytgbkkfpheahdfaa
namespace Go.Proofs.Ytgbkkfpheahdfaa
open Go
set_option maxRecDepth 100000
set_option linter.unusedVariables false
/-! ipsecgate/ipsecgateref20.high -/
abbrev ref20_high_R : Type := (((Int × (UInt64 × (UInt64 × Unit))) × Unit) × (Unit))
noncomputable def ref20_high (N : Nat) (b_0 : ((Int × (UInt64 × (UInt64 × Unit))) × ((Int × (UInt64 × (UInt64 × Unit))) × ((Int × (UInt64 × (UInt64 × Unit))) × ((Int × (UInt64 × (UInt64 × Unit))) × (Int × (Int × ((List Int) × ((List Int) × Unit))))))))) (k_1 : Int) : Option ref20_high_R :=
  bif (decide (k_1 = (0 : Int))) then
    some ((b_0.2.1, ()), (()))
  else
    bif (decide (k_1 = (1 : Int))) then
      some ((b_0.2.2.2.1, ()), (()))
    else
      bif (decide (k_1 = (2 : Int))) then
        Option.bind (ref20_number N b_0.2.2.2.2.2.1) fun y4 =>
        some ((y4.1.1, ()), (()))
      else
        bif (decide (k_1 = (3 : Int))) then
          Option.bind (ref20_number N (b_0.2.2.2.2.2.2.1.getD 1 (0 : Int))) fun y7 =>
          some ((y7.1.1, ()), (()))
        else
          Option.bind (ref20_number N (b_0.2.2.2.2.2.2.2.1.getD 1 (0 : Int))) fun y9 =>
          some ((y9.1.1, ()), (()))
noncomputable def ref20_high_C (N : Nat) : Ctx := ⟨29, G_tys, [(152, ref20_number_ctr N)], G_globs⟩
noncomputable def ref20_high_S0 : Spec := ⟨[.val (.pair (.pair .i64 (.pair .u64 (.pair .u64 .unit))) (.pair (.pair .i64 (.pair .u64 (.pair .u64 .unit))) (.pair (.pair .i64 (.pair .u64 (.pair .u64 .unit))) (.pair (.pair .i64 (.pair .u64 (.pair .u64 .unit))) (.pair .i64 (.pair .i64 (.pair (.arr 2 .i64) (.pair (.arr 2 .i64) .unit)))))))), .val .i64], []⟩
noncomputable def ref20_high_S1 : Spec := ⟨[.fp (.pair .i64 (.pair .u64 (.pair .u64 .unit)))], []⟩
noncomputable def ref20_high_K (_N : Nat) : XE → GS → Option ref20_high_R := retK 0 [4] [true] ref20_high_S1
noncomputable def ref20_high_L : List Code := (bodyOf (some Try.f96))
theorem ref20_high_b {E : Env} (N : Nat) (hb : Base Try.prog (ref20_high_C N) E 0) : Blk Try.prog (ref20_high_C N) E (List.range ref20_high_S0.ks.length) ref20_high_S0 (ref20_high_L.drop 0) (fun y => ref20_high N y.1.1 y.1.2.1) (ref20_high_K N) :=
  Blk.chunkAt hb 5 (X := (ref20_high_K N .normal)) (NxOk.end (by kernel_rfl)) rfl (fun x => by kernel_rfl)
noncomputable def ref20_high_ctr (N : Nat) : Ctr := ⟨ref20_high_S0, ref20_high_S1.un [true], 0, (fun y => ref20_high N y.1.1 y.1.2.1)⟩
theorem ref20_high_ctrs (N : Nat) : CtrsOk Try.prog (ref20_high_C N) := ctrs_of (Γ := ref20_high_C N) (by
  intro p hp
  simp only [ref20_high_C, List.mem_cons, List.not_mem_nil, or_false] at hp
  rcases hp with rfl
  · exact ref20_number_ok N)
theorem ref20_high_ok (N : Nat) : Ctr.ok Try.prog G_globs 96 (ref20_high_ctr N) :=
  ctr_fn (Γ := ref20_high_C N) (rfit := ref20_high_S1) (bs := [true]) (res := [4]) (by kernel_rfl) (tys_ok G_tys_ok) (ref20_high_ctrs N) Try.func96 (by kernel_rfl) (by kernel_rfl) Try.ntmps96 (by kernel_rfl) (by kernel_rfl) (by kernel_rfl) (by kernel_rfl) (fun E hb => ref20_high_b N hb)
end Go.Proofs.Ytgbkkfpheahdfaa
namespace Go.Proofs.Ytgbkkfpheahdfaa
open Go
set_option maxRecDepth 100000
set_option linter.unusedVariables false
/-! ipsecgate/ipsecgateref05.Smaller -/
abbrev ref05_Smaller_R : Type := (((Int × (UInt64 × (UInt64 × Unit))) × Unit) × (Unit))
noncomputable def ref05_Smaller (N : Nat) (a_0 : (Int × (UInt64 × (UInt64 × Unit)))) (b_1 : (Int × (UInt64 × (UInt64 × Unit)))) : Option ref05_Smaller_R :=
  Option.bind (ref05_Less N b_1 a_0) fun y1 =>
  bif y1.1.1 then
    some ((b_1, ()), (()))
  else
    some ((a_0, ()), (()))
noncomputable def ref05_Smaller_C (N : Nat) : Ctx := ⟨10, G_tys, [(97, ref05_Less_ctr N)], G_globs⟩
noncomputable def ref05_Smaller_S0 : Spec := ⟨[.val (.pair .i64 (.pair .u64 (.pair .u64 .unit))), .val (.pair .i64 (.pair .u64 (.pair .u64 .unit)))], []⟩
noncomputable def ref05_Smaller_S1 : Spec := ⟨[.fp (.pair .i64 (.pair .u64 (.pair .u64 .unit)))], []⟩
noncomputable def ref05_Smaller_K (_N : Nat) : XE → GS → Option ref05_Smaller_R := retK 0 [4] [true] ref05_Smaller_S1
noncomputable def ref05_Smaller_L : List Code := (bodyOf (some Try.f95))
theorem ref05_Smaller_b {E : Env} (N : Nat) (hb : Base Try.prog (ref05_Smaller_C N) E 0) : Blk Try.prog (ref05_Smaller_C N) E (List.range ref05_Smaller_S0.ks.length) ref05_Smaller_S0 (ref05_Smaller_L.drop 0) (fun y => ref05_Smaller N y.1.1 y.1.2.1) (ref05_Smaller_K N) :=
  Blk.chunkAt hb 5 (X := (ref05_Smaller_K N .normal)) (NxOk.end (by kernel_rfl)) rfl (fun x => by kernel_rfl)
noncomputable def ref05_Smaller_ctr (N : Nat) : Ctr := ⟨ref05_Smaller_S0, ref05_Smaller_S1.un [true], 0, (fun y => ref05_Smaller N y.1.1 y.1.2.1)⟩
theorem ref05_Smaller_ctrs (N : Nat) : CtrsOk Try.prog (ref05_Smaller_C N) := ctrs_of (Γ := ref05_Smaller_C N) (by
  intro p hp
  simp only [ref05_Smaller_C, List.mem_cons, List.not_mem_nil, or_false] at hp
  rcases hp with rfl
  · exact ref05_Less_ok N)
theorem ref05_Smaller_ok (N : Nat) : Ctr.ok Try.prog G_globs 95 (ref05_Smaller_ctr N) :=
  ctr_fn (Γ := ref05_Smaller_C N) (rfit := ref05_Smaller_S1) (bs := [true]) (res := [4]) (by kernel_rfl) (tys_ok G_tys_ok) (ref05_Smaller_ctrs N) Try.func95 (by kernel_rfl) (by kernel_rfl) Try.ntmps95 (by kernel_rfl) (by kernel_rfl) (by kernel_rfl) (by kernel_rfl) (fun E hb => ref05_Smaller_b N hb)
end Go.Proofs.Ytgbkkfpheahdfaa
namespace Go.Proofs.Ytgbkkfpheahdfaa
open Go
set_option maxRecDepth 100000
set_option linter.unusedVariables false
/-! ipsecgate/ipsecgateref20.with -/
abbrev ref20_with_R : Type := ((((Int × (UInt64 × (UInt64 × Unit))) × ((Int × (UInt64 × (UInt64 × Unit))) × ((Int × (UInt64 × (UInt64 × Unit))) × ((Int × (UInt64 × (UInt64 × Unit))) × (Int × (Int × ((List Int) × ((List Int) × Unit)))))))) × Unit) × (Unit))
noncomputable def ref20_with (N : Nat) (b_0 : ((Int × (UInt64 × (UInt64 × Unit))) × ((Int × (UInt64 × (UInt64 × Unit))) × ((Int × (UInt64 × (UInt64 × Unit))) × ((Int × (UInt64 × (UInt64 × Unit))) × (Int × (Int × ((List Int) × ((List Int) × Unit))))))))) (k_1 : Int) (lo_2 : (Int × (UInt64 × (UInt64 × Unit)))) (hi_3 : (Int × (UInt64 × (UInt64 × Unit)))) : Option ref20_with_R :=
  let x5 := ([(w64 ((w64 (lo_2.2.2.1.toNat : Int)) - (1 : Int))), (w64 ((w64 (hi_3.2.2.1.toNat : Int)) - (1 : Int)))] : List Int)
  bif (decide (k_1 = (0 : Int))) then
    some (((lo_2, hi_3, b_0.2.2.1, b_0.2.2.2.1, b_0.2.2.2.2.1, b_0.2.2.2.2.2.1, b_0.2.2.2.2.2.2.1, b_0.2.2.2.2.2.2.2.1, ()), ()), (()))
  else
    bif (decide (k_1 = (1 : Int))) then
      some (((b_0.1, b_0.2.1, lo_2, hi_3, b_0.2.2.2.2.1, b_0.2.2.2.2.2.1, b_0.2.2.2.2.2.2.1, b_0.2.2.2.2.2.2.2.1, ()), ()), (()))
    else
      bif (decide (k_1 = (2 : Int))) then
        some (((b_0.1, b_0.2.1, b_0.2.2.1, b_0.2.2.2.1, (x5.getD 0 (0 : Int)), (x5.getD 1 (0 : Int)), b_0.2.2.2.2.2.2.1, b_0.2.2.2.2.2.2.2.1, ()), ()), (()))
      else
        bif (decide (k_1 = (3 : Int))) then
          some (((b_0.1, b_0.2.1, b_0.2.2.1, b_0.2.2.2.1, b_0.2.2.2.2.1, b_0.2.2.2.2.2.1, x5, b_0.2.2.2.2.2.2.2.1, ()), ()), (()))
        else
          some (((b_0.1, b_0.2.1, b_0.2.2.1, b_0.2.2.2.1, b_0.2.2.2.2.1, b_0.2.2.2.2.2.1, b_0.2.2.2.2.2.2.1, x5, ()), ()), (()))
noncomputable def ref20_with_C (N : Nat) : Ctx := ⟨47, G_tys, [], G_globs⟩
noncomputable def ref20_with_S0 : Spec := ⟨[.val (.pair (.pair .i64 (.pair .u64 (.pair .u64 .unit))) (.pair (.pair .i64 (.pair .u64 (.pair .u64 .unit))) (.pair (.pair .i64 (.pair .u64 (.pair .u64 .unit))) (.pair (.pair .i64 (.pair .u64 (.pair .u64 .unit))) (.pair .i64 (.pair .i64 (.pair (.arr 2 .i64) (.pair (.arr 2 .i64) .unit)))))))), .val .i64, .val (.pair .i64 (.pair .u64 (.pair .u64 .unit))), .val (.pair .i64 (.pair .u64 (.pair .u64 .unit)))], []⟩
noncomputable def ref20_with_S1 : Spec := ⟨[.fp (.pair (.pair .i64 (.pair .u64 (.pair .u64 .unit))) (.pair (.pair .i64 (.pair .u64 (.pair .u64 .unit))) (.pair (.pair .i64 (.pair .u64 (.pair .u64 .unit))) (.pair (.pair .i64 (.pair .u64 (.pair .u64 .unit))) (.pair .i64 (.pair .i64 (.pair (.arr 2 .i64) (.pair (.arr 2 .i64) .unit))))))))], []⟩
noncomputable def ref20_with_K (_N : Nat) : XE → GS → Option ref20_with_R := retK 0 [8] [true] ref20_with_S1
noncomputable def ref20_with_L : List Code := (bodyOf (some Try.f98))
theorem ref20_with_b {E : Env} (N : Nat) (hb : Base Try.prog (ref20_with_C N) E 0) : Blk Try.prog (ref20_with_C N) E (List.range ref20_with_S0.ks.length) ref20_with_S0 (ref20_with_L.drop 0) (fun y => ref20_with N y.1.1 y.1.2.1 y.1.2.2.1 y.1.2.2.2.1) (ref20_with_K N) :=
  Blk.chunkAt hb 6 (X := (ref20_with_K N .normal)) (NxOk.end (by kernel_rfl)) rfl (fun x => by kernel_rfl)
noncomputable def ref20_with_ctr (N : Nat) : Ctr := ⟨ref20_with_S0, ref20_with_S1.un [true], 0, (fun y => ref20_with N y.1.1 y.1.2.1 y.1.2.2.1 y.1.2.2.2.1)⟩
theorem ref20_with_ctrs (N : Nat) : CtrsOk Try.prog (ref20_with_C N) := ctrs_nil rfl
theorem ref20_with_ok (N : Nat) : Ctr.ok Try.prog G_globs 98 (ref20_with_ctr N) :=
  ctr_fn (Γ := ref20_with_C N) (rfit := ref20_with_S1) (bs := [true]) (res := [8]) (by kernel_rfl) (tys_ok G_tys_ok) (ref20_with_ctrs N) Try.func98 (by kernel_rfl) (by kernel_rfl) Try.ntmps98 (by kernel_rfl) (by kernel_rfl) (by kernel_rfl) (by kernel_rfl) (fun E hb => ref20_with_b N hb)
end Go.Proofs.Ytgbkkfpheahdfaa
namespace Go.Proofs.Ytgbkkfpheahdfaa
open Go
set_option maxRecDepth 100000
set_option linter.unusedVariables false
/-! ipsecgate/ipsecgateref20.Meet -/
abbrev ref20_Meet_R : Type := ((((Int × (UInt64 × (UInt64 × Unit))) × ((Int × (UInt64 × (UInt64 × Unit))) × ((Int × (UInt64 × (UInt64 × Unit))) × ((Int × (UInt64 × (UInt64 × Unit))) × (Int × (Int × ((List Int) × ((List Int) × Unit)))))))) × Bool × Unit) × (Unit))
noncomputable def ref20_Meet_s2 (N : Nat) (k_7 : Int) (a_2 : ((Int × (UInt64 × (UInt64 × Unit))) × ((Int × (UInt64 × (UInt64 × Unit))) × ((Int × (UInt64 × (UInt64 × Unit))) × ((Int × (UInt64 × (UInt64 × Unit))) × (Int × (Int × ((List Int) × ((List Int) × Unit))))))))) (b_3 : ((Int × (UInt64 × (UInt64 × Unit))) × ((Int × (UInt64 × (UInt64 × Unit))) × ((Int × (UInt64 × (UInt64 × Unit))) × ((Int × (UInt64 × (UInt64 × Unit))) × (Int × (Int × ((List Int) × ((List Int) × Unit))))))))) (t_4 : ((Int × (UInt64 × (UInt64 × Unit))) × ((Int × (UInt64 × (UInt64 × Unit))) × ((Int × (UInt64 × (UInt64 × Unit))) × ((Int × (UInt64 × (UInt64 × Unit))) × (Int × (Int × ((List Int) × ((List Int) × Unit))))))))) (c_6 : ((Int × (UInt64 × (UInt64 × Unit))) × ((Int × (UInt64 × (UInt64 × Unit))) × ((Int × (UInt64 × (UInt64 × Unit))) × ((Int × (UInt64 × (UInt64 × Unit))) × (Int × (Int × ((List Int) × ((List Int) × Unit))))))))) : Option (Lo ((Int × Unit) × (((Int × (UInt64 × (UInt64 × Unit))) × ((Int × (UInt64 × (UInt64 × Unit))) × ((Int × (UInt64 × (UInt64 × Unit))) × ((Int × (UInt64 × (UInt64 × Unit))) × (Int × (Int × ((List Int) × ((List Int) × Unit)))))))) × ((Int × (UInt64 × (UInt64 × Unit))) × ((Int × (UInt64 × (UInt64 × Unit))) × ((Int × (UInt64 × (UInt64 × Unit))) × ((Int × (UInt64 × (UInt64 × Unit))) × (Int × (Int × ((List Int) × ((List Int) × Unit)))))))) × ((Int × (UInt64 × (UInt64 × Unit))) × ((Int × (UInt64 × (UInt64 × Unit))) × ((Int × (UInt64 × (UInt64 × Unit))) × ((Int × (UInt64 × (UInt64 × Unit))) × (Int × (Int × ((List Int) × ((List Int) × Unit)))))))) × ((Int × (UInt64 × (UInt64 × Unit))) × ((Int × (UInt64 × (UInt64 × Unit))) × ((Int × (UInt64 × (UInt64 × Unit))) × ((Int × (UInt64 × (UInt64 × Unit))) × (Int × (Int × ((List Int) × ((List Int) × Unit)))))))) × Unit)) ((Unit) × (((Int × (UInt64 × (UInt64 × Unit))) × ((Int × (UInt64 × (UInt64 × Unit))) × ((Int × (UInt64 × (UInt64 × Unit))) × ((Int × (UInt64 × (UInt64 × Unit))) × (Int × (Int × ((List Int) × ((List Int) × Unit)))))))) × ((Int × (UInt64 × (UInt64 × Unit))) × ((Int × (UInt64 × (UInt64 × Unit))) × ((Int × (UInt64 × (UInt64 × Unit))) × ((Int × (UInt64 × (UInt64 × Unit))) × (Int × (Int × ((List Int) × ((List Int) × Unit)))))))) × Unit)) ref20_Meet_R) :=
  bif (decide (k_7 < (5 : Int))) then
    Option.bind (ref20_low N a_2 k_7) fun y3 =>
    Option.bind (ref20_low N b_3 k_7) fun y4 =>
    Option.bind (ref05_Greater N y3.1.1 y4.1.1) fun y5 =>
    Option.bind (ref20_high N a_2 k_7) fun y6 =>
    Option.bind (ref20_high N b_3 k_7) fun y7 =>
    Option.bind (ref05_Smaller N y6.1.1 y7.1.1) fun y8 =>
    Option.bind (ref05_Less N y8.1.1 y5.1.1) fun y9 =>
    bif y9.1.1 then
      some (.rt (((((0 : Int), (0 : UInt64), (0 : UInt64), ()), ((0 : Int), (0 : UInt64), (0 : UInt64), ()), ((0 : Int), (0 : UInt64), (0 : UInt64), ()), ((0 : Int), (0 : UInt64), (0 : UInt64), ()), (0 : Int), (0 : Int), (List.replicate 2 (0 : Int)), (List.replicate 2 (0 : Int)), ()), false, ()), (())))
    else
      Option.bind (ref20_with N c_6 k_7 y5.1.1 y8.1.1) fun y10 =>
      some (.go (((w64 (k_7 + (1 : Int))), ()), (a_2, b_3, t_4, y10.1.1, ())))
  else
    some (.br ((()), (t_4, c_6, ())))
noncomputable def ref20_Meet_3 (N : Nat) (t_4 : ((Int × (UInt64 × (UInt64 × Unit))) × ((Int × (UInt64 × (UInt64 × Unit))) × ((Int × (UInt64 × (UInt64 × Unit))) × ((Int × (UInt64 × (UInt64 × Unit))) × (Int × (Int × ((List Int) × ((List Int) × Unit))))))))) (c_6 : ((Int × (UInt64 × (UInt64 × Unit))) × ((Int × (UInt64 × (UInt64 × Unit))) × ((Int × (UInt64 × (UInt64 × Unit))) × ((Int × (UInt64 × (UInt64 × Unit))) × (Int × (Int × ((List Int) × ((List Int) × Unit))))))))) : Option ref20_Meet_R :=
  some ((c_6, true, ()), (()))
noncomputable def ref20_Meet_1 (N : Nat) (k_7 : Int) (a_2 : ((Int × (UInt64 × (UInt64 × Unit))) × ((Int × (UInt64 × (UInt64 × Unit))) × ((Int × (UInt64 × (UInt64 × Unit))) × ((Int × (UInt64 × (UInt64 × Unit))) × (Int × (Int × ((List Int) × ((List Int) × Unit))))))))) (b_3 : ((Int × (UInt64 × (UInt64 × Unit))) × ((Int × (UInt64 × (UInt64 × Unit))) × ((Int × (UInt64 × (UInt64 × Unit))) × ((Int × (UInt64 × (UInt64 × Unit))) × (Int × (Int × ((List Int) × ((List Int) × Unit))))))))) (t_4 : ((Int × (UInt64 × (UInt64 × Unit))) × ((Int × (UInt64 × (UInt64 × Unit))) × ((Int × (UInt64 × (UInt64 × Unit))) × ((Int × (UInt64 × (UInt64 × Unit))) × (Int × (Int × ((List Int) × ((List Int) × Unit))))))))) (c_6 : ((Int × (UInt64 × (UInt64 × Unit))) × ((Int × (UInt64 × (UInt64 × Unit))) × ((Int × (UInt64 × (UInt64 × Unit))) × ((Int × (UInt64 × (UInt64 × Unit))) × (Int × (Int × ((List Int) × ((List Int) × Unit))))))))) : Option ref20_Meet_R :=
  loopK N (fun y => ref20_Meet_s2 N y.1.1 y.2.1 y.2.2.1 y.2.2.2.1 y.2.2.2.2.1) (fun (e : ((Unit) × (((Int × (UInt64 × (UInt64 × Unit))) × ((Int × (UInt64 × (UInt64 × Unit))) × ((Int × (UInt64 × (UInt64 × Unit))) × ((Int × (UInt64 × (UInt64 × Unit))) × (Int × (Int × ((List Int) × ((List Int) × Unit)))))))) × ((Int × (UInt64 × (UInt64 × Unit))) × ((Int × (UInt64 × (UInt64 × Unit))) × ((Int × (UInt64 × (UInt64 × Unit))) × ((Int × (UInt64 × (UInt64 × Unit))) × (Int × (Int × ((List Int) × ((List Int) × Unit)))))))) × Unit))) => ref20_Meet_3 N e.2.1 e.2.2.1) ((k_7, ()), (a_2, b_3, t_4, c_6, ()))
noncomputable def ref20_Meet (N : Nat) (a_0 : ((Int × (UInt64 × (UInt64 × Unit))) × ((Int × (UInt64 × (UInt64 × Unit))) × ((Int × (UInt64 × (UInt64 × Unit))) × ((Int × (UInt64 × (UInt64 × Unit))) × (Int × (Int × ((List Int) × ((List Int) × Unit))))))))) (b_1 : ((Int × (UInt64 × (UInt64 × Unit))) × ((Int × (UInt64 × (UInt64 × Unit))) × ((Int × (UInt64 × (UInt64 × Unit))) × ((Int × (UInt64 × (UInt64 × Unit))) × (Int × (Int × ((List Int) × ((List Int) × Unit))))))))) : Option ref20_Meet_R :=
  bif (!(decide (a_0.1.1 = b_1.1.1))) then
    some (((((0 : Int), (0 : UInt64), (0 : UInt64), ()), ((0 : Int), (0 : UInt64), (0 : UInt64), ()), ((0 : Int), (0 : UInt64), (0 : UInt64), ()), ((0 : Int), (0 : UInt64), (0 : UInt64), ()), (0 : Int), (0 : Int), (List.replicate 2 (0 : Int)), (List.replicate 2 (0 : Int)), ()), false, ()), (()))
  else
    ref20_Meet_1 N (0 : Int) a_0 b_1 (((0 : Int), (0 : UInt64), (0 : UInt64), ()), ((0 : Int), (0 : UInt64), (0 : UInt64), ()), ((0 : Int), (0 : UInt64), (0 : UInt64), ()), ((0 : Int), (0 : UInt64), (0 : UInt64), ()), (0 : Int), (0 : Int), (List.replicate 2 (0 : Int)), (List.replicate 2 (0 : Int)), ()) a_0
noncomputable def ref20_Meet_C (N : Nat) : Ctx := ⟨47, G_tys, [(94, ref20_low_ctr N), (93, ref05_Greater_ctr N), (96, ref20_high_ctr N), (95, ref05_Smaller_ctr N), (97, ref05_Less_ctr N), (98, ref20_with_ctr N)], G_globs⟩
noncomputable def ref20_Meet_S0 : Spec := ⟨[.ref 0 (.pair (.pair .i64 (.pair .u64 (.pair .u64 .unit))) (.pair (.pair .i64 (.pair .u64 (.pair .u64 .unit))) (.pair (.pair .i64 (.pair .u64 (.pair .u64 .unit))) (.pair (.pair .i64 (.pair .u64 (.pair .u64 .unit))) (.pair .i64 (.pair .i64 (.pair (.arr 2 .i64) (.pair (.arr 2 .i64) .unit)))))))), .ref 1 (.pair (.pair .i64 (.pair .u64 (.pair .u64 .unit))) (.pair (.pair .i64 (.pair .u64 (.pair .u64 .unit))) (.pair (.pair .i64 (.pair .u64 (.pair .u64 .unit))) (.pair (.pair .i64 (.pair .u64 (.pair .u64 .unit))) (.pair .i64 (.pair .i64 (.pair (.arr 2 .i64) (.pair (.arr 2 .i64) .unit)))))))), .ref 2 (.pair (.pair .i64 (.pair .u64 (.pair .u64 .unit))) (.pair (.pair .i64 (.pair .u64 (.pair .u64 .unit))) (.pair (.pair .i64 (.pair .u64 (.pair .u64 .unit))) (.pair (.pair .i64 (.pair .u64 (.pair .u64 .unit))) (.pair .i64 (.pair .i64 (.pair (.arr 2 .i64) (.pair (.arr 2 .i64) .unit)))))))), .ref 3 (.pair (.pair .i64 (.pair .u64 (.pair .u64 .unit))) (.pair (.pair .i64 (.pair .u64 (.pair .u64 .unit))) (.pair (.pair .i64 (.pair .u64 (.pair .u64 .unit))) (.pair (.pair .i64 (.pair .u64 (.pair .u64 .unit))) (.pair .i64 (.pair .i64 (.pair (.arr 2 .i64) (.pair (.arr 2 .i64) .unit)))))))), .val .i64], [(.box 46 (.pair (.pair .i64 (.pair .u64 (.pair .u64 .unit))) (.pair (.pair .i64 (.pair .u64 (.pair .u64 .unit))) (.pair (.pair .i64 (.pair .u64 (.pair .u64 .unit))) (.pair (.pair .i64 (.pair .u64 (.pair .u64 .unit))) (.pair .i64 (.pair .i64 (.pair (.arr 2 .i64) (.pair (.arr 2 .i64) .unit)))))))), .pos 0), (.box 46 (.pair (.pair .i64 (.pair .u64 (.pair .u64 .unit))) (.pair (.pair .i64 (.pair .u64 (.pair .u64 .unit))) (.pair (.pair .i64 (.pair .u64 (.pair .u64 .unit))) (.pair (.pair .i64 (.pair .u64 (.pair .u64 .unit))) (.pair .i64 (.pair .i64 (.pair (.arr 2 .i64) (.pair (.arr 2 .i64) .unit)))))))), .pos 1), (.box 46 (.pair (.pair .i64 (.pair .u64 (.pair .u64 .unit))) (.pair (.pair .i64 (.pair .u64 (.pair .u64 .unit))) (.pair (.pair .i64 (.pair .u64 (.pair .u64 .unit))) (.pair (.pair .i64 (.pair .u64 (.pair .u64 .unit))) (.pair .i64 (.pair .i64 (.pair (.arr 2 .i64) (.pair (.arr 2 .i64) .unit)))))))), .pos 2), (.box 46 (.pair (.pair .i64 (.pair .u64 (.pair .u64 .unit))) (.pair (.pair .i64 (.pair .u64 (.pair .u64 .unit))) (.pair (.pair .i64 (.pair .u64 (.pair .u64 .unit))) (.pair (.pair .i64 (.pair .u64 (.pair .u64 .unit))) (.pair .i64 (.pair .i64 (.pair (.arr 2 .i64) (.pair (.arr 2 .i64) .unit)))))))), .pos 3)]⟩
noncomputable def ref20_Meet_S1 : Spec := ⟨[.ref 0 (.pair (.pair .i64 (.pair .u64 (.pair .u64 .unit))) (.pair (.pair .i64 (.pair .u64 (.pair .u64 .unit))) (.pair (.pair .i64 (.pair .u64 (.pair .u64 .unit))) (.pair (.pair .i64 (.pair .u64 (.pair .u64 .unit))) (.pair .i64 (.pair .i64 (.pair (.arr 2 .i64) (.pair (.arr 2 .i64) .unit)))))))), .ref 1 (.pair (.pair .i64 (.pair .u64 (.pair .u64 .unit))) (.pair (.pair .i64 (.pair .u64 (.pair .u64 .unit))) (.pair (.pair .i64 (.pair .u64 (.pair .u64 .unit))) (.pair (.pair .i64 (.pair .u64 (.pair .u64 .unit))) (.pair .i64 (.pair .i64 (.pair (.arr 2 .i64) (.pair (.arr 2 .i64) .unit))))))))], [(.box 46 (.pair (.pair .i64 (.pair .u64 (.pair .u64 .unit))) (.pair (.pair .i64 (.pair .u64 (.pair .u64 .unit))) (.pair (.pair .i64 (.pair .u64 (.pair .u64 .unit))) (.pair (.pair .i64 (.pair .u64 (.pair .u64 .unit))) (.pair .i64 (.pair .i64 (.pair (.arr 2 .i64) (.pair (.arr 2 .i64) .unit)))))))), .pos 0), (.box 46 (.pair (.pair .i64 (.pair .u64 (.pair .u64 .unit))) (.pair (.pair .i64 (.pair .u64 (.pair .u64 .unit))) (.pair (.pair .i64 (.pair .u64 (.pair .u64 .unit))) (.pair (.pair .i64 (.pair .u64 (.pair .u64 .unit))) (.pair .i64 (.pair .i64 (.pair (.arr 2 .i64) (.pair (.arr 2 .i64) .unit)))))))), .pos 1)]⟩
noncomputable def ref20_Meet_S2 : Spec := ⟨[.val (.pair (.pair .i64 (.pair .u64 (.pair .u64 .unit))) (.pair (.pair .i64 (.pair .u64 (.pair .u64 .unit))) (.pair (.pair .i64 (.pair .u64 (.pair .u64 .unit))) (.pair (.pair .i64 (.pair .u64 (.pair .u64 .unit))) (.pair .i64 (.pair .i64 (.pair (.arr 2 .i64) (.pair (.arr 2 .i64) .unit)))))))), .val (.pair (.pair .i64 (.pair .u64 (.pair .u64 .unit))) (.pair (.pair .i64 (.pair .u64 (.pair .u64 .unit))) (.pair (.pair .i64 (.pair .u64 (.pair .u64 .unit))) (.pair (.pair .i64 (.pair .u64 (.pair .u64 .unit))) (.pair .i64 (.pair .i64 (.pair (.arr 2 .i64) (.pair (.arr 2 .i64) .unit))))))))], []⟩
noncomputable def ref20_Meet_S3 : Spec := ⟨[.fp (.pair (.pair .i64 (.pair .u64 (.pair .u64 .unit))) (.pair (.pair .i64 (.pair .u64 (.pair .u64 .unit))) (.pair (.pair .i64 (.pair .u64 (.pair .u64 .unit))) (.pair (.pair .i64 (.pair .u64 (.pair .u64 .unit))) (.pair .i64 (.pair .i64 (.pair (.arr 2 .i64) (.pair (.arr 2 .i64) .unit)))))))), .val .bool], []⟩
noncomputable def ref20_Meet_K (_N : Nat) : XE → GS → Option ref20_Meet_R := retK 0 [4, 5] [true, false] ref20_Meet_S3
noncomputable def ref20_Meet_L : List Code := (bodyOf (some Try.f45))
noncomputable def ref20_Meet_L2 : List Code := (loopOf (ref20_Meet_L[5]?))
noncomputable def ref20_Meet_K2 (N : Nat) : XE → GS → Option (Lo ((Int × Unit) × (((Int × (UInt64 × (UInt64 × Unit))) × ((Int × (UInt64 × (UInt64 × Unit))) × ((Int × (UInt64 × (UInt64 × Unit))) × ((Int × (UInt64 × (UInt64 × Unit))) × (Int × (Int × ((List Int) × ((List Int) × Unit)))))))) × ((Int × (UInt64 × (UInt64 × Unit))) × ((Int × (UInt64 × (UInt64 × Unit))) × ((Int × (UInt64 × (UInt64 × Unit))) × ((Int × (UInt64 × (UInt64 × Unit))) × (Int × (Int × ((List Int) × ((List Int) × Unit)))))))) × ((Int × (UInt64 × (UInt64 × Unit))) × ((Int × (UInt64 × (UInt64 × Unit))) × ((Int × (UInt64 × (UInt64 × Unit))) × ((Int × (UInt64 × (UInt64 × Unit))) × (Int × (Int × ((List Int) × ((List Int) × Unit)))))))) × ((Int × (UInt64 × (UInt64 × Unit))) × ((Int × (UInt64 × (UInt64 × Unit))) × ((Int × (UInt64 × (UInt64 × Unit))) × ((Int × (UInt64 × (UInt64 × Unit))) × (Int × (Int × ((List Int) × ((List Int) × Unit)))))))) × Unit)) ((Unit) × (((Int × (UInt64 × (UInt64 × Unit))) × ((Int × (UInt64 × (UInt64 × Unit))) × ((Int × (UInt64 × (UInt64 × Unit))) × ((Int × (UInt64 × (UInt64 × Unit))) × (Int × (Int × ((List Int) × ((List Int) × Unit)))))))) × ((Int × (UInt64 × (UInt64 × Unit))) × ((Int × (UInt64 × (UInt64 × Unit))) × ((Int × (UInt64 × (UInt64 × Unit))) × ((Int × (UInt64 × (UInt64 × Unit))) × (Int × (Int × ((List Int) × ((List Int) × Unit)))))))) × Unit)) ref20_Meet_R) := roundK (some 0) (fit 0 [2, 3, 4, 6, 7] ref20_Meet_S0) (fit 0 [4, 6] ref20_Meet_S1) (ref20_Meet_K N)
theorem ref20_Meet_s2_b {E : Env} (N : Nat) (hb : Base Try.prog (ref20_Meet_C N) E 0) : Blk Try.prog (ref20_Meet_C N) E [2, 3, 4, 6, 7] ref20_Meet_S0 (ref20_Meet_L2.drop 0) (fun y => ref20_Meet_s2 N y.1.1 y.2.1 y.2.2.1 y.2.2.2.1 y.2.2.2.2.1) (ref20_Meet_K2 N) :=
  Blk.chunkAt hb 4 (X := (ref20_Meet_K2 N .normal)) (NxOk.end (by kernel_rfl)) rfl (fun x => by kernel_rfl)
theorem ref20_Meet_3_b {E : Env} (N : Nat) (hb : Base Try.prog (ref20_Meet_C N) E 0) : Blk Try.prog (ref20_Meet_C N) E [4, 6] ref20_Meet_S1 (ref20_Meet_L.drop 6) (fun y => ref20_Meet_3 N y.2.1 y.2.2.1) (ref20_Meet_K N) :=
  Blk.chunkAt hb 2 (X := (ref20_Meet_K N .normal)) (NxOk.end (by kernel_rfl)) rfl (fun x => by kernel_rfl)
theorem ref20_Meet_1_b {E : Env} (N : Nat) (hb : Base Try.prog (ref20_Meet_C N) E 0) : Blk Try.prog (ref20_Meet_C N) E [2, 3, 4, 6, 7] ref20_Meet_S0 (ref20_Meet_L.drop 5) (fun y => ref20_Meet_1 N y.1.1 y.2.1 y.2.2.1 y.2.2.2.1 y.2.2.2.2.1) (ref20_Meet_K N) :=
  Blk.loopAt (Nf := N) (hns := [2, 3, 4, 6, 7]) (ans := [4, 6]) (hc := ref20_Meet_S0) (ac := ref20_Meet_S1) (bid := 0) (step := (fun y => ref20_Meet_s2 N y.1.1 y.2.1 y.2.2.1 y.2.2.2.1 y.2.2.2.2.1)) (J := (fun e => (goK 0 [4, 6] ref20_Meet_S1 (fun y => ref20_Meet_3 N y.2.1 y.2.2.1)) (ref20_Meet_S1.st [4, 6] e))) hb (by kernel_rfl) (Blk.into (X := (goK 0 [4, 6] ref20_Meet_S1 (fun y => ref20_Meet_3 N y.2.1 y.2.2.1))) (NxOk.go hb (ref20_Meet_3_b N hb)) (fun x => by kernel_rfl)) (ref20_Meet_s2_b N hb) (fun x => by kernel_rfl)
theorem ref20_Meet_b {E : Env} (N : Nat) (hb : Base Try.prog (ref20_Meet_C N) E 0) : Blk Try.prog (ref20_Meet_C N) E (List.range ref20_Meet_S2.ks.length) ref20_Meet_S2 (ref20_Meet_L.drop 0) (fun y => ref20_Meet N y.1.1 y.1.2.1) (ref20_Meet_K N) :=
  Blk.chunkAt hb 5 (X := (goK 0 [2, 3, 4, 6, 7] ref20_Meet_S0 (fun y => ref20_Meet_1 N y.1.1 y.2.1 y.2.2.1 y.2.2.2.1 y.2.2.2.2.1))) (NxOk.go hb (ref20_Meet_1_b N hb)) rfl (fun x => by kernel_rfl)
noncomputable def ref20_Meet_ctr (N : Nat) : Ctr := ⟨ref20_Meet_S2, ref20_Meet_S3.un [true, false], 0, (fun y => ref20_Meet N y.1.1 y.1.2.1)⟩
theorem ref20_Meet_ctrs (N : Nat) : CtrsOk Try.prog (ref20_Meet_C N) := ctrs_of (Γ := ref20_Meet_C N) (by
  intro p hp
  simp only [ref20_Meet_C, List.mem_cons, List.not_mem_nil, or_false] at hp
  rcases hp with rfl | rfl | rfl | rfl | rfl | rfl
  · exact ref20_low_ok N
  · exact ref05_Greater_ok N
  · exact ref20_high_ok N
  · exact ref05_Smaller_ok N
  · exact ref05_Less_ok N
  · exact ref20_with_ok N)
theorem ref20_Meet_ok (N : Nat) : Ctr.ok Try.prog G_globs 45 (ref20_Meet_ctr N) :=
  ctr_fn (Γ := ref20_Meet_C N) (rfit := ref20_Meet_S3) (bs := [true, false]) (res := [4, 5]) (by kernel_rfl) (tys_ok G_tys_ok) (ref20_Meet_ctrs N) Try.func45 (by kernel_rfl) (by kernel_rfl) Try.ntmps45 (by kernel_rfl) (by kernel_rfl) (by kernel_rfl) (by kernel_rfl) (fun E hb => ref20_Meet_b N hb)
end Go.Proofs.Ytgbkkfpheahdfaa
namespace Go.Proofs.Ytgbkkfpheahdfaa
open Go
set_option maxRecDepth 100000
set_option linter.unusedVariables false
/-! ipsecgate/ipsecgatelaw20.apart -/
abbrev law20_apart_R : Type := ((Bool × Unit) × (Unit))
noncomputable def law20_apart (N : Nat) (a_0 : ((Int × (UInt64 × (UInt64 × Unit))) × ((Int × (UInt64 × (UInt64 × Unit))) × ((Int × (UInt64 × (UInt64 × Unit))) × ((Int × (UInt64 × (UInt64 × Unit))) × (Int × (Int × ((List Int) × ((List Int) × Unit))))))))) (b_1 : ((Int × (UInt64 × (UInt64 × Unit))) × ((Int × (UInt64 × (UInt64 × Unit))) × ((Int × (UInt64 × (UInt64 × Unit))) × ((Int × (UInt64 × (UInt64 × Unit))) × (Int × (Int × ((List Int) × ((List Int) × Unit))))))))) : Option law20_apart_R :=
  Option.bind (ref20_Meet N a_0 b_1) fun y1 =>
  some (((!y1.1.2.1), ()), (()))
noncomputable def law20_apart_C (N : Nat) : Ctx := ⟨15, G_tys, [(45, ref20_Meet_ctr N)], G_globs⟩
noncomputable def law20_apart_S0 : Spec := ⟨[.val (.pair (.pair .i64 (.pair .u64 (.pair .u64 .unit))) (.pair (.pair .i64 (.pair .u64 (.pair .u64 .unit))) (.pair (.pair .i64 (.pair .u64 (.pair .u64 .unit))) (.pair (.pair .i64 (.pair .u64 (.pair .u64 .unit))) (.pair .i64 (.pair .i64 (.pair (.arr 2 .i64) (.pair (.arr 2 .i64) .unit)))))))), .val (.pair (.pair .i64 (.pair .u64 (.pair .u64 .unit))) (.pair (.pair .i64 (.pair .u64 (.pair .u64 .unit))) (.pair (.pair .i64 (.pair .u64 (.pair .u64 .unit))) (.pair (.pair .i64 (.pair .u64 (.pair .u64 .unit))) (.pair .i64 (.pair .i64 (.pair (.arr 2 .i64) (.pair (.arr 2 .i64) .unit))))))))], []⟩
noncomputable def law20_apart_S1 : Spec := ⟨[.val .bool], []⟩
noncomputable def law20_apart_K (_N : Nat) : XE → GS → Option law20_apart_R := retK 0 [4] [false] law20_apart_S1
noncomputable def law20_apart_L : List Code := (bodyOf (some Try.f53))
theorem law20_apart_b {E : Env} (N : Nat) (hb : Base Try.prog (law20_apart_C N) E 0) : Blk Try.prog (law20_apart_C N) E (List.range law20_apart_S0.ks.length) law20_apart_S0 (law20_apart_L.drop 0) (fun y => law20_apart N y.1.1 y.1.2.1) (law20_apart_K N) :=
  Blk.chunkAt hb 4 (X := (law20_apart_K N .normal)) (NxOk.end (by kernel_rfl)) rfl (fun x => by kernel_rfl)
noncomputable def law20_apart_ctr (N : Nat) : Ctr := ⟨law20_apart_S0, law20_apart_S1.un [false], 0, (fun y => law20_apart N y.1.1 y.1.2.1)⟩
theorem law20_apart_ctrs (N : Nat) : CtrsOk Try.prog (law20_apart_C N) := ctrs_of (Γ := law20_apart_C N) (by
  intro p hp
  simp only [law20_apart_C, List.mem_cons, List.not_mem_nil, or_false] at hp
  rcases hp with rfl
  · exact ref20_Meet_ok N)
theorem law20_apart_ok (N : Nat) : Ctr.ok Try.prog G_globs 53 (law20_apart_ctr N) :=
  ctr_fn (Γ := law20_apart_C N) (rfit := law20_apart_S1) (bs := [false]) (res := [4]) (by kernel_rfl) (tys_ok G_tys_ok) (law20_apart_ctrs N) Try.func53 (by kernel_rfl) (by kernel_rfl) Try.ntmps53 (by kernel_rfl) (by kernel_rfl) (by kernel_rfl) (by kernel_rfl) (fun E hb => law20_apart_b N hb)
end Go.Proofs.Ytgbkkfpheahdfaa
namespace Go.Proofs.Ytgbkkfpheahdfaa
open Go
set_option maxRecDepth 100000
set_option linter.unusedVariables false
/-! ipsecgate/decorrelate.Inside -/
abbrev decorrelate_Inside_R : Type := ((Bool × Unit) × (Unit))
noncomputable def decorrelate_Inside (N : Nat) (a_0 : ((Int × (UInt64 × (UInt64 × Unit))) × ((Int × (UInt64 × (UInt64 × Unit))) × ((Int × (UInt64 × (UInt64 × Unit))) × ((Int × (UInt64 × (UInt64 × Unit))) × (Int × (Int × ((List Int) × ((List Int) × Unit))))))))) (b_1 : ((Int × (UInt64 × (UInt64 × Unit))) × ((Int × (UInt64 × (UInt64 × Unit))) × ((Int × (UInt64 × (UInt64 × Unit))) × ((Int × (UInt64 × (UInt64 × Unit))) × (Int × (Int × ((List Int) × ((List Int) × Unit))))))))) : Option decorrelate_Inside_R :=
  Option.bind (decorrelate_Meet N a_0 b_1) fun y1 =>
  bif y1.1.2.1 then
    some (((dq (.pair (.pair .i64 (.pair .u64 (.pair .u64 .unit))) (.pair (.pair .i64 (.pair .u64 (.pair .u64 .unit))) (.pair (.pair .i64 (.pair .u64 (.pair .u64 .unit))) (.pair (.pair .i64 (.pair .u64 (.pair .u64 .unit))) (.pair .i64 (.pair .i64 (.pair (.arr 2 .i64) (.pair (.arr 2 .i64) .unit)))))))) y1.1.1 a_0), ()), (()))
  else
    some ((false, ()), (()))
noncomputable def decorrelate_Inside_C (N : Nat) : Ctx := ⟨19, G_tys, [(32, decorrelate_Meet_ctr N)], G_globs⟩
noncomputable def decorrelate_Inside_S0 : Spec := ⟨[.val (.pair (.pair .i64 (.pair .u64 (.pair .u64 .unit))) (.pair (.pair .i64 (.pair .u64 (.pair .u64 .unit))) (.pair (.pair .i64 (.pair .u64 (.pair .u64 .unit))) (.pair (.pair .i64 (.pair .u64 (.pair .u64 .unit))) (.pair .i64 (.pair .i64 (.pair (.arr 2 .i64) (.pair (.arr 2 .i64) .unit)))))))), .val (.pair (.pair .i64 (.pair .u64 (.pair .u64 .unit))) (.pair (.pair .i64 (.pair .u64 (.pair .u64 .unit))) (.pair (.pair .i64 (.pair .u64 (.pair .u64 .unit))) (.pair (.pair .i64 (.pair .u64 (.pair .u64 .unit))) (.pair .i64 (.pair .i64 (.pair (.arr 2 .i64) (.pair (.arr 2 .i64) .unit))))))))], []⟩
noncomputable def decorrelate_Inside_S1 : Spec := ⟨[.val .bool], []⟩
noncomputable def decorrelate_Inside_K (_N : Nat) : XE → GS → Option decorrelate_Inside_R := retK 0 [4] [false] decorrelate_Inside_S1
noncomputable def decorrelate_Inside_L : List Code := (bodyOf (some Try.f49))
theorem decorrelate_Inside_b {E : Env} (N : Nat) (hb : Base Try.prog (decorrelate_Inside_C N) E 0) : Blk Try.prog (decorrelate_Inside_C N) E (List.range decorrelate_Inside_S0.ks.length) decorrelate_Inside_S0 (decorrelate_Inside_L.drop 0) (fun y => decorrelate_Inside N y.1.1 y.1.2.1) (decorrelate_Inside_K N) :=
  Blk.chunkAt hb 4 (X := (decorrelate_Inside_K N .normal)) (NxOk.end (by kernel_rfl)) rfl (fun x => by kernel_rfl)
noncomputable def decorrelate_Inside_ctr (N : Nat) : Ctr := ⟨decorrelate_Inside_S0, decorrelate_Inside_S1.un [false], 0, (fun y => decorrelate_Inside N y.1.1 y.1.2.1)⟩
theorem decorrelate_Inside_ctrs (N : Nat) : CtrsOk Try.prog (decorrelate_Inside_C N) := ctrs_of (Γ := decorrelate_Inside_C N) (by
  intro p hp
  simp only [decorrelate_Inside_C, List.mem_cons, List.not_mem_nil, or_false] at hp
  rcases hp with rfl
  · exact decorrelate_Meet_ok N)
theorem decorrelate_Inside_ok (N : Nat) : Ctr.ok Try.prog G_globs 49 (decorrelate_Inside_ctr N) :=
  ctr_fn (Γ := decorrelate_Inside_C N) (rfit := decorrelate_Inside_S1) (bs := [false]) (res := [4]) (by kernel_rfl) (tys_ok G_tys_ok) (decorrelate_Inside_ctrs N) Try.func49 (by kernel_rfl) (by kernel_rfl) Try.ntmps49 (by kernel_rfl) (by kernel_rfl) (by kernel_rfl) (by kernel_rfl) (fun E hb => decorrelate_Inside_b N hb)
end Go.Proofs.Ytgbkkfpheahdfaa
namespace Go.Proofs.Ytgbkkfpheahdfaa
open Go
set_option maxRecDepth 100000
set_option linter.unusedVariables false
/-! ipsecgate/ipsecgateref20.back -/
abbrev ref20_back_R : Type := (((Int × (UInt64 × (UInt64 × Unit))) × Unit) × (Unit))
noncomputable def ref20_back_1 (N : Nat) (a_1 : (Int × (UInt64 × (UInt64 × Unit)))) (t_2 : (Int × (UInt64 × (UInt64 × Unit)))) : Option ref20_back_R :=
  some (((a_1.1, a_1.2.1, (a_1.2.2.1 - (1 : UInt64)), ()), ()), (()))
noncomputable def ref20_back (N : Nat) (a_0 : (Int × (UInt64 × (UInt64 × Unit)))) : Option ref20_back_R :=
  bif (decide (a_0.2.2.1 = (0 : UInt64))) then
    ref20_back_1 N (a_0.1, (a_0.2.1 - (1 : UInt64)), a_0.2.2.1, ()) ((0 : Int), (0 : UInt64), (0 : UInt64), ())
  else
    ref20_back_1 N a_0 ((0 : Int), (0 : UInt64), (0 : UInt64), ())
noncomputable def ref20_back_C (N : Nat) : Ctx := ⟨15, G_tys, [], G_globs⟩
noncomputable def ref20_back_S0 : Spec := ⟨[.ref 0 (.pair .i64 (.pair .u64 (.pair .u64 .unit))), .ref 1 (.pair .i64 (.pair .u64 (.pair .u64 .unit)))], [(.box 28 (.pair .i64 (.pair .u64 (.pair .u64 .unit))), .pos 0), (.box 28 (.pair .i64 (.pair .u64 (.pair .u64 .unit))), .pos 1)]⟩
noncomputable def ref20_back_S1 : Spec := ⟨[.val (.pair .i64 (.pair .u64 (.pair .u64 .unit)))], []⟩
noncomputable def ref20_back_S2 : Spec := ⟨[.fp (.pair .i64 (.pair .u64 (.pair .u64 .unit)))], []⟩
noncomputable def ref20_back_K (_N : Nat) : XE → GS → Option ref20_back_R := retK 0 [2] [true] ref20_back_S2
noncomputable def ref20_back_L : List Code := (bodyOf (some Try.f101))
theorem ref20_back_1_b {E : Env} (N : Nat) (hb : Base Try.prog (ref20_back_C N) E 0) : Blk Try.prog (ref20_back_C N) E [1, 2] ref20_back_S0 (ref20_back_L.drop 3) (fun y => ref20_back_1 N y.2.1 y.2.2.1) (ref20_back_K N) :=
  Blk.chunkAt hb 3 (X := (ref20_back_K N .normal)) (NxOk.end (by kernel_rfl)) rfl (fun x => by kernel_rfl)
theorem ref20_back_b {E : Env} (N : Nat) (hb : Base Try.prog (ref20_back_C N) E 0) : Blk Try.prog (ref20_back_C N) E (List.range ref20_back_S1.ks.length) ref20_back_S1 (ref20_back_L.drop 0) (fun y => ref20_back N y.1.1) (ref20_back_K N) :=
  Blk.chunkAt hb 3 (X := (goK 0 [1, 2] ref20_back_S0 (fun y => ref20_back_1 N y.2.1 y.2.2.1))) (NxOk.go hb (ref20_back_1_b N hb)) rfl (fun x => by kernel_rfl)
noncomputable def ref20_back_ctr (N : Nat) : Ctr := ⟨ref20_back_S1, ref20_back_S2.un [true], 0, (fun y => ref20_back N y.1.1)⟩
theorem ref20_back_ctrs (N : Nat) : CtrsOk Try.prog (ref20_back_C N) := ctrs_nil rfl
theorem ref20_back_ok (N : Nat) : Ctr.ok Try.prog G_globs 101 (ref20_back_ctr N) :=
  ctr_fn (Γ := ref20_back_C N) (rfit := ref20_back_S2) (bs := [true]) (res := [2]) (by kernel_rfl) (tys_ok G_tys_ok) (ref20_back_ctrs N) Try.func101 (by kernel_rfl) (by kernel_rfl) Try.ntmps101 (by kernel_rfl) (by kernel_rfl) (by kernel_rfl) (by kernel_rfl) (fun E hb => ref20_back_b N hb)
end Go.Proofs.Ytgbkkfpheahdfaa
namespace Go.Proofs.Ytgbkkfpheahdfaa
open Go
set_option maxRecDepth 100000
set_option linter.unusedVariables false
/-! ipsecgate/ipsecgateref20.on -/
abbrev ref20_on_R : Type := (((Int × (UInt64 × (UInt64 × Unit))) × Unit) × (Unit))
noncomputable def ref20_on (N : Nat) (a_0 : (Int × (UInt64 × (UInt64 × Unit)))) : Option ref20_on_R :=
  let x1 := a_0.2.2.1 + (1 : UInt64)
  bif (decide (x1 = (0 : UInt64))) then
    some (((a_0.1, (a_0.2.1 + (1 : UInt64)), x1, ()), ()), (()))
  else
    some (((a_0.1, a_0.2.1, x1, ()), ()), (()))
noncomputable def ref20_on_C (N : Nat) : Ctx := ⟨15, G_tys, [], G_globs⟩
noncomputable def ref20_on_S0 : Spec := ⟨[.val (.pair .i64 (.pair .u64 (.pair .u64 .unit)))], []⟩
noncomputable def ref20_on_S1 : Spec := ⟨[.fp (.pair .i64 (.pair .u64 (.pair .u64 .unit)))], []⟩
noncomputable def ref20_on_K (_N : Nat) : XE → GS → Option ref20_on_R := retK 0 [2] [true] ref20_on_S1
noncomputable def ref20_on_L : List Code := (bodyOf (some Try.f102))
theorem ref20_on_b {E : Env} (N : Nat) (hb : Base Try.prog (ref20_on_C N) E 0) : Blk Try.prog (ref20_on_C N) E (List.range ref20_on_S0.ks.length) ref20_on_S0 (ref20_on_L.drop 0) (fun y => ref20_on N y.1.1) (ref20_on_K N) :=
  Blk.chunkAt hb 6 (X := (ref20_on_K N .normal)) (NxOk.end (by kernel_rfl)) rfl (fun x => by kernel_rfl)
noncomputable def ref20_on_ctr (N : Nat) : Ctr := ⟨ref20_on_S0, ref20_on_S1.un [true], 0, (fun y => ref20_on N y.1.1)⟩
theorem ref20_on_ctrs (N : Nat) : CtrsOk Try.prog (ref20_on_C N) := ctrs_nil rfl
theorem ref20_on_ok (N : Nat) : Ctr.ok Try.prog G_globs 102 (ref20_on_ctr N) :=
  ctr_fn (Γ := ref20_on_C N) (rfit := ref20_on_S1) (bs := [true]) (res := [2]) (by kernel_rfl) (tys_ok G_tys_ok) (ref20_on_ctrs N) Try.func102 (by kernel_rfl) (by kernel_rfl) Try.ntmps102 (by kernel_rfl) (by kernel_rfl) (by kernel_rfl) (by kernel_rfl) (fun E hb => ref20_on_b N hb)
end Go.Proofs.Ytgbkkfpheahdfaa
namespace Go.Proofs.Ytgbkkfpheahdfaa
open Go
set_option maxRecDepth 100000
set_option linter.unusedVariables false
/-! ipsecgate/ipsecgateref20.ends -/
abbrev ref20_ends_R : Type := ((Unit) × ((List (Int × (UInt64 × (UInt64 × Unit)))) × Unit))
noncomputable def ref20_ends_2 (N : Nat) (hi_6 : (Int × (UInt64 × (UInt64 × Unit)))) (out_7 : (List (Int × (UInt64 × (UInt64 × Unit))))) (last_9 : (Int × (UInt64 × (UInt64 × Unit)))) : Option ref20_ends_R :=
  bif (!(dq (.pair .i64 (.pair .u64 (.pair .u64 .unit))) hi_6 last_9)) then
    Option.bind (ref20_on N hi_6) fun y11 =>
    bif room (out_7.length + ([y11.1.1] : List (Int × (UInt64 × (UInt64 × Unit)))).length) 24 then
    some ((()), ((out_7 ++ ([y11.1.1] : List (Int × (UInt64 × (UInt64 × Unit))))), ()))
    else none
  else
    some ((()), (out_7, ()))
noncomputable def ref20_ends_1 (N : Nat) (lo_5 : (Int × (UInt64 × (UInt64 × Unit)))) (hi_6 : (Int × (UInt64 × (UInt64 × Unit)))) (out_7 : (List (Int × (UInt64 × (UInt64 × Unit))))) (first_8 : (Int × (UInt64 × (UInt64 × Unit)))) (last_9 : (Int × (UInt64 × (UInt64 × Unit)))) : Option ref20_ends_R :=
  bif (!(dq (.pair .i64 (.pair .u64 (.pair .u64 .unit))) lo_5 first_8)) then
    Option.bind (ref20_back N lo_5) fun y8 =>
    bif room (out_7.length + ([y8.1.1] : List (Int × (UInt64 × (UInt64 × Unit)))).length) 24 then
    ref20_ends_2 N hi_6 (out_7 ++ ([y8.1.1] : List (Int × (UInt64 × (UInt64 × Unit))))) last_9
    else none
  else
    ref20_ends_2 N hi_6 out_7 last_9
noncomputable def ref20_ends (N : Nat) (b_0 : ((Int × (UInt64 × (UInt64 × Unit))) × ((Int × (UInt64 × (UInt64 × Unit))) × ((Int × (UInt64 × (UInt64 × Unit))) × ((Int × (UInt64 × (UInt64 × Unit))) × (Int × (Int × ((List Int) × ((List Int) × Unit))))))))) (k_1 : Int) : Option ref20_ends_R :=
  Option.bind (ref20_low N b_0 k_1) fun y1 =>
  Option.bind (ref20_high N b_0 k_1) fun y2 =>
  Option.bind (ref20_number N (-1 : Int)) fun y3 =>
  Option.bind (ref20_number N (65535 : Int)) fun y4 =>
  bif (decide (k_1 = (0 : Int))) then
    Option.bind (ref18_All N y1.1.1.1) fun y6 =>
    ref20_ends_1 N y1.1.1 y2.1.1 ([y1.1.1, y2.1.1] : List (Int × (UInt64 × (UInt64 × Unit)))) y6.1.1 y6.1.2.1
  else
    bif (decide (k_1 = (1 : Int))) then
      Option.bind (ref18_All N y1.1.1.1) fun y14 =>
      ref20_ends_1 N y1.1.1 y2.1.1 ([y1.1.1, y2.1.1] : List (Int × (UInt64 × (UInt64 × Unit)))) y14.1.1 y14.1.2.1
    else
      bif (decide (k_1 = (2 : Int))) then
        Option.bind (ref20_number N (0 : Int)) fun y16 =>
        Option.bind (ref20_number N (255 : Int)) fun y17 =>
        ref20_ends_1 N y1.1.1 y2.1.1 ([y1.1.1, y2.1.1] : List (Int × (UInt64 × (UInt64 × Unit)))) y16.1.1 y17.1.1
      else
        ref20_ends_1 N y1.1.1 y2.1.1 ([y1.1.1, y2.1.1] : List (Int × (UInt64 × (UInt64 × Unit)))) y3.1.1 y4.1.1
noncomputable def ref20_ends_C (N : Nat) : Ctx := ⟨52, G_tys, [(94, ref20_low_ctr N), (96, ref20_high_ctr N), (152, ref20_number_ctr N), (142, ref18_All_ctr N), (101, ref20_back_ctr N), (102, ref20_on_ctr N)], G_globs⟩
noncomputable def ref20_ends_S0 : Spec := ⟨[.ref 0 (.pair .i64 (.pair .u64 (.pair .u64 .unit))), .row 1, .ref 2 (.pair .i64 (.pair .u64 (.pair .u64 .unit)))], [(.box 28 (.pair .i64 (.pair .u64 (.pair .u64 .unit))), .pos 0), (.row 28 (.pair .i64 (.pair .u64 (.pair .u64 .unit))), .pos 1), (.box 28 (.pair .i64 (.pair .u64 (.pair .u64 .unit))), .pos 2)]⟩
noncomputable def ref20_ends_S1 : Spec := ⟨[.ref 0 (.pair .i64 (.pair .u64 (.pair .u64 .unit))), .ref 1 (.pair .i64 (.pair .u64 (.pair .u64 .unit))), .row 2, .ref 3 (.pair .i64 (.pair .u64 (.pair .u64 .unit))), .ref 4 (.pair .i64 (.pair .u64 (.pair .u64 .unit)))], [(.box 28 (.pair .i64 (.pair .u64 (.pair .u64 .unit))), .pos 0), (.box 28 (.pair .i64 (.pair .u64 (.pair .u64 .unit))), .pos 1), (.row 28 (.pair .i64 (.pair .u64 (.pair .u64 .unit))), .pos 2), (.box 28 (.pair .i64 (.pair .u64 (.pair .u64 .unit))), .pos 3), (.box 28 (.pair .i64 (.pair .u64 (.pair .u64 .unit))), .pos 4)]⟩
noncomputable def ref20_ends_S2 : Spec := ⟨[.val (.pair (.pair .i64 (.pair .u64 (.pair .u64 .unit))) (.pair (.pair .i64 (.pair .u64 (.pair .u64 .unit))) (.pair (.pair .i64 (.pair .u64 (.pair .u64 .unit))) (.pair (.pair .i64 (.pair .u64 (.pair .u64 .unit))) (.pair .i64 (.pair .i64 (.pair (.arr 2 .i64) (.pair (.arr 2 .i64) .unit)))))))), .val .i64], []⟩
noncomputable def ref20_ends_S3 : Spec := ⟨[.row 0], [(.row 28 (.pair .i64 (.pair .u64 (.pair .u64 .unit))), .pos 0)]⟩
noncomputable def ref20_ends_K (_N : Nat) : XE → GS → Option ref20_ends_R := retK 0 [4] [false] ref20_ends_S3
noncomputable def ref20_ends_L : List Code := (bodyOf (some Try.f90))
theorem ref20_ends_2_b {E : Env} (N : Nat) (hb : Base Try.prog (ref20_ends_C N) E 0) : Blk Try.prog (ref20_ends_C N) E [6, 7, 9] ref20_ends_S0 (ref20_ends_L.drop 8) (fun y => ref20_ends_2 N y.2.1 y.2.2.1 y.2.2.2.1) (ref20_ends_K N) :=
  Blk.chunkAt hb 4 (X := (ref20_ends_K N .normal)) (NxOk.end (by kernel_rfl)) rfl (fun x => by kernel_rfl)
theorem ref20_ends_1_b {E : Env} (N : Nat) (hb : Base Try.prog (ref20_ends_C N) E 0) : Blk Try.prog (ref20_ends_C N) E [5, 6, 7, 8, 9] ref20_ends_S1 (ref20_ends_L.drop 6) (fun y => ref20_ends_1 N y.2.1 y.2.2.1 y.2.2.2.1 y.2.2.2.2.1 y.2.2.2.2.2.1) (ref20_ends_K N) :=
  Blk.chunkAt hb 2 (X := (goK 0 [6, 7, 9] ref20_ends_S0 (fun y => ref20_ends_2 N y.2.1 y.2.2.1 y.2.2.2.1))) (NxOk.go hb (ref20_ends_2_b N hb)) rfl (fun x => by kernel_rfl)
theorem ref20_ends_b {E : Env} (N : Nat) (hb : Base Try.prog (ref20_ends_C N) E 0) : Blk Try.prog (ref20_ends_C N) E (List.range ref20_ends_S2.ks.length) ref20_ends_S2 (ref20_ends_L.drop 0) (fun y => ref20_ends N y.1.1 y.1.2.1) (ref20_ends_K N) :=
  Blk.chunkAt hb 6 (X := (goK 0 [5, 6, 7, 8, 9] ref20_ends_S1 (fun y => ref20_ends_1 N y.2.1 y.2.2.1 y.2.2.2.1 y.2.2.2.2.1 y.2.2.2.2.2.1))) (NxOk.go hb (ref20_ends_1_b N hb)) rfl (fun x => by kernel_rfl)
noncomputable def ref20_ends_ctr (N : Nat) : Ctr := ⟨ref20_ends_S2, ref20_ends_S3.un [false], 0, (fun y => ref20_ends N y.1.1 y.1.2.1)⟩
theorem ref20_ends_ctrs (N : Nat) : CtrsOk Try.prog (ref20_ends_C N) := ctrs_of (Γ := ref20_ends_C N) (by
  intro p hp
  simp only [ref20_ends_C, List.mem_cons, List.not_mem_nil, or_false] at hp
  rcases hp with rfl | rfl | rfl | rfl | rfl | rfl
  · exact ref20_low_ok N
  · exact ref20_high_ok N
  · exact ref20_number_ok N
  · exact ref18_All_ok N
  · exact ref20_back_ok N
  · exact ref20_on_ok N)
theorem ref20_ends_ok (N : Nat) : Ctr.ok Try.prog G_globs 90 (ref20_ends_ctr N) :=
  ctr_fn (Γ := ref20_ends_C N) (rfit := ref20_ends_S3) (bs := [false]) (res := [4]) (by kernel_rfl) (tys_ok G_tys_ok) (ref20_ends_ctrs N) Try.func90 (by kernel_rfl) (by kernel_rfl) Try.ntmps90 (by kernel_rfl) (by kernel_rfl) (by kernel_rfl) (by kernel_rfl) (fun E hb => ref20_ends_b N hb)
end Go.Proofs.Ytgbkkfpheahdfaa