/- Functions of the program as plain functions, each with the proof that the text computes it. -/
import Derived.Test.YtgbkkfpheahdfaaFnsDecorrelateListsA
set_option linter.unusedVariables false
set_option linter.unusedSimpArgs false
namespace Go.Proofs.Ytgbkkfpheahdfaa
open Go
set_option maxRecDepth 100000
set_option linter.unusedVariables false
noncomputable section
/-! ipsecgate/ipsecgateref19.Name -/
abbrev ref19_Name_R : Type := ((Bool × Unit) × (Unit))
def ref19_Name_s3 (N : Nat) (s_0 : (List UInt8)) (i_3 : Int) : Option (Lo (((List UInt8) × Int × Unit) × (Unit)) ((Unit) × (Unit)) ref19_Name_R) :=
 bif (decide (i_3 < (s_0.length : Int))) then
 bif inR i_3 s_0.length then
 let x5 := s_0.getD i_3.toNat 0
 bif (decide ((48 : UInt8) ≤ x5)) then
 bif (decide (x5 ≤ (57 : UInt8))) then
 some (.go ((s_0, (w64 (i_3 + (1 : Int))), ()), (())))
 else
 bif (decide ((97 : UInt8) ≤ x5)) then
 bif (decide (x5 ≤ (122 : UInt8))) then
 some (.go ((s_0, (w64 (i_3 + (1 : Int))), ()), (())))
 else
 bif (decide ((65 : UInt8) ≤ x5)) then
 bif !(decide (x5 ≤ (90 : UInt8))) then
 some (.rt ((false, ()), (())))
 else
 some (.go ((s_0, (w64 (i_3 + (1 : Int))), ()), (())))
 else
 some (.rt ((false, ()), (())))
 else
 bif (decide ((65 : UInt8) ≤ x5)) then
 bif !(decide (x5 ≤ (90 : UInt8))) then
 some (.rt ((false, ()), (())))
 else
 some (.go ((s_0, (w64 (i_3 + (1 : Int))), ()), (())))
 else
 some (.rt ((false, ()), (())))
 else
 bif (decide ((97 : UInt8) ≤ x5)) then
 bif (decide (x5 ≤ (122 : UInt8))) then
 some (.go ((s_0, (w64 (i_3 + (1 : Int))), ()), (())))
 else
 bif (decide ((65 : UInt8) ≤ x5)) then
 bif !(decide (x5 ≤ (90 : UInt8))) then
 some (.rt ((false, ()), (())))
 else
 some (.go ((s_0, (w64 (i_3 + (1 : Int))), ()), (())))
 else
 some (.rt ((false, ()), (())))
 else
 bif (decide ((65 : UInt8) ≤ x5)) then
 bif !(decide (x5 ≤ (90 : UInt8))) then
 some (.rt ((false, ()), (())))
 else
 some (.go ((s_0, (w64 (i_3 + (1 : Int))), ()), (())))
 else
 some (.rt ((false, ()), (())))
 else none
 else
 some (.br ((()), (())))
def ref19_Name_4 (N : Nat) : Option ref19_Name_R :=
 some ((true, ()), (()))
def ref19_Name_2 (N : Nat) (s_0 : (List UInt8)) (i_3 : Int) : Option ref19_Name_R :=
 loopK N (fun y => ref19_Name_s3 N y.1.1 y.1.2.1) (fun (e : ((Unit) × (Unit))) => ref19_Name_4 N) ((s_0, i_3, ()), (()))
def ref19_Name_1 (N : Nat) (s_0 : (List UInt8)) (t_12 : Bool) : Option ref19_Name_R :=
 bif t_12 then
 some ((false, ()), (()))
 else
 ref19_Name_2 N s_0 (0 : Int)
def ref19_Name (N : Nat) (s_0 : (List UInt8)) : Option ref19_Name_R :=
 bif (decide ((s_0.length : Int) < (1 : Int))) then
 ref19_Name_1 N s_0 true
 else
 ref19_Name_1 N s_0 (decide ((16 : Int) < (s_0.length : Int)))
def ref19_Name_C (N : Nat) : Ctx := ⟨45, G_tys, [], G_globs, G_ifs⟩
def ref19_Name_S0 : Spec := ⟨[.val .str, .val .i64], []⟩
def ref19_Name_S1 : Spec := ⟨[], []⟩
def ref19_Name_S2 : Spec := ⟨[.val .str, .val .bool], []⟩
def ref19_Name_S3 : Spec := ⟨[.val .str], []⟩
def ref19_Name_S4 : Spec := ⟨[.val .bool], []⟩
def ref19_Name_K (_N : Nat) : XE → GS → Option ref19_Name_R := retK 0 [2] [false] ref19_Name_S4
def ref19_Name_L : List Code := (bodyOf (some Try.f151))
def ref19_Name_L3 : List Code := (loopOf (ref19_Name_L[4]?))
def ref19_Name_K3 (N : Nat) : XE → GS → Option (Lo (((List UInt8) × Int × Unit) × (Unit)) ((Unit) × (Unit)) ref19_Name_R) := roundK (some 0) (fit 0 [0, 3] ref19_Name_S0) (fit 0 [] ref19_Name_S1) (ref19_Name_K N)
theorem ref19_Name_s3_b {E : Env} (N : Nat) (hb : Base Try.prog (ref19_Name_C N) E 0) : Blk Try.prog (ref19_Name_C N) E [0, 3] ref19_Name_S0 (ref19_Name_L3.drop 0) (fun y => ref19_Name_s3 N y.1.1 y.1.2.1) (ref19_Name_K3 N) :=
 Blk.chunkAt hb 4 (X := (ref19_Name_K3 N .normal)) (NxOk.end (by kernel_rfl)) rfl (fun x => by kernel_rfl)
theorem ref19_Name_4_b {E : Env} (N : Nat) (hb : Base Try.prog (ref19_Name_C N) E 0) : Blk Try.prog (ref19_Name_C N) E [] ref19_Name_S1 (ref19_Name_L.drop 5) (fun y => ref19_Name_4 N) (ref19_Name_K N) :=
 Blk.chunkAt hb 2 (X := (ref19_Name_K N .normal)) (NxOk.end (by kernel_rfl)) rfl (fun x => by kernel_rfl)
theorem ref19_Name_2_b {E : Env} (N : Nat) (hb : Base Try.prog (ref19_Name_C N) E 0) : Blk Try.prog (ref19_Name_C N) E [0, 3] ref19_Name_S0 (ref19_Name_L.drop 4) (fun y => ref19_Name_2 N y.1.1 y.1.2.1) (ref19_Name_K N) :=
 Blk.loopAt (Nf := N) (hns := [0, 3]) (ans := []) (hc := ref19_Name_S0) (ac := ref19_Name_S1) (bid := 0) (step := (fun y => ref19_Name_s3 N y.1.1 y.1.2.1)) (J := (fun e => (goK 0 [] ref19_Name_S1 (fun y => ref19_Name_4 N)) (ref19_Name_S1.st [] e))) hb (by kernel_rfl) (Blk.into (X := (goK 0 [] ref19_Name_S1 (fun y => ref19_Name_4 N))) (NxOk.go hb (ref19_Name_4_b N hb)) (fun x => by kernel_rfl)) (ref19_Name_s3_b N hb) (fun x => by kernel_rfl)
theorem ref19_Name_1_b {E : Env} (N : Nat) (hb : Base Try.prog (ref19_Name_C N) E 0) : Blk Try.prog (ref19_Name_C N) E [0, 12] ref19_Name_S2 (ref19_Name_L.drop 2) (fun y => ref19_Name_1 N y.1.1 y.1.2.1) (ref19_Name_K N) :=
 Blk.chunkAt hb 2 (X := (goK 0 [0, 3] ref19_Name_S0 (fun y => ref19_Name_2 N y.1.1 y.1.2.1))) (NxOk.go hb (ref19_Name_2_b N hb)) rfl (fun x => by kernel_rfl)
theorem ref19_Name_b {E : Env} (N : Nat) (hb : Base Try.prog (ref19_Name_C N) E 0) : Blk Try.prog (ref19_Name_C N) E (List.range ref19_Name_S3.ks.length) ref19_Name_S3 (ref19_Name_L.drop 0) (fun y => ref19_Name N y.1.1) (ref19_Name_K N) :=
 Blk.chunkAt hb 2 (X := (goK 0 [0, 12] ref19_Name_S2 (fun y => ref19_Name_1 N y.1.1 y.1.2.1))) (NxOk.go hb (ref19_Name_1_b N hb)) rfl (fun x => by kernel_rfl)
def ref19_Name_ctr (N : Nat) : Ctr := ⟨ref19_Name_S3, ref19_Name_S4.un [false], 0, (fun y => ref19_Name N y.1.1)⟩
theorem ref19_Name_ctrs (N : Nat) : CtrsOk Try.prog (ref19_Name_C N) := ctrs_nil G_ifs_ok rfl
theorem ref19_Name_ok (N : Nat) : Ctr.ok Try.prog G_globs 151 (ref19_Name_ctr N) :=
 ctr_fn (Γ := ref19_Name_C N) (rfit := ref19_Name_S4) (bs := [false]) (res := [2]) (by kernel_rfl) (tys_ok G_tys_ok) (ref19_Name_ctrs N) Try.func151 (by kernel_rfl) (by kernel_rfl) Try.ntmps151 (by kernel_rfl) (by kernel_rfl) (by kernel_rfl) (by kernel_rfl) (fun E hb => ref19_Name_b N hb)
/-! ipsecgate/ipsecgateref05.Less -/
abbrev ref05_Less_R : Type := ((Bool × Unit) × (Unit))
def ref05_Less (N : Nat) (a_0 : D27) (b_1 : D27) : Option ref05_Less_R :=
 bif (!(decide (a_0.1 = b_1.1))) then
 some (((decide (a_0.1 < b_1.1)), ()), (()))
 else
 bif (!(decide (a_0.2.1 = b_1.2.1))) then
 some (((decide (a_0.2.1 < b_1.2.1)), ()), (()))
 else
 some (((decide (a_0.2.2.1 < b_1.2.2.1)), ()), (()))
def ref05_Less_C (N : Nat) : Ctx := ⟨30, G_tys, [], G_globs, G_ifs⟩
def ref05_Less_S0 : Spec := ⟨[.val T27, .val T27], []⟩
def ref05_Less_S1 : Spec := ⟨[.val .bool], []⟩
def ref05_Less_K (_N : Nat) : XE → GS → Option ref05_Less_R := retK 0 [4] [false] ref05_Less_S1
def ref05_Less_L : List Code := (bodyOf (some Try.f97))
theorem ref05_Less_b {E : Env} (N : Nat) (hb : Base Try.prog (ref05_Less_C N) E 0) : Blk Try.prog (ref05_Less_C N) E (List.range ref05_Less_S0.ks.length) ref05_Less_S0 (ref05_Less_L.drop 0) (fun y => ref05_Less N y.1.1 y.1.2.1) (ref05_Less_K N) :=
 Blk.chunkAt hb 7 (X := (ref05_Less_K N .normal)) (NxOk.end (by kernel_rfl)) rfl (fun x => by kernel_rfl)
def ref05_Less_ctr (N : Nat) : Ctr := ⟨ref05_Less_S0, ref05_Less_S1.un [false], 0, (fun y => ref05_Less N y.1.1 y.1.2.1)⟩
theorem ref05_Less_ctrs (N : Nat) : CtrsOk Try.prog (ref05_Less_C N) := ctrs_nil G_ifs_ok rfl
theorem ref05_Less_ok (N : Nat) : Ctr.ok Try.prog G_globs 97 (ref05_Less_ctr N) :=
 ctr_fn (Γ := ref05_Less_C N) (rfit := ref05_Less_S1) (bs := [false]) (res := [4]) (by kernel_rfl) (tys_ok G_tys_ok) (ref05_Less_ctrs N) Try.func97 (by kernel_rfl) (by kernel_rfl) Try.ntmps97 (by kernel_rfl) (by kernel_rfl) (by kernel_rfl) (by kernel_rfl) (fun E hb => ref05_Less_b N hb)
/-! ipsecgate/ipsecgateref19.ports -/
abbrev ref19_ports_R : Type := ((Bool × Unit) × (Unit))
def ref19_ports (N : Nat) (p_0 : (List Int)) : Option ref19_ports_R :=
 bif (decide ((-1 : Int) ≤ (p_0.getD 0 (0 : Int)))) then
 bif (decide ((p_0.getD 1 (0 : Int)) ≤ (65535 : Int))) then
 some (((decide ((p_0.getD 0 (0 : Int)) ≤ (p_0.getD 1 (0 : Int)))), ()), (()))
 else
 some ((false, ()), (()))
 else
 some ((false, ()), (()))
def ref19_ports_C (N : Nat) : Ctx := ⟨18, G_tys, [], G_globs, G_ifs⟩
def ref19_ports_S0 : Spec := ⟨[.val (.arr 2 .i64)], []⟩
def ref19_ports_S1 : Spec := ⟨[.val .bool], []⟩
def ref19_ports_K (_N : Nat) : XE → GS → Option ref19_ports_R := retK 0 [2] [false] ref19_ports_S1
def ref19_ports_L : List Code := (bodyOf (some Try.f100))
theorem ref19_ports_b {E : Env} (N : Nat) (hb : Base Try.prog (ref19_ports_C N) E 0) : Blk Try.prog (ref19_ports_C N) E (List.range ref19_ports_S0.ks.length) ref19_ports_S0 (ref19_ports_L.drop 0) (fun y => ref19_ports N y.1.1) (ref19_ports_K N) :=
 Blk.chunkAt hb 3 (X := (ref19_ports_K N .normal)) (NxOk.end (by kernel_rfl)) rfl (fun x => by kernel_rfl)
def ref19_ports_ctr (N : Nat) : Ctr := ⟨ref19_ports_S0, ref19_ports_S1.un [false], 0, (fun y => ref19_ports N y.1.1)⟩
theorem ref19_ports_ctrs (N : Nat) : CtrsOk Try.prog (ref19_ports_C N) := ctrs_nil G_ifs_ok rfl
theorem ref19_ports_ok (N : Nat) : Ctr.ok Try.prog G_globs 100 (ref19_ports_ctr N) :=
 ctr_fn (Γ := ref19_ports_C N) (rfit := ref19_ports_S1) (bs := [false]) (res := [2]) (by kernel_rfl) (tys_ok G_tys_ok) (ref19_ports_ctrs N) Try.func100 (by kernel_rfl) (by kernel_rfl) Try.ntmps100 (by kernel_rfl) (by kernel_rfl) (by kernel_rfl) (by kernel_rfl) (fun E hb => ref19_ports_b N hb)
/-! ipsecgate/ipsecgateref19.CheckBox -/
abbrev ref19_CheckBox_R : Type := ((Int × Unit) × (Unit))
def ref19_CheckBox_s2 (N : Nat) (i_4 : Int) (b_1 : D45) (l_3 : (List D27)) : Option (Lo ((Int × Unit) × (D45 × (List D27) × Unit)) ((Unit) × (D45 × (List D27) × Unit)) ref19_CheckBox_R) :=
 bif (decide (i_4 < (4 : Int))) then
 bif inR i_4 l_3.length then
 Option.bind (ref05_Valid N (l_3.getD i_4.toNat ((0 : Int), (0 : UInt64), (0 : UInt64), ()))) fun y3 =>
 bif (!y3.1.1) then
 some (.rt (((15 : Int), ()), (())))
 else
 bif inR i_4 l_3.length then
 bif inR (0 : Int) l_3.length then
 bif (!(decide (((l_3.getD i_4.toNat ((0 : Int), (0 : UInt64), (0 : UInt64), ())).1) = ((l_3.getD 0 ((0 : Int), (0 : UInt64), (0 : UInt64), ())).1)))) then
 some (.rt (((15 : Int), ()), (())))
 else
 some (.go (((w64 (i_4 + (1 : Int))), ()), (b_1, l_3, ())))
 else none
 else none
 else none
 else
 some (.br ((()), (b_1, l_3, ())))
def ref19_CheckBox_3 (N : Nat) (b_1 : D45) (l_3 : (List D27)) : Option ref19_CheckBox_R :=
 bif inR (1 : Int) l_3.length then
 bif inR (0 : Int) l_3.length then
 Option.bind (ref05_Less N (l_3.getD 1 ((0 : Int), (0 : UInt64), (0 : UInt64), ())) (l_3.getD 0 ((0 : Int), (0 : UInt64), (0 : UInt64), ()))) fun y11 =>
 bif y11.1.1 then
 some (((5 : Int), ()), (()))
 else
 bif inR (3 : Int) l_3.length then
 bif inR (2 : Int) l_3.length then
 Option.bind (ref05_Less N (l_3.getD 3 ((0 : Int), (0 : UInt64), (0 : UInt64), ())) (l_3.getD 2 ((0 : Int), (0 : UInt64), (0 : UInt64), ()))) fun y14 =>
 bif y14.1.1 then
 some (((5 : Int), ()), (()))
 else
 bif (decide (b_1.2.2.2.2.1 < (0 : Int))) then
 some (((5 : Int), ()), (()))
 else
 bif (decide ((255 : Int) < b_1.2.2.2.2.2.1)) then
 some (((5 : Int), ()), (()))
 else
 bif (decide (b_1.2.2.2.2.2.1 < b_1.2.2.2.2.1)) then
 some (((5 : Int), ()), (()))
 else
 Option.bind (ref19_ports N b_1.2.2.2.2.2.2.1) fun y18 =>
 bif (!y18.1.1) then
 some (((5 : Int), ()), (()))
 else
 Option.bind (ref19_ports N b_1.2.2.2.2.2.2.2.1) fun y20 =>
 bif (!y20.1.1) then
 some (((5 : Int), ()), (()))
 else
 some (((0 : Int), ()), (()))
 else none
 else none
 else none
 else none
def ref19_CheckBox_1 (N : Nat) (i_4 : Int) (b_1 : D45) (l_3 : (List D27)) : Option ref19_CheckBox_R :=
 loopK N (fun y => ref19_CheckBox_s2 N y.1.1 y.2.1 y.2.2.1) (fun (e : ((Unit) × (D45 × (List D27) × Unit))) => ref19_CheckBox_3 N e.2.1 e.2.2.1) ((i_4, ()), (b_1, l_3, ()))
def ref19_CheckBox (N : Nat) (b_0 : D45) : Option ref19_CheckBox_R :=
 ref19_CheckBox_1 N (0 : Int) b_0 ([b_0.1, b_0.2.1, b_0.2.2.1, b_0.2.2.2.1] : List D27)
def ref19_CheckBox_C (N : Nat) : Ctx := ⟨81, G_tys, [(99, ref05_Valid_ctr N), (97, ref05_Less_ctr N), (100, ref19_ports_ctr N)], G_globs, G_ifs⟩
def ref19_CheckBox_S0 : Spec := ⟨[.ref 0 T45, .row 1, .val .i64], [(.box 46 T45, .pos 0), (.row 28 T27, .pos 1)]⟩
def ref19_CheckBox_S1 : Spec := ⟨[.ref 0 T45, .row 1], [(.box 46 T45, .pos 0), (.row 28 T27, .pos 1)]⟩
def ref19_CheckBox_S2 : Spec := ⟨[.val T45], []⟩
def ref19_CheckBox_S3 : Spec := ⟨[.val .i64], []⟩
def ref19_CheckBox_K (_N : Nat) : XE → GS → Option ref19_CheckBox_R := retK 0 [2] [false] ref19_CheckBox_S3
def ref19_CheckBox_L : List Code := (bodyOf (some Try.f46))
def ref19_CheckBox_L2 : List Code := (loopOf (ref19_CheckBox_L[3]?))
def ref19_CheckBox_K2 (N : Nat) : XE → GS → Option (Lo ((Int × Unit) × (D45 × (List D27) × Unit)) ((Unit) × (D45 × (List D27) × Unit)) ref19_CheckBox_R) := roundK (some 0) (fit 0 [1, 3, 4] ref19_CheckBox_S0) (fit 0 [1, 3] ref19_CheckBox_S1) (ref19_CheckBox_K N)
theorem ref19_CheckBox_s2_b {E : Env} (N : Nat) (hb : Base Try.prog (ref19_CheckBox_C N) E 0) : Blk Try.prog (ref19_CheckBox_C N) E [1, 3, 4] ref19_CheckBox_S0 (ref19_CheckBox_L2.drop 0) (fun y => ref19_CheckBox_s2 N y.1.1 y.2.1 y.2.2.1) (ref19_CheckBox_K2 N) :=
 Blk.chunkAt hb 4 (X := (ref19_CheckBox_K2 N .normal)) (NxOk.end (by kernel_rfl)) rfl (fun x => by kernel_rfl)
theorem ref19_CheckBox_3_b {E : Env} (N : Nat) (hb : Base Try.prog (ref19_CheckBox_C N) E 0) : Blk Try.prog (ref19_CheckBox_C N) E [1, 3] ref19_CheckBox_S1 (ref19_CheckBox_L.drop 4) (fun y => ref19_CheckBox_3 N y.2.1 y.2.2.1) (ref19_CheckBox_K N) :=
 Blk.chunkAt hb 4 (X := (ref19_CheckBox_K N .normal)) (NxOk.end (by kernel_rfl)) rfl (fun x => by kernel_rfl)
theorem ref19_CheckBox_1_b {E : Env} (N : Nat) (hb : Base Try.prog (ref19_CheckBox_C N) E 0) : Blk Try.prog (ref19_CheckBox_C N) E [1, 3, 4] ref19_CheckBox_S0 (ref19_CheckBox_L.drop 3) (fun y => ref19_CheckBox_1 N y.1.1 y.2.1 y.2.2.1) (ref19_CheckBox_K N) :=
 Blk.loopAt (Nf := N) (hns := [1, 3, 4]) (ans := [1, 3]) (hc := ref19_CheckBox_S0) (ac := ref19_CheckBox_S1) (bid := 0) (step := (fun y => ref19_CheckBox_s2 N y.1.1 y.2.1 y.2.2.1)) (J := (fun e => (goK 0 [1, 3] ref19_CheckBox_S1 (fun y => ref19_CheckBox_3 N y.2.1 y.2.2.1)) (ref19_CheckBox_S1.st [1, 3] e))) hb (by kernel_rfl) (Blk.into (X := (goK 0 [1, 3] ref19_CheckBox_S1 (fun y => ref19_CheckBox_3 N y.2.1 y.2.2.1))) (NxOk.go hb (ref19_CheckBox_3_b N hb)) (fun x => by kernel_rfl)) (ref19_CheckBox_s2_b N hb) (fun x => by kernel_rfl)
theorem ref19_CheckBox_b {E : Env} (N : Nat) (hb : Base Try.prog (ref19_CheckBox_C N) E 0) : Blk Try.prog (ref19_CheckBox_C N) E (List.range ref19_CheckBox_S2.ks.length) ref19_CheckBox_S2 (ref19_CheckBox_L.drop 0) (fun y => ref19_CheckBox N y.1.1) (ref19_CheckBox_K N) :=
 Blk.chunkAt hb 3 (X := (goK 0 [1, 3, 4] ref19_CheckBox_S0 (fun y => ref19_CheckBox_1 N y.1.1 y.2.1 y.2.2.1))) (NxOk.go hb (ref19_CheckBox_1_b N hb)) rfl (fun x => by kernel_rfl)
def ref19_CheckBox_ctr (N : Nat) : Ctr := ⟨ref19_CheckBox_S2, ref19_CheckBox_S3.un [false], 0, (fun y => ref19_CheckBox N y.1.1)⟩
theorem ref19_CheckBox_ctrs (N : Nat) : CtrsOk Try.prog (ref19_CheckBox_C N) := ctrs_of (Γ := ref19_CheckBox_C N) G_ifs_ok (by
 intro p hp
 simp only [ref19_CheckBox_C, List.mem_cons, List.not_mem_nil, or_false] at hp
 rcases hp with rfl | rfl | rfl
 · exact ref05_Valid_ok N
 · exact ref05_Less_ok N
 · exact ref19_ports_ok N)
theorem ref19_CheckBox_ok (N : Nat) : Ctr.ok Try.prog G_globs 46 (ref19_CheckBox_ctr N) :=
 ctr_fn (Γ := ref19_CheckBox_C N) (rfit := ref19_CheckBox_S3) (bs := [false]) (res := [2]) (by kernel_rfl) (tys_ok G_tys_ok) (ref19_CheckBox_ctrs N) Try.func46 (by kernel_rfl) (by kernel_rfl) Try.ntmps46 (by kernel_rfl) (by kernel_rfl) (by kernel_rfl) (by kernel_rfl) (fun E hb => ref19_CheckBox_b N hb)
/-! ipsecgate/ipsecgateref19.Check -/
abbrev ref19_Check_R : Type := ((Int × Unit) × (Unit))
def ref19_Check_s8 (N : Nat) (l_0 : (List D59)) (i_3 : Int) (k_5 : Int) (r_4 : D59) (r_4_v : (List D45)) : Option (Lo (((List D59) × Int × Int × Unit) × (D59 × (List D45) × Unit)) (((List D59) × Int × Unit) × (Unit)) (Lo (((List D59) × Int × Unit) × (Unit)) ((Unit) × (Unit)) ref19_Check_R)) :=
 bif (decide (k_5 < (r_4_v.length : Int))) then
 bif inR k_5 r_4_v.length then
 Option.bind (ref19_CheckBox N (r_4_v.getD k_5.toNat (((0 : Int), (0 : UInt64), (0 : UInt64), ()), ((0 : Int), (0 : UInt64), (0 : UInt64), ()), ((0 : Int), (0 : UInt64), (0 : UInt64), ()), ((0 : Int), (0 : UInt64), (0 : UInt64), ()), (0 : Int), (0 : Int), (List.replicate 2 (0 : Int)), (List.replicate 2 (0 : Int)), ()))) fun y20 =>
 bif (!(decide (y20.1.1 = (0 : Int)))) then
 some (.rt (.rt ((y20.1.1, ()), (()))))
 else
 some (.go ((l_0, i_3, (w64 (k_5 + (1 : Int))), ()), (r_4, r_4_v, ())))
 else none
 else
 some (.br ((l_0, i_3, ()), (())))
def ref19_Check_9 (N : Nat) (l_0 : (List D59)) (i_3 : Int) : Option (Lo (((List D59) × Int × Unit) × (Unit)) ((Unit) × (Unit)) ref19_Check_R) :=
 some (.go ((l_0, (w64 (i_3 + (1 : Int))), ()), (())))
def ref19_Check_7 (N : Nat) (l_0 : (List D59)) (i_3 : Int) (k_5 : Int) (r_4 : D59) (r_4_v : (List D45)) : Option (Lo (((List D59) × Int × Unit) × (Unit)) ((Unit) × (Unit)) ref19_Check_R) :=
 loopK N (fun y => ref19_Check_s8 N y.1.1 y.1.2.1 y.1.2.2.1 y.2.1 y.2.2.1) (fun (e : (((List D59) × Int × Unit) × (Unit))) => ref19_Check_9 N e.1.1 e.1.2.1) ((l_0, i_3, k_5, ()), (r_4, r_4_v, ()))
def ref19_Check_6 (N : Nat) (l_0 : (List D59)) (i_3 : Int) (r_4 : D59) (r_4_v : (List D45)) : Option (Lo (((List D59) × Int × Unit) × (Unit)) ((Unit) × (Unit)) ref19_Check_R) :=
 ref19_Check_7 N l_0 i_3 (0 : Int) r_4 r_4_v
def ref19_Check_5 (N : Nat) (l_0 : (List D59)) (i_3 : Int) : Option (Lo (((List D59) × Int × Unit) × (Unit)) ((Unit) × (Unit)) ref19_Check_R) :=
 bif inR i_3 l_0.length then
 let x5 := l_0.getD i_3.toNat ((0 : Int), ([] : List UInt8), ([] : List D45), ())
 bif (decide (x5.1 < (0 : Int))) then
 some (.rt (((5 : Int), ()), (())))
 else
 bif (decide ((2 : Int) < x5.1)) then
 some (.rt (((5 : Int), ()), (())))
 else
 bif (decide (x5.1 = (2 : Int))) then
 Option.bind (ref19_Name N x5.2.1) fun y9 =>
 bif (!y9.1.1) then
 some (.rt (((14 : Int), ()), (())))
 else
 bif (!(decide (x5.1 = (2 : Int)))) then
 bif (!(decide (x5.2.1 = ([] : List UInt8)))) then
 some (.rt (((14 : Int), ()), (())))
 else
 bif (decide ((x5.2.2.1.length : Int) = (0 : Int))) then
 some (.rt (((8 : Int), ()), (())))
 else
 bif (decide ((16 : Int) < (x5.2.2.1.length : Int))) then
 some (.rt (((10 : Int), ()), (())))
 else
 ref19_Check_6 N l_0 i_3 x5 x5.2.2.1
 else
 bif (decide ((x5.2.2.1.length : Int) = (0 : Int))) then
 some (.rt (((8 : Int), ()), (())))
 else
 bif (decide ((16 : Int) < (x5.2.2.1.length : Int))) then
 some (.rt (((10 : Int), ()), (())))
 else
 ref19_Check_6 N l_0 i_3 x5 x5.2.2.1
 else
 bif (!(decide (x5.1 = (2 : Int)))) then
 bif (!(decide (x5.2.1 = ([] : List UInt8)))) then
 some (.rt (((14 : Int), ()), (())))
 else
 bif (decide ((x5.2.2.1.length : Int) = (0 : Int))) then
 some (.rt (((8 : Int), ()), (())))
 else
 bif (decide ((16 : Int) < (x5.2.2.1.length : Int))) then
 some (.rt (((10 : Int), ()), (())))
 else
 ref19_Check_6 N l_0 i_3 x5 x5.2.2.1
 else
 bif (decide ((x5.2.2.1.length : Int) = (0 : Int))) then
 some (.rt (((8 : Int), ()), (())))
 else
 bif (decide ((16 : Int) < (x5.2.2.1.length : Int))) then
 some (.rt (((10 : Int), ()), (())))
 else
 ref19_Check_6 N l_0 i_3 x5 x5.2.2.1
 else none
def ref19_Check_3 (N : Nat) (l_0 : (List D59)) (i_3 : Int) : Option (Lo (((List D59) × Int × Unit) × (Unit)) ((Unit) × (Unit)) ref19_Check_R) :=
 ref19_Check_5 N l_0 i_3
def ref19_Check_s2 (N : Nat) (l_0 : (List D59)) (i_3 : Int) : Option (Lo (((List D59) × Int × Unit) × (Unit)) ((Unit) × (Unit)) ref19_Check_R) :=
 bif (decide (i_3 < (l_0.length : Int))) then
 ref19_Check_3 N l_0 i_3
 else
 some (.br ((()), (())))
def ref19_Check_10 (N : Nat) : Option ref19_Check_R :=
 some (((0 : Int), ()), (()))
def ref19_Check_1 (N : Nat) (l_0 : (List D59)) (i_3 : Int) : Option ref19_Check_R :=
 loopK N (fun y => ref19_Check_s2 N y.1.1 y.1.2.1) (fun (e : ((Unit) × (Unit))) => ref19_Check_10 N) ((l_0, i_3, ()), (()))
def ref19_Check (N : Nat) (l_0 : (List D59)) : Option ref19_Check_R :=
 bif (decide ((24 : Int) < (l_0.length : Int))) then
 some (((10 : Int), ()), (()))
 else
 ref19_Check_1 N l_0 (0 : Int)
def ref19_Check_C (N : Nat) : Ctx := ⟨75, G_tys, [(151, ref19_Name_ctr N), (46, ref19_CheckBox_ctr N)], G_globs, G_ifs⟩
def ref19_Check_S0 : Spec := ⟨[.val (.sl T59), .val .i64, .ref 0 T59, .val .i64], [(.sval 60 T59 2 (.sl T45), .pos 2)]⟩
def ref19_Check_S1 : Spec := ⟨[.val (.sl T59), .val .i64], []⟩
def ref19_Check_S2 : Spec := ⟨[.val (.sl T59), .val .i64, .ref 0 T59], [(.sval 60 T59 2 (.sl T45), .pos 2)]⟩
def ref19_Check_S3 : Spec := ⟨[], []⟩
def ref19_Check_S4 : Spec := ⟨[.val (.sl T59)], []⟩
def ref19_Check_S5 : Spec := ⟨[.val .i64], []⟩
def ref19_Check_K (_N : Nat) : XE → GS → Option ref19_Check_R := retK 0 [2] [false] ref19_Check_S5
def ref19_Check_L : List Code := (bodyOf (some Try.f89))
def ref19_Check_L2 : List Code := (loopOf (ref19_Check_L[4]?))
def ref19_Check_L4b : List Code := (blockOf (ref19_Check_L2[2]?))
def ref19_Check_L8 : List Code := (loopOf (ref19_Check_L4b[3]?))
def ref19_Check_K2 (N : Nat) : XE → GS → Option (Lo (((List D59) × Int × Unit) × (Unit)) ((Unit) × (Unit)) ref19_Check_R) := roundK (some 0) (fit 0 [0, 3] ref19_Check_S1) (fit 0 [] ref19_Check_S3) (ref19_Check_K N)
def ref19_Check_K4 (N : Nat) : XE → GS → Option (Lo (((List D59) × Int × Unit) × (Unit)) ((Unit) × (Unit)) ref19_Check_R) := blockK 1 (goK 0 [0, 3] ref19_Check_S1 (fun y => ref19_Check_9 N y.1.1 y.1.2.1)) (ref19_Check_K2 N)
def ref19_Check_K8 (N : Nat) : XE → GS → Option (Lo (((List D59) × Int × Int × Unit) × (D59 × (List D45) × Unit)) (((List D59) × Int × Unit) × (Unit)) (Lo (((List D59) × Int × Unit) × (Unit)) ((Unit) × (Unit)) ref19_Check_R)) := roundK (some 3) (fit 0 [0, 3, 4, 5] ref19_Check_S0) (fit 0 [0, 3] ref19_Check_S1) (ref19_Check_K4 N)
theorem ref19_Check_s8_b {E : Env} (N : Nat) (hb : Base Try.prog (ref19_Check_C N) E 0) : Blk Try.prog (ref19_Check_C N) E [0, 3, 4, 5] ref19_Check_S0 (ref19_Check_L8.drop 0) (fun y => ref19_Check_s8 N y.1.1 y.1.2.1 y.1.2.2.1 y.2.1 y.2.2.1) (ref19_Check_K8 N) :=
 Blk.chunkAt hb 4 (X := (ref19_Check_K8 N .normal)) (NxOk.end (by kernel_rfl)) rfl (fun x => by kernel_rfl)
theorem ref19_Check_9_b {E : Env} (N : Nat) (hb : Base Try.prog (ref19_Check_C N) E 0) : Blk Try.prog (ref19_Check_C N) E [0, 3] ref19_Check_S1 (ref19_Check_L2.drop 3) (fun y => ref19_Check_9 N y.1.1 y.1.2.1) (ref19_Check_K2 N) :=
 Blk.chunkAt hb 1 (X := (ref19_Check_K2 N .normal)) (NxOk.end (by kernel_rfl)) rfl (fun x => by kernel_rfl)
theorem ref19_Check_7_b {E : Env} (N : Nat) (hb : Base Try.prog (ref19_Check_C N) E 0) : Blk Try.prog (ref19_Check_C N) E [0, 3, 4, 5] ref19_Check_S0 (ref19_Check_L4b.drop 3) (fun y => ref19_Check_7 N y.1.1 y.1.2.1 y.1.2.2.1 y.2.1 y.2.2.1) (ref19_Check_K4 N) :=
 Blk.loopAt (Nf := N) (hns := [0, 3, 4, 5]) (ans := [0, 3]) (hc := ref19_Check_S0) (ac := ref19_Check_S1) (bid := 3) (step := (fun y => ref19_Check_s8 N y.1.1 y.1.2.1 y.1.2.2.1 y.2.1 y.2.2.1)) (J := (fun e => (ref19_Check_K4 N .normal) (ref19_Check_S1.st [0, 3] e))) hb (by kernel_rfl) (Blk.into (X := (ref19_Check_K4 N .normal)) (NxOk.end (by kernel_rfl)) (fun x => by kernel_rfl)) (ref19_Check_s8_b N hb) (fun x => by kernel_rfl)
theorem ref19_Check_6_b {E : Env} (N : Nat) (hb : Base Try.prog (ref19_Check_C N) E 0) : Blk Try.prog (ref19_Check_C N) E [0, 3, 4] ref19_Check_S2 (ref19_Check_L4b.drop 2) (fun y => ref19_Check_6 N y.1.1 y.1.2.1 y.2.1 y.2.2.1) (ref19_Check_K4 N) :=
 Blk.chunkAt hb 1 (X := (goK 0 [0, 3, 4, 5] ref19_Check_S0 (fun y => ref19_Check_7 N y.1.1 y.1.2.1 y.1.2.2.1 y.2.1 y.2.2.1))) (NxOk.go hb (ref19_Check_7_b N hb)) rfl (fun x => by kernel_rfl)
theorem ref19_Check_5_b {E : Env} (N : Nat) (hb : Base Try.prog (ref19_Check_C N) E 0) : Blk Try.prog (ref19_Check_C N) E [0, 3] ref19_Check_S1 (ref19_Check_L4b.drop 0) (fun y => ref19_Check_5 N y.1.1 y.1.2.1) (ref19_Check_K4 N) :=
 Blk.chunkAt hb 2 (X := (goK 0 [0, 3, 4] ref19_Check_S2 (fun y => ref19_Check_6 N y.1.1 y.1.2.1 y.2.1 y.2.2.1))) (NxOk.go hb (ref19_Check_6_b N hb)) rfl (fun x => by kernel_rfl)
theorem ref19_Check_3_b {E : Env} (N : Nat) (hb : Base Try.prog (ref19_Check_C N) E 0) : Blk Try.prog (ref19_Check_C N) E [0, 3] ref19_Check_S1 (ref19_Check_L2.drop 2) (fun y => ref19_Check_3 N y.1.1 y.1.2.1) (ref19_Check_K2 N) :=
 Blk.blockAt (bid := 1) (X := (goK 0 [0, 3] ref19_Check_S1 (fun y => ref19_Check_9 N y.1.1 y.1.2.1))) (Y := (goK 0 [0, 3] ref19_Check_S1 (fun y => ref19_Check_5 N y.1.1 y.1.2.1))) (by kernel_rfl) (NxOk.go hb (ref19_Check_9_b N hb)) (NxOk.go hb (ref19_Check_5_b N hb)) (fun x => by kernel_rfl)
theorem ref19_Check_s2_b {E : Env} (N : Nat) (hb : Base Try.prog (ref19_Check_C N) E 0) : Blk Try.prog (ref19_Check_C N) E [0, 3] ref19_Check_S1 (ref19_Check_L2.drop 0) (fun y => ref19_Check_s2 N y.1.1 y.1.2.1) (ref19_Check_K2 N) :=
 Blk.chunkAt hb 2 (X := (goK 0 [0, 3] ref19_Check_S1 (fun y => ref19_Check_3 N y.1.1 y.1.2.1))) (NxOk.go hb (ref19_Check_3_b N hb)) rfl (fun x => by kernel_rfl)
theorem ref19_Check_10_b {E : Env} (N : Nat) (hb : Base Try.prog (ref19_Check_C N) E 0) : Blk Try.prog (ref19_Check_C N) E [] ref19_Check_S3 (ref19_Check_L.drop 5) (fun y => ref19_Check_10 N) (ref19_Check_K N) :=
 Blk.chunkAt hb 2 (X := (ref19_Check_K N .normal)) (NxOk.end (by kernel_rfl)) rfl (fun x => by kernel_rfl)
theorem ref19_Check_1_b {E : Env} (N : Nat) (hb : Base Try.prog (ref19_Check_C N) E 0) : Blk Try.prog (ref19_Check_C N) E [0, 3] ref19_Check_S1 (ref19_Check_L.drop 4) (fun y => ref19_Check_1 N y.1.1 y.1.2.1) (ref19_Check_K N) :=
 Blk.loopAt (Nf := N) (hns := [0, 3]) (ans := []) (hc := ref19_Check_S1) (ac := ref19_Check_S3) (bid := 0) (step := (fun y => ref19_Check_s2 N y.1.1 y.1.2.1)) (J := (fun e => (goK 0 [] ref19_Check_S3 (fun y => ref19_Check_10 N)) (ref19_Check_S3.st [] e))) hb (by kernel_rfl) (Blk.into (X := (goK 0 [] ref19_Check_S3 (fun y => ref19_Check_10 N))) (NxOk.go hb (ref19_Check_10_b N hb)) (fun x => by kernel_rfl)) (ref19_Check_s2_b N hb) (fun x => by kernel_rfl)
theorem ref19_Check_b {E : Env} (N : Nat) (hb : Base Try.prog (ref19_Check_C N) E 0) : Blk Try.prog (ref19_Check_C N) E (List.range ref19_Check_S4.ks.length) ref19_Check_S4 (ref19_Check_L.drop 0) (fun y => ref19_Check N y.1.1) (ref19_Check_K N) :=
 Blk.chunkAt hb 4 (X := (goK 0 [0, 3] ref19_Check_S1 (fun y => ref19_Check_1 N y.1.1 y.1.2.1))) (NxOk.go hb (ref19_Check_1_b N hb)) rfl (fun x => by kernel_rfl)
def ref19_Check_ctr (N : Nat) : Ctr := ⟨ref19_Check_S4, ref19_Check_S5.un [false], 0, (fun y => ref19_Check N y.1.1)⟩
theorem ref19_Check_ctrs (N : Nat) : CtrsOk Try.prog (ref19_Check_C N) := ctrs_of (Γ := ref19_Check_C N) G_ifs_ok (by
 intro p hp
 simp only [ref19_Check_C, List.mem_cons, List.not_mem_nil, or_false] at hp
 rcases hp with rfl | rfl
 · exact ref19_Name_ok N
 · exact ref19_CheckBox_ok N)
theorem ref19_Check_ok (N : Nat) : Ctr.ok Try.prog G_globs 89 (ref19_Check_ctr N) :=
 ctr_fn (Γ := ref19_Check_C N) (rfit := ref19_Check_S5) (bs := [false]) (res := [2]) (by kernel_rfl) (tys_ok G_tys_ok) (ref19_Check_ctrs N) Try.func89 (by kernel_rfl) (by kernel_rfl) Try.ntmps89 (by kernel_rfl) (by kernel_rfl) (by kernel_rfl) (by kernel_rfl) (fun E hb => ref19_Check_b N hb)
/-! ipsecgate/ipsecgateref20.number -/
abbrev ref20_number_R : Type := (D207 × (Unit))
def ref20_number (N : Nat) (n_0 : Int) : Option ref20_number_R :=
 some ((((0 : Int), (0 : UInt64), (iu64 (w64 (n_0 + (1 : Int)))), ()), ()), (()))
def ref20_number_C (N : Nat) : Ctx := ⟨7, G_tys, [], G_globs, G_ifs⟩
def ref20_number_S0 : Spec := ⟨[.val .i64], []⟩
def ref20_number_S1 : Spec := ⟨[.fp T27], []⟩
def ref20_number_K (_N : Nat) : XE → GS → Option ref20_number_R := retK 0 [2] [true] ref20_number_S1
def ref20_number_L : List Code := (bodyOf (some Try.f152))
theorem ref20_number_b {E : Env} (N : Nat) (hb : Base Try.prog (ref20_number_C N) E 0) : Blk Try.prog (ref20_number_C N) E (List.range ref20_number_S0.ks.length) ref20_number_S0 (ref20_number_L.drop 0) (fun y => ref20_number N y.1.1) (ref20_number_K N) :=
 Blk.chunkAt hb 3 (X := (ref20_number_K N .normal)) (NxOk.end (by kernel_rfl)) rfl (fun x => by kernel_rfl)
def ref20_number_ctr (N : Nat) : Ctr := ⟨ref20_number_S0, ref20_number_S1.un [true], 0, (fun y => ref20_number N y.1.1)⟩
theorem ref20_number_ctrs (N : Nat) : CtrsOk Try.prog (ref20_number_C N) := ctrs_nil G_ifs_ok rfl
theorem ref20_number_ok (N : Nat) : Ctr.ok Try.prog G_globs 152 (ref20_number_ctr N) :=
 ctr_fn (Γ := ref20_number_C N) (rfit := ref20_number_S1) (bs := [true]) (res := [2]) (by kernel_rfl) (tys_ok G_tys_ok) (ref20_number_ctrs N) Try.func152 (by kernel_rfl) (by kernel_rfl) Try.ntmps152 (by kernel_rfl) (by kernel_rfl) (by kernel_rfl) (by kernel_rfl) (fun E hb => ref20_number_b N hb)
/-! ipsecgate/ipsecgateref20.low -/
abbrev ref20_low_R : Type := (D207 × (Unit))
def ref20_low (N : Nat) (b_0 : D45) (k_1 : Int) : Option ref20_low_R :=
 bif (decide (k_1 = (0 : Int))) then
 some ((b_0.1, ()), (()))
 else
 bif (decide (k_1 = (1 : Int))) then
 some ((b_0.2.2.1, ()), (()))
 else
 bif (decide (k_1 = (2 : Int))) then
 Option.bind (ref20_number N b_0.2.2.2.2.1) fun y4 =>
 some ((y4.1.1, ()), (()))
 else
 bif (decide (k_1 = (3 : Int))) then
 Option.bind (ref20_number N (b_0.2.2.2.2.2.2.1.getD 0 (0 : Int))) fun y7 =>
 some ((y7.1.1, ()), (()))
 else
 Option.bind (ref20_number N (b_0.2.2.2.2.2.2.2.1.getD 0 (0 : Int))) fun y9 =>
 some ((y9.1.1, ()), (()))
def ref20_low_C (N : Nat) : Ctx := ⟨29, G_tys, [(152, ref20_number_ctr N)], G_globs, G_ifs⟩
def ref20_low_S0 : Spec := ⟨[.val T45, .val .i64], []⟩
def ref20_low_S1 : Spec := ⟨[.fp T27], []⟩
def ref20_low_K (_N : Nat) : XE → GS → Option ref20_low_R := retK 0 [4] [true] ref20_low_S1
def ref20_low_L : List Code := (bodyOf (some Try.f94))
theorem ref20_low_b {E : Env} (N : Nat) (hb : Base Try.prog (ref20_low_C N) E 0) : Blk Try.prog (ref20_low_C N) E (List.range ref20_low_S0.ks.length) ref20_low_S0 (ref20_low_L.drop 0) (fun y => ref20_low N y.1.1 y.1.2.1) (ref20_low_K N) :=
 Blk.chunkAt hb 5 (X := (ref20_low_K N .normal)) (NxOk.end (by kernel_rfl)) rfl (fun x => by kernel_rfl)
def ref20_low_ctr (N : Nat) : Ctr := ⟨ref20_low_S0, ref20_low_S1.un [true], 0, (fun y => ref20_low N y.1.1 y.1.2.1)⟩
theorem ref20_low_ctrs (N : Nat) : CtrsOk Try.prog (ref20_low_C N) := ctrs_of (Γ := ref20_low_C N) G_ifs_ok (by
 intro p hp
 simp only [ref20_low_C, List.mem_cons, List.not_mem_nil, or_false] at hp
 rcases hp with rfl
 · exact ref20_number_ok N)
theorem ref20_low_ok (N : Nat) : Ctr.ok Try.prog G_globs 94 (ref20_low_ctr N) :=
 ctr_fn (Γ := ref20_low_C N) (rfit := ref20_low_S1) (bs := [true]) (res := [4]) (by kernel_rfl) (tys_ok G_tys_ok) (ref20_low_ctrs N) Try.func94 (by kernel_rfl) (by kernel_rfl) Try.ntmps94 (by kernel_rfl) (by kernel_rfl) (by kernel_rfl) (by kernel_rfl) (fun E hb => ref20_low_b N hb)
/-! ipsecgate/ipsecgateref05.Greater -/
abbrev ref05_Greater_R : Type := (D207 × (Unit))
def ref05_Greater (N : Nat) (a_0 : D27) (b_1 : D27) : Option ref05_Greater_R :=
 Option.bind (ref05_Less N a_0 b_1) fun y1 =>
 bif y1.1.1 then
 some ((b_1, ()), (()))
 else
 some ((a_0, ()), (()))
def ref05_Greater_C (N : Nat) : Ctx := ⟨10, G_tys, [(97, ref05_Less_ctr N)], G_globs, G_ifs⟩
def ref05_Greater_S0 : Spec := ⟨[.val T27, .val T27], []⟩
def ref05_Greater_S1 : Spec := ⟨[.fp T27], []⟩
def ref05_Greater_K (_N : Nat) : XE → GS → Option ref05_Greater_R := retK 0 [4] [true] ref05_Greater_S1
def ref05_Greater_L : List Code := (bodyOf (some Try.f93))
theorem ref05_Greater_b {E : Env} (N : Nat) (hb : Base Try.prog (ref05_Greater_C N) E 0) : Blk Try.prog (ref05_Greater_C N) E (List.range ref05_Greater_S0.ks.length) ref05_Greater_S0 (ref05_Greater_L.drop 0) (fun y => ref05_Greater N y.1.1 y.1.2.1) (ref05_Greater_K N) :=
 Blk.chunkAt hb 5 (X := (ref05_Greater_K N .normal)) (NxOk.end (by kernel_rfl)) rfl (fun x => by kernel_rfl)
def ref05_Greater_ctr (N : Nat) : Ctr := ⟨ref05_Greater_S0, ref05_Greater_S1.un [true], 0, (fun y => ref05_Greater N y.1.1 y.1.2.1)⟩
theorem ref05_Greater_ctrs (N : Nat) : CtrsOk Try.prog (ref05_Greater_C N) := ctrs_of (Γ := ref05_Greater_C N) G_ifs_ok (by
 intro p hp
 simp only [ref05_Greater_C, List.mem_cons, List.not_mem_nil, or_false] at hp
 rcases hp with rfl
 · exact ref05_Less_ok N)
theorem ref05_Greater_ok (N : Nat) : Ctr.ok Try.prog G_globs 93 (ref05_Greater_ctr N) :=
 ctr_fn (Γ := ref05_Greater_C N) (rfit := ref05_Greater_S1) (bs := [true]) (res := [4]) (by kernel_rfl) (tys_ok G_tys_ok) (ref05_Greater_ctrs N) Try.func93 (by kernel_rfl) (by kernel_rfl) Try.ntmps93 (by kernel_rfl) (by kernel_rfl) (by kernel_rfl) (by kernel_rfl) (fun E hb => ref05_Greater_b N hb)
/-! ipsecgate/ipsecgateref20.high -/
abbrev ref20_high_R : Type := (D207 × (Unit))
def ref20_high (N : Nat) (b_0 : D45) (k_1 : Int) : Option ref20_high_R :=
 bif (decide (k_1 = (0 : Int))) then
 some ((b_0.2.1, ()), (()))
 else
 bif (decide (k_1 = (1 : Int))) then
 some ((b_0.2.2.2.1, ()), (()))
 else
 bif (decide (k_1 = (2 : Int))) then
 Option.bind (ref20_number N b_0.2.2.2.2.2.1) fun y4 =>
 some ((y4.1.1, ()), (()))
 else
 bif (decide (k_1 = (3 : Int))) then
 Option.bind (ref20_number N (b_0.2.2.2.2.2.2.1.getD 1 (0 : Int))) fun y7 =>
 some ((y7.1.1, ()), (()))
 else
 Option.bind (ref20_number N (b_0.2.2.2.2.2.2.2.1.getD 1 (0 : Int))) fun y9 =>
 some ((y9.1.1, ()), (()))
def ref20_high_C (N : Nat) : Ctx := ⟨29, G_tys, [(152, ref20_number_ctr N)], G_globs, G_ifs⟩
def ref20_high_S0 : Spec := ⟨[.val T45, .val .i64], []⟩
def ref20_high_S1 : Spec := ⟨[.fp T27], []⟩
def ref20_high_K (_N : Nat) : XE → GS → Option ref20_high_R := retK 0 [4] [true] ref20_high_S1
def ref20_high_L : List Code := (bodyOf (some Try.f96))
theorem ref20_high_b {E : Env} (N : Nat) (hb : Base Try.prog (ref20_high_C N) E 0) : Blk Try.prog (ref20_high_C N) E (List.range ref20_high_S0.ks.length) ref20_high_S0 (ref20_high_L.drop 0) (fun y => ref20_high N y.1.1 y.1.2.1) (ref20_high_K N) :=
 Blk.chunkAt hb 5 (X := (ref20_high_K N .normal)) (NxOk.end (by kernel_rfl)) rfl (fun x => by kernel_rfl)
def ref20_high_ctr (N : Nat) : Ctr := ⟨ref20_high_S0, ref20_high_S1.un [true], 0, (fun y => ref20_high N y.1.1 y.1.2.1)⟩
theorem ref20_high_ctrs (N : Nat) : CtrsOk Try.prog (ref20_high_C N) := ctrs_of (Γ := ref20_high_C N) G_ifs_ok (by
 intro p hp
 simp only [ref20_high_C, List.mem_cons, List.not_mem_nil, or_false] at hp
 rcases hp with rfl
 · exact ref20_number_ok N)
theorem ref20_high_ok (N : Nat) : Ctr.ok Try.prog G_globs 96 (ref20_high_ctr N) :=
 ctr_fn (Γ := ref20_high_C N) (rfit := ref20_high_S1) (bs := [true]) (res := [4]) (by kernel_rfl) (tys_ok G_tys_ok) (ref20_high_ctrs N) Try.func96 (by kernel_rfl) (by kernel_rfl) Try.ntmps96 (by kernel_rfl) (by kernel_rfl) (by kernel_rfl) (by kernel_rfl) (fun E hb => ref20_high_b N hb)
/-! ipsecgate/ipsecgateref05.Smaller -/
abbrev ref05_Smaller_R : Type := (D207 × (Unit))
def ref05_Smaller (N : Nat) (a_0 : D27) (b_1 : D27) : Option ref05_Smaller_R :=
 Option.bind (ref05_Less N b_1 a_0) fun y1 =>
 bif y1.1.1 then
 some ((b_1, ()), (()))
 else
 some ((a_0, ()), (()))
def ref05_Smaller_C (N : Nat) : Ctx := ⟨10, G_tys, [(97, ref05_Less_ctr N)], G_globs, G_ifs⟩
def ref05_Smaller_S0 : Spec := ⟨[.val T27, .val T27], []⟩
def ref05_Smaller_S1 : Spec := ⟨[.fp T27], []⟩
def ref05_Smaller_K (_N : Nat) : XE → GS → Option ref05_Smaller_R := retK 0 [4] [true] ref05_Smaller_S1
def ref05_Smaller_L : List Code := (bodyOf (some Try.f95))
theorem ref05_Smaller_b {E : Env} (N : Nat) (hb : Base Try.prog (ref05_Smaller_C N) E 0) : Blk Try.prog (ref05_Smaller_C N) E (List.range ref05_Smaller_S0.ks.length) ref05_Smaller_S0 (ref05_Smaller_L.drop 0) (fun y => ref05_Smaller N y.1.1 y.1.2.1) (ref05_Smaller_K N) :=
 Blk.chunkAt hb 5 (X := (ref05_Smaller_K N .normal)) (NxOk.end (by kernel_rfl)) rfl (fun x => by kernel_rfl)
def ref05_Smaller_ctr (N : Nat) : Ctr := ⟨ref05_Smaller_S0, ref05_Smaller_S1.un [true], 0, (fun y => ref05_Smaller N y.1.1 y.1.2.1)⟩
theorem ref05_Smaller_ctrs (N : Nat) : CtrsOk Try.prog (ref05_Smaller_C N) := ctrs_of (Γ := ref05_Smaller_C N) G_ifs_ok (by
 intro p hp
 simp only [ref05_Smaller_C, List.mem_cons, List.not_mem_nil, or_false] at hp
 rcases hp with rfl
 · exact ref05_Less_ok N)
theorem ref05_Smaller_ok (N : Nat) : Ctr.ok Try.prog G_globs 95 (ref05_Smaller_ctr N) :=
 ctr_fn (Γ := ref05_Smaller_C N) (rfit := ref05_Smaller_S1) (bs := [true]) (res := [4]) (by kernel_rfl) (tys_ok G_tys_ok) (ref05_Smaller_ctrs N) Try.func95 (by kernel_rfl) (by kernel_rfl) Try.ntmps95 (by kernel_rfl) (by kernel_rfl) (by kernel_rfl) (by kernel_rfl) (fun E hb => ref05_Smaller_b N hb)
/-! ipsecgate/ipsecgateref20.with -/
abbrev ref20_with_R : Type := ((D45 × Unit) × (Unit))
def ref20_with (N : Nat) (b_0 : D45) (k_1 : Int) (lo_2 : D27) (hi_3 : D27) : Option ref20_with_R :=
 let x5 := ([(w64 ((w64 (lo_2.2.2.1.toNat : Int)) - (1 : Int))), (w64 ((w64 (hi_3.2.2.1.toNat : Int)) - (1 : Int)))] : List Int)
 bif (decide (k_1 = (0 : Int))) then
 some (((lo_2, hi_3, b_0.2.2.1, b_0.2.2.2.1, b_0.2.2.2.2.1, b_0.2.2.2.2.2.1, b_0.2.2.2.2.2.2.1, b_0.2.2.2.2.2.2.2.1, ()), ()), (()))
 else
 bif (decide (k_1 = (1 : Int))) then
 some (((b_0.1, b_0.2.1, lo_2, hi_3, b_0.2.2.2.2.1, b_0.2.2.2.2.2.1, b_0.2.2.2.2.2.2.1, b_0.2.2.2.2.2.2.2.1, ()), ()), (()))
 else
 bif (decide (k_1 = (2 : Int))) then
 some (((b_0.1, b_0.2.1, b_0.2.2.1, b_0.2.2.2.1, (x5.getD 0 (0 : Int)), (x5.getD 1 (0 : Int)), b_0.2.2.2.2.2.2.1, b_0.2.2.2.2.2.2.2.1, ()), ()), (()))
 else
 bif (decide (k_1 = (3 : Int))) then
 some (((b_0.1, b_0.2.1, b_0.2.2.1, b_0.2.2.2.1, b_0.2.2.2.2.1, b_0.2.2.2.2.2.1, x5, b_0.2.2.2.2.2.2.2.1, ()), ()), (()))
 else
 some (((b_0.1, b_0.2.1, b_0.2.2.1, b_0.2.2.2.1, b_0.2.2.2.2.1, b_0.2.2.2.2.2.1, b_0.2.2.2.2.2.2.1, x5, ()), ()), (()))
def ref20_with_C (N : Nat) : Ctx := ⟨47, G_tys, [], G_globs, G_ifs⟩
def ref20_with_S0 : Spec := ⟨[.val T45, .val .i64, .val T27, .val T27], []⟩
def ref20_with_S1 : Spec := ⟨[.fp T45], []⟩
def ref20_with_K (_N : Nat) : XE → GS → Option ref20_with_R := retK 0 [8] [true] ref20_with_S1
def ref20_with_L : List Code := (bodyOf (some Try.f98))
theorem ref20_with_b {E : Env} (N : Nat) (hb : Base Try.prog (ref20_with_C N) E 0) : Blk Try.prog (ref20_with_C N) E (List.range ref20_with_S0.ks.length) ref20_with_S0 (ref20_with_L.drop 0) (fun y => ref20_with N y.1.1 y.1.2.1 y.1.2.2.1 y.1.2.2.2.1) (ref20_with_K N) :=
 Blk.chunkAt hb 6 (X := (ref20_with_K N .normal)) (NxOk.end (by kernel_rfl)) rfl (fun x => by kernel_rfl)
def ref20_with_ctr (N : Nat) : Ctr := ⟨ref20_with_S0, ref20_with_S1.un [true], 0, (fun y => ref20_with N y.1.1 y.1.2.1 y.1.2.2.1 y.1.2.2.2.1)⟩
theorem ref20_with_ctrs (N : Nat) : CtrsOk Try.prog (ref20_with_C N) := ctrs_nil G_ifs_ok rfl
theorem ref20_with_ok (N : Nat) : Ctr.ok Try.prog G_globs 98 (ref20_with_ctr N) :=
 ctr_fn (Γ := ref20_with_C N) (rfit := ref20_with_S1) (bs := [true]) (res := [8]) (by kernel_rfl) (tys_ok G_tys_ok) (ref20_with_ctrs N) Try.func98 (by kernel_rfl) (by kernel_rfl) Try.ntmps98 (by kernel_rfl) (by kernel_rfl) (by kernel_rfl) (by kernel_rfl) (fun E hb => ref20_with_b N hb)
/-! ipsecgate/ipsecgateref20.Meet -/
abbrev ref20_Meet_R : Type := ((D45 × Bool × Unit) × (Unit))
def ref20_Meet_s2 (N : Nat) (k_7 : Int) (a_2 : D45) (b_3 : D45) (t_4 : D45) (c_6 : D45) : Option (Lo ((Int × Unit) × (D45 × D45 × D45 × D45 × Unit)) ((Unit) × (D45 × D45 × Unit)) ref20_Meet_R) :=
 bif (decide (k_7 < (5 : Int))) then
 Option.bind (ref20_low N a_2 k_7) fun y3 =>
 Option.bind (ref20_low N b_3 k_7) fun y4 =>
 Option.bind (ref05_Greater N y3.1.1 y4.1.1) fun y5 =>
 Option.bind (ref20_high N a_2 k_7) fun y6 =>
 Option.bind (ref20_high N b_3 k_7) fun y7 =>
 Option.bind (ref05_Smaller N y6.1.1 y7.1.1) fun y8 =>
 Option.bind (ref05_Less N y8.1.1 y5.1.1) fun y9 =>
 bif y9.1.1 then
 some (.rt (((((0 : Int), (0 : UInt64), (0 : UInt64), ()), ((0 : Int), (0 : UInt64), (0 : UInt64), ()), ((0 : Int), (0 : UInt64), (0 : UInt64), ()), ((0 : Int), (0 : UInt64), (0 : UInt64), ()), (0 : Int), (0 : Int), (List.replicate 2 (0 : Int)), (List.replicate 2 (0 : Int)), ()), false, ()), (())))
 else
 Option.bind (ref20_with N c_6 k_7 y5.1.1 y8.1.1) fun y10 =>
 some (.go (((w64 (k_7 + (1 : Int))), ()), (a_2, b_3, t_4, y10.1.1, ())))
 else
 some (.br ((()), (t_4, c_6, ())))
def ref20_Meet_3 (N : Nat) (t_4 : D45) (c_6 : D45) : Option ref20_Meet_R :=
 some ((c_6, true, ()), (()))
def ref20_Meet_1 (N : Nat) (k_7 : Int) (a_2 : D45) (b_3 : D45) (t_4 : D45) (c_6 : D45) : Option ref20_Meet_R :=
 loopK N (fun y => ref20_Meet_s2 N y.1.1 y.2.1 y.2.2.1 y.2.2.2.1 y.2.2.2.2.1) (fun (e : ((Unit) × (D45 × D45 × Unit))) => ref20_Meet_3 N e.2.1 e.2.2.1) ((k_7, ()), (a_2, b_3, t_4, c_6, ()))
def ref20_Meet (N : Nat) (a_0 : D45) (b_1 : D45) : Option ref20_Meet_R :=
 bif (!(decide (a_0.1.1 = b_1.1.1))) then
 some (((((0 : Int), (0 : UInt64), (0 : UInt64), ()), ((0 : Int), (0 : UInt64), (0 : UInt64), ()), ((0 : Int), (0 : UInt64), (0 : UInt64), ()), ((0 : Int), (0 : UInt64), (0 : UInt64), ()), (0 : Int), (0 : Int), (List.replicate 2 (0 : Int)), (List.replicate 2 (0 : Int)), ()), false, ()), (()))
 else
 ref20_Meet_1 N (0 : Int) a_0 b_1 (((0 : Int), (0 : UInt64), (0 : UInt64), ()), ((0 : Int), (0 : UInt64), (0 : UInt64), ()), ((0 : Int), (0 : UInt64), (0 : UInt64), ()), ((0 : Int), (0 : UInt64), (0 : UInt64), ()), (0 : Int), (0 : Int), (List.replicate 2 (0 : Int)), (List.replicate 2 (0 : Int)), ()) a_0
def ref20_Meet_C (N : Nat) : Ctx := ⟨47, G_tys, [(94, ref20_low_ctr N), (93, ref05_Greater_ctr N), (96, ref20_high_ctr N), (95, ref05_Smaller_ctr N), (97, ref05_Less_ctr N), (98, ref20_with_ctr N)], G_globs, G_ifs⟩
def ref20_Meet_S0 : Spec := ⟨[.ref 0 T45, .ref 1 T45, .ref 2 T45, .ref 3 T45, .val .i64], [(.box 46 T45, .pos 0), (.box 46 T45, .pos 1), (.box 46 T45, .pos 2), (.box 46 T45, .pos 3)]⟩
def ref20_Meet_S1 : Spec := ⟨[.ref 0 T45, .ref 1 T45], [(.box 46 T45, .pos 0), (.box 46 T45, .pos 1)]⟩
def ref20_Meet_S2 : Spec := ⟨[.val T45, .val T45], []⟩
def ref20_Meet_S3 : Spec := ⟨[.fp T45, .val .bool], []⟩
def ref20_Meet_K (_N : Nat) : XE → GS → Option ref20_Meet_R := retK 0 [4, 5] [true, false] ref20_Meet_S3
def ref20_Meet_L : List Code := (bodyOf (some Try.f45))
def ref20_Meet_L2 : List Code := (loopOf (ref20_Meet_L[5]?))
def ref20_Meet_K2 (N : Nat) : XE → GS → Option (Lo ((Int × Unit) × (D45 × D45 × D45 × D45 × Unit)) ((Unit) × (D45 × D45 × Unit)) ref20_Meet_R) := roundK (some 0) (fit 0 [2, 3, 4, 6, 7] ref20_Meet_S0) (fit 0 [4, 6] ref20_Meet_S1) (ref20_Meet_K N)
theorem ref20_Meet_s2_b {E : Env} (N : Nat) (hb : Base Try.prog (ref20_Meet_C N) E 0) : Blk Try.prog (ref20_Meet_C N) E [2, 3, 4, 6, 7] ref20_Meet_S0 (ref20_Meet_L2.drop 0) (fun y => ref20_Meet_s2 N y.1.1 y.2.1 y.2.2.1 y.2.2.2.1 y.2.2.2.2.1) (ref20_Meet_K2 N) :=
 Blk.chunkAt hb 4 (X := (ref20_Meet_K2 N .normal)) (NxOk.end (by kernel_rfl)) rfl (fun x => by kernel_rfl)
theorem ref20_Meet_3_b {E : Env} (N : Nat) (hb : Base Try.prog (ref20_Meet_C N) E 0) : Blk Try.prog (ref20_Meet_C N) E [4, 6] ref20_Meet_S1 (ref20_Meet_L.drop 6) (fun y => ref20_Meet_3 N y.2.1 y.2.2.1) (ref20_Meet_K N) :=
 Blk.chunkAt hb 2 (X := (ref20_Meet_K N .normal)) (NxOk.end (by kernel_rfl)) rfl (fun x => by kernel_rfl)
theorem ref20_Meet_1_b {E : Env} (N : Nat) (hb : Base Try.prog (ref20_Meet_C N) E 0) : Blk Try.prog (ref20_Meet_C N) E [2, 3, 4, 6, 7] ref20_Meet_S0 (ref20_Meet_L.drop 5) (fun y => ref20_Meet_1 N y.1.1 y.2.1 y.2.2.1 y.2.2.2.1 y.2.2.2.2.1) (ref20_Meet_K N) :=
 Blk.loopAt (Nf := N) (hns := [2, 3, 4, 6, 7]) (ans := [4, 6]) (hc := ref20_Meet_S0) (ac := ref20_Meet_S1) (bid := 0) (step := (fun y => ref20_Meet_s2 N y.1.1 y.2.1 y.2.2.1 y.2.2.2.1 y.2.2.2.2.1)) (J := (fun e => (goK 0 [4, 6] ref20_Meet_S1 (fun y => ref20_Meet_3 N y.2.1 y.2.2.1)) (ref20_Meet_S1.st [4, 6] e))) hb (by kernel_rfl) (Blk.into (X := (goK 0 [4, 6] ref20_Meet_S1 (fun y => ref20_Meet_3 N y.2.1 y.2.2.1))) (NxOk.go hb (ref20_Meet_3_b N hb)) (fun x => by kernel_rfl)) (ref20_Meet_s2_b N hb) (fun x => by kernel_rfl)
theorem ref20_Meet_b {E : Env} (N : Nat) (hb : Base Try.prog (ref20_Meet_C N) E 0) : Blk Try.prog (ref20_Meet_C N) E (List.range ref20_Meet_S2.ks.length) ref20_Meet_S2 (ref20_Meet_L.drop 0) (fun y => ref20_Meet N y.1.1 y.1.2.1) (ref20_Meet_K N) :=
 Blk.chunkAt hb 5 (X := (goK 0 [2, 3, 4, 6, 7] ref20_Meet_S0 (fun y => ref20_Meet_1 N y.1.1 y.2.1 y.2.2.1 y.2.2.2.1 y.2.2.2.2.1))) (NxOk.go hb (ref20_Meet_1_b N hb)) rfl (fun x => by kernel_rfl)
def ref20_Meet_ctr (N : Nat) : Ctr := ⟨ref20_Meet_S2, ref20_Meet_S3.un [true, false], 0, (fun y => ref20_Meet N y.1.1 y.1.2.1)⟩
theorem ref20_Meet_ctrs (N : Nat) : CtrsOk Try.prog (ref20_Meet_C N) := ctrs_of (Γ := ref20_Meet_C N) G_ifs_ok (by
 intro p hp
 simp only [ref20_Meet_C, List.mem_cons, List.not_mem_nil, or_false] at hp
 rcases hp with rfl | rfl | rfl | rfl | rfl | rfl
 · exact ref20_low_ok N
 · exact ref05_Greater_ok N
 · exact ref20_high_ok N
 · exact ref05_Smaller_ok N
 · exact ref05_Less_ok N
 · exact ref20_with_ok N)
theorem ref20_Meet_ok (N : Nat) : Ctr.ok Try.prog G_globs 45 (ref20_Meet_ctr N) :=
 ctr_fn (Γ := ref20_Meet_C N) (rfit := ref20_Meet_S3) (bs := [true, false]) (res := [4, 5]) (by kernel_rfl) (tys_ok G_tys_ok) (ref20_Meet_ctrs N) Try.func45 (by kernel_rfl) (by kernel_rfl) Try.ntmps45 (by kernel_rfl) (by kernel_rfl) (by kernel_rfl) (by kernel_rfl) (fun E hb => ref20_Meet_b N hb)
/-! ipsecgate/ipsecgateref20.back -/
abbrev ref20_back_R : Type := (D207 × (Unit))
def ref20_back_1 (N : Nat) (a_1 : D27) (t_2 : D27) : Option ref20_back_R :=
 some (((a_1.1, a_1.2.1, (a_1.2.2.1 - (1 : UInt64)), ()), ()), (()))
def ref20_back (N : Nat) (a_0 : D27) : Option ref20_back_R :=
 bif (decide (a_0.2.2.1 = (0 : UInt64))) then
 ref20_back_1 N (a_0.1, (a_0.2.1 - (1 : UInt64)), a_0.2.2.1, ()) ((0 : Int), (0 : UInt64), (0 : UInt64), ())
 else
 ref20_back_1 N a_0 ((0 : Int), (0 : UInt64), (0 : UInt64), ())
def ref20_back_C (N : Nat) : Ctx := ⟨15, G_tys, [], G_globs, G_ifs⟩
def ref20_back_S0 : Spec := ⟨[.ref 0 T27, .ref 1 T27], [(.box 28 T27, .pos 0), (.box 28 T27, .pos 1)]⟩
def ref20_back_S1 : Spec := ⟨[.val T27], []⟩
def ref20_back_S2 : Spec := ⟨[.fp T27], []⟩
def ref20_back_K (_N : Nat) : XE → GS → Option ref20_back_R := retK 0 [2] [true] ref20_back_S2
def ref20_back_L : List Code := (bodyOf (some Try.f101))
theorem ref20_back_1_b {E : Env} (N : Nat) (hb : Base Try.prog (ref20_back_C N) E 0) : Blk Try.prog (ref20_back_C N) E [1, 2] ref20_back_S0 (ref20_back_L.drop 3) (fun y => ref20_back_1 N y.2.1 y.2.2.1) (ref20_back_K N) :=
 Blk.chunkAt hb 3 (X := (ref20_back_K N .normal)) (NxOk.end (by kernel_rfl)) rfl (fun x => by kernel_rfl)
theorem ref20_back_b {E : Env} (N : Nat) (hb : Base Try.prog (ref20_back_C N) E 0) : Blk Try.prog (ref20_back_C N) E (List.range ref20_back_S1.ks.length) ref20_back_S1 (ref20_back_L.drop 0) (fun y => ref20_back N y.1.1) (ref20_back_K N) :=
 Blk.chunkAt hb 3 (X := (goK 0 [1, 2] ref20_back_S0 (fun y => ref20_back_1 N y.2.1 y.2.2.1))) (NxOk.go hb (ref20_back_1_b N hb)) rfl (fun x => by kernel_rfl)
def ref20_back_ctr (N : Nat) : Ctr := ⟨ref20_back_S1, ref20_back_S2.un [true], 0, (fun y => ref20_back N y.1.1)⟩
theorem ref20_back_ctrs (N : Nat) : CtrsOk Try.prog (ref20_back_C N) := ctrs_nil G_ifs_ok rfl
theorem ref20_back_ok (N : Nat) : Ctr.ok Try.prog G_globs 101 (ref20_back_ctr N) :=
 ctr_fn (Γ := ref20_back_C N) (rfit := ref20_back_S2) (bs := [true]) (res := [2]) (by kernel_rfl) (tys_ok G_tys_ok) (ref20_back_ctrs N) Try.func101 (by kernel_rfl) (by kernel_rfl) Try.ntmps101 (by kernel_rfl) (by kernel_rfl) (by kernel_rfl) (by kernel_rfl) (fun E hb => ref20_back_b N hb)
/-! ipsecgate/ipsecgateref20.on -/
abbrev ref20_on_R : Type := (D207 × (Unit))
def ref20_on (N : Nat) (a_0 : D27) : Option ref20_on_R :=
 let x1 := a_0.2.2.1 + (1 : UInt64)
 bif (decide (x1 = (0 : UInt64))) then
 some (((a_0.1, (a_0.2.1 + (1 : UInt64)), x1, ()), ()), (()))
 else
 some (((a_0.1, a_0.2.1, x1, ()), ()), (()))
def ref20_on_C (N : Nat) : Ctx := ⟨15, G_tys, [], G_globs, G_ifs⟩
def ref20_on_S0 : Spec := ⟨[.val T27], []⟩
def ref20_on_S1 : Spec := ⟨[.fp T27], []⟩
def ref20_on_K (_N : Nat) : XE → GS → Option ref20_on_R := retK 0 [2] [true] ref20_on_S1
def ref20_on_L : List Code := (bodyOf (some Try.f102))
theorem ref20_on_b {E : Env} (N : Nat) (hb : Base Try.prog (ref20_on_C N) E 0) : Blk Try.prog (ref20_on_C N) E (List.range ref20_on_S0.ks.length) ref20_on_S0 (ref20_on_L.drop 0) (fun y => ref20_on N y.1.1) (ref20_on_K N) :=
 Blk.chunkAt hb 6 (X := (ref20_on_K N .normal)) (NxOk.end (by kernel_rfl)) rfl (fun x => by kernel_rfl)
def ref20_on_ctr (N : Nat) : Ctr := ⟨ref20_on_S0, ref20_on_S1.un [true], 0, (fun y => ref20_on N y.1.1)⟩
theorem ref20_on_ctrs (N : Nat) : CtrsOk Try.prog (ref20_on_C N) := ctrs_nil G_ifs_ok rfl
theorem ref20_on_ok (N : Nat) : Ctr.ok Try.prog G_globs 102 (ref20_on_ctr N) :=
 ctr_fn (Γ := ref20_on_C N) (rfit := ref20_on_S1) (bs := [true]) (res := [2]) (by kernel_rfl) (tys_ok G_tys_ok) (ref20_on_ctrs N) Try.func102 (by kernel_rfl) (by kernel_rfl) Try.ntmps102 (by kernel_rfl) (by kernel_rfl) (by kernel_rfl) (by kernel_rfl) (fun E hb => ref20_on_b N hb)
/-! ipsecgate/ipsecgateref20.Minus -/
abbrev ref20_Minus_R : Type := ((Unit) × ((List D45) × Unit))
def ref20_Minus_s2 (N : Nat) (k_9 : Int) (m_5 : D45) (out_7 : (List D45)) (c_8 : D45) : Option (Lo ((Int × Unit) × (D45 × (List D45) × D45 × Unit)) ((Unit) × ((List D45) × Unit)) ref20_Minus_R) :=
 bif (decide (k_9 < (5 : Int))) then
 Option.bind (ref20_low N c_8 k_9) fun y4 =>
 Option.bind (ref20_low N m_5 k_9) fun y5 =>
 Option.bind (ref05_Less N y4.1.1 y5.1.1) fun y6 =>
 bif y6.1.1 then
 Option.bind (ref20_low N c_8 k_9) fun y7 =>
 Option.bind (ref20_low N m_5 k_9) fun y8 =>
 Option.bind (ref20_back N y8.1.1) fun y9 =>
 Option.bind (ref20_with N c_8 k_9 y7.1.1 y9.1.1) fun y10 =>
 bif room (out_7.length + ([y10.1.1] : List D45).length) 144 then
 let x11 := out_7 ++ ([y10.1.1] : List D45)
 Option.bind (ref20_high N m_5 k_9) fun y12 =>
 Option.bind (ref20_high N c_8 k_9) fun y13 =>
 Option.bind (ref05_Less N y12.1.1 y13.1.1) fun y14 =>
 bif y14.1.1 then
 Option.bind (ref20_high N m_5 k_9) fun y15 =>
 Option.bind (ref20_on N y15.1.1) fun y16 =>
 Option.bind (ref20_high N c_8 k_9) fun y17 =>
 Option.bind (ref20_with N c_8 k_9 y16.1.1 y17.1.1) fun y18 =>
 bif room (x11.length + ([y18.1.1] : List D45).length) 144 then
 Option.bind (ref20_low N m_5 k_9) fun y20 =>
 Option.bind (ref20_high N m_5 k_9) fun y21 =>
 Option.bind (ref20_with N c_8 k_9 y20.1.1 y21.1.1) fun y22 =>
 some (.go (((w64 (k_9 + (1 : Int))), ()), (m_5, (x11 ++ ([y18.1.1] : List D45)), y22.1.1, ())))
 else none
 else
 Option.bind (ref20_low N m_5 k_9) fun y24 =>
 Option.bind (ref20_high N m_5 k_9) fun y25 =>
 Option.bind (ref20_with N c_8 k_9 y24.1.1 y25.1.1) fun y26 =>
 some (.go (((w64 (k_9 + (1 : Int))), ()), (m_5, x11, y26.1.1, ())))
 else none
 else
 Option.bind (ref20_high N m_5 k_9) fun y28 =>
 Option.bind (ref20_high N c_8 k_9) fun y29 =>
 Option.bind (ref05_Less N y28.1.1 y29.1.1) fun y30 =>
 bif y30.1.1 then
 Option.bind (ref20_high N m_5 k_9) fun y31 =>
 Option.bind (ref20_on N y31.1.1) fun y32 =>
 Option.bind (ref20_high N c_8 k_9) fun y33 =>
 Option.bind (ref20_with N c_8 k_9 y32.1.1 y33.1.1) fun y34 =>
 bif room (out_7.length + ([y34.1.1] : List D45).length) 144 then
 Option.bind (ref20_low N m_5 k_9) fun y36 =>
 Option.bind (ref20_high N m_5 k_9) fun y37 =>
 Option.bind (ref20_with N c_8 k_9 y36.1.1 y37.1.1) fun y38 =>
 some (.go (((w64 (k_9 + (1 : Int))), ()), (m_5, (out_7 ++ ([y34.1.1] : List D45)), y38.1.1, ())))
 else none
 else
 Option.bind (ref20_low N m_5 k_9) fun y40 =>
 Option.bind (ref20_high N m_5 k_9) fun y41 =>
 Option.bind (ref20_with N c_8 k_9 y40.1.1 y41.1.1) fun y42 =>
 some (.go (((w64 (k_9 + (1 : Int))), ()), (m_5, out_7, y42.1.1, ())))
 else
 some (.br ((()), (out_7, ())))
def ref20_Minus_3 (N : Nat) (out_7 : (List D45)) : Option ref20_Minus_R :=
 some ((()), (out_7, ()))
def ref20_Minus_1 (N : Nat) (k_9 : Int) (m_5 : D45) (out_7 : (List D45)) (c_8 : D45) : Option ref20_Minus_R :=
 loopK N (fun y => ref20_Minus_s2 N y.1.1 y.2.1 y.2.2.1 y.2.2.2.1) (fun (e : ((Unit) × ((List D45) × Unit))) => ref20_Minus_3 N e.2.1) ((k_9, ()), (m_5, out_7, c_8, ()))
def ref20_Minus (N : Nat) (a_0 : D45) (b_1 : D45) : Option ref20_Minus_R :=
 Option.bind (ref20_Meet N a_0 b_1) fun y1 =>
 bif (!y1.1.2.1) then
 some ((()), (([a_0] : List D45), ()))
 else
 ref20_Minus_1 N (0 : Int) y1.1.1 ([] : List D45) a_0
def ref20_Minus_C (N : Nat) : Ctx := ⟨75, G_tys, [(45, ref20_Meet_ctr N), (94, ref20_low_ctr N), (97, ref05_Less_ctr N), (101, ref20_back_ctr N), (98, ref20_with_ctr N), (96, ref20_high_ctr N), (102, ref20_on_ctr N)], G_globs, G_ifs⟩
def ref20_Minus_S0 : Spec := ⟨[.ref 0 T45, .row 1, .ref 2 T45, .val .i64], [(.box 46 T45, .pos 0), (.row 46 T45, .pos 1), (.box 46 T45, .pos 2)]⟩
def ref20_Minus_S1 : Spec := ⟨[.row 0], [(.row 46 T45, .pos 0)]⟩
def ref20_Minus_S2 : Spec := ⟨[.val T45, .val T45], []⟩
def ref20_Minus_K (_N : Nat) : XE → GS → Option ref20_Minus_R := retK 0 [4] [false] ref20_Minus_S1
def ref20_Minus_L : List Code := (bodyOf (some Try.f48))
def ref20_Minus_L2 : List Code := (loopOf (ref20_Minus_L[7]?))
def ref20_Minus_K2 (N : Nat) : XE → GS → Option (Lo ((Int × Unit) × (D45 × (List D45) × D45 × Unit)) ((Unit) × ((List D45) × Unit)) ref20_Minus_R) := roundK (some 0) (fit 0 [5, 7, 8, 9] ref20_Minus_S0) (fit 0 [7] ref20_Minus_S1) (ref20_Minus_K N)
theorem ref20_Minus_s2_b {E : Env} (N : Nat) (hb : Base Try.prog (ref20_Minus_C N) E 0) : Blk Try.prog (ref20_Minus_C N) E [5, 7, 8, 9] ref20_Minus_S0 (ref20_Minus_L2.drop 0) (fun y => ref20_Minus_s2 N y.1.1 y.2.1 y.2.2.1 y.2.2.2.1) (ref20_Minus_K2 N) :=
 Blk.chunkAt hb 4 (X := (ref20_Minus_K2 N .normal)) (NxOk.end (by kernel_rfl)) rfl (fun x => by kernel_rfl)
theorem ref20_Minus_3_b {E : Env} (N : Nat) (hb : Base Try.prog (ref20_Minus_C N) E 0) : Blk Try.prog (ref20_Minus_C N) E [7] ref20_Minus_S1 (ref20_Minus_L.drop 8) (fun y => ref20_Minus_3 N y.2.1) (ref20_Minus_K N) :=
 Blk.chunkAt hb 2 (X := (ref20_Minus_K N .normal)) (NxOk.end (by kernel_rfl)) rfl (fun x => by kernel_rfl)
theorem ref20_Minus_1_b {E : Env} (N : Nat) (hb : Base Try.prog (ref20_Minus_C N) E 0) : Blk Try.prog (ref20_Minus_C N) E [5, 7, 8, 9] ref20_Minus_S0 (ref20_Minus_L.drop 7) (fun y => ref20_Minus_1 N y.1.1 y.2.1 y.2.2.1 y.2.2.2.1) (ref20_Minus_K N) :=
 Blk.loopAt (Nf := N) (hns := [5, 7, 8, 9]) (ans := [7]) (hc := ref20_Minus_S0) (ac := ref20_Minus_S1) (bid := 0) (step := (fun y => ref20_Minus_s2 N y.1.1 y.2.1 y.2.2.1 y.2.2.2.1)) (J := (fun e => (goK 0 [7] ref20_Minus_S1 (fun y => ref20_Minus_3 N y.2.1)) (ref20_Minus_S1.st [7] e))) hb (by kernel_rfl) (Blk.into (X := (goK 0 [7] ref20_Minus_S1 (fun y => ref20_Minus_3 N y.2.1))) (NxOk.go hb (ref20_Minus_3_b N hb)) (fun x => by kernel_rfl)) (ref20_Minus_s2_b N hb) (fun x => by kernel_rfl)
theorem ref20_Minus_b {E : Env} (N : Nat) (hb : Base Try.prog (ref20_Minus_C N) E 0) : Blk Try.prog (ref20_Minus_C N) E (List.range ref20_Minus_S2.ks.length) ref20_Minus_S2 (ref20_Minus_L.drop 0) (fun y => ref20_Minus N y.1.1 y.1.2.1) (ref20_Minus_K N) :=
 Blk.chunkAt hb 7 (X := (goK 0 [5, 7, 8, 9] ref20_Minus_S0 (fun y => ref20_Minus_1 N y.1.1 y.2.1 y.2.2.1 y.2.2.2.1))) (NxOk.go hb (ref20_Minus_1_b N hb)) rfl (fun x => by kernel_rfl)
def ref20_Minus_ctr (N : Nat) : Ctr := ⟨ref20_Minus_S2, ref20_Minus_S1.un [false], 0, (fun y => ref20_Minus N y.1.1 y.1.2.1)⟩
theorem ref20_Minus_ctrs (N : Nat) : CtrsOk Try.prog (ref20_Minus_C N) := ctrs_of (Γ := ref20_Minus_C N) G_ifs_ok (by
 intro p hp
 simp only [ref20_Minus_C, List.mem_cons, List.not_mem_nil, or_false] at hp
 rcases hp with rfl | rfl | rfl | rfl | rfl | rfl | rfl
 · exact ref20_Meet_ok N
 · exact ref20_low_ok N
 · exact ref05_Less_ok N
 · exact ref20_back_ok N
 · exact ref20_with_ok N
 · exact ref20_high_ok N
 · exact ref20_on_ok N)
theorem ref20_Minus_ok (N : Nat) : Ctr.ok Try.prog G_globs 48 (ref20_Minus_ctr N) :=
 ctr_fn (Γ := ref20_Minus_C N) (rfit := ref20_Minus_S1) (bs := [false]) (res := [4]) (by kernel_rfl) (tys_ok G_tys_ok) (ref20_Minus_ctrs N) Try.func48 (by kernel_rfl) (by kernel_rfl) Try.ntmps48 (by kernel_rfl) (by kernel_rfl) (by kernel_rfl) (by kernel_rfl) (fun E hb => ref20_Minus_b N hb)
/-! ipsecgate/ipsecgateref20.Entries -/
abbrev ref20_Entries_R : Type := ((Int × Unit) × ((List D85) × Unit))
def ref20_Entries_s17 (N : Nat) (l_0 : (List D59)) (i_6 : Int) (k_7 : Int) (j_9 : Int) (q_11 : Int) (out_5 : (List D85)) (pieces_8 : (List D45)) (next_10 : (List D45)) : Option (Lo (((List D59) × Int × Int × Int × Int × Unit) × ((List D85) × (List D45) × (List D45) × Unit)) (((List D59) × Int × Int × Int × Unit) × ((List D85) × (List D45) × Unit)) (Lo (((List D59) × Int × Int × Int × Unit) × ((List D85) × (List D45) × Unit)) (((List D59) × Int × Int × Unit) × ((List D85) × (List D45) × Unit)) (Lo (((List D59) × Int × Int × Unit) × ((List D85) × Unit)) (((List D59) × Int × Unit) × ((List D85) × Unit)) (Lo (((List D59) × Int × Unit) × ((List D85) × Unit)) ((Unit) × ((List D85) × Unit)) ref20_Entries_R)))) :=
 bif (decide (q_11 < (pieces_8.length : Int))) then
 bif inR q_11 pieces_8.length then
 bif inR j_9 out_5.length then
 Option.bind (ref20_Minus N (pieces_8.getD q_11.toNat (((0 : Int), (0 : UInt64), (0 : UInt64), ()), ((0 : Int), (0 : UInt64), (0 : UInt64), ()), ((0 : Int), (0 : UInt64), (0 : UInt64), ()), ((0 : Int), (0 : UInt64), (0 : UInt64), ()), (0 : Int), (0 : Int), (List.replicate 2 (0 : Int)), (List.replicate 2 (0 : Int)), ())) ((out_5.getD j_9.toNat ((((0 : Int), (0 : UInt64), (0 : UInt64), ()), ((0 : Int), (0 : UInt64), (0 : UInt64), ()), ((0 : Int), (0 : UInt64), (0 : UInt64), ()), ((0 : Int), (0 : UInt64), (0 : UInt64), ()), (0 : Int), (0 : Int), (List.replicate 2 (0 : Int)), (List.replicate 2 (0 : Int)), ()), (0 : Int), ())).1)) fun y16 =>
 bif room (next_10.length + y16.2.1.length) 144 then
 some (.go ((l_0, i_6, k_7, j_9, (w64 (q_11 + (1 : Int))), ()), (out_5, pieces_8, (next_10 ++ y16.2.1), ())))
 else none
 else none
 else none
 else
 some (.br ((l_0, i_6, k_7, j_9, ()), (out_5, next_10, ())))
def ref20_Entries_19 (N : Nat) (l_0 : (List D59)) (i_6 : Int) (k_7 : Int) (j_9 : Int) (out_5 : (List D85)) (pieces_8 : (List D45)) : Option (Lo (((List D59) × Int × Int × Int × Unit) × ((List D85) × (List D45) × Unit)) (((List D59) × Int × Int × Unit) × ((List D85) × (List D45) × Unit)) (Lo (((List D59) × Int × Int × Unit) × ((List D85) × Unit)) (((List D59) × Int × Unit) × ((List D85) × Unit)) (Lo (((List D59) × Int × Unit) × ((List D85) × Unit)) ((Unit) × ((List D85) × Unit)) ref20_Entries_R))) :=
 some (.go ((l_0, i_6, k_7, (w64 (j_9 + (1 : Int))), ()), (out_5, pieces_8, ())))
def ref20_Entries_18 (N : Nat) (l_0 : (List D59)) (i_6 : Int) (k_7 : Int) (j_9 : Int) (out_5 : (List D85)) (next_10 : (List D45)) : Option (Lo (((List D59) × Int × Int × Int × Unit) × ((List D85) × (List D45) × Unit)) (((List D59) × Int × Int × Unit) × ((List D85) × (List D45) × Unit)) (Lo (((List D59) × Int × Int × Unit) × ((List D85) × Unit)) (((List D59) × Int × Unit) × ((List D85) × Unit)) (Lo (((List D59) × Int × Unit) × ((List D85) × Unit)) ((Unit) × ((List D85) × Unit)) ref20_Entries_R))) :=
 bif (decide ((400 : Int) < (next_10.length : Int))) then
 some (.rt (.rt (.rt (((10 : Int), ()), (([] : List D85), ())))))
 else
 ref20_Entries_19 N l_0 i_6 k_7 j_9 out_5 next_10
def ref20_Entries_16 (N : Nat) (l_0 : (List D59)) (i_6 : Int) (k_7 : Int) (j_9 : Int) (q_11 : Int) (out_5 : (List D85)) (pieces_8 : (List D45)) (next_10 : (List D45)) : Option (Lo (((List D59) × Int × Int × Int × Unit) × ((List D85) × (List D45) × Unit)) (((List D59) × Int × Int × Unit) × ((List D85) × (List D45) × Unit)) (Lo (((List D59) × Int × Int × Unit) × ((List D85) × Unit)) (((List D59) × Int × Unit) × ((List D85) × Unit)) (Lo (((List D59) × Int × Unit) × ((List D85) × Unit)) ((Unit) × ((List D85) × Unit)) ref20_Entries_R))) :=
 loopK N (fun y => ref20_Entries_s17 N y.1.1 y.1.2.1 y.1.2.2.1 y.1.2.2.2.1 y.1.2.2.2.2.1 y.2.1 y.2.2.1 y.2.2.2.1) (fun (e : (((List D59) × Int × Int × Int × Unit) × ((List D85) × (List D45) × Unit))) => ref20_Entries_18 N e.1.1 e.1.2.1 e.1.2.2.1 e.1.2.2.2.1 e.2.1 e.2.2.1) ((l_0, i_6, k_7, j_9, q_11, ()), (out_5, pieces_8, next_10, ()))
def ref20_Entries_15 (N : Nat) (l_0 : (List D59)) (i_6 : Int) (k_7 : Int) (j_9 : Int) (out_5 : (List D85)) (pieces_8 : (List D45)) : Option (Lo (((List D59) × Int × Int × Int × Unit) × ((List D85) × (List D45) × Unit)) (((List D59) × Int × Int × Unit) × ((List D85) × (List D45) × Unit)) (Lo (((List D59) × Int × Int × Unit) × ((List D85) × Unit)) (((List D59) × Int × Unit) × ((List D85) × Unit)) (Lo (((List D59) × Int × Unit) × ((List D85) × Unit)) ((Unit) × ((List D85) × Unit)) ref20_Entries_R))) :=
 ref20_Entries_16 N l_0 i_6 k_7 j_9 (0 : Int) out_5 pieces_8 ([] : List D45)
def ref20_Entries_13 (N : Nat) (l_0 : (List D59)) (i_6 : Int) (k_7 : Int) (j_9 : Int) (out_5 : (List D85)) (pieces_8 : (List D45)) : Option (Lo (((List D59) × Int × Int × Int × Unit) × ((List D85) × (List D45) × Unit)) (((List D59) × Int × Int × Unit) × ((List D85) × (List D45) × Unit)) (Lo (((List D59) × Int × Int × Unit) × ((List D85) × Unit)) (((List D59) × Int × Unit) × ((List D85) × Unit)) (Lo (((List D59) × Int × Unit) × ((List D85) × Unit)) ((Unit) × ((List D85) × Unit)) ref20_Entries_R))) :=
 ref20_Entries_15 N l_0 i_6 k_7 j_9 out_5 pieces_8
def ref20_Entries_s12 (N : Nat) (l_0 : (List D59)) (i_6 : Int) (k_7 : Int) (j_9 : Int) (out_5 : (List D85)) (pieces_8 : (List D45)) : Option (Lo (((List D59) × Int × Int × Int × Unit) × ((List D85) × (List D45) × Unit)) (((List D59) × Int × Int × Unit) × ((List D85) × (List D45) × Unit)) (Lo (((List D59) × Int × Int × Unit) × ((List D85) × Unit)) (((List D59) × Int × Unit) × ((List D85) × Unit)) (Lo (((List D59) × Int × Unit) × ((List D85) × Unit)) ((Unit) × ((List D85) × Unit)) ref20_Entries_R))) :=
 bif (decide (j_9 < (out_5.length : Int))) then
 ref20_Entries_13 N l_0 i_6 k_7 j_9 out_5 pieces_8
 else
 some (.br ((l_0, i_6, k_7, ()), (out_5, pieces_8, ())))
def ref20_Entries_s22 (N : Nat) (l_0 : (List D59)) (i_6 : Int) (k_7 : Int) (q_12 : Int) (out_5 : (List D85)) (pieces_8 : (List D45)) : Option (Lo (((List D59) × Int × Int × Int × Unit) × ((List D85) × (List D45) × Unit)) (((List D59) × Int × Int × Unit) × ((List D85) × Unit)) (Lo (((List D59) × Int × Int × Unit) × ((List D85) × Unit)) (((List D59) × Int × Unit) × ((List D85) × Unit)) (Lo (((List D59) × Int × Unit) × ((List D85) × Unit)) ((Unit) × ((List D85) × Unit)) ref20_Entries_R))) :=
 bif (decide (q_12 < (pieces_8.length : Int))) then
 bif inR q_12 pieces_8.length then
 let x24 := (pieces_8.getD q_12.toNat (((0 : Int), (0 : UInt64), (0 : UInt64), ()), ((0 : Int), (0 : UInt64), (0 : UInt64), ()), ((0 : Int), (0 : UInt64), (0 : UInt64), ()), ((0 : Int), (0 : UInt64), (0 : UInt64), ()), (0 : Int), (0 : Int), (List.replicate 2 (0 : Int)), (List.replicate 2 (0 : Int)), ()))
 bif room (out_5.length + ([(x24, i_6, ())] : List D85).length) 152 then
 some (.go ((l_0, i_6, k_7, (w64 (q_12 + (1 : Int))), ()), ((out_5 ++ ([(x24, i_6, ())] : List D85)), pieces_8, ())))
 else none
 else none
 else
 some (.br ((l_0, i_6, k_7, ()), (out_5, ())))
def ref20_Entries_24 (N : Nat) (l_0 : (List D59)) (i_6 : Int) (k_7 : Int) (out_5 : (List D85)) : Option (Lo (((List D59) × Int × Int × Unit) × ((List D85) × Unit)) (((List D59) × Int × Unit) × ((List D85) × Unit)) (Lo (((List D59) × Int × Unit) × ((List D85) × Unit)) ((Unit) × ((List D85) × Unit)) ref20_Entries_R)) :=
 some (.go ((l_0, i_6, (w64 (k_7 + (1 : Int))), ()), (out_5, ())))
def ref20_Entries_23 (N : Nat) (l_0 : (List D59)) (i_6 : Int) (k_7 : Int) (out_5 : (List D85)) : Option (Lo (((List D59) × Int × Int × Unit) × ((List D85) × Unit)) (((List D59) × Int × Unit) × ((List D85) × Unit)) (Lo (((List D59) × Int × Unit) × ((List D85) × Unit)) ((Unit) × ((List D85) × Unit)) ref20_Entries_R)) :=
 bif (decide ((400 : Int) < (out_5.length : Int))) then
 some (.rt (.rt (((10 : Int), ()), (([] : List D85), ()))))
 else
 ref20_Entries_24 N l_0 i_6 k_7 out_5
def ref20_Entries_21 (N : Nat) (l_0 : (List D59)) (i_6 : Int) (k_7 : Int) (q_12 : Int) (out_5 : (List D85)) (pieces_8 : (List D45)) : Option (Lo (((List D59) × Int × Int × Unit) × ((List D85) × Unit)) (((List D59) × Int × Unit) × ((List D85) × Unit)) (Lo (((List D59) × Int × Unit) × ((List D85) × Unit)) ((Unit) × ((List D85) × Unit)) ref20_Entries_R)) :=
 loopK N (fun y => ref20_Entries_s22 N y.1.1 y.1.2.1 y.1.2.2.1 y.1.2.2.2.1 y.2.1 y.2.2.1) (fun (e : (((List D59) × Int × Int × Unit) × ((List D85) × Unit))) => ref20_Entries_23 N e.1.1 e.1.2.1 e.1.2.2.1 e.2.1) ((l_0, i_6, k_7, q_12, ()), (out_5, pieces_8, ()))
def ref20_Entries_20 (N : Nat) (l_0 : (List D59)) (i_6 : Int) (k_7 : Int) (out_5 : (List D85)) (pieces_8 : (List D45)) : Option (Lo (((List D59) × Int × Int × Unit) × ((List D85) × Unit)) (((List D59) × Int × Unit) × ((List D85) × Unit)) (Lo (((List D59) × Int × Unit) × ((List D85) × Unit)) ((Unit) × ((List D85) × Unit)) ref20_Entries_R)) :=
 ref20_Entries_21 N l_0 i_6 k_7 (0 : Int) out_5 pieces_8
def ref20_Entries_11 (N : Nat) (l_0 : (List D59)) (i_6 : Int) (k_7 : Int) (j_9 : Int) (out_5 : (List D85)) (pieces_8 : (List D45)) : Option (Lo (((List D59) × Int × Int × Unit) × ((List D85) × Unit)) (((List D59) × Int × Unit) × ((List D85) × Unit)) (Lo (((List D59) × Int × Unit) × ((List D85) × Unit)) ((Unit) × ((List D85) × Unit)) ref20_Entries_R)) :=
 loopK N (fun y => ref20_Entries_s12 N y.1.1 y.1.2.1 y.1.2.2.1 y.1.2.2.2.1 y.2.1 y.2.2.1) (fun (e : (((List D59) × Int × Int × Unit) × ((List D85) × (List D45) × Unit))) => ref20_Entries_20 N e.1.1 e.1.2.1 e.1.2.2.1 e.2.1 e.2.2.1) ((l_0, i_6, k_7, j_9, ()), (out_5, pieces_8, ()))
def ref20_Entries_10 (N : Nat) (l_0 : (List D59)) (i_6 : Int) (k_7 : Int) (out_5 : (List D85)) : Option (Lo (((List D59) × Int × Int × Unit) × ((List D85) × Unit)) (((List D59) × Int × Unit) × ((List D85) × Unit)) (Lo (((List D59) × Int × Unit) × ((List D85) × Unit)) ((Unit) × ((List D85) × Unit)) ref20_Entries_R)) :=
 bif inR i_6 l_0.length then
 let x8 := l_0.getD i_6.toNat ((0 : Int), ([] : List UInt8), ([] : List D45), ())
 bif inR k_7 x8.2.2.1.length then
 ref20_Entries_11 N l_0 i_6 k_7 (0 : Int) out_5 ([(x8.2.2.1.getD k_7.toNat (((0 : Int), (0 : UInt64), (0 : UInt64), ()), ((0 : Int), (0 : UInt64), (0 : UInt64), ()), ((0 : Int), (0 : UInt64), (0 : UInt64), ()), ((0 : Int), (0 : UInt64), (0 : UInt64), ()), (0 : Int), (0 : Int), (List.replicate 2 (0 : Int)), (List.replicate 2 (0 : Int)), ()))] : List D45)
 else none
 else none
def ref20_Entries_8 (N : Nat) (l_0 : (List D59)) (i_6 : Int) (k_7 : Int) (out_5 : (List D85)) : Option (Lo (((List D59) × Int × Int × Unit) × ((List D85) × Unit)) (((List D59) × Int × Unit) × ((List D85) × Unit)) (Lo (((List D59) × Int × Unit) × ((List D85) × Unit)) ((Unit) × ((List D85) × Unit)) ref20_Entries_R)) :=
 ref20_Entries_10 N l_0 i_6 k_7 out_5
def ref20_Entries_s7 (N : Nat) (l_0 : (List D59)) (i_6 : Int) (k_7 : Int) (out_5 : (List D85)) : Option (Lo (((List D59) × Int × Int × Unit) × ((List D85) × Unit)) (((List D59) × Int × Unit) × ((List D85) × Unit)) (Lo (((List D59) × Int × Unit) × ((List D85) × Unit)) ((Unit) × ((List D85) × Unit)) ref20_Entries_R)) :=
 bif inR i_6 l_0.length then
 bif (decide (k_7 < ((l_0.getD i_6.toNat ((0 : Int), ([] : List UInt8), ([] : List D45), ())).2.2.1.length : Int))) then
 ref20_Entries_8 N l_0 i_6 k_7 out_5
 else
 some (.br ((l_0, i_6, ()), (out_5, ())))
 else none
def ref20_Entries_25 (N : Nat) (l_0 : (List D59)) (i_6 : Int) (out_5 : (List D85)) : Option (Lo (((List D59) × Int × Unit) × ((List D85) × Unit)) ((Unit) × ((List D85) × Unit)) ref20_Entries_R) :=
 some (.go ((l_0, (w64 (i_6 + (1 : Int))), ()), (out_5, ())))
def ref20_Entries_6 (N : Nat) (l_0 : (List D59)) (i_6 : Int) (k_7 : Int) (out_5 : (List D85)) : Option (Lo (((List D59) × Int × Unit) × ((List D85) × Unit)) ((Unit) × ((List D85) × Unit)) ref20_Entries_R) :=
 loopK N (fun y => ref20_Entries_s7 N y.1.1 y.1.2.1 y.1.2.2.1 y.2.1) (fun (e : (((List D59) × Int × Unit) × ((List D85) × Unit))) => ref20_Entries_25 N e.1.1 e.1.2.1 e.2.1) ((l_0, i_6, k_7, ()), (out_5, ()))
def ref20_Entries_5 (N : Nat) (l_0 : (List D59)) (i_6 : Int) (out_5 : (List D85)) : Option (Lo (((List D59) × Int × Unit) × ((List D85) × Unit)) ((Unit) × ((List D85) × Unit)) ref20_Entries_R) :=
 ref20_Entries_6 N l_0 i_6 (0 : Int) out_5
def ref20_Entries_3 (N : Nat) (l_0 : (List D59)) (i_6 : Int) (out_5 : (List D85)) : Option (Lo (((List D59) × Int × Unit) × ((List D85) × Unit)) ((Unit) × ((List D85) × Unit)) ref20_Entries_R) :=
 ref20_Entries_5 N l_0 i_6 out_5
def ref20_Entries_s2 (N : Nat) (l_0 : (List D59)) (i_6 : Int) (out_5 : (List D85)) : Option (Lo (((List D59) × Int × Unit) × ((List D85) × Unit)) ((Unit) × ((List D85) × Unit)) ref20_Entries_R) :=
 bif (decide (i_6 < (l_0.length : Int))) then
 ref20_Entries_3 N l_0 i_6 out_5
 else
 some (.br ((()), (out_5, ())))
def ref20_Entries_26 (N : Nat) (out_5 : (List D85)) : Option ref20_Entries_R :=
 some (((0 : Int), ()), (out_5, ()))
def ref20_Entries_1 (N : Nat) (l_0 : (List D59)) (i_6 : Int) (out_5 : (List D85)) : Option ref20_Entries_R :=
 loopK N (fun y => ref20_Entries_s2 N y.1.1 y.1.2.1 y.2.1) (fun (e : ((Unit) × ((List D85) × Unit))) => ref20_Entries_26 N e.2.1) ((l_0, i_6, ()), (out_5, ()))
def ref20_Entries (N : Nat) (l_0 : (List D59)) : Option ref20_Entries_R :=
 Option.bind (ref19_Check N l_0) fun y1 =>
 bif (!(decide (y1.1.1 = (0 : Int)))) then
 some ((y1.1.1, ()), (([] : List D85), ()))
 else
 ref20_Entries_1 N l_0 (0 : Int) ([] : List D85)
def ref20_Entries_C (N : Nat) : Ctx := ⟨90, G_tys, [(89, ref19_Check_ctr N), (48, ref20_Minus_ctr N)], G_globs, G_ifs⟩
def ref20_Entries_S0 : Spec := ⟨[.val (.sl T59), .row 0, .val .i64, .val .i64, .row 1, .val .i64, .row 2, .val .i64], [(.row 86 T85, .pos 1), (.row 46 T45, .pos 4), (.row 46 T45, .pos 6)]⟩
def ref20_Entries_S1 : Spec := ⟨[.val (.sl T59), .row 0, .val .i64, .val .i64, .row 1, .val .i64], [(.row 86 T85, .pos 1), (.row 46 T45, .pos 4)]⟩
def ref20_Entries_S2 : Spec := ⟨[.val (.sl T59), .row 0, .val .i64, .val .i64, .val .i64, .row 1], [(.row 86 T85, .pos 1), (.row 46 T45, .pos 5)]⟩
def ref20_Entries_S3 : Spec := ⟨[.val (.sl T59), .row 0, .val .i64, .val .i64], [(.row 86 T85, .pos 1)]⟩
def ref20_Entries_S4 : Spec := ⟨[.val (.sl T59), .row 0, .val .i64, .val .i64, .row 1], [(.row 86 T85, .pos 1), (.row 46 T45, .pos 4)]⟩
def ref20_Entries_S5 : Spec := ⟨[.val (.sl T59), .row 0, .val .i64], [(.row 86 T85, .pos 1)]⟩
def ref20_Entries_S6 : Spec := ⟨[.row 0], [(.row 86 T85, .pos 0)]⟩
def ref20_Entries_S7 : Spec := ⟨[.val (.sl T59)], []⟩
def ref20_Entries_S8 : Spec := ⟨[.row 0, .val .i64], [(.row 86 T85, .pos 0)]⟩
def ref20_Entries_K (_N : Nat) : XE → GS → Option ref20_Entries_R := retK 0 [2, 3] [false, false] ref20_Entries_S8
def ref20_Entries_L : List Code := (bodyOf (some Try.f39))
def ref20_Entries_L2 : List Code := (loopOf (ref20_Entries_L[6]?))
def ref20_Entries_L4b : List Code := (blockOf (ref20_Entries_L2[2]?))
def ref20_Entries_L7 : List Code := (loopOf (ref20_Entries_L4b[1]?))
def ref20_Entries_L9b : List Code := (blockOf (ref20_Entries_L7[2]?))
def ref20_Entries_L12 : List Code := (loopOf (ref20_Entries_L9b[2]?))
def ref20_Entries_L14b : List Code := (blockOf (ref20_Entries_L12[2]?))
def ref20_Entries_L17 : List Code := (loopOf (ref20_Entries_L14b[2]?))
def ref20_Entries_L22 : List Code := (loopOf (ref20_Entries_L9b[4]?))
def ref20_Entries_K2 (N : Nat) : XE → GS → Option (Lo (((List D59) × Int × Unit) × ((List D85) × Unit)) ((Unit) × ((List D85) × Unit)) ref20_Entries_R) := roundK (some 0) (fit 0 [0, 5, 6] ref20_Entries_S5) (fit 0 [5] ref20_Entries_S6) (ref20_Entries_K N)
def ref20_Entries_K4 (N : Nat) : XE → GS → Option (Lo (((List D59) × Int × Unit) × ((List D85) × Unit)) ((Unit) × ((List D85) × Unit)) ref20_Entries_R) := blockK 1 (goK 0 [0, 5, 6] ref20_Entries_S5 (fun y => ref20_Entries_25 N y.1.1 y.1.2.1 y.2.1)) (ref20_Entries_K2 N)
def ref20_Entries_K7 (N : Nat) : XE → GS → Option (Lo (((List D59) × Int × Int × Unit) × ((List D85) × Unit)) (((List D59) × Int × Unit) × ((List D85) × Unit)) (Lo (((List D59) × Int × Unit) × ((List D85) × Unit)) ((Unit) × ((List D85) × Unit)) ref20_Entries_R)) := roundK (some 2) (fit 0 [0, 5, 6, 7] ref20_Entries_S3) (fit 0 [0, 5, 6] ref20_Entries_S5) (ref20_Entries_K4 N)
def ref20_Entries_K9 (N : Nat) : XE → GS → Option (Lo (((List D59) × Int × Int × Unit) × ((List D85) × Unit)) (((List D59) × Int × Unit) × ((List D85) × Unit)) (Lo (((List D59) × Int × Unit) × ((List D85) × Unit)) ((Unit) × ((List D85) × Unit)) ref20_Entries_R)) := blockK 3 (goK 0 [0, 5, 6, 7] ref20_Entries_S3 (fun y => ref20_Entries_24 N y.1.1 y.1.2.1 y.1.2.2.1 y.2.1)) (ref20_Entries_K7 N)
def ref20_Entries_K12 (N : Nat) : XE → GS → Option (Lo (((List D59) × Int × Int × Int × Unit) × ((List D85) × (List D45) × Unit)) (((List D59) × Int × Int × Unit) × ((List D85) × (List D45) × Unit)) (Lo (((List D59) × Int × Int × Unit) × ((List D85) × Unit)) (((List D59) × Int × Unit) × ((List D85) × Unit)) (Lo (((List D59) × Int × Unit) × ((List D85) × Unit)) ((Unit) × ((List D85) × Unit)) ref20_Entries_R))) := roundK (some 4) (fit 0 [0, 5, 6, 7, 8, 9] ref20_Entries_S1) (fit 0 [0, 5, 6, 7, 8] ref20_Entries_S4) (ref20_Entries_K9 N)
def ref20_Entries_K22 (N : Nat) : XE → GS → Option (Lo (((List D59) × Int × Int × Int × Unit) × ((List D85) × (List D45) × Unit)) (((List D59) × Int × Int × Unit) × ((List D85) × Unit)) (Lo (((List D59) × Int × Int × Unit) × ((List D85) × Unit)) (((List D59) × Int × Unit) × ((List D85) × Unit)) (Lo (((List D59) × Int × Unit) × ((List D85) × Unit)) ((Unit) × ((List D85) × Unit)) ref20_Entries_R))) := roundK (some 8) (fit 0 [0, 5, 6, 7, 8, 12] ref20_Entries_S1) (fit 0 [0, 5, 6, 7] ref20_Entries_S3) (ref20_Entries_K9 N)
def ref20_Entries_K14 (N : Nat) : XE → GS → Option (Lo (((List D59) × Int × Int × Int × Unit) × ((List D85) × (List D45) × Unit)) (((List D59) × Int × Int × Unit) × ((List D85) × (List D45) × Unit)) (Lo (((List D59) × Int × Int × Unit) × ((List D85) × Unit)) (((List D59) × Int × Unit) × ((List D85) × Unit)) (Lo (((List D59) × Int × Unit) × ((List D85) × Unit)) ((Unit) × ((List D85) × Unit)) ref20_Entries_R))) := blockK 5 (goK 0 [0, 5, 6, 7, 8, 9] ref20_Entries_S1 (fun y => ref20_Entries_19 N y.1.1 y.1.2.1 y.1.2.2.1 y.1.2.2.2.1 y.2.1 y.2.2.1)) (ref20_Entries_K12 N)
def ref20_Entries_K17 (N : Nat) : XE → GS → Option (Lo (((List D59) × Int × Int × Int × Int × Unit) × ((List D85) × (List D45) × (List D45) × Unit)) (((List D59) × Int × Int × Int × Unit) × ((List D85) × (List D45) × Unit)) (Lo (((List D59) × Int × Int × Int × Unit) × ((List D85) × (List D45) × Unit)) (((List D59) × Int × Int × Unit) × ((List D85) × (List D45) × Unit)) (Lo (((List D59) × Int × Int × Unit) × ((List D85) × Unit)) (((List D59) × Int × Unit) × ((List D85) × Unit)) (Lo (((List D59) × Int × Unit) × ((List D85) × Unit)) ((Unit) × ((List D85) × Unit)) ref20_Entries_R)))) := roundK (some 6) (fit 0 [0, 5, 6, 7, 8, 9, 10, 11] ref20_Entries_S0) (fit 0 [0, 5, 6, 7, 9, 10] ref20_Entries_S2) (ref20_Entries_K14 N)
theorem ref20_Entries_s17_b {E : Env} (N : Nat) (hb : Base Try.prog (ref20_Entries_C N) E 0) : Blk Try.prog (ref20_Entries_C N) E [0, 5, 6, 7, 8, 9, 10, 11] ref20_Entries_S0 (ref20_Entries_L17.drop 0) (fun y => ref20_Entries_s17 N y.1.1 y.1.2.1 y.1.2.2.1 y.1.2.2.2.1 y.1.2.2.2.2.1 y.2.1 y.2.2.1 y.2.2.2.1) (ref20_Entries_K17 N) :=
 Blk.chunkAt hb 4 (X := (ref20_Entries_K17 N .normal)) (NxOk.end (by kernel_rfl)) rfl (fun x => by kernel_rfl)
theorem ref20_Entries_19_b {E : Env} (N : Nat) (hb : Base Try.prog (ref20_Entries_C N) E 0) : Blk Try.prog (ref20_Entries_C N) E [0, 5, 6, 7, 8, 9] ref20_Entries_S1 (ref20_Entries_L12.drop 3) (fun y => ref20_Entries_19 N y.1.1 y.1.2.1 y.1.2.2.1 y.1.2.2.2.1 y.2.1 y.2.2.1) (ref20_Entries_K12 N) :=
 Blk.chunkAt hb 1 (X := (ref20_Entries_K12 N .normal)) (NxOk.end (by kernel_rfl)) rfl (fun x => by kernel_rfl)
theorem ref20_Entries_18_b {E : Env} (N : Nat) (hb : Base Try.prog (ref20_Entries_C N) E 0) : Blk Try.prog (ref20_Entries_C N) E [0, 5, 6, 7, 9, 10] ref20_Entries_S2 (ref20_Entries_L14b.drop 3) (fun y => ref20_Entries_18 N y.1.1 y.1.2.1 y.1.2.2.1 y.1.2.2.2.1 y.2.1 y.2.2.1) (ref20_Entries_K14 N) :=
 Blk.chunkAt hb 3 (X := (ref20_Entries_K14 N .normal)) (NxOk.end (by kernel_rfl)) rfl (fun x => by kernel_rfl)
theorem ref20_Entries_16_b {E : Env} (N : Nat) (hb : Base Try.prog (ref20_Entries_C N) E 0) : Blk Try.prog (ref20_Entries_C N) E [0, 5, 6, 7, 8, 9, 10, 11] ref20_Entries_S0 (ref20_Entries_L14b.drop 2) (fun y => ref20_Entries_16 N y.1.1 y.1.2.1 y.1.2.2.1 y.1.2.2.2.1 y.1.2.2.2.2.1 y.2.1 y.2.2.1 y.2.2.2.1) (ref20_Entries_K14 N) :=
 Blk.loopAt (Nf := N) (hns := [0, 5, 6, 7, 8, 9, 10, 11]) (ans := [0, 5, 6, 7, 9, 10]) (hc := ref20_Entries_S0) (ac := ref20_Entries_S2) (bid := 6) (step := (fun y => ref20_Entries_s17 N y.1.1 y.1.2.1 y.1.2.2.1 y.1.2.2.2.1 y.1.2.2.2.2.1 y.2.1 y.2.2.1 y.2.2.2.1)) (J := (fun e => (goK 0 [0, 5, 6, 7, 9, 10] ref20_Entries_S2 (fun y => ref20_Entries_18 N y.1.1 y.1.2.1 y.1.2.2.1 y.1.2.2.2.1 y.2.1 y.2.2.1)) (ref20_Entries_S2.st [0, 5, 6, 7, 9, 10] e))) hb (by kernel_rfl) (Blk.into (X := (goK 0 [0, 5, 6, 7, 9, 10] ref20_Entries_S2 (fun y => ref20_Entries_18 N y.1.1 y.1.2.1 y.1.2.2.1 y.1.2.2.2.1 y.2.1 y.2.2.1))) (NxOk.go hb (ref20_Entries_18_b N hb)) (fun x => by kernel_rfl)) (ref20_Entries_s17_b N hb) (fun x => by kernel_rfl)
theorem ref20_Entries_15_b {E : Env} (N : Nat) (hb : Base Try.prog (ref20_Entries_C N) E 0) : Blk Try.prog (ref20_Entries_C N) E [0, 5, 6, 7, 8, 9] ref20_Entries_S1 (ref20_Entries_L14b.drop 0) (fun y => ref20_Entries_15 N y.1.1 y.1.2.1 y.1.2.2.1 y.1.2.2.2.1 y.2.1 y.2.2.1) (ref20_Entries_K14 N) :=
 Blk.chunkAt hb 2 (X := (goK 0 [0, 5, 6, 7, 8, 9, 10, 11] ref20_Entries_S0 (fun y => ref20_Entries_16 N y.1.1 y.1.2.1 y.1.2.2.1 y.1.2.2.2.1 y.1.2.2.2.2.1 y.2.1 y.2.2.1 y.2.2.2.1))) (NxOk.go hb (ref20_Entries_16_b N hb)) rfl (fun x => by kernel_rfl)
theorem ref20_Entries_13_b {E : Env} (N : Nat) (hb : Base Try.prog (ref20_Entries_C N) E 0) : Blk Try.prog (ref20_Entries_C N) E [0, 5, 6, 7, 8, 9] ref20_Entries_S1 (ref20_Entries_L12.drop 2) (fun y => ref20_Entries_13 N y.1.1 y.1.2.1 y.1.2.2.1 y.1.2.2.2.1 y.2.1 y.2.2.1) (ref20_Entries_K12 N) :=
 Blk.blockAt (bid := 5) (X := (goK 0 [0, 5, 6, 7, 8, 9] ref20_Entries_S1 (fun y => ref20_Entries_19 N y.1.1 y.1.2.1 y.1.2.2.1 y.1.2.2.2.1 y.2.1 y.2.2.1))) (Y := (goK 0 [0, 5, 6, 7, 8, 9] ref20_Entries_S1 (fun y => ref20_Entries_15 N y.1.1 y.1.2.1 y.1.2.2.1 y.1.2.2.2.1 y.2.1 y.2.2.1))) (by kernel_rfl) (NxOk.go hb (ref20_Entries_19_b N hb)) (NxOk.go hb (ref20_Entries_15_b N hb)) (fun x => by kernel_rfl)
theorem ref20_Entries_s12_b {E : Env} (N : Nat) (hb : Base Try.prog (ref20_Entries_C N) E 0) : Blk Try.prog (ref20_Entries_C N) E [0, 5, 6, 7, 8, 9] ref20_Entries_S1 (ref20_Entries_L12.drop 0) (fun y => ref20_Entries_s12 N y.1.1 y.1.2.1 y.1.2.2.1 y.1.2.2.2.1 y.2.1 y.2.2.1) (ref20_Entries_K12 N) :=
 Blk.chunkAt hb 2 (X := (goK 0 [0, 5, 6, 7, 8, 9] ref20_Entries_S1 (fun y => ref20_Entries_13 N y.1.1 y.1.2.1 y.1.2.2.1 y.1.2.2.2.1 y.2.1 y.2.2.1))) (NxOk.go hb (ref20_Entries_13_b N hb)) rfl (fun x => by kernel_rfl)
theorem ref20_Entries_s22_b {E : Env} (N : Nat) (hb : Base Try.prog (ref20_Entries_C N) E 0) : Blk Try.prog (ref20_Entries_C N) E [0, 5, 6, 7, 8, 12] ref20_Entries_S1 (ref20_Entries_L22.drop 0) (fun y => ref20_Entries_s22 N y.1.1 y.1.2.1 y.1.2.2.1 y.1.2.2.2.1 y.2.1 y.2.2.1) (ref20_Entries_K22 N) :=
 Blk.chunkAt hb 4 (X := (ref20_Entries_K22 N .normal)) (NxOk.end (by kernel_rfl)) rfl (fun x => by kernel_rfl)
theorem ref20_Entries_24_b {E : Env} (N : Nat) (hb : Base Try.prog (ref20_Entries_C N) E 0) : Blk Try.prog (ref20_Entries_C N) E [0, 5, 6, 7] ref20_Entries_S3 (ref20_Entries_L7.drop 3) (fun y => ref20_Entries_24 N y.1.1 y.1.2.1 y.1.2.2.1 y.2.1) (ref20_Entries_K7 N) :=
 Blk.chunkAt hb 1 (X := (ref20_Entries_K7 N .normal)) (NxOk.end (by kernel_rfl)) rfl (fun x => by kernel_rfl)
theorem ref20_Entries_23_b {E : Env} (N : Nat) (hb : Base Try.prog (ref20_Entries_C N) E 0) : Blk Try.prog (ref20_Entries_C N) E [0, 5, 6, 7] ref20_Entries_S3 (ref20_Entries_L9b.drop 5) (fun y => ref20_Entries_23 N y.1.1 y.1.2.1 y.1.2.2.1 y.2.1) (ref20_Entries_K9 N) :=
 Blk.chunkAt hb 2 (X := (ref20_Entries_K9 N .normal)) (NxOk.end (by kernel_rfl)) rfl (fun x => by kernel_rfl)
theorem ref20_Entries_21_b {E : Env} (N : Nat) (hb : Base Try.prog (ref20_Entries_C N) E 0) : Blk Try.prog (ref20_Entries_C N) E [0, 5, 6, 7, 8, 12] ref20_Entries_S1 (ref20_Entries_L9b.drop 4) (fun y => ref20_Entries_21 N y.1.1 y.1.2.1 y.1.2.2.1 y.1.2.2.2.1 y.2.1 y.2.2.1) (ref20_Entries_K9 N) :=
 Blk.loopAt (Nf := N) (hns := [0, 5, 6, 7, 8, 12]) (ans := [0, 5, 6, 7]) (hc := ref20_Entries_S1) (ac := ref20_Entries_S3) (bid := 8) (step := (fun y => ref20_Entries_s22 N y.1.1 y.1.2.1 y.1.2.2.1 y.1.2.2.2.1 y.2.1 y.2.2.1)) (J := (fun e => (goK 0 [0, 5, 6, 7] ref20_Entries_S3 (fun y => ref20_Entries_23 N y.1.1 y.1.2.1 y.1.2.2.1 y.2.1)) (ref20_Entries_S3.st [0, 5, 6, 7] e))) hb (by kernel_rfl) (Blk.into (X := (goK 0 [0, 5, 6, 7] ref20_Entries_S3 (fun y => ref20_Entries_23 N y.1.1 y.1.2.1 y.1.2.2.1 y.2.1))) (NxOk.go hb (ref20_Entries_23_b N hb)) (fun x => by kernel_rfl)) (ref20_Entries_s22_b N hb) (fun x => by kernel_rfl)
theorem ref20_Entries_20_b {E : Env} (N : Nat) (hb : Base Try.prog (ref20_Entries_C N) E 0) : Blk Try.prog (ref20_Entries_C N) E [0, 5, 6, 7, 8] ref20_Entries_S4 (ref20_Entries_L9b.drop 3) (fun y => ref20_Entries_20 N y.1.1 y.1.2.1 y.1.2.2.1 y.2.1 y.2.2.1) (ref20_Entries_K9 N) :=
 Blk.chunkAt hb 1 (X := (goK 0 [0, 5, 6, 7, 8, 12] ref20_Entries_S1 (fun y => ref20_Entries_21 N y.1.1 y.1.2.1 y.1.2.2.1 y.1.2.2.2.1 y.2.1 y.2.2.1))) (NxOk.go hb (ref20_Entries_21_b N hb)) rfl (fun x => by kernel_rfl)
theorem ref20_Entries_11_b {E : Env} (N : Nat) (hb : Base Try.prog (ref20_Entries_C N) E 0) : Blk Try.prog (ref20_Entries_C N) E [0, 5, 6, 7, 8, 9] ref20_Entries_S1 (ref20_Entries_L9b.drop 2) (fun y => ref20_Entries_11 N y.1.1 y.1.2.1 y.1.2.2.1 y.1.2.2.2.1 y.2.1 y.2.2.1) (ref20_Entries_K9 N) :=
 Blk.loopAt (Nf := N) (hns := [0, 5, 6, 7, 8, 9]) (ans := [0, 5, 6, 7, 8]) (hc := ref20_Entries_S1) (ac := ref20_Entries_S4) (bid := 4) (step := (fun y => ref20_Entries_s12 N y.1.1 y.1.2.1 y.1.2.2.1 y.1.2.2.2.1 y.2.1 y.2.2.1)) (J := (fun e => (goK 0 [0, 5, 6, 7, 8] ref20_Entries_S4 (fun y => ref20_Entries_20 N y.1.1 y.1.2.1 y.1.2.2.1 y.2.1 y.2.2.1)) (ref20_Entries_S4.st [0, 5, 6, 7, 8] e))) hb (by kernel_rfl) (Blk.into (X := (goK 0 [0, 5, 6, 7, 8] ref20_Entries_S4 (fun y => ref20_Entries_20 N y.1.1 y.1.2.1 y.1.2.2.1 y.2.1 y.2.2.1))) (NxOk.go hb (ref20_Entries_20_b N hb)) (fun x => by kernel_rfl)) (ref20_Entries_s12_b N hb) (fun x => by kernel_rfl)
theorem ref20_Entries_10_b {E : Env} (N : Nat) (hb : Base Try.prog (ref20_Entries_C N) E 0) : Blk Try.prog (ref20_Entries_C N) E [0, 5, 6, 7] ref20_Entries_S3 (ref20_Entries_L9b.drop 0) (fun y => ref20_Entries_10 N y.1.1 y.1.2.1 y.1.2.2.1 y.2.1) (ref20_Entries_K9 N) :=
 Blk.chunkAt hb 2 (X := (goK 0 [0, 5, 6, 7, 8, 9] ref20_Entries_S1 (fun y => ref20_Entries_11 N y.1.1 y.1.2.1 y.1.2.2.1 y.1.2.2.2.1 y.2.1 y.2.2.1))) (NxOk.go hb (ref20_Entries_11_b N hb)) rfl (fun x => by kernel_rfl)
theorem ref20_Entries_8_b {E : Env} (N : Nat) (hb : Base Try.prog (ref20_Entries_C N) E 0) : Blk Try.prog (ref20_Entries_C N) E [0, 5, 6, 7] ref20_Entries_S3 (ref20_Entries_L7.drop 2) (fun y => ref20_Entries_8 N y.1.1 y.1.2.1 y.1.2.2.1 y.2.1) (ref20_Entries_K7 N) :=
 Blk.blockAt (bid := 3) (X := (goK 0 [0, 5, 6, 7] ref20_Entries_S3 (fun y => ref20_Entries_24 N y.1.1 y.1.2.1 y.1.2.2.1 y.2.1))) (Y := (goK 0 [0, 5, 6, 7] ref20_Entries_S3 (fun y => ref20_Entries_10 N y.1.1 y.1.2.1 y.1.2.2.1 y.2.1))) (by kernel_rfl) (NxOk.go hb (ref20_Entries_24_b N hb)) (NxOk.go hb (ref20_Entries_10_b N hb)) (fun x => by kernel_rfl)
theorem ref20_Entries_s7_b {E : Env} (N : Nat) (hb : Base Try.prog (ref20_Entries_C N) E 0) : Blk Try.prog (ref20_Entries_C N) E [0, 5, 6, 7] ref20_Entries_S3 (ref20_Entries_L7.drop 0) (fun y => ref20_Entries_s7 N y.1.1 y.1.2.1 y.1.2.2.1 y.2.1) (ref20_Entries_K7 N) :=
 Blk.chunkAt hb 2 (X := (goK 0 [0, 5, 6, 7] ref20_Entries_S3 (fun y => ref20_Entries_8 N y.1.1 y.1.2.1 y.1.2.2.1 y.2.1))) (NxOk.go hb (ref20_Entries_8_b N hb)) rfl (fun x => by kernel_rfl)
theorem ref20_Entries_25_b {E : Env} (N : Nat) (hb : Base Try.prog (ref20_Entries_C N) E 0) : Blk Try.prog (ref20_Entries_C N) E [0, 5, 6] ref20_Entries_S5 (ref20_Entries_L2.drop 3) (fun y => ref20_Entries_25 N y.1.1 y.1.2.1 y.2.1) (ref20_Entries_K2 N) :=
 Blk.chunkAt hb 1 (X := (ref20_Entries_K2 N .normal)) (NxOk.end (by kernel_rfl)) rfl (fun x => by kernel_rfl)
theorem ref20_Entries_6_b {E : Env} (N : Nat) (hb : Base Try.prog (ref20_Entries_C N) E 0) : Blk Try.prog (ref20_Entries_C N) E [0, 5, 6, 7] ref20_Entries_S3 (ref20_Entries_L4b.drop 1) (fun y => ref20_Entries_6 N y.1.1 y.1.2.1 y.1.2.2.1 y.2.1) (ref20_Entries_K4 N) :=
 Blk.loopAt (Nf := N) (hns := [0, 5, 6, 7]) (ans := [0, 5, 6]) (hc := ref20_Entries_S3) (ac := ref20_Entries_S5) (bid := 2) (step := (fun y => ref20_Entries_s7 N y.1.1 y.1.2.1 y.1.2.2.1 y.2.1)) (J := (fun e => (ref20_Entries_K4 N .normal) (ref20_Entries_S5.st [0, 5, 6] e))) hb (by kernel_rfl) (Blk.into (X := (ref20_Entries_K4 N .normal)) (NxOk.end (by kernel_rfl)) (fun x => by kernel_rfl)) (ref20_Entries_s7_b N hb) (fun x => by kernel_rfl)
theorem ref20_Entries_5_b {E : Env} (N : Nat) (hb : Base Try.prog (ref20_Entries_C N) E 0) : Blk Try.prog (ref20_Entries_C N) E [0, 5, 6] ref20_Entries_S5 (ref20_Entries_L4b.drop 0) (fun y => ref20_Entries_5 N y.1.1 y.1.2.1 y.2.1) (ref20_Entries_K4 N) :=
 Blk.chunkAt hb 1 (X := (goK 0 [0, 5, 6, 7] ref20_Entries_S3 (fun y => ref20_Entries_6 N y.1.1 y.1.2.1 y.1.2.2.1 y.2.1))) (NxOk.go hb (ref20_Entries_6_b N hb)) rfl (fun x => by kernel_rfl)
theorem ref20_Entries_3_b {E : Env} (N : Nat) (hb : Base Try.prog (ref20_Entries_C N) E 0) : Blk Try.prog (ref20_Entries_C N) E [0, 5, 6] ref20_Entries_S5 (ref20_Entries_L2.drop 2) (fun y => ref20_Entries_3 N y.1.1 y.1.2.1 y.2.1) (ref20_Entries_K2 N) :=
 Blk.blockAt (bid := 1) (X := (goK 0 [0, 5, 6] ref20_Entries_S5 (fun y => ref20_Entries_25 N y.1.1 y.1.2.1 y.2.1))) (Y := (goK 0 [0, 5, 6] ref20_Entries_S5 (fun y => ref20_Entries_5 N y.1.1 y.1.2.1 y.2.1))) (by kernel_rfl) (NxOk.go hb (ref20_Entries_25_b N hb)) (NxOk.go hb (ref20_Entries_5_b N hb)) (fun x => by kernel_rfl)
theorem ref20_Entries_s2_b {E : Env} (N : Nat) (hb : Base Try.prog (ref20_Entries_C N) E 0) : Blk Try.prog (ref20_Entries_C N) E [0, 5, 6] ref20_Entries_S5 (ref20_Entries_L2.drop 0) (fun y => ref20_Entries_s2 N y.1.1 y.1.2.1 y.2.1) (ref20_Entries_K2 N) :=
 Blk.chunkAt hb 2 (X := (goK 0 [0, 5, 6] ref20_Entries_S5 (fun y => ref20_Entries_3 N y.1.1 y.1.2.1 y.2.1))) (NxOk.go hb (ref20_Entries_3_b N hb)) rfl (fun x => by kernel_rfl)
theorem ref20_Entries_26_b {E : Env} (N : Nat) (hb : Base Try.prog (ref20_Entries_C N) E 0) : Blk Try.prog (ref20_Entries_C N) E [5] ref20_Entries_S6 (ref20_Entries_L.drop 7) (fun y => ref20_Entries_26 N y.2.1) (ref20_Entries_K N) :=
 Blk.chunkAt hb 2 (X := (ref20_Entries_K N .normal)) (NxOk.end (by kernel_rfl)) rfl (fun x => by kernel_rfl)
theorem ref20_Entries_1_b {E : Env} (N : Nat) (hb : Base Try.prog (ref20_Entries_C N) E 0) : Blk Try.prog (ref20_Entries_C N) E [0, 5, 6] ref20_Entries_S5 (ref20_Entries_L.drop 6) (fun y => ref20_Entries_1 N y.1.1 y.1.2.1 y.2.1) (ref20_Entries_K N) :=
 Blk.loopAt (Nf := N) (hns := [0, 5, 6]) (ans := [5]) (hc := ref20_Entries_S5) (ac := ref20_Entries_S6) (bid := 0) (step := (fun y => ref20_Entries_s2 N y.1.1 y.1.2.1 y.2.1)) (J := (fun e => (goK 0 [5] ref20_Entries_S6 (fun y => ref20_Entries_26 N y.2.1)) (ref20_Entries_S6.st [5] e))) hb (by kernel_rfl) (Blk.into (X := (goK 0 [5] ref20_Entries_S6 (fun y => ref20_Entries_26 N y.2.1))) (NxOk.go hb (ref20_Entries_26_b N hb)) (fun x => by kernel_rfl)) (ref20_Entries_s2_b N hb) (fun x => by kernel_rfl)
theorem ref20_Entries_b {E : Env} (N : Nat) (hb : Base Try.prog (ref20_Entries_C N) E 0) : Blk Try.prog (ref20_Entries_C N) E (List.range ref20_Entries_S7.ks.length) ref20_Entries_S7 (ref20_Entries_L.drop 0) (fun y => ref20_Entries N y.1.1) (ref20_Entries_K N) :=
 Blk.chunkAt hb 6 (X := (goK 0 [0, 5, 6] ref20_Entries_S5 (fun y => ref20_Entries_1 N y.1.1 y.1.2.1 y.2.1))) (NxOk.go hb (ref20_Entries_1_b N hb)) rfl (fun x => by kernel_rfl)
def ref20_Entries_ctr (N : Nat) : Ctr := ⟨ref20_Entries_S7, ref20_Entries_S8.un [false, false], 0, (fun y => ref20_Entries N y.1.1)⟩
theorem ref20_Entries_ctrs (N : Nat) : CtrsOk Try.prog (ref20_Entries_C N) := ctrs_of (Γ := ref20_Entries_C N) G_ifs_ok (by
 intro p hp
 simp only [ref20_Entries_C, List.mem_cons, List.not_mem_nil, or_false] at hp
 rcases hp with rfl | rfl
 · exact ref19_Check_ok N
 · exact ref20_Minus_ok N)
theorem ref20_Entries_ok (N : Nat) : Ctr.ok Try.prog G_globs 39 (ref20_Entries_ctr N) :=
 ctr_fn (Γ := ref20_Entries_C N) (rfit := ref20_Entries_S8) (bs := [false, false]) (res := [2, 3]) (by kernel_rfl) (tys_ok G_tys_ok) (ref20_Entries_ctrs N) Try.func39 (by kernel_rfl) (by kernel_rfl) Try.ntmps39 (by kernel_rfl) (by kernel_rfl) (by kernel_rfl) (by kernel_rfl) (fun E hb => ref20_Entries_b N hb)
/-! ipsecgate/ipsecgateref20.Same -/
abbrev ref20_Same_R : Type := ((Bool × Unit) × (Unit))
def ref20_Same_s2 (N : Nat) (a_0 : (List D85)) (b_1 : (List D85)) (i_5 : Int) : Option (Lo (((List D85) × (List D85) × Int × Unit) × (Unit)) ((Unit) × (Unit)) ref20_Same_R) :=
 bif (decide (i_5 < (a_0.length : Int))) then
 bif inR i_5 a_0.length then
 bif inR i_5 b_1.length then
 bif (!(dq T85 (a_0.getD i_5.toNat ((((0 : Int), (0 : UInt64), (0 : UInt64), ()), ((0 : Int), (0 : UInt64), (0 : UInt64), ()), ((0 : Int), (0 : UInt64), (0 : UInt64), ()), ((0 : Int), (0 : UInt64), (0 : UInt64), ()), (0 : Int), (0 : Int), (List.replicate 2 (0 : Int)), (List.replicate 2 (0 : Int)), ()), (0 : Int), ())) (b_1.getD i_5.toNat ((((0 : Int), (0 : UInt64), (0 : UInt64), ()), ((0 : Int), (0 : UInt64), (0 : UInt64), ()), ((0 : Int), (0 : UInt64), (0 : UInt64), ()), ((0 : Int), (0 : UInt64), (0 : UInt64), ()), (0 : Int), (0 : Int), (List.replicate 2 (0 : Int)), (List.replicate 2 (0 : Int)), ()), (0 : Int), ())))) then
 some (.rt ((false, ()), (())))
 else
 some (.go ((a_0, b_1, (w64 (i_5 + (1 : Int))), ()), (())))
 else none
 else none
 else
 some (.br ((()), (())))
def ref20_Same_3 (N : Nat) : Option ref20_Same_R :=
 some ((true, ()), (()))
def ref20_Same_1 (N : Nat) (a_0 : (List D85)) (b_1 : (List D85)) (i_5 : Int) : Option ref20_Same_R :=
 loopK N (fun y => ref20_Same_s2 N y.1.1 y.1.2.1 y.1.2.2.1) (fun (e : ((Unit) × (Unit))) => ref20_Same_3 N) ((a_0, b_1, i_5, ()), (()))
def ref20_Same (N : Nat) (a_0 : (List D85)) (b_1 : (List D85)) : Option ref20_Same_R :=
 bif (!(decide ((a_0.length : Int) = (b_1.length : Int)))) then
 some ((false, ()), (()))
 else
 ref20_Same_1 N a_0 b_1 (0 : Int)
def ref20_Same_C (N : Nat) : Ctx := ⟨26, G_tys, [], G_globs, G_ifs⟩
def ref20_Same_S0 : Spec := ⟨[.val (.sl T85), .val (.sl T85), .val .i64], []⟩
def ref20_Same_S1 : Spec := ⟨[], []⟩
def ref20_Same_S2 : Spec := ⟨[.val (.sl T85), .val (.sl T85)], []⟩
def ref20_Same_S3 : Spec := ⟨[.val .bool], []⟩
def ref20_Same_K (_N : Nat) : XE → GS → Option ref20_Same_R := retK 0 [4] [false] ref20_Same_S3
def ref20_Same_L : List Code := (bodyOf (some Try.f69))
def ref20_Same_L2 : List Code := (loopOf (ref20_Same_L[4]?))
def ref20_Same_K2 (N : Nat) : XE → GS → Option (Lo (((List D85) × (List D85) × Int × Unit) × (Unit)) ((Unit) × (Unit)) ref20_Same_R) := roundK (some 0) (fit 0 [0, 1, 5] ref20_Same_S0) (fit 0 [] ref20_Same_S1) (ref20_Same_K N)
theorem ref20_Same_s2_b {E : Env} (N : Nat) (hb : Base Try.prog (ref20_Same_C N) E 0) : Blk Try.prog (ref20_Same_C N) E [0, 1, 5] ref20_Same_S0 (ref20_Same_L2.drop 0) (fun y => ref20_Same_s2 N y.1.1 y.1.2.1 y.1.2.2.1) (ref20_Same_K2 N) :=
 Blk.chunkAt hb 4 (X := (ref20_Same_K2 N .normal)) (NxOk.end (by kernel_rfl)) rfl (fun x => by kernel_rfl)
theorem ref20_Same_3_b {E : Env} (N : Nat) (hb : Base Try.prog (ref20_Same_C N) E 0) : Blk Try.prog (ref20_Same_C N) E [] ref20_Same_S1 (ref20_Same_L.drop 5) (fun y => ref20_Same_3 N) (ref20_Same_K N) :=
 Blk.chunkAt hb 2 (X := (ref20_Same_K N .normal)) (NxOk.end (by kernel_rfl)) rfl (fun x => by kernel_rfl)
theorem ref20_Same_1_b {E : Env} (N : Nat) (hb : Base Try.prog (ref20_Same_C N) E 0) : Blk Try.prog (ref20_Same_C N) E [0, 1, 5] ref20_Same_S0 (ref20_Same_L.drop 4) (fun y => ref20_Same_1 N y.1.1 y.1.2.1 y.1.2.2.1) (ref20_Same_K N) :=
 Blk.loopAt (Nf := N) (hns := [0, 1, 5]) (ans := []) (hc := ref20_Same_S0) (ac := ref20_Same_S1) (bid := 0) (step := (fun y => ref20_Same_s2 N y.1.1 y.1.2.1 y.1.2.2.1)) (J := (fun e => (goK 0 [] ref20_Same_S1 (fun y => ref20_Same_3 N)) (ref20_Same_S1.st [] e))) hb (by kernel_rfl) (Blk.into (X := (goK 0 [] ref20_Same_S1 (fun y => ref20_Same_3 N))) (NxOk.go hb (ref20_Same_3_b N hb)) (fun x => by kernel_rfl)) (ref20_Same_s2_b N hb) (fun x => by kernel_rfl)
theorem ref20_Same_b {E : Env} (N : Nat) (hb : Base Try.prog (ref20_Same_C N) E 0) : Blk Try.prog (ref20_Same_C N) E (List.range ref20_Same_S2.ks.length) ref20_Same_S2 (ref20_Same_L.drop 0) (fun y => ref20_Same N y.1.1 y.1.2.1) (ref20_Same_K N) :=
 Blk.chunkAt hb 4 (X := (goK 0 [0, 1, 5] ref20_Same_S0 (fun y => ref20_Same_1 N y.1.1 y.1.2.1 y.1.2.2.1))) (NxOk.go hb (ref20_Same_1_b N hb)) rfl (fun x => by kernel_rfl)
def ref20_Same_ctr (N : Nat) : Ctr := ⟨ref20_Same_S2, ref20_Same_S3.un [false], 0, (fun y => ref20_Same N y.1.1 y.1.2.1)⟩
theorem ref20_Same_ctrs (N : Nat) : CtrsOk Try.prog (ref20_Same_C N) := ctrs_nil G_ifs_ok rfl
theorem ref20_Same_ok (N : Nat) : Ctr.ok Try.prog G_globs 69 (ref20_Same_ctr N) :=
 ctr_fn (Γ := ref20_Same_C N) (rfit := ref20_Same_S3) (bs := [false]) (res := [4]) (by kernel_rfl) (tys_ok G_tys_ok) (ref20_Same_ctrs N) Try.func69 (by kernel_rfl) (by kernel_rfl) Try.ntmps69 (by kernel_rfl) (by kernel_rfl) (by kernel_rfl) (by kernel_rfl) (fun E hb => ref20_Same_b N hb)
/-! ipsecgate/address.size -/
abbrev address_size_R : Type := ((Int × Unit) × (Unit))
def address_size (N : Nat) (family_0 : Int) : Option address_size_R :=
 bif (decide (family_0 = (4 : Int))) then
 some (((32 : Int), ()), (()))
 else
 some (((128 : Int), ()), (()))
def address_size_C (N : Nat) : Ctx := ⟨5, G_tys, [], G_globs, G_ifs⟩
def address_size_S0 : Spec := ⟨[.val .i64], []⟩
def address_size_K (_N : Nat) : XE → GS → Option address_size_R := retK 0 [2] [false] address_size_S0
def address_size_L : List Code := (bodyOf (some Try.f179))
theorem address_size_b {E : Env} (N : Nat) (hb : Base Try.prog (address_size_C N) E 0) : Blk Try.prog (address_size_C N) E (List.range address_size_S0.ks.length) address_size_S0 (address_size_L.drop 0) (fun y => address_size N y.1.1) (address_size_K N) :=
 Blk.chunkAt hb 5 (X := (address_size_K N .normal)) (NxOk.end (by kernel_rfl)) rfl (fun x => by kernel_rfl)
def address_size_ctr (N : Nat) : Ctr := ⟨address_size_S0, address_size_S0.un [false], 0, (fun y => address_size N y.1.1)⟩
theorem address_size_ctrs (N : Nat) : CtrsOk Try.prog (address_size_C N) := ctrs_nil G_ifs_ok rfl
theorem address_size_ok (N : Nat) : Ctr.ok Try.prog G_globs 179 (address_size_ctr N) :=
 ctr_fn (Γ := address_size_C N) (rfit := address_size_S0) (bs := [false]) (res := [2]) (by kernel_rfl) (tys_ok G_tys_ok) (address_size_ctrs N) Try.func179 (by kernel_rfl) (by kernel_rfl) Try.ntmps179 (by kernel_rfl) (by kernel_rfl) (by kernel_rfl) (by kernel_rfl) (fun E hb => address_size_b N hb)
/-! ipsecgate/address.ones -/
abbrev address_ones_R : Type := ((UInt64 × Unit) × (Unit))
def address_ones (N : Nat) (n_0 : Int) : Option address_ones_R :=
 bif (decide (n_0 ≤ (0 : Int))) then
 some (((0 : UInt64), ()), (()))
 else
 let x2 := w64 ((64 : Int) - n_0)
 bif decide (0 ≤ x2) then
 some (((shr64 (18446744073709551615 : UInt64) x2.toNat), ()), (()))
 else none
def address_ones_C (N : Nat) : Ctx := ⟨8, G_tys, [], G_globs, G_ifs⟩
def address_ones_S0 : Spec := ⟨[.val .i64], []⟩
def address_ones_S1 : Spec := ⟨[.val .u64], []⟩
def address_ones_K (_N : Nat) : XE → GS → Option address_ones_R := retK 0 [2] [false] address_ones_S1
def address_ones_L : List Code := (bodyOf (some Try.f181))
theorem address_ones_b {E : Env} (N : Nat) (hb : Base Try.prog (address_ones_C N) E 0) : Blk Try.prog (address_ones_C N) E (List.range address_ones_S0.ks.length) address_ones_S0 (address_ones_L.drop 0) (fun y => address_ones N y.1.1) (address_ones_K N) :=
 Blk.chunkAt hb 5 (X := (address_ones_K N .normal)) (NxOk.end (by kernel_rfl)) rfl (fun x => by kernel_rfl)
def address_ones_ctr (N : Nat) : Ctr := ⟨address_ones_S0, address_ones_S1.un [false], 0, (fun y => address_ones N y.1.1)⟩
theorem address_ones_ctrs (N : Nat) : CtrsOk Try.prog (address_ones_C N) := ctrs_nil G_ifs_ok rfl
theorem address_ones_ok (N : Nat) : Ctr.ok Try.prog G_globs 181 (address_ones_ctr N) :=
 ctr_fn (Γ := address_ones_C N) (rfit := address_ones_S1) (bs := [false]) (res := [2]) (by kernel_rfl) (tys_ok G_tys_ok) (address_ones_ctrs N) Try.func181 (by kernel_rfl) (by kernel_rfl) Try.ntmps181 (by kernel_rfl) (by kernel_rfl) (by kernel_rfl) (by kernel_rfl) (fun E hb => address_ones_b N hb)
/-! ipsecgate/address.mask -/
abbrev address_mask_R : Type := ((UInt64 × UInt64 × Unit) × (Unit))
def address_mask (N : Nat) (family_0 : Int) (n_1 : Int) : Option address_mask_R :=
 Option.bind (address_size N family_0) fun y1 =>
 let x2 := w64 (y1.1.1 - n_1)
 Option.bind (address_ones N (w64 (x2 - (64 : Int)))) fun y4 =>
 Option.bind (address_ones N (bif decide ((64 : Int) < x2) then (64 : Int) else x2)) fun y6 =>
 some ((y4.1.1, y6.1.1, ()), (()))
def address_mask_C (N : Nat) : Ctx := ⟨17, G_tys, [(179, address_size_ctr N), (181, address_ones_ctr N)], G_globs, G_ifs⟩
def address_mask_S0 : Spec := ⟨[.val .i64, .val .i64], []⟩
def address_mask_S1 : Spec := ⟨[.val .u64, .val .u64], []⟩
def address_mask_K (_N : Nat) : XE → GS → Option address_mask_R := retK 0 [4, 5] [false, false] address_mask_S1
def address_mask_L : List Code := (bodyOf (some Try.f180))
theorem address_mask_b {E : Env} (N : Nat) (hb : Base Try.prog (address_mask_C N) E 0) : Blk Try.prog (address_mask_C N) E (List.range address_mask_S0.ks.length) address_mask_S0 (address_mask_L.drop 0) (fun y => address_mask N y.1.1 y.1.2.1) (address_mask_K N) :=
 Blk.chunkAt hb 4 (X := (address_mask_K N .normal)) (NxOk.end (by kernel_rfl)) rfl (fun x => by kernel_rfl)
def address_mask_ctr (N : Nat) : Ctr := ⟨address_mask_S0, address_mask_S1.un [false, false], 0, (fun y => address_mask N y.1.1 y.1.2.1)⟩
theorem address_mask_ctrs (N : Nat) : CtrsOk Try.prog (address_mask_C N) := ctrs_of (Γ := address_mask_C N) G_ifs_ok (by
 intro p hp
 simp only [address_mask_C, List.mem_cons, List.not_mem_nil, or_false] at hp
 rcases hp with rfl | rfl
 · exact address_size_ok N
 · exact address_ones_ok N)
theorem address_mask_ok (N : Nat) : Ctr.ok Try.prog G_globs 180 (address_mask_ctr N) :=
 ctr_fn (Γ := address_mask_C N) (rfit := address_mask_S1) (bs := [false, false]) (res := [4, 5]) (by kernel_rfl) (tys_ok G_tys_ok) (address_mask_ctrs N) Try.func180 (by kernel_rfl) (by kernel_rfl) Try.ntmps180 (by kernel_rfl) (by kernel_rfl) (by kernel_rfl) (by kernel_rfl) (fun E hb => address_mask_b N hb)
/-! ipsecgate/address.Prefix -/
abbrev address_Prefix_R : Type := ((D27 × D27 × Int × Unit) × (Unit))
def address_Prefix_1 (N : Nat) (n_1 : Int) (t_22 : Bool) (a_2 : D27) (lo_4 : D27) (hi_5 : D27) : Option address_Prefix_R :=
 bif t_22 then
 some ((lo_4, hi_5, (5 : Int), ()), (()))
 else
 Option.bind (address_mask N a_2.1 n_1) fun y4 =>
 some (((a_2.1, (a_2.2.1 &&& ~~~ y4.1.1), (a_2.2.2.1 &&& ~~~ y4.1.2.1), ()), (a_2.1, (a_2.2.1 ||| y4.1.1), (a_2.2.2.1 ||| y4.1.2.1), ()), (0 : Int), ()), (()))
def address_Prefix (N : Nat) (a_0 : D27) (n_1 : Int) : Option address_Prefix_R :=
 Option.bind (selector_Valid N a_0) fun y1 =>
 bif (!y1.1.1) then
 some ((((0 : Int), (0 : UInt64), (0 : UInt64), ()), ((0 : Int), (0 : UInt64), (0 : UInt64), ()), (15 : Int), ()), (()))
 else
 bif (decide (n_1 < (0 : Int))) then
 address_Prefix_1 N n_1 true a_0 ((0 : Int), (0 : UInt64), (0 : UInt64), ()) ((0 : Int), (0 : UInt64), (0 : UInt64), ())
 else
 Option.bind (address_size N a_0.1) fun y9 =>
 address_Prefix_1 N n_1 (decide (y9.1.1 < n_1)) a_0 ((0 : Int), (0 : UInt64), (0 : UInt64), ()) ((0 : Int), (0 : UInt64), (0 : UInt64), ())
def address_Prefix_C (N : Nat) : Ctx := ⟨56, G_tys, [(108, selector_Valid_ctr N), (180, address_mask_ctr N), (179, address_size_ctr N)], G_globs, G_ifs⟩
def address_Prefix_S0 : Spec := ⟨[.val .i64, .ref 0 T27, .ref 1 T27, .ref 2 T27, .val .bool], [(.box 28 T27, .pos 1), (.box 28 T27, .pos 2), (.box 28 T27, .pos 3)]⟩
def address_Prefix_S1 : Spec := ⟨[.val T27, .val .i64], []⟩
def address_Prefix_S2 : Spec := ⟨[.fp T27, .fp T27, .val .i64], []⟩
def address_Prefix_K (_N : Nat) : XE → GS → Option address_Prefix_R := retK 0 [4, 5, 6] [true, true, false] address_Prefix_S2
def address_Prefix_L : List Code := (bodyOf (some Try.f177))
theorem address_Prefix_1_b {E : Env} (N : Nat) (hb : Base Try.prog (address_Prefix_C N) E 0) : Blk Try.prog (address_Prefix_C N) E [1, 2, 4, 5, 22] address_Prefix_S0 (address_Prefix_L.drop 4) (fun y => address_Prefix_1 N y.1.1 y.1.2.1 y.2.1 y.2.2.1 y.2.2.2.1) (address_Prefix_K N) :=
 Blk.chunkAt hb 7 (X := (address_Prefix_K N .normal)) (NxOk.end (by kernel_rfl)) rfl (fun x => by kernel_rfl)
theorem address_Prefix_b {E : Env} (N : Nat) (hb : Base Try.prog (address_Prefix_C N) E 0) : Blk Try.prog (address_Prefix_C N) E (List.range address_Prefix_S1.ks.length) address_Prefix_S1 (address_Prefix_L.drop 0) (fun y => address_Prefix N y.1.1 y.1.2.1) (address_Prefix_K N) :=
 Blk.chunkAt hb 4 (X := (goK 0 [1, 2, 4, 5, 22] address_Prefix_S0 (fun y => address_Prefix_1 N y.1.1 y.1.2.1 y.2.1 y.2.2.1 y.2.2.2.1))) (NxOk.go hb (address_Prefix_1_b N hb)) rfl (fun x => by kernel_rfl)
def address_Prefix_ctr (N : Nat) : Ctr := ⟨address_Prefix_S1, address_Prefix_S2.un [true, true, false], 0, (fun y => address_Prefix N y.1.1 y.1.2.1)⟩
theorem address_Prefix_ctrs (N : Nat) : CtrsOk Try.prog (address_Prefix_C N) := ctrs_of (Γ := address_Prefix_C N) G_ifs_ok (by
 intro p hp
 simp only [address_Prefix_C, List.mem_cons, List.not_mem_nil, or_false] at hp
 rcases hp with rfl | rfl | rfl
 · exact selector_Valid_ok N
 · exact address_mask_ok N
 · exact address_size_ok N)
theorem address_Prefix_ok (N : Nat) : Ctr.ok Try.prog G_globs 177 (address_Prefix_ctr N) :=
 ctr_fn (Γ := address_Prefix_C N) (rfit := address_Prefix_S2) (bs := [true, true, false]) (res := [4, 5, 6]) (by kernel_rfl) (tys_ok G_tys_ok) (address_Prefix_ctrs N) Try.func177 (by kernel_rfl) (by kernel_rfl) Try.ntmps177 (by kernel_rfl) (by kernel_rfl) (by kernel_rfl) (by kernel_rfl) (fun E hb => address_Prefix_b N hb)
/-! ipsecgate/address.whole -/
abbrev address_whole_R : Type := ((D27 × D27 × Unit) × (Unit))
def address_whole (N : Nat) (family_0 : Int) : Option address_whole_R :=
 Option.bind (address_Prefix N (family_0, (0 : UInt64), (0 : UInt64), ()) (0 : Int)) fun y1 =>
 some ((y1.1.1, y1.1.2.1, ()), (()))
def address_whole_C (N : Nat) : Ctx := ⟨13, G_tys, [(177, address_Prefix_ctr N)], G_globs, G_ifs⟩
def address_whole_S0 : Spec := ⟨[.val .i64], []⟩
def address_whole_S1 : Spec := ⟨[.fp T27, .fp T27], []⟩
def address_whole_K (_N : Nat) : XE → GS → Option address_whole_R := retK 0 [2, 3] [true, true] address_whole_S1
def address_whole_L : List Code := (bodyOf (some Try.f172))
theorem address_whole_b {E : Env} (N : Nat) (hb : Base Try.prog (address_whole_C N) E 0) : Blk Try.prog (address_whole_C N) E (List.range address_whole_S0.ks.length) address_whole_S0 (address_whole_L.drop 0) (fun y => address_whole N y.1.1) (address_whole_K N) :=
 Blk.chunkAt hb 4 (X := (address_whole_K N .normal)) (NxOk.end (by kernel_rfl)) rfl (fun x => by kernel_rfl)
def address_whole_ctr (N : Nat) : Ctr := ⟨address_whole_S0, address_whole_S1.un [true, true], 0, (fun y => address_whole N y.1.1)⟩
theorem address_whole_ctrs (N : Nat) : CtrsOk Try.prog (address_whole_C N) := ctrs_of (Γ := address_whole_C N) G_ifs_ok (by
 intro p hp
 simp only [address_whole_C, List.mem_cons, List.not_mem_nil, or_false] at hp
 rcases hp with rfl
 · exact address_Prefix_ok N)
theorem address_whole_ok (N : Nat) : Ctr.ok Try.prog G_globs 172 (address_whole_ctr N) :=
 ctr_fn (Γ := address_whole_C N) (rfit := address_whole_S1) (bs := [true, true]) (res := [2, 3]) (by kernel_rfl) (tys_ok G_tys_ok) (address_whole_ctrs N) Try.func172 (by kernel_rfl) (by kernel_rfl) Try.ntmps172 (by kernel_rfl) (by kernel_rfl) (by kernel_rfl) (by kernel_rfl) (fun E hb => address_whole_b N hb)
/-! ipsecgate/address.Next -/
abbrev address_Next_R : Type := ((D27 × Bool × Unit) × (Unit))
def address_Next_1 (N : Nat) (t_21 : Bool) (a_1 : D27) (t_2 : D27) : Option address_Next_R :=
 bif t_21 then
 some ((((0 : Int), (0 : UInt64), (0 : UInt64), ()), false, ()), (()))
 else
 bif decide ((0 : UInt64) ≤ (1 : UInt64)) then
 some (((a_1.1, (a_1.2.1 + ((addV a_1.2.2.1 (1 : UInt64) (0 : UInt64)).2)), (addV a_1.2.2.1 (1 : UInt64) (0 : UInt64)).1, ()), true, ()), (()))
 else none
def address_Next (N : Nat) (a_0 : D27) : Option address_Next_R :=
 Option.bind (address_whole N a_0.1) fun y1 =>
 Option.bind (selector_Valid N a_0) fun y2 =>
 bif (!y2.1.1) then
 address_Next_1 N true a_0 ((0 : Int), (0 : UInt64), (0 : UInt64), ())
 else
 address_Next_1 N (dq T27 a_0 y1.1.2.1) a_0 ((0 : Int), (0 : UInt64), (0 : UInt64), ())
def address_Next_C (N : Nat) : Ctx := ⟨37, G_tys, [(172, address_whole_ctr N), (108, selector_Valid_ctr N)], G_globs, G_ifs⟩
def address_Next_S0 : Spec := ⟨[.ref 0 T27, .ref 1 T27, .val .bool], [(.box 28 T27, .pos 0), (.box 28 T27, .pos 1)]⟩
def address_Next_S1 : Spec := ⟨[.val T27], []⟩
def address_Next_S2 : Spec := ⟨[.fp T27, .val .bool], []⟩
def address_Next_K (_N : Nat) : XE → GS → Option address_Next_R := retK 0 [2, 3] [true, false] address_Next_S2
def address_Next_L : List Code := (bodyOf (some Try.f165))
theorem address_Next_1_b {E : Env} (N : Nat) (hb : Base Try.prog (address_Next_C N) E 0) : Blk Try.prog (address_Next_C N) E [1, 2, 21] address_Next_S0 (address_Next_L.drop 3) (fun y => address_Next_1 N y.1.1 y.2.1 y.2.2.1) (address_Next_K N) :=
 Blk.chunkAt hb 5 (X := (address_Next_K N .normal)) (NxOk.end (by kernel_rfl)) rfl (fun x => by kernel_rfl)
theorem address_Next_b {E : Env} (N : Nat) (hb : Base Try.prog (address_Next_C N) E 0) : Blk Try.prog (address_Next_C N) E (List.range address_Next_S1.ks.length) address_Next_S1 (address_Next_L.drop 0) (fun y => address_Next N y.1.1) (address_Next_K N) :=
 Blk.chunkAt hb 3 (X := (goK 0 [1, 2, 21] address_Next_S0 (fun y => address_Next_1 N y.1.1 y.2.1 y.2.2.1))) (NxOk.go hb (address_Next_1_b N hb)) rfl (fun x => by kernel_rfl)
def address_Next_ctr (N : Nat) : Ctr := ⟨address_Next_S1, address_Next_S2.un [true, false], 0, (fun y => address_Next N y.1.1)⟩
theorem address_Next_ctrs (N : Nat) : CtrsOk Try.prog (address_Next_C N) := ctrs_of (Γ := address_Next_C N) G_ifs_ok (by
 intro p hp
 simp only [address_Next_C, List.mem_cons, List.not_mem_nil, or_false] at hp
 rcases hp with rfl | rfl
 · exact address_whole_ok N
 · exact selector_Valid_ok N)
theorem address_Next_ok (N : Nat) : Ctr.ok Try.prog G_globs 165 (address_Next_ctr N) :=
 ctr_fn (Γ := address_Next_C N) (rfit := address_Next_S2) (bs := [true, false]) (res := [2, 3]) (by kernel_rfl) (tys_ok G_tys_ok) (address_Next_ctrs N) Try.func165 (by kernel_rfl) (by kernel_rfl) Try.ntmps165 (by kernel_rfl) (by kernel_rfl) (by kernel_rfl) (by kernel_rfl) (fun E hb => address_Next_b N hb)
/-! ipsecgate/decorrelate.nearAddresses -/
abbrev decorrelate_nearAddresses_R : Type := ((Unit) × ((List D27) × Unit))
def decorrelate_nearAddresses_2 (N : Nat) (hi_3 : D27) (l_5 : (List D27)) : Option decorrelate_nearAddresses_R :=
 Option.bind (address_Next N hi_3) fun y6 =>
 bif y6.1.2.1 then
 bif room (l_5.length + ([y6.1.1] : List D27).length) 24 then
 some ((()), ((l_5 ++ ([y6.1.1] : List D27)), ()))
 else none
 else
 some ((()), (l_5, ()))
def decorrelate_nearAddresses_1 (N : Nat) (t_18 : Bool) (lo_2 : D27) (hi_3 : D27) (l_5 : (List D27)) : Option decorrelate_nearAddresses_R :=
 bif t_18 then
 Option.bind (decorrelate_ofAddress N lo_2) fun y2 =>
 Option.bind (decorrelate_value_ahead N y2.1.1) fun y3 =>
 Option.bind (decorrelate_value_address N y3.1.1) fun y4 =>
 bif room (l_5.length + ([y4.1.1] : List D27).length) 24 then
 decorrelate_nearAddresses_2 N hi_3 (l_5 ++ ([y4.1.1] : List D27))
 else none
 else
 decorrelate_nearAddresses_2 N hi_3 l_5
def decorrelate_nearAddresses (N : Nat) (lo_0 : D27) (hi_1 : D27) : Option decorrelate_nearAddresses_R :=
 bif (!(decide (lo_0.2.1 = (0 : UInt64)))) then
 decorrelate_nearAddresses_1 N true lo_0 hi_1 ([lo_0, hi_1] : List D27)
 else
 decorrelate_nearAddresses_1 N (!(decide (lo_0.2.2.1 = (0 : UInt64)))) lo_0 hi_1 ([lo_0, hi_1] : List D27)
def decorrelate_nearAddresses_C (N : Nat) : Ctx := ⟨37, G_tys, [(103, decorrelate_ofAddress_ctr N), (82, decorrelate_value_ahead_ctr N), (149, decorrelate_value_address_ctr N), (165, address_Next_ctr N)], G_globs, G_ifs⟩
def decorrelate_nearAddresses_S0 : Spec := ⟨[.ref 0 T27, .row 1], [(.box 28 T27, .pos 0), (.row 28 T27, .pos 1)]⟩
def decorrelate_nearAddresses_S1 : Spec := ⟨[.ref 0 T27, .ref 1 T27, .row 2, .val .bool], [(.box 28 T27, .pos 0), (.box 28 T27, .pos 1), (.row 28 T27, .pos 2)]⟩
def decorrelate_nearAddresses_S2 : Spec := ⟨[.val T27, .val T27], []⟩
def decorrelate_nearAddresses_S3 : Spec := ⟨[.row 0], [(.row 28 T27, .pos 0)]⟩
def decorrelate_nearAddresses_K (_N : Nat) : XE → GS → Option decorrelate_nearAddresses_R := retK 0 [4] [false] decorrelate_nearAddresses_S3
def decorrelate_nearAddresses_L : List Code := (bodyOf (some Try.f139))
theorem decorrelate_nearAddresses_2_b {E : Env} (N : Nat) (hb : Base Try.prog (decorrelate_nearAddresses_C N) E 0) : Blk Try.prog (decorrelate_nearAddresses_C N) E [3, 5] decorrelate_nearAddresses_S0 (decorrelate_nearAddresses_L.drop 4) (fun y => decorrelate_nearAddresses_2 N y.2.1 y.2.2.1) (decorrelate_nearAddresses_K N) :=
 Blk.chunkAt hb 5 (X := (decorrelate_nearAddresses_K N .normal)) (NxOk.end (by kernel_rfl)) rfl (fun x => by kernel_rfl)
theorem decorrelate_nearAddresses_1_b {E : Env} (N : Nat) (hb : Base Try.prog (decorrelate_nearAddresses_C N) E 0) : Blk Try.prog (decorrelate_nearAddresses_C N) E [2, 3, 5, 18] decorrelate_nearAddresses_S1 (decorrelate_nearAddresses_L.drop 3) (fun y => decorrelate_nearAddresses_1 N y.1.1 y.2.1 y.2.2.1 y.2.2.2.1) (decorrelate_nearAddresses_K N) :=
 Blk.chunkAt hb 1 (X := (goK 0 [3, 5] decorrelate_nearAddresses_S0 (fun y => decorrelate_nearAddresses_2 N y.2.1 y.2.2.1))) (NxOk.go hb (decorrelate_nearAddresses_2_b N hb)) rfl (fun x => by kernel_rfl)
theorem decorrelate_nearAddresses_b {E : Env} (N : Nat) (hb : Base Try.prog (decorrelate_nearAddresses_C N) E 0) : Blk Try.prog (decorrelate_nearAddresses_C N) E (List.range decorrelate_nearAddresses_S2.ks.length) decorrelate_nearAddresses_S2 (decorrelate_nearAddresses_L.drop 0) (fun y => decorrelate_nearAddresses N y.1.1 y.1.2.1) (decorrelate_nearAddresses_K N) :=
 Blk.chunkAt hb 3 (X := (goK 0 [2, 3, 5, 18] decorrelate_nearAddresses_S1 (fun y => decorrelate_nearAddresses_1 N y.1.1 y.2.1 y.2.2.1 y.2.2.2.1))) (NxOk.go hb (decorrelate_nearAddresses_1_b N hb)) rfl (fun x => by kernel_rfl)
def decorrelate_nearAddresses_ctr (N : Nat) : Ctr := ⟨decorrelate_nearAddresses_S2, decorrelate_nearAddresses_S3.un [false], 0, (fun y => decorrelate_nearAddresses N y.1.1 y.1.2.1)⟩
theorem decorrelate_nearAddresses_ctrs (N : Nat) : CtrsOk Try.prog (decorrelate_nearAddresses_C N) := ctrs_of (Γ := decorrelate_nearAddresses_C N) G_ifs_ok (by
 intro p hp
 simp only [decorrelate_nearAddresses_C, List.mem_cons, List.not_mem_nil, or_false] at hp
 rcases hp with rfl | rfl | rfl | rfl
 · exact decorrelate_ofAddress_ok N
 · exact decorrelate_value_ahead_ok N
 · exact decorrelate_value_address_ok N
 · exact address_Next_ok N)
theorem decorrelate_nearAddresses_ok (N : Nat) : Ctr.ok Try.prog G_globs 139 (decorrelate_nearAddresses_ctr N) :=
 ctr_fn (Γ := decorrelate_nearAddresses_C N) (rfit := decorrelate_nearAddresses_S3) (bs := [false]) (res := [4]) (by kernel_rfl) (tys_ok G_tys_ok) (decorrelate_nearAddresses_ctrs N) Try.func139 (by kernel_rfl) (by kernel_rfl) Try.ntmps139 (by kernel_rfl) (by kernel_rfl) (by kernel_rfl) (by kernel_rfl) (fun E hb => decorrelate_nearAddresses_b N hb)
/-! ipsecgate/decorrelate.near -/
abbrev decorrelate_near_R : Type := ((Unit) × ((List Int) × Unit))
def decorrelate_near_1 (N : Nat) (hi_1 : Int) (most_3 : Int) (l_9 : (List Int)) : Option decorrelate_near_R :=
 bif (decide (hi_1 < most_3)) then
 let x5 := w64 (hi_1 + (1 : Int))
 bif room (l_9.length + ([x5] : List Int).length) 8 then
 some ((()), ((l_9 ++ ([x5] : List Int)), ()))
 else none
 else
 some ((()), (l_9, ()))
def decorrelate_near (N : Nat) (lo_0 : Int) (hi_1 : Int) (least_2 : Int) (most_3 : Int) : Option decorrelate_near_R :=
 bif (decide (least_2 < lo_0)) then
 let x2 := w64 (lo_0 - (1 : Int))
 bif room (([lo_0, hi_1] : List Int).length + ([x2] : List Int).length) 8 then
 decorrelate_near_1 N hi_1 most_3 (([lo_0, hi_1] : List Int) ++ ([x2] : List Int))
 else none
 else
 decorrelate_near_1 N hi_1 most_3 ([lo_0, hi_1] : List Int)
def decorrelate_near_C (N : Nat) : Ctx := ⟨30, G_tys, [], G_globs, G_ifs⟩
def decorrelate_near_S0 : Spec := ⟨[.val .i64, .val .i64, .row 0], [(.row 3 .i64, .pos 2)]⟩
def decorrelate_near_S1 : Spec := ⟨[.val .i64, .val .i64, .val .i64, .val .i64], []⟩
def decorrelate_near_S2 : Spec := ⟨[.row 0], [(.row 3 .i64, .pos 0)]⟩
def decorrelate_near_K (_N : Nat) : XE → GS → Option decorrelate_near_R := retK 0 [8] [false] decorrelate_near_S2
def decorrelate_near_L : List Code := (bodyOf (some Try.f140))
theorem decorrelate_near_1_b {E : Env} (N : Nat) (hb : Base Try.prog (decorrelate_near_C N) E 0) : Blk Try.prog (decorrelate_near_C N) E [1, 3, 9] decorrelate_near_S0 (decorrelate_near_L.drop 4) (fun y => decorrelate_near_1 N y.1.1 y.1.2.1 y.2.1) (decorrelate_near_K N) :=
 Blk.chunkAt hb 4 (X := (decorrelate_near_K N .normal)) (NxOk.end (by kernel_rfl)) rfl (fun x => by kernel_rfl)
theorem decorrelate_near_b {E : Env} (N : Nat) (hb : Base Try.prog (decorrelate_near_C N) E 0) : Blk Try.prog (decorrelate_near_C N) E (List.range decorrelate_near_S1.ks.length) decorrelate_near_S1 (decorrelate_near_L.drop 0) (fun y => decorrelate_near N y.1.1 y.1.2.1 y.1.2.2.1 y.1.2.2.2.1) (decorrelate_near_K N) :=
 Blk.chunkAt hb 4 (X := (goK 0 [1, 3, 9] decorrelate_near_S0 (fun y => decorrelate_near_1 N y.1.1 y.1.2.1 y.2.1))) (NxOk.go hb (decorrelate_near_1_b N hb)) rfl (fun x => by kernel_rfl)
def decorrelate_near_ctr (N : Nat) : Ctr := ⟨decorrelate_near_S1, decorrelate_near_S2.un [false], 0, (fun y => decorrelate_near N y.1.1 y.1.2.1 y.1.2.2.1 y.1.2.2.2.1)⟩
theorem decorrelate_near_ctrs (N : Nat) : CtrsOk Try.prog (decorrelate_near_C N) := ctrs_nil G_ifs_ok rfl
theorem decorrelate_near_ok (N : Nat) : Ctr.ok Try.prog G_globs 140 (decorrelate_near_ctr N) :=
 ctr_fn (Γ := decorrelate_near_C N) (rfit := decorrelate_near_S2) (bs := [false]) (res := [8]) (by kernel_rfl) (tys_ok G_tys_ok) (decorrelate_near_ctrs N) Try.func140 (by kernel_rfl) (by kernel_rfl) Try.ntmps140 (by kernel_rfl) (by kernel_rfl) (by kernel_rfl) (by kernel_rfl) (fun E hb => decorrelate_near_b N hb)
/-! ipsecgate/decorrelate.Corners -/
abbrev decorrelate_Corners_R : Type := ((Unit) × ((List D29) × Unit))
def decorrelate_Corners_s32 (N : Nat) (most_1 : Int) (proto_15 : Int) (lport_17 : Int) (t_20 : (List D59)) (t_21 : Int) (t_22 : Int) (t_27 : (List D45)) (t_28 : Int) (t_29 : Int) (t_38 : Int) (t_39 : Int) (t_48 : Int) (t_49 : Int) (t_58 : Int) (t_59 : Int) (t_70 : Int) (t_71 : Int) (t_82 : Int) (t_83 : Int) (out_5 : (List D29)) (b_9 : D45) (source_11 : D27) (target_13 : D27) (t_37 : (List D27)) (t_47 : (List D27)) (t_57 : (List Int)) (t_69 : (List Int)) (t_81 : (List Int)) : Option (Lo ((Int × Int × Int × (List D59) × Int × Int × (List D45) × Int × Int × Int × Int × Int × Int × Int × Int × Int × Int × Int × Int × Unit) × ((List D29) × D45 × D27 × D27 × (List D27) × (List D27) × (List Int) × (List Int) × (List Int) × Unit)) ((Int × Int × (List D59) × Int × Int × (List D45) × Int × Int × Int × Int × Int × Int × Int × Int × Int × Int × Unit) × ((List D29) × D45 × D27 × D27 × (List D27) × (List D27) × (List Int) × (List Int) × Unit)) (Lo ((Int × Int × (List D59) × Int × Int × (List D45) × Int × Int × Int × Int × Int × Int × Int × Int × Int × Int × Unit) × ((List D29) × D45 × D27 × D27 × (List D27) × (List D27) × (List Int) × (List Int) × Unit)) ((Int × (List D59) × Int × Int × (List D45) × Int × Int × Int × Int × Int × Int × Int × Int × Unit) × ((List D29) × D45 × D27 × D27 × (List D27) × (List D27) × (List Int) × Unit)) (Lo ((Int × (List D59) × Int × Int × (List D45) × Int × Int × Int × Int × Int × Int × Int × Int × Unit) × ((List D29) × D45 × D27 × D27 × (List D27) × (List D27) × (List Int) × Unit)) ((Int × (List D59) × Int × Int × (List D45) × Int × Int × Int × Int × Int × Int × Unit) × ((List D29) × D45 × D27 × (List D27) × (List D27) × Unit)) (Lo ((Int × (List D59) × Int × Int × (List D45) × Int × Int × Int × Int × Int × Int × Unit) × ((List D29) × D45 × D27 × (List D27) × (List D27) × Unit)) ((Int × (List D59) × Int × Int × (List D45) × Int × Int × Int × Int × Unit) × ((List D29) × D45 × (List D27) × Unit)) (Lo ((Int × (List D59) × Int × Int × (List D45) × Int × Int × Int × Int × Unit) × ((List D29) × D45 × (List D27) × Unit)) ((Int × (List D59) × Int × Int × (List D45) × Int × Int × Unit) × ((List D29) × Unit)) (Lo ((Int × (List D59) × Int × Int × (List D45) × Int × Int × Unit) × ((List D29) × Unit)) ((Int × (List D59) × Int × Int × Unit) × ((List D29) × Unit)) (Lo ((Int × (List D59) × Int × Int × Unit) × ((List D29) × Unit)) ((Unit) × ((List D29) × Unit)) decorrelate_Corners_R))))))) :=
 bif (decide (t_83 < t_82)) then
 bif inR t_83 t_81.length then
 let x30 := (t_81.getD t_83.toNat (0 : Int))
 bif (decide (most_1 ≤ (out_5.length : Int))) then
 some (.rt (.rt (.rt (.rt (.rt (.rt (.rt ((()), (out_5, ())))))))))
 else
 bif room (out_5.length + ([(source_11, target_13, proto_15, lport_17, x30, ())] : List D29).length) 72 then
 some (.go ((most_1, proto_15, lport_17, t_20, t_21, t_22, t_27, t_28, t_29, t_38, t_39, t_48, t_49, t_58, t_59, t_70, t_71, t_82, (w64 (t_83 + (1 : Int))), ()), ((out_5 ++ ([(source_11, target_13, proto_15, lport_17, x30, ())] : List D29)), b_9, source_11, target_13, t_37, t_47, t_57, t_69, t_81, ())))
 else none
 else none
 else
 some (.br ((most_1, proto_15, t_20, t_21, t_22, t_27, t_28, t_29, t_38, t_39, t_48, t_49, t_58, t_59, t_70, t_71, ()), (out_5, b_9, source_11, target_13, t_37, t_47, t_57, t_69, ())))
def decorrelate_Corners_33 (N : Nat) (most_1 : Int) (proto_15 : Int) (t_20 : (List D59)) (t_21 : Int) (t_22 : Int) (t_27 : (List D45)) (t_28 : Int) (t_29 : Int) (t_38 : Int) (t_39 : Int) (t_48 : Int) (t_49 : Int) (t_58 : Int) (t_59 : Int) (t_70 : Int) (t_71 : Int) (out_5 : (List D29)) (b_9 : D45) (source_11 : D27) (target_13 : D27) (t_37 : (List D27)) (t_47 : (List D27)) (t_57 : (List Int)) (t_69 : (List Int)) : Option (Lo ((Int × Int × (List D59) × Int × Int × (List D45) × Int × Int × Int × Int × Int × Int × Int × Int × Int × Int × Unit) × ((List D29) × D45 × D27 × D27 × (List D27) × (List D27) × (List Int) × (List Int) × Unit)) ((Int × (List D59) × Int × Int × (List D45) × Int × Int × Int × Int × Int × Int × Int × Int × Unit) × ((List D29) × D45 × D27 × D27 × (List D27) × (List D27) × (List Int) × Unit)) (Lo ((Int × (List D59) × Int × Int × (List D45) × Int × Int × Int × Int × Int × Int × Int × Int × Unit) × ((List D29) × D45 × D27 × D27 × (List D27) × (List D27) × (List Int) × Unit)) ((Int × (List D59) × Int × Int × (List D45) × Int × Int × Int × Int × Int × Int × Unit) × ((List D29) × D45 × D27 × (List D27) × (List D27) × Unit)) (Lo ((Int × (List D59) × Int × Int × (List D45) × Int × Int × Int × Int × Int × Int × Unit) × ((List D29) × D45 × D27 × (List D27) × (List D27) × Unit)) ((Int × (List D59) × Int × Int × (List D45) × Int × Int × Int × Int × Unit) × ((List D29) × D45 × (List D27) × Unit)) (Lo ((Int × (List D59) × Int × Int × (List D45) × Int × Int × Int × Int × Unit) × ((List D29) × D45 × (List D27) × Unit)) ((Int × (List D59) × Int × Int × (List D45) × Int × Int × Unit) × ((List D29) × Unit)) (Lo ((Int × (List D59) × Int × Int × (List D45) × Int × Int × Unit) × ((List D29) × Unit)) ((Int × (List D59) × Int × Int × Unit) × ((List D29) × Unit)) (Lo ((Int × (List D59) × Int × Int × Unit) × ((List D29) × Unit)) ((Unit) × ((List D29) × Unit)) decorrelate_Corners_R)))))) :=
 some (.go ((most_1, proto_15, t_20, t_21, t_22, t_27, t_28, t_29, t_38, t_39, t_48, t_49, t_58, t_59, t_70, (w64 (t_71 + (1 : Int))), ()), (out_5, b_9, source_11, target_13, t_37, t_47, t_57, t_69, ())))
def decorrelate_Corners_31 (N : Nat) (most_1 : Int) (proto_15 : Int) (lport_17 : Int) (t_20 : (List D59)) (t_21 : Int) (t_22 : Int) (t_27 : (List D45)) (t_28 : Int) (t_29 : Int) (t_38 : Int) (t_39 : Int) (t_48 : Int) (t_49 : Int) (t_58 : Int) (t_59 : Int) (t_70 : Int) (t_71 : Int) (t_82 : Int) (t_83 : Int) (out_5 : (List D29)) (b_9 : D45) (source_11 : D27) (target_13 : D27) (t_37 : (List D27)) (t_47 : (List D27)) (t_57 : (List Int)) (t_69 : (List Int)) (t_81 : (List Int)) : Option (Lo ((Int × Int × (List D59) × Int × Int × (List D45) × Int × Int × Int × Int × Int × Int × Int × Int × Int × Int × Unit) × ((List D29) × D45 × D27 × D27 × (List D27) × (List D27) × (List Int) × (List Int) × Unit)) ((Int × (List D59) × Int × Int × (List D45) × Int × Int × Int × Int × Int × Int × Int × Int × Unit) × ((List D29) × D45 × D27 × D27 × (List D27) × (List D27) × (List Int) × Unit)) (Lo ((Int × (List D59) × Int × Int × (List D45) × Int × Int × Int × Int × Int × Int × Int × Int × Unit) × ((List D29) × D45 × D27 × D27 × (List D27) × (List D27) × (List Int) × Unit)) ((Int × (List D59) × Int × Int × (List D45) × Int × Int × Int × Int × Int × Int × Unit) × ((List D29) × D45 × D27 × (List D27) × (List D27) × Unit)) (Lo ((Int × (List D59) × Int × Int × (List D45) × Int × Int × Int × Int × Int × Int × Unit) × ((List D29) × D45 × D27 × (List D27) × (List D27) × Unit)) ((Int × (List D59) × Int × Int × (List D45) × Int × Int × Int × Int × Unit) × ((List D29) × D45 × (List D27) × Unit)) (Lo ((Int × (List D59) × Int × Int × (List D45) × Int × Int × Int × Int × Unit) × ((List D29) × D45 × (List D27) × Unit)) ((Int × (List D59) × Int × Int × (List D45) × Int × Int × Unit) × ((List D29) × Unit)) (Lo ((Int × (List D59) × Int × Int × (List D45) × Int × Int × Unit) × ((List D29) × Unit)) ((Int × (List D59) × Int × Int × Unit) × ((List D29) × Unit)) (Lo ((Int × (List D59) × Int × Int × Unit) × ((List D29) × Unit)) ((Unit) × ((List D29) × Unit)) decorrelate_Corners_R)))))) :=
 loopK N (fun y => decorrelate_Corners_s32 N y.1.1 y.1.2.1 y.1.2.2.1 y.1.2.2.2.1 y.1.2.2.2.2.1 y.1.2.2.2.2.2.1 y.1.2.2.2.2.2.2.1 y.1.2.2.2.2.2.2.2.1 y.1.2.2.2.2.2.2.2.2.1 y.1.2.2.2.2.2.2.2.2.2.1 y.1.2.2.2.2.2.2.2.2.2.2.1 y.1.2.2.2.2.2.2.2.2.2.2.2.1 y.1.2.2.2.2.2.2.2.2.2.2.2.2.1 y.1.2.2.2.2.2.2.2.2.2.2.2.2.2.1 y.1.2.2.2.2.2.2.2.2.2.2.2.2.2.2.1 y.1.2.2.2.2.2.2.2.2.2.2.2.2.2.2.2.1 y.1.2.2.2.2.2.2.2.2.2.2.2.2.2.2.2.2.1 y.1.2.2.2.2.2.2.2.2.2.2.2.2.2.2.2.2.2.1 y.1.2.2.2.2.2.2.2.2.2.2.2.2.2.2.2.2.2.2.1 y.2.1 y.2.2.1 y.2.2.2.1 y.2.2.2.2.1 y.2.2.2.2.2.1 y.2.2.2.2.2.2.1 y.2.2.2.2.2.2.2.1 y.2.2.2.2.2.2.2.2.1 y.2.2.2.2.2.2.2.2.2.1) (fun (e : ((Int × Int × (List D59) × Int × Int × (List D45) × Int × Int × Int × Int × Int × Int × Int × Int × Int × Int × Unit) × ((List D29) × D45 × D27 × D27 × (List D27) × (List D27) × (List Int) × (List Int) × Unit))) => decorrelate_Corners_33 N e.1.1 e.1.2.1 e.1.2.2.1 e.1.2.2.2.1 e.1.2.2.2.2.1 e.1.2.2.2.2.2.1 e.1.2.2.2.2.2.2.1 e.1.2.2.2.2.2.2.2.1 e.1.2.2.2.2.2.2.2.2.1 e.1.2.2.2.2.2.2.2.2.2.1 e.1.2.2.2.2.2.2.2.2.2.2.1 e.1.2.2.2.2.2.2.2.2.2.2.2.1 e.1.2.2.2.2.2.2.2.2.2.2.2.2.1 e.1.2.2.2.2.2.2.2.2.2.2.2.2.2.1 e.1.2.2.2.2.2.2.2.2.2.2.2.2.2.2.1 e.1.2.2.2.2.2.2.2.2.2.2.2.2.2.2.2.1 e.2.1 e.2.2.1 e.2.2.2.1 e.2.2.2.2.1 e.2.2.2.2.2.1 e.2.2.2.2.2.2.1 e.2.2.2.2.2.2.2.1 e.2.2.2.2.2.2.2.2.1) ((most_1, proto_15, lport_17, t_20, t_21, t_22, t_27, t_28, t_29, t_38, t_39, t_48, t_49, t_58, t_59, t_70, t_71, t_82, t_83, ()), (out_5, b_9, source_11, target_13, t_37, t_47, t_57, t_69, t_81, ()))
def decorrelate_Corners_30 (N : Nat) (most_1 : Int) (proto_15 : Int) (t_20 : (List D59)) (t_21 : Int) (t_22 : Int) (t_27 : (List D45)) (t_28 : Int) (t_29 : Int) (t_38 : Int) (t_39 : Int) (t_48 : Int) (t_49 : Int) (t_58 : Int) (t_59 : Int) (t_70 : Int) (t_71 : Int) (out_5 : (List D29)) (b_9 : D45) (source_11 : D27) (target_13 : D27) (t_37 : (List D27)) (t_47 : (List D27)) (t_57 : (List Int)) (t_69 : (List Int)) : Option (Lo ((Int × Int × (List D59) × Int × Int × (List D45) × Int × Int × Int × Int × Int × Int × Int × Int × Int × Int × Unit) × ((List D29) × D45 × D27 × D27 × (List D27) × (List D27) × (List Int) × (List Int) × Unit)) ((Int × (List D59) × Int × Int × (List D45) × Int × Int × Int × Int × Int × Int × Int × Int × Unit) × ((List D29) × D45 × D27 × D27 × (List D27) × (List D27) × (List Int) × Unit)) (Lo ((Int × (List D59) × Int × Int × (List D45) × Int × Int × Int × Int × Int × Int × Int × Int × Unit) × ((List D29) × D45 × D27 × D27 × (List D27) × (List D27) × (List Int) × Unit)) ((Int × (List D59) × Int × Int × (List D45) × Int × Int × Int × Int × Int × Int × Unit) × ((List D29) × D45 × D27 × (List D27) × (List D27) × Unit)) (Lo ((Int × (List D59) × Int × Int × (List D45) × Int × Int × Int × Int × Int × Int × Unit) × ((List D29) × D45 × D27 × (List D27) × (List D27) × Unit)) ((Int × (List D59) × Int × Int × (List D45) × Int × Int × Int × Int × Unit) × ((List D29) × D45 × (List D27) × Unit)) (Lo ((Int × (List D59) × Int × Int × (List D45) × Int × Int × Int × Int × Unit) × ((List D29) × D45 × (List D27) × Unit)) ((Int × (List D59) × Int × Int × (List D45) × Int × Int × Unit) × ((List D29) × Unit)) (Lo ((Int × (List D59) × Int × Int × (List D45) × Int × Int × Unit) × ((List D29) × Unit)) ((Int × (List D59) × Int × Int × Unit) × ((List D29) × Unit)) (Lo ((Int × (List D59) × Int × Int × Unit) × ((List D29) × Unit)) ((Unit) × ((List D29) × Unit)) decorrelate_Corners_R)))))) :=
 bif inR t_71 t_69.length then
 Option.bind (decorrelate_near N (b_9.2.2.2.2.2.2.2.1.getD 0 (0 : Int)) (b_9.2.2.2.2.2.2.2.1.getD 1 (0 : Int)) (-1 : Int) (65535 : Int)) fun y27 =>
 decorrelate_Corners_31 N most_1 proto_15 (t_69.getD t_71.toNat (0 : Int)) t_20 t_21 t_22 t_27 t_28 t_29 t_38 t_39 t_48 t_49 t_58 t_59 t_70 t_71 (y27.2.1.length : Int) (0 : Int) out_5 b_9 source_11 target_13 t_37 t_47 t_57 t_69 y27.2.1
 else none
def decorrelate_Corners_28 (N : Nat) (most_1 : Int) (proto_15 : Int) (t_20 : (List D59)) (t_21 : Int) (t_22 : Int) (t_27 : (List D45)) (t_28 : Int) (t_29 : Int) (t_38 : Int) (t_39 : Int) (t_48 : Int) (t_49 : Int) (t_58 : Int) (t_59 : Int) (t_70 : Int) (t_71 : Int) (out_5 : (List D29)) (b_9 : D45) (source_11 : D27) (target_13 : D27) (t_37 : (List D27)) (t_47 : (List D27)) (t_57 : (List Int)) (t_69 : (List Int)) : Option (Lo ((Int × Int × (List D59) × Int × Int × (List D45) × Int × Int × Int × Int × Int × Int × Int × Int × Int × Int × Unit) × ((List D29) × D45 × D27 × D27 × (List D27) × (List D27) × (List Int) × (List Int) × Unit)) ((Int × (List D59) × Int × Int × (List D45) × Int × Int × Int × Int × Int × Int × Int × Int × Unit) × ((List D29) × D45 × D27 × D27 × (List D27) × (List D27) × (List Int) × Unit)) (Lo ((Int × (List D59) × Int × Int × (List D45) × Int × Int × Int × Int × Int × Int × Int × Int × Unit) × ((List D29) × D45 × D27 × D27 × (List D27) × (List D27) × (List Int) × Unit)) ((Int × (List D59) × Int × Int × (List D45) × Int × Int × Int × Int × Int × Int × Unit) × ((List D29) × D45 × D27 × (List D27) × (List D27) × Unit)) (Lo ((Int × (List D59) × Int × Int × (List D45) × Int × Int × Int × Int × Int × Int × Unit) × ((List D29) × D45 × D27 × (List D27) × (List D27) × Unit)) ((Int × (List D59) × Int × Int × (List D45) × Int × Int × Int × Int × Unit) × ((List D29) × D45 × (List D27) × Unit)) (Lo ((Int × (List D59) × Int × Int × (List D45) × Int × Int × Int × Int × Unit) × ((List D29) × D45 × (List D27) × Unit)) ((Int × (List D59) × Int × Int × (List D45) × Int × Int × Unit) × ((List D29) × Unit)) (Lo ((Int × (List D59) × Int × Int × (List D45) × Int × Int × Unit) × ((List D29) × Unit)) ((Int × (List D59) × Int × Int × Unit) × ((List D29) × Unit)) (Lo ((Int × (List D59) × Int × Int × Unit) × ((List D29) × Unit)) ((Unit) × ((List D29) × Unit)) decorrelate_Corners_R)))))) :=
 decorrelate_Corners_30 N most_1 proto_15 t_20 t_21 t_22 t_27 t_28 t_29 t_38 t_39 t_48 t_49 t_58 t_59 t_70 t_71 out_5 b_9 source_11 target_13 t_37 t_47 t_57 t_69
def decorrelate_Corners_s27 (N : Nat) (most_1 : Int) (proto_15 : Int) (t_20 : (List D59)) (t_21 : Int) (t_22 : Int) (t_27 : (List D45)) (t_28 : Int) (t_29 : Int) (t_38 : Int) (t_39 : Int) (t_48 : Int) (t_49 : Int) (t_58 : Int) (t_59 : Int) (t_70 : Int) (t_71 : Int) (out_5 : (List D29)) (b_9 : D45) (source_11 : D27) (target_13 : D27) (t_37 : (List D27)) (t_47 : (List D27)) (t_57 : (List Int)) (t_69 : (List Int)) : Option (Lo ((Int × Int × (List D59) × Int × Int × (List D45) × Int × Int × Int × Int × Int × Int × Int × Int × Int × Int × Unit) × ((List D29) × D45 × D27 × D27 × (List D27) × (List D27) × (List Int) × (List Int) × Unit)) ((Int × (List D59) × Int × Int × (List D45) × Int × Int × Int × Int × Int × Int × Int × Int × Unit) × ((List D29) × D45 × D27 × D27 × (List D27) × (List D27) × (List Int) × Unit)) (Lo ((Int × (List D59) × Int × Int × (List D45) × Int × Int × Int × Int × Int × Int × Int × Int × Unit) × ((List D29) × D45 × D27 × D27 × (List D27) × (List D27) × (List Int) × Unit)) ((Int × (List D59) × Int × Int × (List D45) × Int × Int × Int × Int × Int × Int × Unit) × ((List D29) × D45 × D27 × (List D27) × (List D27) × Unit)) (Lo ((Int × (List D59) × Int × Int × (List D45) × Int × Int × Int × Int × Int × Int × Unit) × ((List D29) × D45 × D27 × (List D27) × (List D27) × Unit)) ((Int × (List D59) × Int × Int × (List D45) × Int × Int × Int × Int × Unit) × ((List D29) × D45 × (List D27) × Unit)) (Lo ((Int × (List D59) × Int × Int × (List D45) × Int × Int × Int × Int × Unit) × ((List D29) × D45 × (List D27) × Unit)) ((Int × (List D59) × Int × Int × (List D45) × Int × Int × Unit) × ((List D29) × Unit)) (Lo ((Int × (List D59) × Int × Int × (List D45) × Int × Int × Unit) × ((List D29) × Unit)) ((Int × (List D59) × Int × Int × Unit) × ((List D29) × Unit)) (Lo ((Int × (List D59) × Int × Int × Unit) × ((List D29) × Unit)) ((Unit) × ((List D29) × Unit)) decorrelate_Corners_R)))))) :=
 bif (decide (t_71 < t_70)) then
 decorrelate_Corners_28 N most_1 proto_15 t_20 t_21 t_22 t_27 t_28 t_29 t_38 t_39 t_48 t_49 t_58 t_59 t_70 t_71 out_5 b_9 source_11 target_13 t_37 t_47 t_57 t_69
 else
 some (.br ((most_1, t_20, t_21, t_22, t_27, t_28, t_29, t_38, t_39, t_48, t_49, t_58, t_59, ()), (out_5, b_9, source_11, target_13, t_37, t_47, t_57, ())))
def decorrelate_Corners_34 (N : Nat) (most_1 : Int) (t_20 : (List D59)) (t_21 : Int) (t_22 : Int) (t_27 : (List D45)) (t_28 : Int) (t_29 : Int) (t_38 : Int) (t_39 : Int) (t_48 : Int) (t_49 : Int) (t_58 : Int) (t_59 : Int) (out_5 : (List D29)) (b_9 : D45) (source_11 : D27) (target_13 : D27) (t_37 : (List D27)) (t_47 : (List D27)) (t_57 : (List Int)) : Option (Lo ((Int × (List D59) × Int × Int × (List D45) × Int × Int × Int × Int × Int × Int × Int × Int × Unit) × ((List D29) × D45 × D27 × D27 × (List D27) × (List D27) × (List Int) × Unit)) ((Int × (List D59) × Int × Int × (List D45) × Int × Int × Int × Int × Int × Int × Unit) × ((List D29) × D45 × D27 × (List D27) × (List D27) × Unit)) (Lo ((Int × (List D59) × Int × Int × (List D45) × Int × Int × Int × Int × Int × Int × Unit) × ((List D29) × D45 × D27 × (List D27) × (List D27) × Unit)) ((Int × (List D59) × Int × Int × (List D45) × Int × Int × Int × Int × Unit) × ((List D29) × D45 × (List D27) × Unit)) (Lo ((Int × (List D59) × Int × Int × (List D45) × Int × Int × Int × Int × Unit) × ((List D29) × D45 × (List D27) × Unit)) ((Int × (List D59) × Int × Int × (List D45) × Int × Int × Unit) × ((List D29) × Unit)) (Lo ((Int × (List D59) × Int × Int × (List D45) × Int × Int × Unit) × ((List D29) × Unit)) ((Int × (List D59) × Int × Int × Unit) × ((List D29) × Unit)) (Lo ((Int × (List D59) × Int × Int × Unit) × ((List D29) × Unit)) ((Unit) × ((List D29) × Unit)) decorrelate_Corners_R))))) :=
 some (.go ((most_1, t_20, t_21, t_22, t_27, t_28, t_29, t_38, t_39, t_48, t_49, t_58, (w64 (t_59 + (1 : Int))), ()), (out_5, b_9, source_11, target_13, t_37, t_47, t_57, ())))
def decorrelate_Corners_26 (N : Nat) (most_1 : Int) (proto_15 : Int) (t_20 : (List D59)) (t_21 : Int) (t_22 : Int) (t_27 : (List D45)) (t_28 : Int) (t_29 : Int) (t_38 : Int) (t_39 : Int) (t_48 : Int) (t_49 : Int) (t_58 : Int) (t_59 : Int) (t_70 : Int) (t_71 : Int) (out_5 : (List D29)) (b_9 : D45) (source_11 : D27) (target_13 : D27) (t_37 : (List D27)) (t_47 : (List D27)) (t_57 : (List Int)) (t_69 : (List Int)) : Option (Lo ((Int × (List D59) × Int × Int × (List D45) × Int × Int × Int × Int × Int × Int × Int × Int × Unit) × ((List D29) × D45 × D27 × D27 × (List D27) × (List D27) × (List Int) × Unit)) ((Int × (List D59) × Int × Int × (List D45) × Int × Int × Int × Int × Int × Int × Unit) × ((List D29) × D45 × D27 × (List D27) × (List D27) × Unit)) (Lo ((Int × (List D59) × Int × Int × (List D45) × Int × Int × Int × Int × Int × Int × Unit) × ((List D29) × D45 × D27 × (List D27) × (List D27) × Unit)) ((Int × (List D59) × Int × Int × (List D45) × Int × Int × Int × Int × Unit) × ((List D29) × D45 × (List D27) × Unit)) (Lo ((Int × (List D59) × Int × Int × (List D45) × Int × Int × Int × Int × Unit) × ((List D29) × D45 × (List D27) × Unit)) ((Int × (List D59) × Int × Int × (List D45) × Int × Int × Unit) × ((List D29) × Unit)) (Lo ((Int × (List D59) × Int × Int × (List D45) × Int × Int × Unit) × ((List D29) × Unit)) ((Int × (List D59) × Int × Int × Unit) × ((List D29) × Unit)) (Lo ((Int × (List D59) × Int × Int × Unit) × ((List D29) × Unit)) ((Unit) × ((List D29) × Unit)) decorrelate_Corners_R))))) :=
 loopK N (fun y => decorrelate_Corners_s27 N y.1.1 y.1.2.1 y.1.2.2.1 y.1.2.2.2.1 y.1.2.2.2.2.1 y.1.2.2.2.2.2.1 y.1.2.2.2.2.2.2.1 y.1.2.2.2.2.2.2.2.1 y.1.2.2.2.2.2.2.2.2.1 y.1.2.2.2.2.2.2.2.2.2.1 y.1.2.2.2.2.2.2.2.2.2.2.1 y.1.2.2.2.2.2.2.2.2.2.2.2.1 y.1.2.2.2.2.2.2.2.2.2.2.2.2.1 y.1.2.2.2.2.2.2.2.2.2.2.2.2.2.1 y.1.2.2.2.2.2.2.2.2.2.2.2.2.2.2.1 y.1.2.2.2.2.2.2.2.2.2.2.2.2.2.2.2.1 y.2.1 y.2.2.1 y.2.2.2.1 y.2.2.2.2.1 y.2.2.2.2.2.1 y.2.2.2.2.2.2.1 y.2.2.2.2.2.2.2.1 y.2.2.2.2.2.2.2.2.1) (fun (e : ((Int × (List D59) × Int × Int × (List D45) × Int × Int × Int × Int × Int × Int × Int × Int × Unit) × ((List D29) × D45 × D27 × D27 × (List D27) × (List D27) × (List Int) × Unit))) => decorrelate_Corners_34 N e.1.1 e.1.2.1 e.1.2.2.1 e.1.2.2.2.1 e.1.2.2.2.2.1 e.1.2.2.2.2.2.1 e.1.2.2.2.2.2.2.1 e.1.2.2.2.2.2.2.2.1 e.1.2.2.2.2.2.2.2.2.1 e.1.2.2.2.2.2.2.2.2.2.1 e.1.2.2.2.2.2.2.2.2.2.2.1 e.1.2.2.2.2.2.2.2.2.2.2.2.1 e.1.2.2.2.2.2.2.2.2.2.2.2.2.1 e.2.1 e.2.2.1 e.2.2.2.1 e.2.2.2.2.1 e.2.2.2.2.2.1 e.2.2.2.2.2.2.1 e.2.2.2.2.2.2.2.1) ((most_1, proto_15, t_20, t_21, t_22, t_27, t_28, t_29, t_38, t_39, t_48, t_49, t_58, t_59, t_70, t_71, ()), (out_5, b_9, source_11, target_13, t_37, t_47, t_57, t_69, ()))
def decorrelate_Corners_25 (N : Nat) (most_1 : Int) (t_20 : (List D59)) (t_21 : Int) (t_22 : Int) (t_27 : (List D45)) (t_28 : Int) (t_29 : Int) (t_38 : Int) (t_39 : Int) (t_48 : Int) (t_49 : Int) (t_58 : Int) (t_59 : Int) (out_5 : (List D29)) (b_9 : D45) (source_11 : D27) (target_13 : D27) (t_37 : (List D27)) (t_47 : (List D27)) (t_57 : (List Int)) : Option (Lo ((Int × (List D59) × Int × Int × (List D45) × Int × Int × Int × Int × Int × Int × Int × Int × Unit) × ((List D29) × D45 × D27 × D27 × (List D27) × (List D27) × (List Int) × Unit)) ((Int × (List D59) × Int × Int × (List D45) × Int × Int × Int × Int × Int × Int × Unit) × ((List D29) × D45 × D27 × (List D27) × (List D27) × Unit)) (Lo ((Int × (List D59) × Int × Int × (List D45) × Int × Int × Int × Int × Int × Int × Unit) × ((List D29) × D45 × D27 × (List D27) × (List D27) × Unit)) ((Int × (List D59) × Int × Int × (List D45) × Int × Int × Int × Int × Unit) × ((List D29) × D45 × (List D27) × Unit)) (Lo ((Int × (List D59) × Int × Int × (List D45) × Int × Int × Int × Int × Unit) × ((List D29) × D45 × (List D27) × Unit)) ((Int × (List D59) × Int × Int × (List D45) × Int × Int × Unit) × ((List D29) × Unit)) (Lo ((Int × (List D59) × Int × Int × (List D45) × Int × Int × Unit) × ((List D29) × Unit)) ((Int × (List D59) × Int × Int × Unit) × ((List D29) × Unit)) (Lo ((Int × (List D59) × Int × Int × Unit) × ((List D29) × Unit)) ((Unit) × ((List D29) × Unit)) decorrelate_Corners_R))))) :=
 bif inR t_59 t_57.length then
 Option.bind (decorrelate_near N (b_9.2.2.2.2.2.2.1.getD 0 (0 : Int)) (b_9.2.2.2.2.2.2.1.getD 1 (0 : Int)) (-1 : Int) (65535 : Int)) fun y21 =>
 decorrelate_Corners_26 N most_1 (t_57.getD t_59.toNat (0 : Int)) t_20 t_21 t_22 t_27 t_28 t_29 t_38 t_39 t_48 t_49 t_58 t_59 (y21.2.1.length : Int) (0 : Int) out_5 b_9 source_11 target_13 t_37 t_47 t_57 y21.2.1
 else none
def decorrelate_Corners_23 (N : Nat) (most_1 : Int) (t_20 : (List D59)) (t_21 : Int) (t_22 : Int) (t_27 : (List D45)) (t_28 : Int) (t_29 : Int) (t_38 : Int) (t_39 : Int) (t_48 : Int) (t_49 : Int) (t_58 : Int) (t_59 : Int) (out_5 : (List D29)) (b_9 : D45) (source_11 : D27) (target_13 : D27) (t_37 : (List D27)) (t_47 : (List D27)) (t_57 : (List Int)) : Option (Lo ((Int × (List D59) × Int × Int × (List D45) × Int × Int × Int × Int × Int × Int × Int × Int × Unit) × ((List D29) × D45 × D27 × D27 × (List D27) × (List D27) × (List Int) × Unit)) ((Int × (List D59) × Int × Int × (List D45) × Int × Int × Int × Int × Int × Int × Unit) × ((List D29) × D45 × D27 × (List D27) × (List D27) × Unit)) (Lo ((Int × (List D59) × Int × Int × (List D45) × Int × Int × Int × Int × Int × Int × Unit) × ((List D29) × D45 × D27 × (List D27) × (List D27) × Unit)) ((Int × (List D59) × Int × Int × (List D45) × Int × Int × Int × Int × Unit) × ((List D29) × D45 × (List D27) × Unit)) (Lo ((Int × (List D59) × Int × Int × (List D45) × Int × Int × Int × Int × Unit) × ((List D29) × D45 × (List D27) × Unit)) ((Int × (List D59) × Int × Int × (List D45) × Int × Int × Unit) × ((List D29) × Unit)) (Lo ((Int × (List D59) × Int × Int × (List D45) × Int × Int × Unit) × ((List D29) × Unit)) ((Int × (List D59) × Int × Int × Unit) × ((List D29) × Unit)) (Lo ((Int × (List D59) × Int × Int × Unit) × ((List D29) × Unit)) ((Unit) × ((List D29) × Unit)) decorrelate_Corners_R))))) :=
 decorrelate_Corners_25 N most_1 t_20 t_21 t_22 t_27 t_28 t_29 t_38 t_39 t_48 t_49 t_58 t_59 out_5 b_9 source_11 target_13 t_37 t_47 t_57
def decorrelate_Corners_s22 (N : Nat) (most_1 : Int) (t_20 : (List D59)) (t_21 : Int) (t_22 : Int) (t_27 : (List D45)) (t_28 : Int) (t_29 : Int) (t_38 : Int) (t_39 : Int) (t_48 : Int) (t_49 : Int) (t_58 : Int) (t_59 : Int) (out_5 : (List D29)) (b_9 : D45) (source_11 : D27) (target_13 : D27) (t_37 : (List D27)) (t_47 : (List D27)) (t_57 : (List Int)) : Option (Lo ((Int × (List D59) × Int × Int × (List D45) × Int × Int × Int × Int × Int × Int × Int × Int × Unit) × ((List D29) × D45 × D27 × D27 × (List D27) × (List D27) × (List Int) × Unit)) ((Int × (List D59) × Int × Int × (List D45) × Int × Int × Int × Int × Int × Int × Unit) × ((List D29) × D45 × D27 × (List D27) × (List D27) × Unit)) (Lo ((Int × (List D59) × Int × Int × (List D45) × Int × Int × Int × Int × Int × Int × Unit) × ((List D29) × D45 × D27 × (List D27) × (List D27) × Unit)) ((Int × (List D59) × Int × Int × (List D45) × Int × Int × Int × Int × Unit) × ((List D29) × D45 × (List D27) × Unit)) (Lo ((Int × (List D59) × Int × Int × (List D45) × Int × Int × Int × Int × Unit) × ((List D29) × D45 × (List D27) × Unit)) ((Int × (List D59) × Int × Int × (List D45) × Int × Int × Unit) × ((List D29) × Unit)) (Lo ((Int × (List D59) × Int × Int × (List D45) × Int × Int × Unit) × ((List D29) × Unit)) ((Int × (List D59) × Int × Int × Unit) × ((List D29) × Unit)) (Lo ((Int × (List D59) × Int × Int × Unit) × ((List D29) × Unit)) ((Unit) × ((List D29) × Unit)) decorrelate_Corners_R))))) :=
 bif (decide (t_59 < t_58)) then
 decorrelate_Corners_23 N most_1 t_20 t_21 t_22 t_27 t_28 t_29 t_38 t_39 t_48 t_49 t_58 t_59 out_5 b_9 source_11 target_13 t_37 t_47 t_57
 else
 some (.br ((most_1, t_20, t_21, t_22, t_27, t_28, t_29, t_38, t_39, t_48, t_49, ()), (out_5, b_9, source_11, t_37, t_47, ())))
def decorrelate_Corners_35 (N : Nat) (most_1 : Int) (t_20 : (List D59)) (t_21 : Int) (t_22 : Int) (t_27 : (List D45)) (t_28 : Int) (t_29 : Int) (t_38 : Int) (t_39 : Int) (t_48 : Int) (t_49 : Int) (out_5 : (List D29)) (b_9 : D45) (source_11 : D27) (t_37 : (List D27)) (t_47 : (List D27)) : Option (Lo ((Int × (List D59) × Int × Int × (List D45) × Int × Int × Int × Int × Int × Int × Unit) × ((List D29) × D45 × D27 × (List D27) × (List D27) × Unit)) ((Int × (List D59) × Int × Int × (List D45) × Int × Int × Int × Int × Unit) × ((List D29) × D45 × (List D27) × Unit)) (Lo ((Int × (List D59) × Int × Int × (List D45) × Int × Int × Int × Int × Unit) × ((List D29) × D45 × (List D27) × Unit)) ((Int × (List D59) × Int × Int × (List D45) × Int × Int × Unit) × ((List D29) × Unit)) (Lo ((Int × (List D59) × Int × Int × (List D45) × Int × Int × Unit) × ((List D29) × Unit)) ((Int × (List D59) × Int × Int × Unit) × ((List D29) × Unit)) (Lo ((Int × (List D59) × Int × Int × Unit) × ((List D29) × Unit)) ((Unit) × ((List D29) × Unit)) decorrelate_Corners_R)))) :=
 some (.go ((most_1, t_20, t_21, t_22, t_27, t_28, t_29, t_38, t_39, t_48, (w64 (t_49 + (1 : Int))), ()), (out_5, b_9, source_11, t_37, t_47, ())))
def decorrelate_Corners_21 (N : Nat) (most_1 : Int) (t_20 : (List D59)) (t_21 : Int) (t_22 : Int) (t_27 : (List D45)) (t_28 : Int) (t_29 : Int) (t_38 : Int) (t_39 : Int) (t_48 : Int) (t_49 : Int) (t_58 : Int) (t_59 : Int) (out_5 : (List D29)) (b_9 : D45) (source_11 : D27) (target_13 : D27) (t_37 : (List D27)) (t_47 : (List D27)) (t_57 : (List Int)) : Option (Lo ((Int × (List D59) × Int × Int × (List D45) × Int × Int × Int × Int × Int × Int × Unit) × ((List D29) × D45 × D27 × (List D27) × (List D27) × Unit)) ((Int × (List D59) × Int × Int × (List D45) × Int × Int × Int × Int × Unit) × ((List D29) × D45 × (List D27) × Unit)) (Lo ((Int × (List D59) × Int × Int × (List D45) × Int × Int × Int × Int × Unit) × ((List D29) × D45 × (List D27) × Unit)) ((Int × (List D59) × Int × Int × (List D45) × Int × Int × Unit) × ((List D29) × Unit)) (Lo ((Int × (List D59) × Int × Int × (List D45) × Int × Int × Unit) × ((List D29) × Unit)) ((Int × (List D59) × Int × Int × Unit) × ((List D29) × Unit)) (Lo ((Int × (List D59) × Int × Int × Unit) × ((List D29) × Unit)) ((Unit) × ((List D29) × Unit)) decorrelate_Corners_R)))) :=
 loopK N (fun y => decorrelate_Corners_s22 N y.1.1 y.1.2.1 y.1.2.2.1 y.1.2.2.2.1 y.1.2.2.2.2.1 y.1.2.2.2.2.2.1 y.1.2.2.2.2.2.2.1 y.1.2.2.2.2.2.2.2.1 y.1.2.2.2.2.2.2.2.2.1 y.1.2.2.2.2.2.2.2.2.2.1 y.1.2.2.2.2.2.2.2.2.2.2.1 y.1.2.2.2.2.2.2.2.2.2.2.2.1 y.1.2.2.2.2.2.2.2.2.2.2.2.2.1 y.2.1 y.2.2.1 y.2.2.2.1 y.2.2.2.2.1 y.2.2.2.2.2.1 y.2.2.2.2.2.2.1 y.2.2.2.2.2.2.2.1) (fun (e : ((Int × (List D59) × Int × Int × (List D45) × Int × Int × Int × Int × Int × Int × Unit) × ((List D29) × D45 × D27 × (List D27) × (List D27) × Unit))) => decorrelate_Corners_35 N e.1.1 e.1.2.1 e.1.2.2.1 e.1.2.2.2.1 e.1.2.2.2.2.1 e.1.2.2.2.2.2.1 e.1.2.2.2.2.2.2.1 e.1.2.2.2.2.2.2.2.1 e.1.2.2.2.2.2.2.2.2.1 e.1.2.2.2.2.2.2.2.2.2.1 e.1.2.2.2.2.2.2.2.2.2.2.1 e.2.1 e.2.2.1 e.2.2.2.1 e.2.2.2.2.1 e.2.2.2.2.2.1) ((most_1, t_20, t_21, t_22, t_27, t_28, t_29, t_38, t_39, t_48, t_49, t_58, t_59, ()), (out_5, b_9, source_11, target_13, t_37, t_47, t_57, ()))
def decorrelate_Corners_20 (N : Nat) (most_1 : Int) (t_20 : (List D59)) (t_21 : Int) (t_22 : Int) (t_27 : (List D45)) (t_28 : Int) (t_29 : Int) (t_38 : Int) (t_39 : Int) (t_48 : Int) (t_49 : Int) (out_5 : (List D29)) (b_9 : D45) (source_11 : D27) (t_37 : (List D27)) (t_47 : (List D27)) : Option (Lo ((Int × (List D59) × Int × Int × (List D45) × Int × Int × Int × Int × Int × Int × Unit) × ((List D29) × D45 × D27 × (List D27) × (List D27) × Unit)) ((Int × (List D59) × Int × Int × (List D45) × Int × Int × Int × Int × Unit) × ((List D29) × D45 × (List D27) × Unit)) (Lo ((Int × (List D59) × Int × Int × (List D45) × Int × Int × Int × Int × Unit) × ((List D29) × D45 × (List D27) × Unit)) ((Int × (List D59) × Int × Int × (List D45) × Int × Int × Unit) × ((List D29) × Unit)) (Lo ((Int × (List D59) × Int × Int × (List D45) × Int × Int × Unit) × ((List D29) × Unit)) ((Int × (List D59) × Int × Int × Unit) × ((List D29) × Unit)) (Lo ((Int × (List D59) × Int × Int × Unit) × ((List D29) × Unit)) ((Unit) × ((List D29) × Unit)) decorrelate_Corners_R)))) :=
 bif inR t_49 t_47.length then
 Option.bind (decorrelate_near N b_9.2.2.2.2.1 b_9.2.2.2.2.2.1 (0 : Int) (255 : Int)) fun y15 =>
 decorrelate_Corners_21 N most_1 t_20 t_21 t_22 t_27 t_28 t_29 t_38 t_39 t_48 t_49 (y15.2.1.length : Int) (0 : Int) out_5 b_9 source_11 (t_47.getD t_49.toNat ((0 : Int), (0 : UInt64), (0 : UInt64), ())) t_37 t_47 y15.2.1
 else none
def decorrelate_Corners_18 (N : Nat) (most_1 : Int) (t_20 : (List D59)) (t_21 : Int) (t_22 : Int) (t_27 : (List D45)) (t_28 : Int) (t_29 : Int) (t_38 : Int) (t_39 : Int) (t_48 : Int) (t_49 : Int) (out_5 : (List D29)) (b_9 : D45) (source_11 : D27) (t_37 : (List D27)) (t_47 : (List D27)) : Option (Lo ((Int × (List D59) × Int × Int × (List D45) × Int × Int × Int × Int × Int × Int × Unit) × ((List D29) × D45 × D27 × (List D27) × (List D27) × Unit)) ((Int × (List D59) × Int × Int × (List D45) × Int × Int × Int × Int × Unit) × ((List D29) × D45 × (List D27) × Unit)) (Lo ((Int × (List D59) × Int × Int × (List D45) × Int × Int × Int × Int × Unit) × ((List D29) × D45 × (List D27) × Unit)) ((Int × (List D59) × Int × Int × (List D45) × Int × Int × Unit) × ((List D29) × Unit)) (Lo ((Int × (List D59) × Int × Int × (List D45) × Int × Int × Unit) × ((List D29) × Unit)) ((Int × (List D59) × Int × Int × Unit) × ((List D29) × Unit)) (Lo ((Int × (List D59) × Int × Int × Unit) × ((List D29) × Unit)) ((Unit) × ((List D29) × Unit)) decorrelate_Corners_R)))) :=
 decorrelate_Corners_20 N most_1 t_20 t_21 t_22 t_27 t_28 t_29 t_38 t_39 t_48 t_49 out_5 b_9 source_11 t_37 t_47
def decorrelate_Corners_s17 (N : Nat) (most_1 : Int) (t_20 : (List D59)) (t_21 : Int) (t_22 : Int) (t_27 : (List D45)) (t_28 : Int) (t_29 : Int) (t_38 : Int) (t_39 : Int) (t_48 : Int) (t_49 : Int) (out_5 : (List D29)) (b_9 : D45) (source_11 : D27) (t_37 : (List D27)) (t_47 : (List D27)) : Option (Lo ((Int × (List D59) × Int × Int × (List D45) × Int × Int × Int × Int × Int × Int × Unit) × ((List D29) × D45 × D27 × (List D27) × (List D27) × Unit)) ((Int × (List D59) × Int × Int × (List D45) × Int × Int × Int × Int × Unit) × ((List D29) × D45 × (List D27) × Unit)) (Lo ((Int × (List D59) × Int × Int × (List D45) × Int × Int × Int × Int × Unit) × ((List D29) × D45 × (List D27) × Unit)) ((Int × (List D59) × Int × Int × (List D45) × Int × Int × Unit) × ((List D29) × Unit)) (Lo ((Int × (List D59) × Int × Int × (List D45) × Int × Int × Unit) × ((List D29) × Unit)) ((Int × (List D59) × Int × Int × Unit) × ((List D29) × Unit)) (Lo ((Int × (List D59) × Int × Int × Unit) × ((List D29) × Unit)) ((Unit) × ((List D29) × Unit)) decorrelate_Corners_R)))) :=
 bif (decide (t_49 < t_48)) then
 decorrelate_Corners_18 N most_1 t_20 t_21 t_22 t_27 t_28 t_29 t_38 t_39 t_48 t_49 out_5 b_9 source_11 t_37 t_47
 else
 some (.br ((most_1, t_20, t_21, t_22, t_27, t_28, t_29, t_38, t_39, ()), (out_5, b_9, t_37, ())))
def decorrelate_Corners_36 (N : Nat) (most_1 : Int) (t_20 : (List D59)) (t_21 : Int) (t_22 : Int) (t_27 : (List D45)) (t_28 : Int) (t_29 : Int) (t_38 : Int) (t_39 : Int) (out_5 : (List D29)) (b_9 : D45) (t_37 : (List D27)) : Option (Lo ((Int × (List D59) × Int × Int × (List D45) × Int × Int × Int × Int × Unit) × ((List D29) × D45 × (List D27) × Unit)) ((Int × (List D59) × Int × Int × (List D45) × Int × Int × Unit) × ((List D29) × Unit)) (Lo ((Int × (List D59) × Int × Int × (List D45) × Int × Int × Unit) × ((List D29) × Unit)) ((Int × (List D59) × Int × Int × Unit) × ((List D29) × Unit)) (Lo ((Int × (List D59) × Int × Int × Unit) × ((List D29) × Unit)) ((Unit) × ((List D29) × Unit)) decorrelate_Corners_R))) :=
 some (.go ((most_1, t_20, t_21, t_22, t_27, t_28, t_29, t_38, (w64 (t_39 + (1 : Int))), ()), (out_5, b_9, t_37, ())))
def decorrelate_Corners_16 (N : Nat) (most_1 : Int) (t_20 : (List D59)) (t_21 : Int) (t_22 : Int) (t_27 : (List D45)) (t_28 : Int) (t_29 : Int) (t_38 : Int) (t_39 : Int) (t_48 : Int) (t_49 : Int) (out_5 : (List D29)) (b_9 : D45) (source_11 : D27) (t_37 : (List D27)) (t_47 : (List D27)) : Option (Lo ((Int × (List D59) × Int × Int × (List D45) × Int × Int × Int × Int × Unit) × ((List D29) × D45 × (List D27) × Unit)) ((Int × (List D59) × Int × Int × (List D45) × Int × Int × Unit) × ((List D29) × Unit)) (Lo ((Int × (List D59) × Int × Int × (List D45) × Int × Int × Unit) × ((List D29) × Unit)) ((Int × (List D59) × Int × Int × Unit) × ((List D29) × Unit)) (Lo ((Int × (List D59) × Int × Int × Unit) × ((List D29) × Unit)) ((Unit) × ((List D29) × Unit)) decorrelate_Corners_R))) :=
 loopK N (fun y => decorrelate_Corners_s17 N y.1.1 y.1.2.1 y.1.2.2.1 y.1.2.2.2.1 y.1.2.2.2.2.1 y.1.2.2.2.2.2.1 y.1.2.2.2.2.2.2.1 y.1.2.2.2.2.2.2.2.1 y.1.2.2.2.2.2.2.2.2.1 y.1.2.2.2.2.2.2.2.2.2.1 y.1.2.2.2.2.2.2.2.2.2.2.1 y.2.1 y.2.2.1 y.2.2.2.1 y.2.2.2.2.1 y.2.2.2.2.2.1) (fun (e : ((Int × (List D59) × Int × Int × (List D45) × Int × Int × Int × Int × Unit) × ((List D29) × D45 × (List D27) × Unit))) => decorrelate_Corners_36 N e.1.1 e.1.2.1 e.1.2.2.1 e.1.2.2.2.1 e.1.2.2.2.2.1 e.1.2.2.2.2.2.1 e.1.2.2.2.2.2.2.1 e.1.2.2.2.2.2.2.2.1 e.1.2.2.2.2.2.2.2.2.1 e.2.1 e.2.2.1 e.2.2.2.1) ((most_1, t_20, t_21, t_22, t_27, t_28, t_29, t_38, t_39, t_48, t_49, ()), (out_5, b_9, source_11, t_37, t_47, ()))
def decorrelate_Corners_15 (N : Nat) (most_1 : Int) (t_20 : (List D59)) (t_21 : Int) (t_22 : Int) (t_27 : (List D45)) (t_28 : Int) (t_29 : Int) (t_38 : Int) (t_39 : Int) (out_5 : (List D29)) (b_9 : D45) (t_37 : (List D27)) : Option (Lo ((Int × (List D59) × Int × Int × (List D45) × Int × Int × Int × Int × Unit) × ((List D29) × D45 × (List D27) × Unit)) ((Int × (List D59) × Int × Int × (List D45) × Int × Int × Unit) × ((List D29) × Unit)) (Lo ((Int × (List D59) × Int × Int × (List D45) × Int × Int × Unit) × ((List D29) × Unit)) ((Int × (List D59) × Int × Int × Unit) × ((List D29) × Unit)) (Lo ((Int × (List D59) × Int × Int × Unit) × ((List D29) × Unit)) ((Unit) × ((List D29) × Unit)) decorrelate_Corners_R))) :=
 bif inR t_39 t_37.length then
 Option.bind (decorrelate_nearAddresses N b_9.2.2.1 b_9.2.2.2.1) fun y11 =>
 decorrelate_Corners_16 N most_1 t_20 t_21 t_22 t_27 t_28 t_29 t_38 t_39 (y11.2.1.length : Int) (0 : Int) out_5 b_9 (t_37.getD t_39.toNat ((0 : Int), (0 : UInt64), (0 : UInt64), ())) t_37 y11.2.1
 else none
def decorrelate_Corners_13 (N : Nat) (most_1 : Int) (t_20 : (List D59)) (t_21 : Int) (t_22 : Int) (t_27 : (List D45)) (t_28 : Int) (t_29 : Int) (t_38 : Int) (t_39 : Int) (out_5 : (List D29)) (b_9 : D45) (t_37 : (List D27)) : Option (Lo ((Int × (List D59) × Int × Int × (List D45) × Int × Int × Int × Int × Unit) × ((List D29) × D45 × (List D27) × Unit)) ((Int × (List D59) × Int × Int × (List D45) × Int × Int × Unit) × ((List D29) × Unit)) (Lo ((Int × (List D59) × Int × Int × (List D45) × Int × Int × Unit) × ((List D29) × Unit)) ((Int × (List D59) × Int × Int × Unit) × ((List D29) × Unit)) (Lo ((Int × (List D59) × Int × Int × Unit) × ((List D29) × Unit)) ((Unit) × ((List D29) × Unit)) decorrelate_Corners_R))) :=
 decorrelate_Corners_15 N most_1 t_20 t_21 t_22 t_27 t_28 t_29 t_38 t_39 out_5 b_9 t_37
def decorrelate_Corners_s12 (N : Nat) (most_1 : Int) (t_20 : (List D59)) (t_21 : Int) (t_22 : Int) (t_27 : (List D45)) (t_28 : Int) (t_29 : Int) (t_38 : Int) (t_39 : Int) (out_5 : (List D29)) (b_9 : D45) (t_37 : (List D27)) : Option (Lo ((Int × (List D59) × Int × Int × (List D45) × Int × Int × Int × Int × Unit) × ((List D29) × D45 × (List D27) × Unit)) ((Int × (List D59) × Int × Int × (List D45) × Int × Int × Unit) × ((List D29) × Unit)) (Lo ((Int × (List D59) × Int × Int × (List D45) × Int × Int × Unit) × ((List D29) × Unit)) ((Int × (List D59) × Int × Int × Unit) × ((List D29) × Unit)) (Lo ((Int × (List D59) × Int × Int × Unit) × ((List D29) × Unit)) ((Unit) × ((List D29) × Unit)) decorrelate_Corners_R))) :=
 bif (decide (t_39 < t_38)) then
 decorrelate_Corners_13 N most_1 t_20 t_21 t_22 t_27 t_28 t_29 t_38 t_39 out_5 b_9 t_37
 else
 some (.br ((most_1, t_20, t_21, t_22, t_27, t_28, t_29, ()), (out_5, ())))
def decorrelate_Corners_37 (N : Nat) (most_1 : Int) (t_20 : (List D59)) (t_21 : Int) (t_22 : Int) (t_27 : (List D45)) (t_28 : Int) (t_29 : Int) (out_5 : (List D29)) : Option (Lo ((Int × (List D59) × Int × Int × (List D45) × Int × Int × Unit) × ((List D29) × Unit)) ((Int × (List D59) × Int × Int × Unit) × ((List D29) × Unit)) (Lo ((Int × (List D59) × Int × Int × Unit) × ((List D29) × Unit)) ((Unit) × ((List D29) × Unit)) decorrelate_Corners_R)) :=
 some (.go ((most_1, t_20, t_21, t_22, t_27, t_28, (w64 (t_29 + (1 : Int))), ()), (out_5, ())))
def decorrelate_Corners_11 (N : Nat) (most_1 : Int) (t_20 : (List D59)) (t_21 : Int) (t_22 : Int) (t_27 : (List D45)) (t_28 : Int) (t_29 : Int) (t_38 : Int) (t_39 : Int) (out_5 : (List D29)) (b_9 : D45) (t_37 : (List D27)) : Option (Lo ((Int × (List D59) × Int × Int × (List D45) × Int × Int × Unit) × ((List D29) × Unit)) ((Int × (List D59) × Int × Int × Unit) × ((List D29) × Unit)) (Lo ((Int × (List D59) × Int × Int × Unit) × ((List D29) × Unit)) ((Unit) × ((List D29) × Unit)) decorrelate_Corners_R)) :=
 loopK N (fun y => decorrelate_Corners_s12 N y.1.1 y.1.2.1 y.1.2.2.1 y.1.2.2.2.1 y.1.2.2.2.2.1 y.1.2.2.2.2.2.1 y.1.2.2.2.2.2.2.1 y.1.2.2.2.2.2.2.2.1 y.1.2.2.2.2.2.2.2.2.1 y.2.1 y.2.2.1 y.2.2.2.1) (fun (e : ((Int × (List D59) × Int × Int × (List D45) × Int × Int × Unit) × ((List D29) × Unit))) => decorrelate_Corners_37 N e.1.1 e.1.2.1 e.1.2.2.1 e.1.2.2.2.1 e.1.2.2.2.2.1 e.1.2.2.2.2.2.1 e.1.2.2.2.2.2.2.1 e.2.1) ((most_1, t_20, t_21, t_22, t_27, t_28, t_29, t_38, t_39, ()), (out_5, b_9, t_37, ()))
def decorrelate_Corners_10 (N : Nat) (most_1 : Int) (t_20 : (List D59)) (t_21 : Int) (t_22 : Int) (t_27 : (List D45)) (t_28 : Int) (t_29 : Int) (out_5 : (List D29)) : Option (Lo ((Int × (List D59) × Int × Int × (List D45) × Int × Int × Unit) × ((List D29) × Unit)) ((Int × (List D59) × Int × Int × Unit) × ((List D29) × Unit)) (Lo ((Int × (List D59) × Int × Int × Unit) × ((List D29) × Unit)) ((Unit) × ((List D29) × Unit)) decorrelate_Corners_R)) :=
 bif inR t_29 t_27.length then
 let x6 := t_27.getD t_29.toNat (((0 : Int), (0 : UInt64), (0 : UInt64), ()), ((0 : Int), (0 : UInt64), (0 : UInt64), ()), ((0 : Int), (0 : UInt64), (0 : UInt64), ()), ((0 : Int), (0 : UInt64), (0 : UInt64), ()), (0 : Int), (0 : Int), (List.replicate 2 (0 : Int)), (List.replicate 2 (0 : Int)), ())
 Option.bind (decorrelate_nearAddresses N x6.1 x6.2.1) fun y7 =>
 decorrelate_Corners_11 N most_1 t_20 t_21 t_22 t_27 t_28 t_29 (y7.2.1.length : Int) (0 : Int) out_5 x6 y7.2.1
 else none
def decorrelate_Corners_8 (N : Nat) (most_1 : Int) (t_20 : (List D59)) (t_21 : Int) (t_22 : Int) (t_27 : (List D45)) (t_28 : Int) (t_29 : Int) (out_5 : (List D29)) : Option (Lo ((Int × (List D59) × Int × Int × (List D45) × Int × Int × Unit) × ((List D29) × Unit)) ((Int × (List D59) × Int × Int × Unit) × ((List D29) × Unit)) (Lo ((Int × (List D59) × Int × Int × Unit) × ((List D29) × Unit)) ((Unit) × ((List D29) × Unit)) decorrelate_Corners_R)) :=
 decorrelate_Corners_10 N most_1 t_20 t_21 t_22 t_27 t_28 t_29 out_5
def decorrelate_Corners_s7 (N : Nat) (most_1 : Int) (t_20 : (List D59)) (t_21 : Int) (t_22 : Int) (t_27 : (List D45)) (t_28 : Int) (t_29 : Int) (out_5 : (List D29)) : Option (Lo ((Int × (List D59) × Int × Int × (List D45) × Int × Int × Unit) × ((List D29) × Unit)) ((Int × (List D59) × Int × Int × Unit) × ((List D29) × Unit)) (Lo ((Int × (List D59) × Int × Int × Unit) × ((List D29) × Unit)) ((Unit) × ((List D29) × Unit)) decorrelate_Corners_R)) :=
 bif (decide (t_29 < t_28)) then
 decorrelate_Corners_8 N most_1 t_20 t_21 t_22 t_27 t_28 t_29 out_5
 else
 some (.br ((most_1, t_20, t_21, t_22, ()), (out_5, ())))
def decorrelate_Corners_38 (N : Nat) (most_1 : Int) (t_20 : (List D59)) (t_21 : Int) (t_22 : Int) (out_5 : (List D29)) : Option (Lo ((Int × (List D59) × Int × Int × Unit) × ((List D29) × Unit)) ((Unit) × ((List D29) × Unit)) decorrelate_Corners_R) :=
 some (.go ((most_1, t_20, t_21, (w64 (t_22 + (1 : Int))), ()), (out_5, ())))
def decorrelate_Corners_6 (N : Nat) (most_1 : Int) (t_20 : (List D59)) (t_21 : Int) (t_22 : Int) (t_27 : (List D45)) (t_28 : Int) (t_29 : Int) (out_5 : (List D29)) : Option (Lo ((Int × (List D59) × Int × Int × Unit) × ((List D29) × Unit)) ((Unit) × ((List D29) × Unit)) decorrelate_Corners_R) :=
 loopK N (fun y => decorrelate_Corners_s7 N y.1.1 y.1.2.1 y.1.2.2.1 y.1.2.2.2.1 y.1.2.2.2.2.1 y.1.2.2.2.2.2.1 y.1.2.2.2.2.2.2.1 y.2.1) (fun (e : ((Int × (List D59) × Int × Int × Unit) × ((List D29) × Unit))) => decorrelate_Corners_38 N e.1.1 e.1.2.1 e.1.2.2.1 e.1.2.2.2.1 e.2.1) ((most_1, t_20, t_21, t_22, t_27, t_28, t_29, ()), (out_5, ()))
def decorrelate_Corners_5 (N : Nat) (most_1 : Int) (t_20 : (List D59)) (t_21 : Int) (t_22 : Int) (out_5 : (List D29)) : Option (Lo ((Int × (List D59) × Int × Int × Unit) × ((List D29) × Unit)) ((Unit) × ((List D29) × Unit)) decorrelate_Corners_R) :=
 bif inR t_22 t_20.length then
 let x3 := t_20.getD t_22.toNat ((0 : Int), ([] : List UInt8), ([] : List D45), ())
 decorrelate_Corners_6 N most_1 t_20 t_21 t_22 x3.2.2.1 (x3.2.2.1.length : Int) (0 : Int) out_5
 else none
def decorrelate_Corners_3 (N : Nat) (most_1 : Int) (t_20 : (List D59)) (t_21 : Int) (t_22 : Int) (out_5 : (List D29)) : Option (Lo ((Int × (List D59) × Int × Int × Unit) × ((List D29) × Unit)) ((Unit) × ((List D29) × Unit)) decorrelate_Corners_R) :=
 decorrelate_Corners_5 N most_1 t_20 t_21 t_22 out_5
def decorrelate_Corners_s2 (N : Nat) (most_1 : Int) (t_20 : (List D59)) (t_21 : Int) (t_22 : Int) (out_5 : (List D29)) : Option (Lo ((Int × (List D59) × Int × Int × Unit) × ((List D29) × Unit)) ((Unit) × ((List D29) × Unit)) decorrelate_Corners_R) :=
 bif (decide (t_22 < t_21)) then
 decorrelate_Corners_3 N most_1 t_20 t_21 t_22 out_5
 else
 some (.br ((()), (out_5, ())))
def decorrelate_Corners_39 (N : Nat) (out_5 : (List D29)) : Option decorrelate_Corners_R :=
 some ((()), (out_5, ()))
def decorrelate_Corners_1 (N : Nat) (most_1 : Int) (t_20 : (List D59)) (t_21 : Int) (t_22 : Int) (out_5 : (List D29)) : Option decorrelate_Corners_R :=
 loopK N (fun y => decorrelate_Corners_s2 N y.1.1 y.1.2.1 y.1.2.2.1 y.1.2.2.2.1 y.2.1) (fun (e : ((Unit) × ((List D29) × Unit))) => decorrelate_Corners_39 N e.2.1) ((most_1, t_20, t_21, t_22, ()), (out_5, ()))
def decorrelate_Corners (N : Nat) (l_0 : (List D59)) (most_1 : Int) : Option decorrelate_Corners_R :=
 decorrelate_Corners_1 N most_1 l_0 (l_0.length : Int) (0 : Int) ([] : List D29)
def decorrelate_Corners_C (N : Nat) : Ctx := ⟨109, G_tys, [(139, decorrelate_nearAddresses_ctr N), (140, decorrelate_near_ctr N)], G_globs, G_ifs⟩
def decorrelate_Corners_S0 : Spec := ⟨[.val .i64, .row 0, .ref 1 T45, .ref 2 T27, .ref 3 T27, .val .i64, .val .i64, .val (.sl T59), .val .i64, .val .i64, .val (.sl T45), .val .i64, .val .i64, .row 4, .val .i64, .val .i64, .row 5, .val .i64, .val .i64, .row 6, .val .i64, .val .i64, .row 7, .val .i64, .val .i64, .row 8, .val .i64, .val .i64], [(.row 30 T29, .pos 1), (.box 46 T45, .pos 2), (.box 28 T27, .pos 3), (.box 28 T27, .pos 4), (.row 28 T27, .pos 13), (.row 28 T27, .pos 16), (.row 3 .i64, .pos 19), (.row 3 .i64, .pos 22), (.row 3 .i64, .pos 25)]⟩
def decorrelate_Corners_S1 : Spec := ⟨[.val .i64, .row 0, .ref 1 T45, .ref 2 T27, .ref 3 T27, .val .i64, .val (.sl T59), .val .i64, .val .i64, .val (.sl T45), .val .i64, .val .i64, .row 4, .val .i64, .val .i64, .row 5, .val .i64, .val .i64, .row 6, .val .i64, .val .i64, .row 7, .val .i64, .val .i64], [(.row 30 T29, .pos 1), (.box 46 T45, .pos 2), (.box 28 T27, .pos 3), (.box 28 T27, .pos 4), (.row 28 T27, .pos 12), (.row 28 T27, .pos 15), (.row 3 .i64, .pos 18), (.row 3 .i64, .pos 21)]⟩
def decorrelate_Corners_S2 : Spec := ⟨[.val .i64, .row 0, .ref 1 T45, .ref 2 T27, .ref 3 T27, .val (.sl T59), .val .i64, .val .i64, .val (.sl T45), .val .i64, .val .i64, .row 4, .val .i64, .val .i64, .row 5, .val .i64, .val .i64, .row 6, .val .i64, .val .i64], [(.row 30 T29, .pos 1), (.box 46 T45, .pos 2), (.box 28 T27, .pos 3), (.box 28 T27, .pos 4), (.row 28 T27, .pos 11), (.row 28 T27, .pos 14), (.row 3 .i64, .pos 17)]⟩
def decorrelate_Corners_S3 : Spec := ⟨[.val .i64, .row 0, .ref 1 T45, .ref 2 T27, .val (.sl T59), .val .i64, .val .i64, .val (.sl T45), .val .i64, .val .i64, .row 3, .val .i64, .val .i64, .row 4, .val .i64, .val .i64], [(.row 30 T29, .pos 1), (.box 46 T45, .pos 2), (.box 28 T27, .pos 3), (.row 28 T27, .pos 10), (.row 28 T27, .pos 13)]⟩
def decorrelate_Corners_S4 : Spec := ⟨[.val .i64, .row 0, .ref 1 T45, .val (.sl T59), .val .i64, .val .i64, .val (.sl T45), .val .i64, .val .i64, .row 2, .val .i64, .val .i64], [(.row 30 T29, .pos 1), (.box 46 T45, .pos 2), (.row 28 T27, .pos 9)]⟩
def decorrelate_Corners_S5 : Spec := ⟨[.val .i64, .row 0, .val (.sl T59), .val .i64, .val .i64, .val (.sl T45), .val .i64, .val .i64], [(.row 30 T29, .pos 1)]⟩
def decorrelate_Corners_S6 : Spec := ⟨[.val .i64, .row 0, .val (.sl T59), .val .i64, .val .i64], [(.row 30 T29, .pos 1)]⟩
def decorrelate_Corners_S7 : Spec := ⟨[.row 0], [(.row 30 T29, .pos 0)]⟩
def decorrelate_Corners_S8 : Spec := ⟨[.val (.sl T59), .val .i64], []⟩
def decorrelate_Corners_K (_N : Nat) : XE → GS → Option decorrelate_Corners_R := retK 0 [4] [false] decorrelate_Corners_S7
def decorrelate_Corners_L : List Code := (bodyOf (some Try.f70))
def decorrelate_Corners_L2 : List Code := (loopOf (decorrelate_Corners_L[3]?))
def decorrelate_Corners_L4b : List Code := (blockOf (decorrelate_Corners_L2[2]?))
def decorrelate_Corners_L7 : List Code := (loopOf (decorrelate_Corners_L4b[2]?))
def decorrelate_Corners_L9b : List Code := (blockOf (decorrelate_Corners_L7[2]?))
def decorrelate_Corners_L12 : List Code := (loopOf (decorrelate_Corners_L9b[2]?))
def decorrelate_Corners_L14b : List Code := (blockOf (decorrelate_Corners_L12[2]?))
def decorrelate_Corners_L17 : List Code := (loopOf (decorrelate_Corners_L14b[2]?))
def decorrelate_Corners_L19b : List Code := (blockOf (decorrelate_Corners_L17[2]?))
def decorrelate_Corners_L22 : List Code := (loopOf (decorrelate_Corners_L19b[2]?))
def decorrelate_Corners_L24b : List Code := (blockOf (decorrelate_Corners_L22[2]?))
def decorrelate_Corners_L27 : List Code := (loopOf (decorrelate_Corners_L24b[2]?))
def decorrelate_Corners_L29b : List Code := (blockOf (decorrelate_Corners_L27[2]?))
def decorrelate_Corners_L32 : List Code := (loopOf (decorrelate_Corners_L29b[2]?))
def decorrelate_Corners_K2 (N : Nat) : XE → GS → Option (Lo ((Int × (List D59) × Int × Int × Unit) × ((List D29) × Unit)) ((Unit) × ((List D29) × Unit)) decorrelate_Corners_R) := roundK (some 0) (fit 0 [1, 5, 20, 21, 22] decorrelate_Corners_S6) (fit 0 [5] decorrelate_Corners_S7) (decorrelate_Corners_K N)
def decorrelate_Corners_K4 (N : Nat) : XE → GS → Option (Lo ((Int × (List D59) × Int × Int × Unit) × ((List D29) × Unit)) ((Unit) × ((List D29) × Unit)) decorrelate_Corners_R) := blockK 1 (goK 0 [1, 5, 20, 21, 22] decorrelate_Corners_S6 (fun y => decorrelate_Corners_38 N y.1.1 y.1.2.1 y.1.2.2.1 y.1.2.2.2.1 y.2.1)) (decorrelate_Corners_K2 N)
def decorrelate_Corners_K7 (N : Nat) : XE → GS → Option (Lo ((Int × (List D59) × Int × Int × (List D45) × Int × Int × Unit) × ((List D29) × Unit)) ((Int × (List D59) × Int × Int × Unit) × ((List D29) × Unit)) (Lo ((Int × (List D59) × Int × Int × Unit) × ((List D29) × Unit)) ((Unit) × ((List D29) × Unit)) decorrelate_Corners_R)) := roundK (some 2) (fit 0 [1, 5, 20, 21, 22, 27, 28, 29] decorrelate_Corners_S5) (fit 0 [1, 5, 20, 21, 22] decorrelate_Corners_S6) (decorrelate_Corners_K4 N)
def decorrelate_Corners_K9 (N : Nat) : XE → GS → Option (Lo ((Int × (List D59) × Int × Int × (List D45) × Int × Int × Unit) × ((List D29) × Unit)) ((Int × (List D59) × Int × Int × Unit) × ((List D29) × Unit)) (Lo ((Int × (List D59) × Int × Int × Unit) × ((List D29) × Unit)) ((Unit) × ((List D29) × Unit)) decorrelate_Corners_R)) := blockK 3 (goK 0 [1, 5, 20, 21, 22, 27, 28, 29] decorrelate_Corners_S5 (fun y => decorrelate_Corners_37 N y.1.1 y.1.2.1 y.1.2.2.1 y.1.2.2.2.1 y.1.2.2.2.2.1 y.1.2.2.2.2.2.1 y.1.2.2.2.2.2.2.1 y.2.1)) (decorrelate_Corners_K7 N)
def decorrelate_Corners_K12 (N : Nat) : XE → GS → Option (Lo ((Int × (List D59) × Int × Int × (List D45) × Int × Int × Int × Int × Unit) × ((List D29) × D45 × (List D27) × Unit)) ((Int × (List D59) × Int × Int × (List D45) × Int × Int × Unit) × ((List D29) × Unit)) (Lo ((Int × (List D59) × Int × Int × (List D45) × Int × Int × Unit) × ((List D29) × Unit)) ((Int × (List D59) × Int × Int × Unit) × ((List D29) × Unit)) (Lo ((Int × (List D59) × Int × Int × Unit) × ((List D29) × Unit)) ((Unit) × ((List D29) × Unit)) decorrelate_Corners_R))) := roundK (some 4) (fit 0 [1, 5, 9, 20, 21, 22, 27, 28, 29, 37, 38, 39] decorrelate_Corners_S4) (fit 0 [1, 5, 20, 21, 22, 27, 28, 29] decorrelate_Corners_S5) (decorrelate_Corners_K9 N)
def decorrelate_Corners_K14 (N : Nat) : XE → GS → Option (Lo ((Int × (List D59) × Int × Int × (List D45) × Int × Int × Int × Int × Unit) × ((List D29) × D45 × (List D27) × Unit)) ((Int × (List D59) × Int × Int × (List D45) × Int × Int × Unit) × ((List D29) × Unit)) (Lo ((Int × (List D59) × Int × Int × (List D45) × Int × Int × Unit) × ((List D29) × Unit)) ((Int × (List D59) × Int × Int × Unit) × ((List D29) × Unit)) (Lo ((Int × (List D59) × Int × Int × Unit) × ((List D29) × Unit)) ((Unit) × ((List D29) × Unit)) decorrelate_Corners_R))) := blockK 5 (goK 0 [1, 5, 9, 20, 21, 22, 27, 28, 29, 37, 38, 39] decorrelate_Corners_S4 (fun y => decorrelate_Corners_36 N y.1.1 y.1.2.1 y.1.2.2.1 y.1.2.2.2.1 y.1.2.2.2.2.1 y.1.2.2.2.2.2.1 y.1.2.2.2.2.2.2.1 y.1.2.2.2.2.2.2.2.1 y.1.2.2.2.2.2.2.2.2.1 y.2.1 y.2.2.1 y.2.2.2.1)) (decorrelate_Corners_K12 N)
def decorrelate_Corners_K17 (N : Nat) : XE → GS → Option (Lo ((Int × (List D59) × Int × Int × (List D45) × Int × Int × Int × Int × Int × Int × Unit) × ((List D29) × D45 × D27 × (List D27) × (List D27) × Unit)) ((Int × (List D59) × Int × Int × (List D45) × Int × Int × Int × Int × Unit) × ((List D29) × D45 × (List D27) × Unit)) (Lo ((Int × (List D59) × Int × Int × (List D45) × Int × Int × Int × Int × Unit) × ((List D29) × D45 × (List D27) × Unit)) ((Int × (List D59) × Int × Int × (List D45) × Int × Int × Unit) × ((List D29) × Unit)) (Lo ((Int × (List D59) × Int × Int × (List D45) × Int × Int × Unit) × ((List D29) × Unit)) ((Int × (List D59) × Int × Int × Unit) × ((List D29) × Unit)) (Lo ((Int × (List D59) × Int × Int × Unit) × ((List D29) × Unit)) ((Unit) × ((List D29) × Unit)) decorrelate_Corners_R)))) := roundK (some 6) (fit 0 [1, 5, 9, 11, 20, 21, 22, 27, 28, 29, 37, 38, 39, 47, 48, 49] decorrelate_Corners_S3) (fit 0 [1, 5, 9, 20, 21, 22, 27, 28, 29, 37, 38, 39] decorrelate_Corners_S4) (decorrelate_Corners_K14 N)
def decorrelate_Corners_K19 (N : Nat) : XE → GS → Option (Lo ((Int × (List D59) × Int × Int × (List D45) × Int × Int × Int × Int × Int × Int × Unit) × ((List D29) × D45 × D27 × (List D27) × (List D27) × Unit)) ((Int × (List D59) × Int × Int × (List D45) × Int × Int × Int × Int × Unit) × ((List D29) × D45 × (List D27) × Unit)) (Lo ((Int × (List D59) × Int × Int × (List D45) × Int × Int × Int × Int × Unit) × ((List D29) × D45 × (List D27) × Unit)) ((Int × (List D59) × Int × Int × (List D45) × Int × Int × Unit) × ((List D29) × Unit)) (Lo ((Int × (List D59) × Int × Int × (List D45) × Int × Int × Unit) × ((List D29) × Unit)) ((Int × (List D59) × Int × Int × Unit) × ((List D29) × Unit)) (Lo ((Int × (List D59) × Int × Int × Unit) × ((List D29) × Unit)) ((Unit) × ((List D29) × Unit)) decorrelate_Corners_R)))) := blockK 7 (goK 0 [1, 5, 9, 11, 20, 21, 22, 27, 28, 29, 37, 38, 39, 47, 48, 49] decorrelate_Corners_S3 (fun y => decorrelate_Corners_35 N y.1.1 y.1.2.1 y.1.2.2.1 y.1.2.2.2.1 y.1.2.2.2.2.1 y.1.2.2.2.2.2.1 y.1.2.2.2.2.2.2.1 y.1.2.2.2.2.2.2.2.1 y.1.2.2.2.2.2.2.2.2.1 y.1.2.2.2.2.2.2.2.2.2.1 y.1.2.2.2.2.2.2.2.2.2.2.1 y.2.1 y.2.2.1 y.2.2.2.1 y.2.2.2.2.1 y.2.2.2.2.2.1)) (decorrelate_Corners_K17 N)
def decorrelate_Corners_K22 (N : Nat) : XE → GS → Option (Lo ((Int × (List D59) × Int × Int × (List D45) × Int × Int × Int × Int × Int × Int × Int × Int × Unit) × ((List D29) × D45 × D27 × D27 × (List D27) × (List D27) × (List Int) × Unit)) ((Int × (List D59) × Int × Int × (List D45) × Int × Int × Int × Int × Int × Int × Unit) × ((List D29) × D45 × D27 × (List D27) × (List D27) × Unit)) (Lo ((Int × (List D59) × Int × Int × (List D45) × Int × Int × Int × Int × Int × Int × Unit) × ((List D29) × D45 × D27 × (List D27) × (List D27) × Unit)) ((Int × (List D59) × Int × Int × (List D45) × Int × Int × Int × Int × Unit) × ((List D29) × D45 × (List D27) × Unit)) (Lo ((Int × (List D59) × Int × Int × (List D45) × Int × Int × Int × Int × Unit) × ((List D29) × D45 × (List D27) × Unit)) ((Int × (List D59) × Int × Int × (List D45) × Int × Int × Unit) × ((List D29) × Unit)) (Lo ((Int × (List D59) × Int × Int × (List D45) × Int × Int × Unit) × ((List D29) × Unit)) ((Int × (List D59) × Int × Int × Unit) × ((List D29) × Unit)) (Lo ((Int × (List D59) × Int × Int × Unit) × ((List D29) × Unit)) ((Unit) × ((List D29) × Unit)) decorrelate_Corners_R))))) := roundK (some 8) (fit 0 [1, 5, 9, 11, 13, 20, 21, 22, 27, 28, 29, 37, 38, 39, 47, 48, 49, 57, 58, 59] decorrelate_Corners_S2) (fit 0 [1, 5, 9, 11, 20, 21, 22, 27, 28, 29, 37, 38, 39, 47, 48, 49] decorrelate_Corners_S3) (decorrelate_Corners_K19 N)
def decorrelate_Corners_K24 (N : Nat) : XE → GS → Option (Lo ((Int × (List D59) × Int × Int × (List D45) × Int × Int × Int × Int × Int × Int × Int × Int × Unit) × ((List D29) × D45 × D27 × D27 × (List D27) × (List D27) × (List Int) × Unit)) ((Int × (List D59) × Int × Int × (List D45) × Int × Int × Int × Int × Int × Int × Unit) × ((List D29) × D45 × D27 × (List D27) × (List D27) × Unit)) (Lo ((Int × (List D59) × Int × Int × (List D45) × Int × Int × Int × Int × Int × Int × Unit) × ((List D29) × D45 × D27 × (List D27) × (List D27) × Unit)) ((Int × (List D59) × Int × Int × (List D45) × Int × Int × Int × Int × Unit) × ((List D29) × D45 × (List D27) × Unit)) (Lo ((Int × (List D59) × Int × Int × (List D45) × Int × Int × Int × Int × Unit) × ((List D29) × D45 × (List D27) × Unit)) ((Int × (List D59) × Int × Int × (List D45) × Int × Int × Unit) × ((List D29) × Unit)) (Lo ((Int × (List D59) × Int × Int × (List D45) × Int × Int × Unit) × ((List D29) × Unit)) ((Int × (List D59) × Int × Int × Unit) × ((List D29) × Unit)) (Lo ((Int × (List D59) × Int × Int × Unit) × ((List D29) × Unit)) ((Unit) × ((List D29) × Unit)) decorrelate_Corners_R))))) := blockK 9 (goK 0 [1, 5, 9, 11, 13, 20, 21, 22, 27, 28, 29, 37, 38, 39, 47, 48, 49, 57, 58, 59] decorrelate_Corners_S2 (fun y => decorrelate_Corners_34 N y.1.1 y.1.2.1 y.1.2.2.1 y.1.2.2.2.1 y.1.2.2.2.2.1 y.1.2.2.2.2.2.1 y.1.2.2.2.2.2.2.1 y.1.2.2.2.2.2.2.2.1 y.1.2.2.2.2.2.2.2.2.1 y.1.2.2.2.2.2.2.2.2.2.1 y.1.2.2.2.2.2.2.2.2.2.2.1 y.1.2.2.2.2.2.2.2.2.2.2.2.1 y.1.2.2.2.2.2.2.2.2.2.2.2.2.1 y.2.1 y.2.2.1 y.2.2.2.1 y.2.2.2.2.1 y.2.2.2.2.2.1 y.2.2.2.2.2.2.1 y.2.2.2.2.2.2.2.1)) (decorrelate_Corners_K22 N)
def decorrelate_Corners_K27 (N : Nat) : XE → GS → Option (Lo ((Int × Int × (List D59) × Int × Int × (List D45) × Int × Int × Int × Int × Int × Int × Int × Int × Int × Int × Unit) × ((List D29) × D45 × D27 × D27 × (List D27) × (List D27) × (List Int) × (List Int) × Unit)) ((Int × (List D59) × Int × Int × (List D45) × Int × Int × Int × Int × Int × Int × Int × Int × Unit) × ((List D29) × D45 × D27 × D27 × (List D27) × (List D27) × (List Int) × Unit)) (Lo ((Int × (List D59) × Int × Int × (List D45) × Int × Int × Int × Int × Int × Int × Int × Int × Unit) × ((List D29) × D45 × D27 × D27 × (List D27) × (List D27) × (List Int) × Unit)) ((Int × (List D59) × Int × Int × (List D45) × Int × Int × Int × Int × Int × Int × Unit) × ((List D29) × D45 × D27 × (List D27) × (List D27) × Unit)) (Lo ((Int × (List D59) × Int × Int × (List D45) × Int × Int × Int × Int × Int × Int × Unit) × ((List D29) × D45 × D27 × (List D27) × (List D27) × Unit)) ((Int × (List D59) × Int × Int × (List D45) × Int × Int × Int × Int × Unit) × ((List D29) × D45 × (List D27) × Unit)) (Lo ((Int × (List D59) × Int × Int × (List D45) × Int × Int × Int × Int × Unit) × ((List D29) × D45 × (List D27) × Unit)) ((Int × (List D59) × Int × Int × (List D45) × Int × Int × Unit) × ((List D29) × Unit)) (Lo ((Int × (List D59) × Int × Int × (List D45) × Int × Int × Unit) × ((List D29) × Unit)) ((Int × (List D59) × Int × Int × Unit) × ((List D29) × Unit)) (Lo ((Int × (List D59) × Int × Int × Unit) × ((List D29) × Unit)) ((Unit) × ((List D29) × Unit)) decorrelate_Corners_R)))))) := roundK (some 10) (fit 0 [1, 5, 9, 11, 13, 15, 20, 21, 22, 27, 28, 29, 37, 38, 39, 47, 48, 49, 57, 58, 59, 69, 70, 71] decorrelate_Corners_S1) (fit 0 [1, 5, 9, 11, 13, 20, 21, 22, 27, 28, 29, 37, 38, 39, 47, 48, 49, 57, 58, 59] decorrelate_Corners_S2) (decorrelate_Corners_K24 N)
def decorrelate_Corners_K29 (N : Nat) : XE → GS → Option (Lo ((Int × Int × (List D59) × Int × Int × (List D45) × Int × Int × Int × Int × Int × Int × Int × Int × Int × Int × Unit) × ((List D29) × D45 × D27 × D27 × (List D27) × (List D27) × (List Int) × (List Int) × Unit)) ((Int × (List D59) × Int × Int × (List D45) × Int × Int × Int × Int × Int × Int × Int × Int × Unit) × ((List D29) × D45 × D27 × D27 × (List D27) × (List D27) × (List Int) × Unit)) (Lo ((Int × (List D59) × Int × Int × (List D45) × Int × Int × Int × Int × Int × Int × Int × Int × Unit) × ((List D29) × D45 × D27 × D27 × (List D27) × (List D27) × (List Int) × Unit)) ((Int × (List D59) × Int × Int × (List D45) × Int × Int × Int × Int × Int × Int × Unit) × ((List D29) × D45 × D27 × (List D27) × (List D27) × Unit)) (Lo ((Int × (List D59) × Int × Int × (List D45) × Int × Int × Int × Int × Int × Int × Unit) × ((List D29) × D45 × D27 × (List D27) × (List D27) × Unit)) ((Int × (List D59) × Int × Int × (List D45) × Int × Int × Int × Int × Unit) × ((List D29) × D45 × (List D27) × Unit)) (Lo ((Int × (List D59) × Int × Int × (List D45) × Int × Int × Int × Int × Unit) × ((List D29) × D45 × (List D27) × Unit)) ((Int × (List D59) × Int × Int × (List D45) × Int × Int × Unit) × ((List D29) × Unit)) (Lo ((Int × (List D59) × Int × Int × (List D45) × Int × Int × Unit) × ((List D29) × Unit)) ((Int × (List D59) × Int × Int × Unit) × ((List D29) × Unit)) (Lo ((Int × (List D59) × Int × Int × Unit) × ((List D29) × Unit)) ((Unit) × ((List D29) × Unit)) decorrelate_Corners_R)))))) := blockK 11 (goK 0 [1, 5, 9, 11, 13, 15, 20, 21, 22, 27, 28, 29, 37, 38, 39, 47, 48, 49, 57, 58, 59, 69, 70, 71] decorrelate_Corners_S1 (fun y => decorrelate_Corners_33 N y.1.1 y.1.2.1 y.1.2.2.1 y.1.2.2.2.1 y.1.2.2.2.2.1 y.1.2.2.2.2.2.1 y.1.2.2.2.2.2.2.1 y.1.2.2.2.2.2.2.2.1 y.1.2.2.2.2.2.2.2.2.1 y.1.2.2.2.2.2.2.2.2.2.1 y.1.2.2.2.2.2.2.2.2.2.2.1 y.1.2.2.2.2.2.2.2.2.2.2.2.1 y.1.2.2.2.2.2.2.2.2.2.2.2.2.1 y.1.2.2.2.2.2.2.2.2.2.2.2.2.2.1 y.1.2.2.2.2.2.2.2.2.2.2.2.2.2.2.1 y.1.2.2.2.2.2.2.2.2.2.2.2.2.2.2.2.1 y.2.1 y.2.2.1 y.2.2.2.1 y.2.2.2.2.1 y.2.2.2.2.2.1 y.2.2.2.2.2.2.1 y.2.2.2.2.2.2.2.1 y.2.2.2.2.2.2.2.2.1)) (decorrelate_Corners_K27 N)
def decorrelate_Corners_K32 (N : Nat) : XE → GS → Option (Lo ((Int × Int × Int × (List D59) × Int × Int × (List D45) × Int × Int × Int × Int × Int × Int × Int × Int × Int × Int × Int × Int × Unit) × ((List D29) × D45 × D27 × D27 × (List D27) × (List D27) × (List Int) × (List Int) × (List Int) × Unit)) ((Int × Int × (List D59) × Int × Int × (List D45) × Int × Int × Int × Int × Int × Int × Int × Int × Int × Int × Unit) × ((List D29) × D45 × D27 × D27 × (List D27) × (List D27) × (List Int) × (List Int) × Unit)) (Lo ((Int × Int × (List D59) × Int × Int × (List D45) × Int × Int × Int × Int × Int × Int × Int × Int × Int × Int × Unit) × ((List D29) × D45 × D27 × D27 × (List D27) × (List D27) × (List Int) × (List Int) × Unit)) ((Int × (List D59) × Int × Int × (List D45) × Int × Int × Int × Int × Int × Int × Int × Int × Unit) × ((List D29) × D45 × D27 × D27 × (List D27) × (List D27) × (List Int) × Unit)) (Lo ((Int × (List D59) × Int × Int × (List D45) × Int × Int × Int × Int × Int × Int × Int × Int × Unit) × ((List D29) × D45 × D27 × D27 × (List D27) × (List D27) × (List Int) × Unit)) ((Int × (List D59) × Int × Int × (List D45) × Int × Int × Int × Int × Int × Int × Unit) × ((List D29) × D45 × D27 × (List D27) × (List D27) × Unit)) (Lo ((Int × (List D59) × Int × Int × (List D45) × Int × Int × Int × Int × Int × Int × Unit) × ((List D29) × D45 × D27 × (List D27) × (List D27) × Unit)) ((Int × (List D59) × Int × Int × (List D45) × Int × Int × Int × Int × Unit) × ((List D29) × D45 × (List D27) × Unit)) (Lo ((Int × (List D59) × Int × Int × (List D45) × Int × Int × Int × Int × Unit) × ((List D29) × D45 × (List D27) × Unit)) ((Int × (List D59) × Int × Int × (List D45) × Int × Int × Unit) × ((List D29) × Unit)) (Lo ((Int × (List D59) × Int × Int × (List D45) × Int × Int × Unit) × ((List D29) × Unit)) ((Int × (List D59) × Int × Int × Unit) × ((List D29) × Unit)) (Lo ((Int × (List D59) × Int × Int × Unit) × ((List D29) × Unit)) ((Unit) × ((List D29) × Unit)) decorrelate_Corners_R))))))) := roundK (some 12) (fit 0 [1, 5, 9, 11, 13, 15, 17, 20, 21, 22, 27, 28, 29, 37, 38, 39, 47, 48, 49, 57, 58, 59, 69, 70, 71, 81, 82, 83] decorrelate_Corners_S0) (fit 0 [1, 5, 9, 11, 13, 15, 20, 21, 22, 27, 28, 29, 37, 38, 39, 47, 48, 49, 57, 58, 59, 69, 70, 71] decorrelate_Corners_S1) (decorrelate_Corners_K29 N)
theorem decorrelate_Corners_s32_b {E : Env} (N : Nat) (hb : Base Try.prog (decorrelate_Corners_C N) E 0) : Blk Try.prog (decorrelate_Corners_C N) E [1, 5, 9, 11, 13, 15, 17, 20, 21, 22, 27, 28, 29, 37, 38, 39, 47, 48, 49, 57, 58, 59, 69, 70, 71, 81, 82, 83] decorrelate_Corners_S0 (decorrelate_Corners_L32.drop 0) (fun y => decorrelate_Corners_s32 N y.1.1 y.1.2.1 y.1.2.2.1 y.1.2.2.2.1 y.1.2.2.2.2.1 y.1.2.2.2.2.2.1 y.1.2.2.2.2.2.2.1 y.1.2.2.2.2.2.2.2.1 y.1.2.2.2.2.2.2.2.2.1 y.1.2.2.2.2.2.2.2.2.2.1 y.1.2.2.2.2.2.2.2.2.2.2.1 y.1.2.2.2.2.2.2.2.2.2.2.2.1 y.1.2.2.2.2.2.2.2.2.2.2.2.2.1 y.1.2.2.2.2.2.2.2.2.2.2.2.2.2.1 y.1.2.2.2.2.2.2.2.2.2.2.2.2.2.2.1 y.1.2.2.2.2.2.2.2.2.2.2.2.2.2.2.2.1 y.1.2.2.2.2.2.2.2.2.2.2.2.2.2.2.2.2.1 y.1.2.2.2.2.2.2.2.2.2.2.2.2.2.2.2.2.2.1 y.1.2.2.2.2.2.2.2.2.2.2.2.2.2.2.2.2.2.2.1 y.2.1 y.2.2.1 y.2.2.2.1 y.2.2.2.2.1 y.2.2.2.2.2.1 y.2.2.2.2.2.2.1 y.2.2.2.2.2.2.2.1 y.2.2.2.2.2.2.2.2.1 y.2.2.2.2.2.2.2.2.2.1) (decorrelate_Corners_K32 N) :=
 Blk.chunkAt hb 4 (X := (decorrelate_Corners_K32 N .normal)) (NxOk.end (by kernel_rfl)) rfl (fun x => by kernel_rfl)
theorem decorrelate_Corners_33_b {E : Env} (N : Nat) (hb : Base Try.prog (decorrelate_Corners_C N) E 0) : Blk Try.prog (decorrelate_Corners_C N) E [1, 5, 9, 11, 13, 15, 20, 21, 22, 27, 28, 29, 37, 38, 39, 47, 48, 49, 57, 58, 59, 69, 70, 71] decorrelate_Corners_S1 (decorrelate_Corners_L27.drop 3) (fun y => decorrelate_Corners_33 N y.1.1 y.1.2.1 y.1.2.2.1 y.1.2.2.2.1 y.1.2.2.2.2.1 y.1.2.2.2.2.2.1 y.1.2.2.2.2.2.2.1 y.1.2.2.2.2.2.2.2.1 y.1.2.2.2.2.2.2.2.2.1 y.1.2.2.2.2.2.2.2.2.2.1 y.1.2.2.2.2.2.2.2.2.2.2.1 y.1.2.2.2.2.2.2.2.2.2.2.2.1 y.1.2.2.2.2.2.2.2.2.2.2.2.2.1 y.1.2.2.2.2.2.2.2.2.2.2.2.2.2.1 y.1.2.2.2.2.2.2.2.2.2.2.2.2.2.2.1 y.1.2.2.2.2.2.2.2.2.2.2.2.2.2.2.2.1 y.2.1 y.2.2.1 y.2.2.2.1 y.2.2.2.2.1 y.2.2.2.2.2.1 y.2.2.2.2.2.2.1 y.2.2.2.2.2.2.2.1 y.2.2.2.2.2.2.2.2.1) (decorrelate_Corners_K27 N) :=
 Blk.chunkAt hb 1 (X := (decorrelate_Corners_K27 N .normal)) (NxOk.end (by kernel_rfl)) rfl (fun x => by kernel_rfl)
theorem decorrelate_Corners_31_b {E : Env} (N : Nat) (hb : Base Try.prog (decorrelate_Corners_C N) E 0) : Blk Try.prog (decorrelate_Corners_C N) E [1, 5, 9, 11, 13, 15, 17, 20, 21, 22, 27, 28, 29, 37, 38, 39, 47, 48, 49, 57, 58, 59, 69, 70, 71, 81, 82, 83] decorrelate_Corners_S0 (decorrelate_Corners_L29b.drop 2) (fun y => decorrelate_Corners_31 N y.1.1 y.1.2.1 y.1.2.2.1 y.1.2.2.2.1 y.1.2.2.2.2.1 y.1.2.2.2.2.2.1 y.1.2.2.2.2.2.2.1 y.1.2.2.2.2.2.2.2.1 y.1.2.2.2.2.2.2.2.2.1 y.1.2.2.2.2.2.2.2.2.2.1 y.1.2.2.2.2.2.2.2.2.2.2.1 y.1.2.2.2.2.2.2.2.2.2.2.2.1 y.1.2.2.2.2.2.2.2.2.2.2.2.2.1 y.1.2.2.2.2.2.2.2.2.2.2.2.2.2.1 y.1.2.2.2.2.2.2.2.2.2.2.2.2.2.2.1 y.1.2.2.2.2.2.2.2.2.2.2.2.2.2.2.2.1 y.1.2.2.2.2.2.2.2.2.2.2.2.2.2.2.2.2.1 y.1.2.2.2.2.2.2.2.2.2.2.2.2.2.2.2.2.2.1 y.1.2.2.2.2.2.2.2.2.2.2.2.2.2.2.2.2.2.2.1 y.2.1 y.2.2.1 y.2.2.2.1 y.2.2.2.2.1 y.2.2.2.2.2.1 y.2.2.2.2.2.2.1 y.2.2.2.2.2.2.2.1 y.2.2.2.2.2.2.2.2.1 y.2.2.2.2.2.2.2.2.2.1) (decorrelate_Corners_K29 N) :=
 Blk.loopAt (Nf := N) (hns := [1, 5, 9, 11, 13, 15, 17, 20, 21, 22, 27, 28, 29, 37, 38, 39, 47, 48, 49, 57, 58, 59, 69, 70, 71, 81, 82, 83]) (ans := [1, 5, 9, 11, 13, 15, 20, 21, 22, 27, 28, 29, 37, 38, 39, 47, 48, 49, 57, 58, 59, 69, 70, 71]) (hc := decorrelate_Corners_S0) (ac := decorrelate_Corners_S1) (bid := 12) (step := (fun y => decorrelate_Corners_s32 N y.1.1 y.1.2.1 y.1.2.2.1 y.1.2.2.2.1 y.1.2.2.2.2.1 y.1.2.2.2.2.2.1 y.1.2.2.2.2.2.2.1 y.1.2.2.2.2.2.2.2.1 y.1.2.2.2.2.2.2.2.2.1 y.1.2.2.2.2.2.2.2.2.2.1 y.1.2.2.2.2.2.2.2.2.2.2.1 y.1.2.2.2.2.2.2.2.2.2.2.2.1 y.1.2.2.2.2.2.2.2.2.2.2.2.2.1 y.1.2.2.2.2.2.2.2.2.2.2.2.2.2.1 y.1.2.2.2.2.2.2.2.2.2.2.2.2.2.2.1 y.1.2.2.2.2.2.2.2.2.2.2.2.2.2.2.2.1 y.1.2.2.2.2.2.2.2.2.2.2.2.2.2.2.2.2.1 y.1.2.2.2.2.2.2.2.2.2.2.2.2.2.2.2.2.2.1 y.1.2.2.2.2.2.2.2.2.2.2.2.2.2.2.2.2.2.2.1 y.2.1 y.2.2.1 y.2.2.2.1 y.2.2.2.2.1 y.2.2.2.2.2.1 y.2.2.2.2.2.2.1 y.2.2.2.2.2.2.2.1 y.2.2.2.2.2.2.2.2.1 y.2.2.2.2.2.2.2.2.2.1)) (J := (fun e => (decorrelate_Corners_K29 N .normal) (decorrelate_Corners_S1.st [1, 5, 9, 11, 13, 15, 20, 21, 22, 27, 28, 29, 37, 38, 39, 47, 48, 49, 57, 58, 59, 69, 70, 71] e))) hb (by kernel_rfl) (Blk.into (X := (decorrelate_Corners_K29 N .normal)) (NxOk.end (by kernel_rfl)) (fun x => by kernel_rfl)) (decorrelate_Corners_s32_b N hb) (fun x => by kernel_rfl)
theorem decorrelate_Corners_30_b {E : Env} (N : Nat) (hb : Base Try.prog (decorrelate_Corners_C N) E 0) : Blk Try.prog (decorrelate_Corners_C N) E [1, 5, 9, 11, 13, 15, 20, 21, 22, 27, 28, 29, 37, 38, 39, 47, 48, 49, 57, 58, 59, 69, 70, 71] decorrelate_Corners_S1 (decorrelate_Corners_L29b.drop 0) (fun y => decorrelate_Corners_30 N y.1.1 y.1.2.1 y.1.2.2.1 y.1.2.2.2.1 y.1.2.2.2.2.1 y.1.2.2.2.2.2.1 y.1.2.2.2.2.2.2.1 y.1.2.2.2.2.2.2.2.1 y.1.2.2.2.2.2.2.2.2.1 y.1.2.2.2.2.2.2.2.2.2.1 y.1.2.2.2.2.2.2.2.2.2.2.1 y.1.2.2.2.2.2.2.2.2.2.2.2.1 y.1.2.2.2.2.2.2.2.2.2.2.2.2.1 y.1.2.2.2.2.2.2.2.2.2.2.2.2.2.1 y.1.2.2.2.2.2.2.2.2.2.2.2.2.2.2.1 y.1.2.2.2.2.2.2.2.2.2.2.2.2.2.2.2.1 y.2.1 y.2.2.1 y.2.2.2.1 y.2.2.2.2.1 y.2.2.2.2.2.1 y.2.2.2.2.2.2.1 y.2.2.2.2.2.2.2.1 y.2.2.2.2.2.2.2.2.1) (decorrelate_Corners_K29 N) :=
 Blk.chunkAt hb 2 (X := (goK 0 [1, 5, 9, 11, 13, 15, 17, 20, 21, 22, 27, 28, 29, 37, 38, 39, 47, 48, 49, 57, 58, 59, 69, 70, 71, 81, 82, 83] decorrelate_Corners_S0 (fun y => decorrelate_Corners_31 N y.1.1 y.1.2.1 y.1.2.2.1 y.1.2.2.2.1 y.1.2.2.2.2.1 y.1.2.2.2.2.2.1 y.1.2.2.2.2.2.2.1 y.1.2.2.2.2.2.2.2.1 y.1.2.2.2.2.2.2.2.2.1 y.1.2.2.2.2.2.2.2.2.2.1 y.1.2.2.2.2.2.2.2.2.2.2.1 y.1.2.2.2.2.2.2.2.2.2.2.2.1 y.1.2.2.2.2.2.2.2.2.2.2.2.2.1 y.1.2.2.2.2.2.2.2.2.2.2.2.2.2.1 y.1.2.2.2.2.2.2.2.2.2.2.2.2.2.2.1 y.1.2.2.2.2.2.2.2.2.2.2.2.2.2.2.2.1 y.1.2.2.2.2.2.2.2.2.2.2.2.2.2.2.2.2.1 y.1.2.2.2.2.2.2.2.2.2.2.2.2.2.2.2.2.2.1 y.1.2.2.2.2.2.2.2.2.2.2.2.2.2.2.2.2.2.2.1 y.2.1 y.2.2.1 y.2.2.2.1 y.2.2.2.2.1 y.2.2.2.2.2.1 y.2.2.2.2.2.2.1 y.2.2.2.2.2.2.2.1 y.2.2.2.2.2.2.2.2.1 y.2.2.2.2.2.2.2.2.2.1))) (NxOk.go hb (decorrelate_Corners_31_b N hb)) rfl (fun x => by kernel_rfl)
theorem decorrelate_Corners_28_b {E : Env} (N : Nat) (hb : Base Try.prog (decorrelate_Corners_C N) E 0) : Blk Try.prog (decorrelate_Corners_C N) E [1, 5, 9, 11, 13, 15, 20, 21, 22, 27, 28, 29, 37, 38, 39, 47, 48, 49, 57, 58, 59, 69, 70, 71] decorrelate_Corners_S1 (decorrelate_Corners_L27.drop 2) (fun y => decorrelate_Corners_28 N y.1.1 y.1.2.1 y.1.2.2.1 y.1.2.2.2.1 y.1.2.2.2.2.1 y.1.2.2.2.2.2.1 y.1.2.2.2.2.2.2.1 y.1.2.2.2.2.2.2.2.1 y.1.2.2.2.2.2.2.2.2.1 y.1.2.2.2.2.2.2.2.2.2.1 y.1.2.2.2.2.2.2.2.2.2.2.1 y.1.2.2.2.2.2.2.2.2.2.2.2.1 y.1.2.2.2.2.2.2.2.2.2.2.2.2.1 y.1.2.2.2.2.2.2.2.2.2.2.2.2.2.1 y.1.2.2.2.2.2.2.2.2.2.2.2.2.2.2.1 y.1.2.2.2.2.2.2.2.2.2.2.2.2.2.2.2.1 y.2.1 y.2.2.1 y.2.2.2.1 y.2.2.2.2.1 y.2.2.2.2.2.1 y.2.2.2.2.2.2.1 y.2.2.2.2.2.2.2.1 y.2.2.2.2.2.2.2.2.1) (decorrelate_Corners_K27 N) :=
 Blk.blockAt (bid := 11) (X := (goK 0 [1, 5, 9, 11, 13, 15, 20, 21, 22, 27, 28, 29, 37, 38, 39, 47, 48, 49, 57, 58, 59, 69, 70, 71] decorrelate_Corners_S1 (fun y => decorrelate_Corners_33 N y.1.1 y.1.2.1 y.1.2.2.1 y.1.2.2.2.1 y.1.2.2.2.2.1 y.1.2.2.2.2.2.1 y.1.2.2.2.2.2.2.1 y.1.2.2.2.2.2.2.2.1 y.1.2.2.2.2.2.2.2.2.1 y.1.2.2.2.2.2.2.2.2.2.1 y.1.2.2.2.2.2.2.2.2.2.2.1 y.1.2.2.2.2.2.2.2.2.2.2.2.1 y.1.2.2.2.2.2.2.2.2.2.2.2.2.1 y.1.2.2.2.2.2.2.2.2.2.2.2.2.2.1 y.1.2.2.2.2.2.2.2.2.2.2.2.2.2.2.1 y.1.2.2.2.2.2.2.2.2.2.2.2.2.2.2.2.1 y.2.1 y.2.2.1 y.2.2.2.1 y.2.2.2.2.1 y.2.2.2.2.2.1 y.2.2.2.2.2.2.1 y.2.2.2.2.2.2.2.1 y.2.2.2.2.2.2.2.2.1))) (Y := (goK 0 [1, 5, 9, 11, 13, 15, 20, 21, 22, 27, 28, 29, 37, 38, 39, 47, 48, 49, 57, 58, 59, 69, 70, 71] decorrelate_Corners_S1 (fun y => decorrelate_Corners_30 N y.1.1 y.1.2.1 y.1.2.2.1 y.1.2.2.2.1 y.1.2.2.2.2.1 y.1.2.2.2.2.2.1 y.1.2.2.2.2.2.2.1 y.1.2.2.2.2.2.2.2.1 y.1.2.2.2.2.2.2.2.2.1 y.1.2.2.2.2.2.2.2.2.2.1 y.1.2.2.2.2.2.2.2.2.2.2.1 y.1.2.2.2.2.2.2.2.2.2.2.2.1 y.1.2.2.2.2.2.2.2.2.2.2.2.2.1 y.1.2.2.2.2.2.2.2.2.2.2.2.2.2.1 y.1.2.2.2.2.2.2.2.2.2.2.2.2.2.2.1 y.1.2.2.2.2.2.2.2.2.2.2.2.2.2.2.2.1 y.2.1 y.2.2.1 y.2.2.2.1 y.2.2.2.2.1 y.2.2.2.2.2.1 y.2.2.2.2.2.2.1 y.2.2.2.2.2.2.2.1 y.2.2.2.2.2.2.2.2.1))) (by kernel_rfl) (NxOk.go hb (decorrelate_Corners_33_b N hb)) (NxOk.go hb (decorrelate_Corners_30_b N hb)) (fun x => by kernel_rfl)
theorem decorrelate_Corners_s27_b {E : Env} (N : Nat) (hb : Base Try.prog (decorrelate_Corners_C N) E 0) : Blk Try.prog (decorrelate_Corners_C N) E [1, 5, 9, 11, 13, 15, 20, 21, 22, 27, 28, 29, 37, 38, 39, 47, 48, 49, 57, 58, 59, 69, 70, 71] decorrelate_Corners_S1 (decorrelate_Corners_L27.drop 0) (fun y => decorrelate_Corners_s27 N y.1.1 y.1.2.1 y.1.2.2.1 y.1.2.2.2.1 y.1.2.2.2.2.1 y.1.2.2.2.2.2.1 y.1.2.2.2.2.2.2.1 y.1.2.2.2.2.2.2.2.1 y.1.2.2.2.2.2.2.2.2.1 y.1.2.2.2.2.2.2.2.2.2.1 y.1.2.2.2.2.2.2.2.2.2.2.1 y.1.2.2.2.2.2.2.2.2.2.2.2.1 y.1.2.2.2.2.2.2.2.2.2.2.2.2.1 y.1.2.2.2.2.2.2.2.2.2.2.2.2.2.1 y.1.2.2.2.2.2.2.2.2.2.2.2.2.2.2.1 y.1.2.2.2.2.2.2.2.2.2.2.2.2.2.2.2.1 y.2.1 y.2.2.1 y.2.2.2.1 y.2.2.2.2.1 y.2.2.2.2.2.1 y.2.2.2.2.2.2.1 y.2.2.2.2.2.2.2.1 y.2.2.2.2.2.2.2.2.1) (decorrelate_Corners_K27 N) :=
 Blk.chunkAt hb 2 (X := (goK 0 [1, 5, 9, 11, 13, 15, 20, 21, 22, 27, 28, 29, 37, 38, 39, 47, 48, 49, 57, 58, 59, 69, 70, 71] decorrelate_Corners_S1 (fun y => decorrelate_Corners_28 N y.1.1 y.1.2.1 y.1.2.2.1 y.1.2.2.2.1 y.1.2.2.2.2.1 y.1.2.2.2.2.2.1 y.1.2.2.2.2.2.2.1 y.1.2.2.2.2.2.2.2.1 y.1.2.2.2.2.2.2.2.2.1 y.1.2.2.2.2.2.2.2.2.2.1 y.1.2.2.2.2.2.2.2.2.2.2.1 y.1.2.2.2.2.2.2.2.2.2.2.2.1 y.1.2.2.2.2.2.2.2.2.2.2.2.2.1 y.1.2.2.2.2.2.2.2.2.2.2.2.2.2.1 y.1.2.2.2.2.2.2.2.2.2.2.2.2.2.2.1 y.1.2.2.2.2.2.2.2.2.2.2.2.2.2.2.2.1 y.2.1 y.2.2.1 y.2.2.2.1 y.2.2.2.2.1 y.2.2.2.2.2.1 y.2.2.2.2.2.2.1 y.2.2.2.2.2.2.2.1 y.2.2.2.2.2.2.2.2.1))) (NxOk.go hb (decorrelate_Corners_28_b N hb)) rfl (fun x => by kernel_rfl)
theorem decorrelate_Corners_34_b {E : Env} (N : Nat) (hb : Base Try.prog (decorrelate_Corners_C N) E 0) : Blk Try.prog (decorrelate_Corners_C N) E [1, 5, 9, 11, 13, 20, 21, 22, 27, 28, 29, 37, 38, 39, 47, 48, 49, 57, 58, 59] decorrelate_Corners_S2 (decorrelate_Corners_L22.drop 3) (fun y => decorrelate_Corners_34 N y.1.1 y.1.2.1 y.1.2.2.1 y.1.2.2.2.1 y.1.2.2.2.2.1 y.1.2.2.2.2.2.1 y.1.2.2.2.2.2.2.1 y.1.2.2.2.2.2.2.2.1 y.1.2.2.2.2.2.2.2.2.1 y.1.2.2.2.2.2.2.2.2.2.1 y.1.2.2.2.2.2.2.2.2.2.2.1 y.1.2.2.2.2.2.2.2.2.2.2.2.1 y.1.2.2.2.2.2.2.2.2.2.2.2.2.1 y.2.1 y.2.2.1 y.2.2.2.1 y.2.2.2.2.1 y.2.2.2.2.2.1 y.2.2.2.2.2.2.1 y.2.2.2.2.2.2.2.1) (decorrelate_Corners_K22 N) :=
 Blk.chunkAt hb 1 (X := (decorrelate_Corners_K22 N .normal)) (NxOk.end (by kernel_rfl)) rfl (fun x => by kernel_rfl)
theorem decorrelate_Corners_26_b {E : Env} (N : Nat) (hb : Base Try.prog (decorrelate_Corners_C N) E 0) : Blk Try.prog (decorrelate_Corners_C N) E [1, 5, 9, 11, 13, 15, 20, 21, 22, 27, 28, 29, 37, 38, 39, 47, 48, 49, 57, 58, 59, 69, 70, 71] decorrelate_Corners_S1 (decorrelate_Corners_L24b.drop 2) (fun y => decorrelate_Corners_26 N y.1.1 y.1.2.1 y.1.2.2.1 y.1.2.2.2.1 y.1.2.2.2.2.1 y.1.2.2.2.2.2.1 y.1.2.2.2.2.2.2.1 y.1.2.2.2.2.2.2.2.1 y.1.2.2.2.2.2.2.2.2.1 y.1.2.2.2.2.2.2.2.2.2.1 y.1.2.2.2.2.2.2.2.2.2.2.1 y.1.2.2.2.2.2.2.2.2.2.2.2.1 y.1.2.2.2.2.2.2.2.2.2.2.2.2.1 y.1.2.2.2.2.2.2.2.2.2.2.2.2.2.1 y.1.2.2.2.2.2.2.2.2.2.2.2.2.2.2.1 y.1.2.2.2.2.2.2.2.2.2.2.2.2.2.2.2.1 y.2.1 y.2.2.1 y.2.2.2.1 y.2.2.2.2.1 y.2.2.2.2.2.1 y.2.2.2.2.2.2.1 y.2.2.2.2.2.2.2.1 y.2.2.2.2.2.2.2.2.1) (decorrelate_Corners_K24 N) :=
 Blk.loopAt (Nf := N) (hns := [1, 5, 9, 11, 13, 15, 20, 21, 22, 27, 28, 29, 37, 38, 39, 47, 48, 49, 57, 58, 59, 69, 70, 71]) (ans := [1, 5, 9, 11, 13, 20, 21, 22, 27, 28, 29, 37, 38, 39, 47, 48, 49, 57, 58, 59]) (hc := decorrelate_Corners_S1) (ac := decorrelate_Corners_S2) (bid := 10) (step := (fun y => decorrelate_Corners_s27 N y.1.1 y.1.2.1 y.1.2.2.1 y.1.2.2.2.1 y.1.2.2.2.2.1 y.1.2.2.2.2.2.1 y.1.2.2.2.2.2.2.1 y.1.2.2.2.2.2.2.2.1 y.1.2.2.2.2.2.2.2.2.1 y.1.2.2.2.2.2.2.2.2.2.1 y.1.2.2.2.2.2.2.2.2.2.2.1 y.1.2.2.2.2.2.2.2.2.2.2.2.1 y.1.2.2.2.2.2.2.2.2.2.2.2.2.1 y.1.2.2.2.2.2.2.2.2.2.2.2.2.2.1 y.1.2.2.2.2.2.2.2.2.2.2.2.2.2.2.1 y.1.2.2.2.2.2.2.2.2.2.2.2.2.2.2.2.1 y.2.1 y.2.2.1 y.2.2.2.1 y.2.2.2.2.1 y.2.2.2.2.2.1 y.2.2.2.2.2.2.1 y.2.2.2.2.2.2.2.1 y.2.2.2.2.2.2.2.2.1)) (J := (fun e => (decorrelate_Corners_K24 N .normal) (decorrelate_Corners_S2.st [1, 5, 9, 11, 13, 20, 21, 22, 27, 28, 29, 37, 38, 39, 47, 48, 49, 57, 58, 59] e))) hb (by kernel_rfl) (Blk.into (X := (decorrelate_Corners_K24 N .normal)) (NxOk.end (by kernel_rfl)) (fun x => by kernel_rfl)) (decorrelate_Corners_s27_b N hb) (fun x => by kernel_rfl)
theorem decorrelate_Corners_25_b {E : Env} (N : Nat) (hb : Base Try.prog (decorrelate_Corners_C N) E 0) : Blk Try.prog (decorrelate_Corners_C N) E [1, 5, 9, 11, 13, 20, 21, 22, 27, 28, 29, 37, 38, 39, 47, 48, 49, 57, 58, 59] decorrelate_Corners_S2 (decorrelate_Corners_L24b.drop 0) (fun y => decorrelate_Corners_25 N y.1.1 y.1.2.1 y.1.2.2.1 y.1.2.2.2.1 y.1.2.2.2.2.1 y.1.2.2.2.2.2.1 y.1.2.2.2.2.2.2.1 y.1.2.2.2.2.2.2.2.1 y.1.2.2.2.2.2.2.2.2.1 y.1.2.2.2.2.2.2.2.2.2.1 y.1.2.2.2.2.2.2.2.2.2.2.1 y.1.2.2.2.2.2.2.2.2.2.2.2.1 y.1.2.2.2.2.2.2.2.2.2.2.2.2.1 y.2.1 y.2.2.1 y.2.2.2.1 y.2.2.2.2.1 y.2.2.2.2.2.1 y.2.2.2.2.2.2.1 y.2.2.2.2.2.2.2.1) (decorrelate_Corners_K24 N) :=
 Blk.chunkAt hb 2 (X := (goK 0 [1, 5, 9, 11, 13, 15, 20, 21, 22, 27, 28, 29, 37, 38, 39, 47, 48, 49, 57, 58, 59, 69, 70, 71] decorrelate_Corners_S1 (fun y => decorrelate_Corners_26 N y.1.1 y.1.2.1 y.1.2.2.1 y.1.2.2.2.1 y.1.2.2.2.2.1 y.1.2.2.2.2.2.1 y.1.2.2.2.2.2.2.1 y.1.2.2.2.2.2.2.2.1 y.1.2.2.2.2.2.2.2.2.1 y.1.2.2.2.2.2.2.2.2.2.1 y.1.2.2.2.2.2.2.2.2.2.2.1 y.1.2.2.2.2.2.2.2.2.2.2.2.1 y.1.2.2.2.2.2.2.2.2.2.2.2.2.1 y.1.2.2.2.2.2.2.2.2.2.2.2.2.2.1 y.1.2.2.2.2.2.2.2.2.2.2.2.2.2.2.1 y.1.2.2.2.2.2.2.2.2.2.2.2.2.2.2.2.1 y.2.1 y.2.2.1 y.2.2.2.1 y.2.2.2.2.1 y.2.2.2.2.2.1 y.2.2.2.2.2.2.1 y.2.2.2.2.2.2.2.1 y.2.2.2.2.2.2.2.2.1))) (NxOk.go hb (decorrelate_Corners_26_b N hb)) rfl (fun x => by kernel_rfl)
theorem decorrelate_Corners_23_b {E : Env} (N : Nat) (hb : Base Try.prog (decorrelate_Corners_C N) E 0) : Blk Try.prog (decorrelate_Corners_C N) E [1, 5, 9, 11, 13, 20, 21, 22, 27, 28, 29, 37, 38, 39, 47, 48, 49, 57, 58, 59] decorrelate_Corners_S2 (decorrelate_Corners_L22.drop 2) (fun y => decorrelate_Corners_23 N y.1.1 y.1.2.1 y.1.2.2.1 y.1.2.2.2.1 y.1.2.2.2.2.1 y.1.2.2.2.2.2.1 y.1.2.2.2.2.2.2.1 y.1.2.2.2.2.2.2.2.1 y.1.2.2.2.2.2.2.2.2.1 y.1.2.2.2.2.2.2.2.2.2.1 y.1.2.2.2.2.2.2.2.2.2.2.1 y.1.2.2.2.2.2.2.2.2.2.2.2.1 y.1.2.2.2.2.2.2.2.2.2.2.2.2.1 y.2.1 y.2.2.1 y.2.2.2.1 y.2.2.2.2.1 y.2.2.2.2.2.1 y.2.2.2.2.2.2.1 y.2.2.2.2.2.2.2.1) (decorrelate_Corners_K22 N) :=
 Blk.blockAt (bid := 9) (X := (goK 0 [1, 5, 9, 11, 13, 20, 21, 22, 27, 28, 29, 37, 38, 39, 47, 48, 49, 57, 58, 59] decorrelate_Corners_S2 (fun y => decorrelate_Corners_34 N y.1.1 y.1.2.1 y.1.2.2.1 y.1.2.2.2.1 y.1.2.2.2.2.1 y.1.2.2.2.2.2.1 y.1.2.2.2.2.2.2.1 y.1.2.2.2.2.2.2.2.1 y.1.2.2.2.2.2.2.2.2.1 y.1.2.2.2.2.2.2.2.2.2.1 y.1.2.2.2.2.2.2.2.2.2.2.1 y.1.2.2.2.2.2.2.2.2.2.2.2.1 y.1.2.2.2.2.2.2.2.2.2.2.2.2.1 y.2.1 y.2.2.1 y.2.2.2.1 y.2.2.2.2.1 y.2.2.2.2.2.1 y.2.2.2.2.2.2.1 y.2.2.2.2.2.2.2.1))) (Y := (goK 0 [1, 5, 9, 11, 13, 20, 21, 22, 27, 28, 29, 37, 38, 39, 47, 48, 49, 57, 58, 59] decorrelate_Corners_S2 (fun y => decorrelate_Corners_25 N y.1.1 y.1.2.1 y.1.2.2.1 y.1.2.2.2.1 y.1.2.2.2.2.1 y.1.2.2.2.2.2.1 y.1.2.2.2.2.2.2.1 y.1.2.2.2.2.2.2.2.1 y.1.2.2.2.2.2.2.2.2.1 y.1.2.2.2.2.2.2.2.2.2.1 y.1.2.2.2.2.2.2.2.2.2.2.1 y.1.2.2.2.2.2.2.2.2.2.2.2.1 y.1.2.2.2.2.2.2.2.2.2.2.2.2.1 y.2.1 y.2.2.1 y.2.2.2.1 y.2.2.2.2.1 y.2.2.2.2.2.1 y.2.2.2.2.2.2.1 y.2.2.2.2.2.2.2.1))) (by kernel_rfl) (NxOk.go hb (decorrelate_Corners_34_b N hb)) (NxOk.go hb (decorrelate_Corners_25_b N hb)) (fun x => by kernel_rfl)
theorem decorrelate_Corners_s22_b {E : Env} (N : Nat) (hb : Base Try.prog (decorrelate_Corners_C N) E 0) : Blk Try.prog (decorrelate_Corners_C N) E [1, 5, 9, 11, 13, 20, 21, 22, 27, 28, 29, 37, 38, 39, 47, 48, 49, 57, 58, 59] decorrelate_Corners_S2 (decorrelate_Corners_L22.drop 0) (fun y => decorrelate_Corners_s22 N y.1.1 y.1.2.1 y.1.2.2.1 y.1.2.2.2.1 y.1.2.2.2.2.1 y.1.2.2.2.2.2.1 y.1.2.2.2.2.2.2.1 y.1.2.2.2.2.2.2.2.1 y.1.2.2.2.2.2.2.2.2.1 y.1.2.2.2.2.2.2.2.2.2.1 y.1.2.2.2.2.2.2.2.2.2.2.1 y.1.2.2.2.2.2.2.2.2.2.2.2.1 y.1.2.2.2.2.2.2.2.2.2.2.2.2.1 y.2.1 y.2.2.1 y.2.2.2.1 y.2.2.2.2.1 y.2.2.2.2.2.1 y.2.2.2.2.2.2.1 y.2.2.2.2.2.2.2.1) (decorrelate_Corners_K22 N) :=
 Blk.chunkAt hb 2 (X := (goK 0 [1, 5, 9, 11, 13, 20, 21, 22, 27, 28, 29, 37, 38, 39, 47, 48, 49, 57, 58, 59] decorrelate_Corners_S2 (fun y => decorrelate_Corners_23 N y.1.1 y.1.2.1 y.1.2.2.1 y.1.2.2.2.1 y.1.2.2.2.2.1 y.1.2.2.2.2.2.1 y.1.2.2.2.2.2.2.1 y.1.2.2.2.2.2.2.2.1 y.1.2.2.2.2.2.2.2.2.1 y.1.2.2.2.2.2.2.2.2.2.1 y.1.2.2.2.2.2.2.2.2.2.2.1 y.1.2.2.2.2.2.2.2.2.2.2.2.1 y.1.2.2.2.2.2.2.2.2.2.2.2.2.1 y.2.1 y.2.2.1 y.2.2.2.1 y.2.2.2.2.1 y.2.2.2.2.2.1 y.2.2.2.2.2.2.1 y.2.2.2.2.2.2.2.1))) (NxOk.go hb (decorrelate_Corners_23_b N hb)) rfl (fun x => by kernel_rfl)
theorem decorrelate_Corners_35_b {E : Env} (N : Nat) (hb : Base Try.prog (decorrelate_Corners_C N) E 0) : Blk Try.prog (decorrelate_Corners_C N) E [1, 5, 9, 11, 20, 21, 22, 27, 28, 29, 37, 38, 39, 47, 48, 49] decorrelate_Corners_S3 (decorrelate_Corners_L17.drop 3) (fun y => decorrelate_Corners_35 N y.1.1 y.1.2.1 y.1.2.2.1 y.1.2.2.2.1 y.1.2.2.2.2.1 y.1.2.2.2.2.2.1 y.1.2.2.2.2.2.2.1 y.1.2.2.2.2.2.2.2.1 y.1.2.2.2.2.2.2.2.2.1 y.1.2.2.2.2.2.2.2.2.2.1 y.1.2.2.2.2.2.2.2.2.2.2.1 y.2.1 y.2.2.1 y.2.2.2.1 y.2.2.2.2.1 y.2.2.2.2.2.1) (decorrelate_Corners_K17 N) :=
 Blk.chunkAt hb 1 (X := (decorrelate_Corners_K17 N .normal)) (NxOk.end (by kernel_rfl)) rfl (fun x => by kernel_rfl)
theorem decorrelate_Corners_21_b {E : Env} (N : Nat) (hb : Base Try.prog (decorrelate_Corners_C N) E 0) : Blk Try.prog (decorrelate_Corners_C N) E [1, 5, 9, 11, 13, 20, 21, 22, 27, 28, 29, 37, 38, 39, 47, 48, 49, 57, 58, 59] decorrelate_Corners_S2 (decorrelate_Corners_L19b.drop 2) (fun y => decorrelate_Corners_21 N y.1.1 y.1.2.1 y.1.2.2.1 y.1.2.2.2.1 y.1.2.2.2.2.1 y.1.2.2.2.2.2.1 y.1.2.2.2.2.2.2.1 y.1.2.2.2.2.2.2.2.1 y.1.2.2.2.2.2.2.2.2.1 y.1.2.2.2.2.2.2.2.2.2.1 y.1.2.2.2.2.2.2.2.2.2.2.1 y.1.2.2.2.2.2.2.2.2.2.2.2.1 y.1.2.2.2.2.2.2.2.2.2.2.2.2.1 y.2.1 y.2.2.1 y.2.2.2.1 y.2.2.2.2.1 y.2.2.2.2.2.1 y.2.2.2.2.2.2.1 y.2.2.2.2.2.2.2.1) (decorrelate_Corners_K19 N) :=
 Blk.loopAt (Nf := N) (hns := [1, 5, 9, 11, 13, 20, 21, 22, 27, 28, 29, 37, 38, 39, 47, 48, 49, 57, 58, 59]) (ans := [1, 5, 9, 11, 20, 21, 22, 27, 28, 29, 37, 38, 39, 47, 48, 49]) (hc := decorrelate_Corners_S2) (ac := decorrelate_Corners_S3) (bid := 8) (step := (fun y => decorrelate_Corners_s22 N y.1.1 y.1.2.1 y.1.2.2.1 y.1.2.2.2.1 y.1.2.2.2.2.1 y.1.2.2.2.2.2.1 y.1.2.2.2.2.2.2.1 y.1.2.2.2.2.2.2.2.1 y.1.2.2.2.2.2.2.2.2.1 y.1.2.2.2.2.2.2.2.2.2.1 y.1.2.2.2.2.2.2.2.2.2.2.1 y.1.2.2.2.2.2.2.2.2.2.2.2.1 y.1.2.2.2.2.2.2.2.2.2.2.2.2.1 y.2.1 y.2.2.1 y.2.2.2.1 y.2.2.2.2.1 y.2.2.2.2.2.1 y.2.2.2.2.2.2.1 y.2.2.2.2.2.2.2.1)) (J := (fun e => (decorrelate_Corners_K19 N .normal) (decorrelate_Corners_S3.st [1, 5, 9, 11, 20, 21, 22, 27, 28, 29, 37, 38, 39, 47, 48, 49] e))) hb (by kernel_rfl) (Blk.into (X := (decorrelate_Corners_K19 N .normal)) (NxOk.end (by kernel_rfl)) (fun x => by kernel_rfl)) (decorrelate_Corners_s22_b N hb) (fun x => by kernel_rfl)
theorem decorrelate_Corners_20_b {E : Env} (N : Nat) (hb : Base Try.prog (decorrelate_Corners_C N) E 0) : Blk Try.prog (decorrelate_Corners_C N) E [1, 5, 9, 11, 20, 21, 22, 27, 28, 29, 37, 38, 39, 47, 48, 49] decorrelate_Corners_S3 (decorrelate_Corners_L19b.drop 0) (fun y => decorrelate_Corners_20 N y.1.1 y.1.2.1 y.1.2.2.1 y.1.2.2.2.1 y.1.2.2.2.2.1 y.1.2.2.2.2.2.1 y.1.2.2.2.2.2.2.1 y.1.2.2.2.2.2.2.2.1 y.1.2.2.2.2.2.2.2.2.1 y.1.2.2.2.2.2.2.2.2.2.1 y.1.2.2.2.2.2.2.2.2.2.2.1 y.2.1 y.2.2.1 y.2.2.2.1 y.2.2.2.2.1 y.2.2.2.2.2.1) (decorrelate_Corners_K19 N) :=
 Blk.chunkAt hb 2 (X := (goK 0 [1, 5, 9, 11, 13, 20, 21, 22, 27, 28, 29, 37, 38, 39, 47, 48, 49, 57, 58, 59] decorrelate_Corners_S2 (fun y => decorrelate_Corners_21 N y.1.1 y.1.2.1 y.1.2.2.1 y.1.2.2.2.1 y.1.2.2.2.2.1 y.1.2.2.2.2.2.1 y.1.2.2.2.2.2.2.1 y.1.2.2.2.2.2.2.2.1 y.1.2.2.2.2.2.2.2.2.1 y.1.2.2.2.2.2.2.2.2.2.1 y.1.2.2.2.2.2.2.2.2.2.2.1 y.1.2.2.2.2.2.2.2.2.2.2.2.1 y.1.2.2.2.2.2.2.2.2.2.2.2.2.1 y.2.1 y.2.2.1 y.2.2.2.1 y.2.2.2.2.1 y.2.2.2.2.2.1 y.2.2.2.2.2.2.1 y.2.2.2.2.2.2.2.1))) (NxOk.go hb (decorrelate_Corners_21_b N hb)) rfl (fun x => by kernel_rfl)
theorem decorrelate_Corners_18_b {E : Env} (N : Nat) (hb : Base Try.prog (decorrelate_Corners_C N) E 0) : Blk Try.prog (decorrelate_Corners_C N) E [1, 5, 9, 11, 20, 21, 22, 27, 28, 29, 37, 38, 39, 47, 48, 49] decorrelate_Corners_S3 (decorrelate_Corners_L17.drop 2) (fun y => decorrelate_Corners_18 N y.1.1 y.1.2.1 y.1.2.2.1 y.1.2.2.2.1 y.1.2.2.2.2.1 y.1.2.2.2.2.2.1 y.1.2.2.2.2.2.2.1 y.1.2.2.2.2.2.2.2.1 y.1.2.2.2.2.2.2.2.2.1 y.1.2.2.2.2.2.2.2.2.2.1 y.1.2.2.2.2.2.2.2.2.2.2.1 y.2.1 y.2.2.1 y.2.2.2.1 y.2.2.2.2.1 y.2.2.2.2.2.1) (decorrelate_Corners_K17 N) :=
 Blk.blockAt (bid := 7) (X := (goK 0 [1, 5, 9, 11, 20, 21, 22, 27, 28, 29, 37, 38, 39, 47, 48, 49] decorrelate_Corners_S3 (fun y => decorrelate_Corners_35 N y.1.1 y.1.2.1 y.1.2.2.1 y.1.2.2.2.1 y.1.2.2.2.2.1 y.1.2.2.2.2.2.1 y.1.2.2.2.2.2.2.1 y.1.2.2.2.2.2.2.2.1 y.1.2.2.2.2.2.2.2.2.1 y.1.2.2.2.2.2.2.2.2.2.1 y.1.2.2.2.2.2.2.2.2.2.2.1 y.2.1 y.2.2.1 y.2.2.2.1 y.2.2.2.2.1 y.2.2.2.2.2.1))) (Y := (goK 0 [1, 5, 9, 11, 20, 21, 22, 27, 28, 29, 37, 38, 39, 47, 48, 49] decorrelate_Corners_S3 (fun y => decorrelate_Corners_20 N y.1.1 y.1.2.1 y.1.2.2.1 y.1.2.2.2.1 y.1.2.2.2.2.1 y.1.2.2.2.2.2.1 y.1.2.2.2.2.2.2.1 y.1.2.2.2.2.2.2.2.1 y.1.2.2.2.2.2.2.2.2.1 y.1.2.2.2.2.2.2.2.2.2.1 y.1.2.2.2.2.2.2.2.2.2.2.1 y.2.1 y.2.2.1 y.2.2.2.1 y.2.2.2.2.1 y.2.2.2.2.2.1))) (by kernel_rfl) (NxOk.go hb (decorrelate_Corners_35_b N hb)) (NxOk.go hb (decorrelate_Corners_20_b N hb)) (fun x => by kernel_rfl)
theorem decorrelate_Corners_s17_b {E : Env} (N : Nat) (hb : Base Try.prog (decorrelate_Corners_C N) E 0) : Blk Try.prog (decorrelate_Corners_C N) E [1, 5, 9, 11, 20, 21, 22, 27, 28, 29, 37, 38, 39, 47, 48, 49] decorrelate_Corners_S3 (decorrelate_Corners_L17.drop 0) (fun y => decorrelate_Corners_s17 N y.1.1 y.1.2.1 y.1.2.2.1 y.1.2.2.2.1 y.1.2.2.2.2.1 y.1.2.2.2.2.2.1 y.1.2.2.2.2.2.2.1 y.1.2.2.2.2.2.2.2.1 y.1.2.2.2.2.2.2.2.2.1 y.1.2.2.2.2.2.2.2.2.2.1 y.1.2.2.2.2.2.2.2.2.2.2.1 y.2.1 y.2.2.1 y.2.2.2.1 y.2.2.2.2.1 y.2.2.2.2.2.1) (decorrelate_Corners_K17 N) :=
 Blk.chunkAt hb 2 (X := (goK 0 [1, 5, 9, 11, 20, 21, 22, 27, 28, 29, 37, 38, 39, 47, 48, 49] decorrelate_Corners_S3 (fun y => decorrelate_Corners_18 N y.1.1 y.1.2.1 y.1.2.2.1 y.1.2.2.2.1 y.1.2.2.2.2.1 y.1.2.2.2.2.2.1 y.1.2.2.2.2.2.2.1 y.1.2.2.2.2.2.2.2.1 y.1.2.2.2.2.2.2.2.2.1 y.1.2.2.2.2.2.2.2.2.2.1 y.1.2.2.2.2.2.2.2.2.2.2.1 y.2.1 y.2.2.1 y.2.2.2.1 y.2.2.2.2.1 y.2.2.2.2.2.1))) (NxOk.go hb (decorrelate_Corners_18_b N hb)) rfl (fun x => by kernel_rfl)
theorem decorrelate_Corners_36_b {E : Env} (N : Nat) (hb : Base Try.prog (decorrelate_Corners_C N) E 0) : Blk Try.prog (decorrelate_Corners_C N) E [1, 5, 9, 20, 21, 22, 27, 28, 29, 37, 38, 39] decorrelate_Corners_S4 (decorrelate_Corners_L12.drop 3) (fun y => decorrelate_Corners_36 N y.1.1 y.1.2.1 y.1.2.2.1 y.1.2.2.2.1 y.1.2.2.2.2.1 y.1.2.2.2.2.2.1 y.1.2.2.2.2.2.2.1 y.1.2.2.2.2.2.2.2.1 y.1.2.2.2.2.2.2.2.2.1 y.2.1 y.2.2.1 y.2.2.2.1) (decorrelate_Corners_K12 N) :=
 Blk.chunkAt hb 1 (X := (decorrelate_Corners_K12 N .normal)) (NxOk.end (by kernel_rfl)) rfl (fun x => by kernel_rfl)
theorem decorrelate_Corners_16_b {E : Env} (N : Nat) (hb : Base Try.prog (decorrelate_Corners_C N) E 0) : Blk Try.prog (decorrelate_Corners_C N) E [1, 5, 9, 11, 20, 21, 22, 27, 28, 29, 37, 38, 39, 47, 48, 49] decorrelate_Corners_S3 (decorrelate_Corners_L14b.drop 2) (fun y => decorrelate_Corners_16 N y.1.1 y.1.2.1 y.1.2.2.1 y.1.2.2.2.1 y.1.2.2.2.2.1 y.1.2.2.2.2.2.1 y.1.2.2.2.2.2.2.1 y.1.2.2.2.2.2.2.2.1 y.1.2.2.2.2.2.2.2.2.1 y.1.2.2.2.2.2.2.2.2.2.1 y.1.2.2.2.2.2.2.2.2.2.2.1 y.2.1 y.2.2.1 y.2.2.2.1 y.2.2.2.2.1 y.2.2.2.2.2.1) (decorrelate_Corners_K14 N) :=
 Blk.loopAt (Nf := N) (hns := [1, 5, 9, 11, 20, 21, 22, 27, 28, 29, 37, 38, 39, 47, 48, 49]) (ans := [1, 5, 9, 20, 21, 22, 27, 28, 29, 37, 38, 39]) (hc := decorrelate_Corners_S3) (ac := decorrelate_Corners_S4) (bid := 6) (step := (fun y => decorrelate_Corners_s17 N y.1.1 y.1.2.1 y.1.2.2.1 y.1.2.2.2.1 y.1.2.2.2.2.1 y.1.2.2.2.2.2.1 y.1.2.2.2.2.2.2.1 y.1.2.2.2.2.2.2.2.1 y.1.2.2.2.2.2.2.2.2.1 y.1.2.2.2.2.2.2.2.2.2.1 y.1.2.2.2.2.2.2.2.2.2.2.1 y.2.1 y.2.2.1 y.2.2.2.1 y.2.2.2.2.1 y.2.2.2.2.2.1)) (J := (fun e => (decorrelate_Corners_K14 N .normal) (decorrelate_Corners_S4.st [1, 5, 9, 20, 21, 22, 27, 28, 29, 37, 38, 39] e))) hb (by kernel_rfl) (Blk.into (X := (decorrelate_Corners_K14 N .normal)) (NxOk.end (by kernel_rfl)) (fun x => by kernel_rfl)) (decorrelate_Corners_s17_b N hb) (fun x => by kernel_rfl)
theorem decorrelate_Corners_15_b {E : Env} (N : Nat) (hb : Base Try.prog (decorrelate_Corners_C N) E 0) : Blk Try.prog (decorrelate_Corners_C N) E [1, 5, 9, 20, 21, 22, 27, 28, 29, 37, 38, 39] decorrelate_Corners_S4 (decorrelate_Corners_L14b.drop 0) (fun y => decorrelate_Corners_15 N y.1.1 y.1.2.1 y.1.2.2.1 y.1.2.2.2.1 y.1.2.2.2.2.1 y.1.2.2.2.2.2.1 y.1.2.2.2.2.2.2.1 y.1.2.2.2.2.2.2.2.1 y.1.2.2.2.2.2.2.2.2.1 y.2.1 y.2.2.1 y.2.2.2.1) (decorrelate_Corners_K14 N) :=
 Blk.chunkAt hb 2 (X := (goK 0 [1, 5, 9, 11, 20, 21, 22, 27, 28, 29, 37, 38, 39, 47, 48, 49] decorrelate_Corners_S3 (fun y => decorrelate_Corners_16 N y.1.1 y.1.2.1 y.1.2.2.1 y.1.2.2.2.1 y.1.2.2.2.2.1 y.1.2.2.2.2.2.1 y.1.2.2.2.2.2.2.1 y.1.2.2.2.2.2.2.2.1 y.1.2.2.2.2.2.2.2.2.1 y.1.2.2.2.2.2.2.2.2.2.1 y.1.2.2.2.2.2.2.2.2.2.2.1 y.2.1 y.2.2.1 y.2.2.2.1 y.2.2.2.2.1 y.2.2.2.2.2.1))) (NxOk.go hb (decorrelate_Corners_16_b N hb)) rfl (fun x => by kernel_rfl)
theorem decorrelate_Corners_13_b {E : Env} (N : Nat) (hb : Base Try.prog (decorrelate_Corners_C N) E 0) : Blk Try.prog (decorrelate_Corners_C N) E [1, 5, 9, 20, 21, 22, 27, 28, 29, 37, 38, 39] decorrelate_Corners_S4 (decorrelate_Corners_L12.drop 2) (fun y => decorrelate_Corners_13 N y.1.1 y.1.2.1 y.1.2.2.1 y.1.2.2.2.1 y.1.2.2.2.2.1 y.1.2.2.2.2.2.1 y.1.2.2.2.2.2.2.1 y.1.2.2.2.2.2.2.2.1 y.1.2.2.2.2.2.2.2.2.1 y.2.1 y.2.2.1 y.2.2.2.1) (decorrelate_Corners_K12 N) :=
 Blk.blockAt (bid := 5) (X := (goK 0 [1, 5, 9, 20, 21, 22, 27, 28, 29, 37, 38, 39] decorrelate_Corners_S4 (fun y => decorrelate_Corners_36 N y.1.1 y.1.2.1 y.1.2.2.1 y.1.2.2.2.1 y.1.2.2.2.2.1 y.1.2.2.2.2.2.1 y.1.2.2.2.2.2.2.1 y.1.2.2.2.2.2.2.2.1 y.1.2.2.2.2.2.2.2.2.1 y.2.1 y.2.2.1 y.2.2.2.1))) (Y := (goK 0 [1, 5, 9, 20, 21, 22, 27, 28, 29, 37, 38, 39] decorrelate_Corners_S4 (fun y => decorrelate_Corners_15 N y.1.1 y.1.2.1 y.1.2.2.1 y.1.2.2.2.1 y.1.2.2.2.2.1 y.1.2.2.2.2.2.1 y.1.2.2.2.2.2.2.1 y.1.2.2.2.2.2.2.2.1 y.1.2.2.2.2.2.2.2.2.1 y.2.1 y.2.2.1 y.2.2.2.1))) (by kernel_rfl) (NxOk.go hb (decorrelate_Corners_36_b N hb)) (NxOk.go hb (decorrelate_Corners_15_b N hb)) (fun x => by kernel_rfl)
theorem decorrelate_Corners_s12_b {E : Env} (N : Nat) (hb : Base Try.prog (decorrelate_Corners_C N) E 0) : Blk Try.prog (decorrelate_Corners_C N) E [1, 5, 9, 20, 21, 22, 27, 28, 29, 37, 38, 39] decorrelate_Corners_S4 (decorrelate_Corners_L12.drop 0) (fun y => decorrelate_Corners_s12 N y.1.1 y.1.2.1 y.1.2.2.1 y.1.2.2.2.1 y.1.2.2.2.2.1 y.1.2.2.2.2.2.1 y.1.2.2.2.2.2.2.1 y.1.2.2.2.2.2.2.2.1 y.1.2.2.2.2.2.2.2.2.1 y.2.1 y.2.2.1 y.2.2.2.1) (decorrelate_Corners_K12 N) :=
 Blk.chunkAt hb 2 (X := (goK 0 [1, 5, 9, 20, 21, 22, 27, 28, 29, 37, 38, 39] decorrelate_Corners_S4 (fun y => decorrelate_Corners_13 N y.1.1 y.1.2.1 y.1.2.2.1 y.1.2.2.2.1 y.1.2.2.2.2.1 y.1.2.2.2.2.2.1 y.1.2.2.2.2.2.2.1 y.1.2.2.2.2.2.2.2.1 y.1.2.2.2.2.2.2.2.2.1 y.2.1 y.2.2.1 y.2.2.2.1))) (NxOk.go hb (decorrelate_Corners_13_b N hb)) rfl (fun x => by kernel_rfl)
theorem decorrelate_Corners_37_b {E : Env} (N : Nat) (hb : Base Try.prog (decorrelate_Corners_C N) E 0) : Blk Try.prog (decorrelate_Corners_C N) E [1, 5, 20, 21, 22, 27, 28, 29] decorrelate_Corners_S5 (decorrelate_Corners_L7.drop 3) (fun y => decorrelate_Corners_37 N y.1.1 y.1.2.1 y.1.2.2.1 y.1.2.2.2.1 y.1.2.2.2.2.1 y.1.2.2.2.2.2.1 y.1.2.2.2.2.2.2.1 y.2.1) (decorrelate_Corners_K7 N) :=
 Blk.chunkAt hb 1 (X := (decorrelate_Corners_K7 N .normal)) (NxOk.end (by kernel_rfl)) rfl (fun x => by kernel_rfl)
theorem decorrelate_Corners_11_b {E : Env} (N : Nat) (hb : Base Try.prog (decorrelate_Corners_C N) E 0) : Blk Try.prog (decorrelate_Corners_C N) E [1, 5, 9, 20, 21, 22, 27, 28, 29, 37, 38, 39] decorrelate_Corners_S4 (decorrelate_Corners_L9b.drop 2) (fun y => decorrelate_Corners_11 N y.1.1 y.1.2.1 y.1.2.2.1 y.1.2.2.2.1 y.1.2.2.2.2.1 y.1.2.2.2.2.2.1 y.1.2.2.2.2.2.2.1 y.1.2.2.2.2.2.2.2.1 y.1.2.2.2.2.2.2.2.2.1 y.2.1 y.2.2.1 y.2.2.2.1) (decorrelate_Corners_K9 N) :=
 Blk.loopAt (Nf := N) (hns := [1, 5, 9, 20, 21, 22, 27, 28, 29, 37, 38, 39]) (ans := [1, 5, 20, 21, 22, 27, 28, 29]) (hc := decorrelate_Corners_S4) (ac := decorrelate_Corners_S5) (bid := 4) (step := (fun y => decorrelate_Corners_s12 N y.1.1 y.1.2.1 y.1.2.2.1 y.1.2.2.2.1 y.1.2.2.2.2.1 y.1.2.2.2.2.2.1 y.1.2.2.2.2.2.2.1 y.1.2.2.2.2.2.2.2.1 y.1.2.2.2.2.2.2.2.2.1 y.2.1 y.2.2.1 y.2.2.2.1)) (J := (fun e => (decorrelate_Corners_K9 N .normal) (decorrelate_Corners_S5.st [1, 5, 20, 21, 22, 27, 28, 29] e))) hb (by kernel_rfl) (Blk.into (X := (decorrelate_Corners_K9 N .normal)) (NxOk.end (by kernel_rfl)) (fun x => by kernel_rfl)) (decorrelate_Corners_s12_b N hb) (fun x => by kernel_rfl)
theorem decorrelate_Corners_10_b {E : Env} (N : Nat) (hb : Base Try.prog (decorrelate_Corners_C N) E 0) : Blk Try.prog (decorrelate_Corners_C N) E [1, 5, 20, 21, 22, 27, 28, 29] decorrelate_Corners_S5 (decorrelate_Corners_L9b.drop 0) (fun y => decorrelate_Corners_10 N y.1.1 y.1.2.1 y.1.2.2.1 y.1.2.2.2.1 y.1.2.2.2.2.1 y.1.2.2.2.2.2.1 y.1.2.2.2.2.2.2.1 y.2.1) (decorrelate_Corners_K9 N) :=
 Blk.chunkAt hb 2 (X := (goK 0 [1, 5, 9, 20, 21, 22, 27, 28, 29, 37, 38, 39] decorrelate_Corners_S4 (fun y => decorrelate_Corners_11 N y.1.1 y.1.2.1 y.1.2.2.1 y.1.2.2.2.1 y.1.2.2.2.2.1 y.1.2.2.2.2.2.1 y.1.2.2.2.2.2.2.1 y.1.2.2.2.2.2.2.2.1 y.1.2.2.2.2.2.2.2.2.1 y.2.1 y.2.2.1 y.2.2.2.1))) (NxOk.go hb (decorrelate_Corners_11_b N hb)) rfl (fun x => by kernel_rfl)
theorem decorrelate_Corners_8_b {E : Env} (N : Nat) (hb : Base Try.prog (decorrelate_Corners_C N) E 0) : Blk Try.prog (decorrelate_Corners_C N) E [1, 5, 20, 21, 22, 27, 28, 29] decorrelate_Corners_S5 (decorrelate_Corners_L7.drop 2) (fun y => decorrelate_Corners_8 N y.1.1 y.1.2.1 y.1.2.2.1 y.1.2.2.2.1 y.1.2.2.2.2.1 y.1.2.2.2.2.2.1 y.1.2.2.2.2.2.2.1 y.2.1) (decorrelate_Corners_K7 N) :=
 Blk.blockAt (bid := 3) (X := (goK 0 [1, 5, 20, 21, 22, 27, 28, 29] decorrelate_Corners_S5 (fun y => decorrelate_Corners_37 N y.1.1 y.1.2.1 y.1.2.2.1 y.1.2.2.2.1 y.1.2.2.2.2.1 y.1.2.2.2.2.2.1 y.1.2.2.2.2.2.2.1 y.2.1))) (Y := (goK 0 [1, 5, 20, 21, 22, 27, 28, 29] decorrelate_Corners_S5 (fun y => decorrelate_Corners_10 N y.1.1 y.1.2.1 y.1.2.2.1 y.1.2.2.2.1 y.1.2.2.2.2.1 y.1.2.2.2.2.2.1 y.1.2.2.2.2.2.2.1 y.2.1))) (by kernel_rfl) (NxOk.go hb (decorrelate_Corners_37_b N hb)) (NxOk.go hb (decorrelate_Corners_10_b N hb)) (fun x => by kernel_rfl)
theorem decorrelate_Corners_s7_b {E : Env} (N : Nat) (hb : Base Try.prog (decorrelate_Corners_C N) E 0) : Blk Try.prog (decorrelate_Corners_C N) E [1, 5, 20, 21, 22, 27, 28, 29] decorrelate_Corners_S5 (decorrelate_Corners_L7.drop 0) (fun y => decorrelate_Corners_s7 N y.1.1 y.1.2.1 y.1.2.2.1 y.1.2.2.2.1 y.1.2.2.2.2.1 y.1.2.2.2.2.2.1 y.1.2.2.2.2.2.2.1 y.2.1) (decorrelate_Corners_K7 N) :=
 Blk.chunkAt hb 2 (X := (goK 0 [1, 5, 20, 21, 22, 27, 28, 29] decorrelate_Corners_S5 (fun y => decorrelate_Corners_8 N y.1.1 y.1.2.1 y.1.2.2.1 y.1.2.2.2.1 y.1.2.2.2.2.1 y.1.2.2.2.2.2.1 y.1.2.2.2.2.2.2.1 y.2.1))) (NxOk.go hb (decorrelate_Corners_8_b N hb)) rfl (fun x => by kernel_rfl)
theorem decorrelate_Corners_38_b {E : Env} (N : Nat) (hb : Base Try.prog (decorrelate_Corners_C N) E 0) : Blk Try.prog (decorrelate_Corners_C N) E [1, 5, 20, 21, 22] decorrelate_Corners_S6 (decorrelate_Corners_L2.drop 3) (fun y => decorrelate_Corners_38 N y.1.1 y.1.2.1 y.1.2.2.1 y.1.2.2.2.1 y.2.1) (decorrelate_Corners_K2 N) :=
 Blk.chunkAt hb 1 (X := (decorrelate_Corners_K2 N .normal)) (NxOk.end (by kernel_rfl)) rfl (fun x => by kernel_rfl)
theorem decorrelate_Corners_6_b {E : Env} (N : Nat) (hb : Base Try.prog (decorrelate_Corners_C N) E 0) : Blk Try.prog (decorrelate_Corners_C N) E [1, 5, 20, 21, 22, 27, 28, 29] decorrelate_Corners_S5 (decorrelate_Corners_L4b.drop 2) (fun y => decorrelate_Corners_6 N y.1.1 y.1.2.1 y.1.2.2.1 y.1.2.2.2.1 y.1.2.2.2.2.1 y.1.2.2.2.2.2.1 y.1.2.2.2.2.2.2.1 y.2.1) (decorrelate_Corners_K4 N) :=
 Blk.loopAt (Nf := N) (hns := [1, 5, 20, 21, 22, 27, 28, 29]) (ans := [1, 5, 20, 21, 22]) (hc := decorrelate_Corners_S5) (ac := decorrelate_Corners_S6) (bid := 2) (step := (fun y => decorrelate_Corners_s7 N y.1.1 y.1.2.1 y.1.2.2.1 y.1.2.2.2.1 y.1.2.2.2.2.1 y.1.2.2.2.2.2.1 y.1.2.2.2.2.2.2.1 y.2.1)) (J := (fun e => (decorrelate_Corners_K4 N .normal) (decorrelate_Corners_S6.st [1, 5, 20, 21, 22] e))) hb (by kernel_rfl) (Blk.into (X := (decorrelate_Corners_K4 N .normal)) (NxOk.end (by kernel_rfl)) (fun x => by kernel_rfl)) (decorrelate_Corners_s7_b N hb) (fun x => by kernel_rfl)
theorem decorrelate_Corners_5_b {E : Env} (N : Nat) (hb : Base Try.prog (decorrelate_Corners_C N) E 0) : Blk Try.prog (decorrelate_Corners_C N) E [1, 5, 20, 21, 22] decorrelate_Corners_S6 (decorrelate_Corners_L4b.drop 0) (fun y => decorrelate_Corners_5 N y.1.1 y.1.2.1 y.1.2.2.1 y.1.2.2.2.1 y.2.1) (decorrelate_Corners_K4 N) :=
 Blk.chunkAt hb 2 (X := (goK 0 [1, 5, 20, 21, 22, 27, 28, 29] decorrelate_Corners_S5 (fun y => decorrelate_Corners_6 N y.1.1 y.1.2.1 y.1.2.2.1 y.1.2.2.2.1 y.1.2.2.2.2.1 y.1.2.2.2.2.2.1 y.1.2.2.2.2.2.2.1 y.2.1))) (NxOk.go hb (decorrelate_Corners_6_b N hb)) rfl (fun x => by kernel_rfl)
theorem decorrelate_Corners_3_b {E : Env} (N : Nat) (hb : Base Try.prog (decorrelate_Corners_C N) E 0) : Blk Try.prog (decorrelate_Corners_C N) E [1, 5, 20, 21, 22] decorrelate_Corners_S6 (decorrelate_Corners_L2.drop 2) (fun y => decorrelate_Corners_3 N y.1.1 y.1.2.1 y.1.2.2.1 y.1.2.2.2.1 y.2.1) (decorrelate_Corners_K2 N) :=
 Blk.blockAt (bid := 1) (X := (goK 0 [1, 5, 20, 21, 22] decorrelate_Corners_S6 (fun y => decorrelate_Corners_38 N y.1.1 y.1.2.1 y.1.2.2.1 y.1.2.2.2.1 y.2.1))) (Y := (goK 0 [1, 5, 20, 21, 22] decorrelate_Corners_S6 (fun y => decorrelate_Corners_5 N y.1.1 y.1.2.1 y.1.2.2.1 y.1.2.2.2.1 y.2.1))) (by kernel_rfl) (NxOk.go hb (decorrelate_Corners_38_b N hb)) (NxOk.go hb (decorrelate_Corners_5_b N hb)) (fun x => by kernel_rfl)
theorem decorrelate_Corners_s2_b {E : Env} (N : Nat) (hb : Base Try.prog (decorrelate_Corners_C N) E 0) : Blk Try.prog (decorrelate_Corners_C N) E [1, 5, 20, 21, 22] decorrelate_Corners_S6 (decorrelate_Corners_L2.drop 0) (fun y => decorrelate_Corners_s2 N y.1.1 y.1.2.1 y.1.2.2.1 y.1.2.2.2.1 y.2.1) (decorrelate_Corners_K2 N) :=
 Blk.chunkAt hb 2 (X := (goK 0 [1, 5, 20, 21, 22] decorrelate_Corners_S6 (fun y => decorrelate_Corners_3 N y.1.1 y.1.2.1 y.1.2.2.1 y.1.2.2.2.1 y.2.1))) (NxOk.go hb (decorrelate_Corners_3_b N hb)) rfl (fun x => by kernel_rfl)
theorem decorrelate_Corners_39_b {E : Env} (N : Nat) (hb : Base Try.prog (decorrelate_Corners_C N) E 0) : Blk Try.prog (decorrelate_Corners_C N) E [5] decorrelate_Corners_S7 (decorrelate_Corners_L.drop 4) (fun y => decorrelate_Corners_39 N y.2.1) (decorrelate_Corners_K N) :=
 Blk.chunkAt hb 2 (X := (decorrelate_Corners_K N .normal)) (NxOk.end (by kernel_rfl)) rfl (fun x => by kernel_rfl)
theorem decorrelate_Corners_1_b {E : Env} (N : Nat) (hb : Base Try.prog (decorrelate_Corners_C N) E 0) : Blk Try.prog (decorrelate_Corners_C N) E [1, 5, 20, 21, 22] decorrelate_Corners_S6 (decorrelate_Corners_L.drop 3) (fun y => decorrelate_Corners_1 N y.1.1 y.1.2.1 y.1.2.2.1 y.1.2.2.2.1 y.2.1) (decorrelate_Corners_K N) :=
 Blk.loopAt (Nf := N) (hns := [1, 5, 20, 21, 22]) (ans := [5]) (hc := decorrelate_Corners_S6) (ac := decorrelate_Corners_S7) (bid := 0) (step := (fun y => decorrelate_Corners_s2 N y.1.1 y.1.2.1 y.1.2.2.1 y.1.2.2.2.1 y.2.1)) (J := (fun e => (goK 0 [5] decorrelate_Corners_S7 (fun y => decorrelate_Corners_39 N y.2.1)) (decorrelate_Corners_S7.st [5] e))) hb (by kernel_rfl) (Blk.into (X := (goK 0 [5] decorrelate_Corners_S7 (fun y => decorrelate_Corners_39 N y.2.1))) (NxOk.go hb (decorrelate_Corners_39_b N hb)) (fun x => by kernel_rfl)) (decorrelate_Corners_s2_b N hb) (fun x => by kernel_rfl)
theorem decorrelate_Corners_b {E : Env} (N : Nat) (hb : Base Try.prog (decorrelate_Corners_C N) E 0) : Blk Try.prog (decorrelate_Corners_C N) E (List.range decorrelate_Corners_S8.ks.length) decorrelate_Corners_S8 (decorrelate_Corners_L.drop 0) (fun y => decorrelate_Corners N y.1.1 y.1.2.1) (decorrelate_Corners_K N) :=
 Blk.chunkAt hb 3 (X := (goK 0 [1, 5, 20, 21, 22] decorrelate_Corners_S6 (fun y => decorrelate_Corners_1 N y.1.1 y.1.2.1 y.1.2.2.1 y.1.2.2.2.1 y.2.1))) (NxOk.go hb (decorrelate_Corners_1_b N hb)) rfl (fun x => by kernel_rfl)
def decorrelate_Corners_ctr (N : Nat) : Ctr := ⟨decorrelate_Corners_S8, decorrelate_Corners_S7.un [false], 0, (fun y => decorrelate_Corners N y.1.1 y.1.2.1)⟩
theorem decorrelate_Corners_ctrs (N : Nat) : CtrsOk Try.prog (decorrelate_Corners_C N) := ctrs_of (Γ := decorrelate_Corners_C N) G_ifs_ok (by
 intro p hp
 simp only [decorrelate_Corners_C, List.mem_cons, List.not_mem_nil, or_false] at hp
 rcases hp with rfl | rfl
 · exact decorrelate_nearAddresses_ok N
 · exact decorrelate_near_ok N)
theorem decorrelate_Corners_ok (N : Nat) : Ctr.ok Try.prog G_globs 70 (decorrelate_Corners_ctr N) :=
 ctr_fn (Γ := decorrelate_Corners_C N) (rfit := decorrelate_Corners_S7) (bs := [false]) (res := [4]) (by kernel_rfl) (tys_ok G_tys_ok) (decorrelate_Corners_ctrs N) Try.func70 (by kernel_rfl) (by kernel_rfl) Try.ntmps70 (by kernel_rfl) (by kernel_rfl) (by kernel_rfl) (by kernel_rfl) (fun E hb => decorrelate_Corners_b N hb)
/-! ipsecgate/ipsecgateref20.ends -/
abbrev ref20_ends_R : Type := ((Unit) × ((List D27) × Unit))
def ref20_ends_2 (N : Nat) (hi_6 : D27) (out_7 : (List D27)) (last_9 : D27) : Option ref20_ends_R :=
 bif (!(dq T27 hi_6 last_9)) then
 Option.bind (ref20_on N hi_6) fun y11 =>
 bif room (out_7.length + ([y11.1.1] : List D27).length) 24 then
 some ((()), ((out_7 ++ ([y11.1.1] : List D27)), ()))
 else none
 else
 some ((()), (out_7, ()))
def ref20_ends_1 (N : Nat) (lo_5 : D27) (hi_6 : D27) (out_7 : (List D27)) (first_8 : D27) (last_9 : D27) : Option ref20_ends_R :=
 bif (!(dq T27 lo_5 first_8)) then
 Option.bind (ref20_back N lo_5) fun y8 =>
 bif room (out_7.length + ([y8.1.1] : List D27).length) 24 then
 ref20_ends_2 N hi_6 (out_7 ++ ([y8.1.1] : List D27)) last_9
 else none
 else
 ref20_ends_2 N hi_6 out_7 last_9
def ref20_ends (N : Nat) (b_0 : D45) (k_1 : Int) : Option ref20_ends_R :=
 Option.bind (ref20_low N b_0 k_1) fun y1 =>
 Option.bind (ref20_high N b_0 k_1) fun y2 =>
 Option.bind (ref20_number N (-1 : Int)) fun y3 =>
 Option.bind (ref20_number N (65535 : Int)) fun y4 =>
 bif (decide (k_1 = (0 : Int))) then
 Option.bind (ref18_All N y1.1.1.1) fun y6 =>
 ref20_ends_1 N y1.1.1 y2.1.1 ([y1.1.1, y2.1.1] : List D27) y6.1.1 y6.1.2.1
 else
 bif (decide (k_1 = (1 : Int))) then
 Option.bind (ref18_All N y1.1.1.1) fun y14 =>
 ref20_ends_1 N y1.1.1 y2.1.1 ([y1.1.1, y2.1.1] : List D27) y14.1.1 y14.1.2.1
 else
 bif (decide (k_1 = (2 : Int))) then
 Option.bind (ref20_number N (0 : Int)) fun y16 =>
 Option.bind (ref20_number N (255 : Int)) fun y17 =>
 ref20_ends_1 N y1.1.1 y2.1.1 ([y1.1.1, y2.1.1] : List D27) y16.1.1 y17.1.1
 else
 ref20_ends_1 N y1.1.1 y2.1.1 ([y1.1.1, y2.1.1] : List D27) y3.1.1 y4.1.1
def ref20_ends_C (N : Nat) : Ctx := ⟨52, G_tys, [(94, ref20_low_ctr N), (96, ref20_high_ctr N), (152, ref20_number_ctr N), (142, ref18_All_ctr N), (101, ref20_back_ctr N), (102, ref20_on_ctr N)], G_globs, G_ifs⟩
def ref20_ends_S0 : Spec := ⟨[.ref 0 T27, .row 1, .ref 2 T27], [(.box 28 T27, .pos 0), (.row 28 T27, .pos 1), (.box 28 T27, .pos 2)]⟩
def ref20_ends_S1 : Spec := ⟨[.ref 0 T27, .ref 1 T27, .row 2, .ref 3 T27, .ref 4 T27], [(.box 28 T27, .pos 0), (.box 28 T27, .pos 1), (.row 28 T27, .pos 2), (.box 28 T27, .pos 3), (.box 28 T27, .pos 4)]⟩
def ref20_ends_S2 : Spec := ⟨[.val T45, .val .i64], []⟩
def ref20_ends_S3 : Spec := ⟨[.row 0], [(.row 28 T27, .pos 0)]⟩
def ref20_ends_K (_N : Nat) : XE → GS → Option ref20_ends_R := retK 0 [4] [false] ref20_ends_S3
def ref20_ends_L : List Code := (bodyOf (some Try.f90))
theorem ref20_ends_2_b {E : Env} (N : Nat) (hb : Base Try.prog (ref20_ends_C N) E 0) : Blk Try.prog (ref20_ends_C N) E [6, 7, 9] ref20_ends_S0 (ref20_ends_L.drop 8) (fun y => ref20_ends_2 N y.2.1 y.2.2.1 y.2.2.2.1) (ref20_ends_K N) :=
 Blk.chunkAt hb 4 (X := (ref20_ends_K N .normal)) (NxOk.end (by kernel_rfl)) rfl (fun x => by kernel_rfl)
theorem ref20_ends_1_b {E : Env} (N : Nat) (hb : Base Try.prog (ref20_ends_C N) E 0) : Blk Try.prog (ref20_ends_C N) E [5, 6, 7, 8, 9] ref20_ends_S1 (ref20_ends_L.drop 6) (fun y => ref20_ends_1 N y.2.1 y.2.2.1 y.2.2.2.1 y.2.2.2.2.1 y.2.2.2.2.2.1) (ref20_ends_K N) :=
 Blk.chunkAt hb 2 (X := (goK 0 [6, 7, 9] ref20_ends_S0 (fun y => ref20_ends_2 N y.2.1 y.2.2.1 y.2.2.2.1))) (NxOk.go hb (ref20_ends_2_b N hb)) rfl (fun x => by kernel_rfl)
theorem ref20_ends_b {E : Env} (N : Nat) (hb : Base Try.prog (ref20_ends_C N) E 0) : Blk Try.prog (ref20_ends_C N) E (List.range ref20_ends_S2.ks.length) ref20_ends_S2 (ref20_ends_L.drop 0) (fun y => ref20_ends N y.1.1 y.1.2.1) (ref20_ends_K N) :=
 Blk.chunkAt hb 6 (X := (goK 0 [5, 6, 7, 8, 9] ref20_ends_S1 (fun y => ref20_ends_1 N y.2.1 y.2.2.1 y.2.2.2.1 y.2.2.2.2.1 y.2.2.2.2.2.1))) (NxOk.go hb (ref20_ends_1_b N hb)) rfl (fun x => by kernel_rfl)
def ref20_ends_ctr (N : Nat) : Ctr := ⟨ref20_ends_S2, ref20_ends_S3.un [false], 0, (fun y => ref20_ends N y.1.1 y.1.2.1)⟩
theorem ref20_ends_ctrs (N : Nat) : CtrsOk Try.prog (ref20_ends_C N) := ctrs_of (Γ := ref20_ends_C N) G_ifs_ok (by
 intro p hp
 simp only [ref20_ends_C, List.mem_cons, List.not_mem_nil, or_false] at hp
 rcases hp with rfl | rfl | rfl | rfl | rfl | rfl
 · exact ref20_low_ok N
 · exact ref20_high_ok N
 · exact ref20_number_ok N
 · exact ref18_All_ok N
 · exact ref20_back_ok N
 · exact ref20_on_ok N)
theorem ref20_ends_ok (N : Nat) : Ctr.ok Try.prog G_globs 90 (ref20_ends_ctr N) :=
 ctr_fn (Γ := ref20_ends_C N) (rfit := ref20_ends_S3) (bs := [false]) (res := [4]) (by kernel_rfl) (tys_ok G_tys_ok) (ref20_ends_ctrs N) Try.func90 (by kernel_rfl) (by kernel_rfl) Try.ntmps90 (by kernel_rfl) (by kernel_rfl) (by kernel_rfl) (by kernel_rfl) (fun E hb => ref20_ends_b N hb)
end
end Go.Proofs.Ytgbkkfpheahdfaa