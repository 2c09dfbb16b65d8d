/- Functions of the program as plain functions, each with the proof that the text computes it. -/
import Derived.Test.YtajpblfinenmjaaDoorGmRule
import Derived.Test.YtajpblfinenmjaaDoorProg
set_option linter.unusedVariables false
set_option linter.unusedSimpArgs false
namespace Go.Proofs.YtajpblfinenmjaaDoor
open Go
set_option maxRecDepth 100000
set_option linter.unusedVariables false
noncomputable section
abbrev D13 : Type := ((List UInt8) × (UInt64 × Unit))
abbrev T13 : Ty := (.pair .str (.pair .u64 .unit))
abbrev D28 : Type := (Int × (Int × ((List Tree) × Unit)))
abbrev T28 : Ty := (.pair .i64 (.pair .i64 (.pair .trees .unit)))
abbrev D7 : Type := (Int × (Int × (Bool × (UInt8 × Unit))))
abbrev T7 : Ty := (.pair .i64 (.pair .i64 (.pair .bool (.pair .u8 .unit))))
abbrev D27 : Type := (Int × (Int × ((List D28) × Unit)))
abbrev T27 : Ty := (.pair .i64 (.pair .i64 (.pair (.sl T28) .unit)))
def G_tys : List (Nat × TI) := [(2, ⟨.i64, 8, 0, false⟩), (3, ⟨.i64, 8, 0, false⟩), (4, ⟨.bool, 1, 0, false⟩), (5, ⟨.u8, 1, 0, false⟩), (6, ⟨.u8, 1, 0, false⟩), (7, ⟨T7, 24, 0, false⟩), (8, ⟨T7, 24, 0, false⟩), (9, ⟨.str, 16, 0, false⟩), (10, ⟨.str, 16, 0, false⟩), (11, ⟨.str, 16, 0, false⟩), (12, ⟨.u64, 8, 0, false⟩), (13, ⟨T13, 24, 0, false⟩), (14, ⟨T13, 24, 0, false⟩), (22, ⟨(.sl .u8), 24, 5, false⟩), (26, ⟨(.sl T28), 24, 28, false⟩), (27, ⟨T27, 40, 0, false⟩), (28, ⟨T28, 40, 0, false⟩), (33, ⟨.i64, 8, 0, false⟩), (45, ⟨(.pair (.sl .u8) (.pair .i64 .unit)), 32, 0, false⟩), (46, ⟨(.pair (.sl .u8) (.pair .i64 .unit)), 32, 0, false⟩), (56, ⟨.u32, 4, 0, false⟩), (57, ⟨(.arr 8 .u32), 32, 56, false⟩), (61, ⟨.u64, 8, 0, false⟩), (66, ⟨.i64, 8, 0, false⟩), (70, ⟨(.arr 64 .u32), 256, 56, false⟩), (77, ⟨.u64, 8, 0, false⟩), (84, ⟨(.arr 2 .i64), 16, 3, false⟩), (85, ⟨(.arr 3 (.arr 2 .i64)), 48, 84, false⟩), (88, ⟨(.arr 64 .u8), 64, 5, false⟩), (94, ⟨(.arr 16 .u32), 64, 56, false⟩), (101, ⟨(.arr 4 .i64), 32, 3, false⟩), (102, ⟨(.arr 8 (.arr 4 .i64)), 256, 101, false⟩), (105, ⟨(.arr 5 .u64), 40, 61, false⟩), (106, ⟨(.arr 5 .u64), 40, 61, false⟩), (124, ⟨.u8, 1, 0, false⟩), (125, ⟨.u8, 1, 0, false⟩), (132, ⟨(.pair .str .unit), 16, 0, false⟩), (133, ⟨(.pair .str .unit), 16, 0, false⟩)]
def g_sha256_initial : (List UInt32) := [1779033703, 3144134277, 1013904242, 2773480762, 1359893119, 2600822924, 528734635, 1541459225]
def g_sha256_constants : (List UInt32) := [1116352408, 1899447441, 3049323471, 3921009573, 961987163, 1508970993, 2453635748, 2870763221, 3624381080, 310598401, 607225278, 1426881987, 1925078388, 2162078206, 2614888103, 3248222580, 3835390401, 4022224774, 264347078, 604807628, 770255983, 1249150122, 1555081692, 1996064986, 2554220882, 2821834349, 2952996808, 3210313671, 3336571891, 3584528711, 113926993, 338241895, 666307205, 773529912, 1294757372, 1396182291, 1695183700, 1986661051, 2177026350, 2456956037, 2730485921, 2820302411, 3259730800, 3345764771, 3516065817, 3600352804, 4094571909, 275423344, 430227734, 506948616, 659060556, 883997877, 958139571, 1322822218, 1537002063, 1747873779, 1955562222, 2024104815, 2227730452, 2361852424, 2428436474, 2756734187, 3204031479, 3329325298]
def g_chacha_quarters : (List (List Int)) := [[0, 4, 8, 12], [1, 5, 9, 13], [2, 6, 10, 14], [3, 7, 11, 15], [0, 5, 10, 15], [1, 6, 11, 12], [2, 7, 8, 13], [3, 4, 9, 14]]
def G_globs : List (Nat × Dt) := [(0, ⟨(.arr 8 .u32), g_sha256_initial⟩), (1, ⟨(.arr 64 .u32), g_sha256_constants⟩), (2, ⟨(.arr 8 (.arr 4 .i64)), g_chacha_quarters⟩)]
def G_ifs : IfT := ⟨[], [], [], []⟩
theorem G_ifs_ok : ifChk Tryd.prog G_ifs = true := by kernel_rfl
theorem G_tys_ok : tyChk Tryd.prog G_tys = true := by kernel_rfl
/-! ipsecgate/ipsecgateref26.Number -/
abbrev ref26_Number_R : Type := ((D28 × Unit) × (Unit))
def ref26_Number (N : Nat) (n_0 : Int) : Option ref26_Number_R :=
 some ((((1 : Int), n_0, ([] : List Tree), ()), ()), (()))
def ref26_Number_C (N : Nat) : Ctx := ⟨5, G_tys, [], G_globs, G_ifs⟩
def ref26_Number_S0 : Spec := ⟨[.val .i64], []⟩
def ref26_Number_S1 : Spec := ⟨[.fp T28], []⟩
def ref26_Number_K (_N : Nat) : XE → GS → Option ref26_Number_R := retK 0 [2] [true] ref26_Number_S1
def ref26_Number_L : List Code := (bodyOf (some Tryd.f20))
theorem ref26_Number_b {E : Env} (N : Nat) (hb : Base Tryd.prog (ref26_Number_C N) E 0) : Blk Tryd.prog (ref26_Number_C N) E (List.range ref26_Number_S0.ks.length) ref26_Number_S0 (ref26_Number_L.drop 0) (fun y => ref26_Number N y.1.1) (ref26_Number_K N) :=
 Blk.chunkAt hb 3 (X := (ref26_Number_K N .normal)) (NxOk.end (by kernel_rfl)) rfl (fun x => by kernel_rfl)
def ref26_Number_ctr (N : Nat) : Ctr := ⟨ref26_Number_S0, ref26_Number_S1.un [true], 0, (fun y => ref26_Number N y.1.1)⟩
theorem ref26_Number_ctrs (N : Nat) : CtrsOk Tryd.prog (ref26_Number_C N) := ctrs_nil G_ifs_ok rfl
theorem ref26_Number_ok (N : Nat) : Ctr.ok Tryd.prog G_globs 20 (ref26_Number_ctr N) :=
 ctr_fn (Γ := ref26_Number_C N) (rfit := ref26_Number_S1) (bs := [true]) (res := [2]) (by kernel_rfl) (tys_ok G_tys_ok) (ref26_Number_ctrs N) Tryd.func20 (by kernel_rfl) (by kernel_rfl) Tryd.ntmps20 (by kernel_rfl) (by kernel_rfl) (by kernel_rfl) (by kernel_rfl) (fun E hb => ref26_Number_b N hb)
/-! ipsecgate/term.compare -/
abbrev term_compare_R : Type := ((Int × Unit) × (Unit))
def term_compare_s2 (N : Nat) (rc : D28 → D28 → Option term_compare_R) (t_27 : (List (List Int))) (t_28 : Int) (a_2 : D28) (b_3 : D28) : Option (Lo (((List (List Int)) × Int × Unit) × (D28 × D28 × Unit)) ((Unit) × (D28 × D28 × Unit)) term_compare_R) :=
 bif (decide (t_28 < (3 : Int))) then
 bif inR t_28 3 then
 let x10 := t_27.getD t_28.toNat (List.replicate 2 (0 : Int))
 bif (decide ((x10.getD 0 (0 : Int)) < (x10.getD 1 (0 : Int)))) then
 some (.rt (((-1 : Int), ()), (())))
 else
 bif (decide ((x10.getD 1 (0 : Int)) < (x10.getD 0 (0 : Int)))) then
 some (.rt (((1 : Int), ()), (())))
 else
 some (.go ((t_27, (w64 (t_28 + (1 : Int))), ()), (a_2, b_3, ())))
 else none
 else
 some (.br ((()), (a_2, b_3, ())))
def term_compare_s5 (N : Nat) (rc : D28 → D28 → Option term_compare_R) (t_43 : (List D28)) (t_44 : Int) (t_45 : Int) (b_3 : D28) : Option (Lo (((List D28) × Int × Int × Unit) × (D28 × Unit)) ((Unit) × (Unit)) term_compare_R) :=
 bif (decide (t_45 < t_44)) then
 bif inR t_45 t_43.length then
 let x22 := List.map Tree.un b_3.2.2.1
 bif inR t_45 x22.length then
 Option.bind (rc (t_43.getD t_45.toNat ((0 : Int), (0 : Int), ([] : List Tree), ())) (x22.getD t_45.toNat ((0 : Int), (0 : Int), ([] : List Tree), ()))) fun y24 =>
 bif (!(decide (y24.1.1 = (0 : Int)))) then
 some (.rt ((y24.1.1, ()), (())))
 else
 some (.go ((t_43, t_44, (w64 (t_45 + (1 : Int))), ()), (b_3, ())))
 else none
 else none
 else
 some (.br ((()), (())))
def term_compare_6 (N : Nat) (rc : D28 → D28 → Option term_compare_R) : Option term_compare_R :=
 some (((0 : Int), ()), (()))
def term_compare_4 (N : Nat) (rc : D28 → D28 → Option term_compare_R) (t_43 : (List D28)) (t_44 : Int) (t_45 : Int) (b_3 : D28) : Option term_compare_R :=
 loopK N (fun y => term_compare_s5 N rc y.1.1 y.1.2.1 y.1.2.2.1 y.2.1) (fun (e : ((Unit) × (Unit))) => term_compare_6 N rc) ((t_43, t_44, t_45, ()), (b_3, ()))
def term_compare_3 (N : Nat) (rc : D28 → D28 → Option term_compare_R) (a_2 : D28) (b_3 : D28) : Option term_compare_R :=
 let x18 := List.map Tree.un a_2.2.2.1
 term_compare_4 N rc x18 (x18.length : Int) (0 : Int) b_3
def term_compare_1 (N : Nat) (rc : D28 → D28 → Option term_compare_R) (t_27 : (List (List Int))) (t_28 : Int) (a_2 : D28) (b_3 : D28) : Option term_compare_R :=
 loopK N (fun y => term_compare_s2 N rc y.1.1 y.1.2.1 y.2.1 y.2.2.1) (fun (e : ((Unit) × (D28 × D28 × Unit))) => term_compare_3 N rc e.2.1 e.2.2.1) ((t_27, t_28, ()), (a_2, b_3, ()))
def term_compare (N : Nat) (rc : D28 → D28 → Option term_compare_R) (a_0 : D28) (b_1 : D28) : Option term_compare_R :=
 term_compare_1 N rc ([([a_0.1, b_1.1] : List Int), ([a_0.2.1, b_1.2.1] : List Int), ([((List.map Tree.un a_0.2.2.1).length : Int), ((List.map Tree.un b_1.2.2.1).length : Int)] : List Int)] : List (List Int)) (0 : Int) a_0 b_1
def term_compare_S0 : Spec := ⟨[.ref 0 T28, .ref 1 T28, .val (.arr 3 (.arr 2 .i64)), .val .i64], [(.box 28 T28, .pos 0), (.box 28 T28, .pos 1)]⟩
def term_compare_S1 : Spec := ⟨[.ref 0 T28, .val (.sl T28), .val .i64, .val .i64], [(.box 28 T28, .pos 0)]⟩
def term_compare_S2 : Spec := ⟨[], []⟩
def term_compare_S3 : Spec := ⟨[.ref 0 T28, .ref 1 T28], [(.box 28 T28, .pos 0), (.box 28 T28, .pos 1)]⟩
def term_compare_S4 : Spec := ⟨[.val T28, .val T28], []⟩
def term_compare_S5 : Spec := ⟨[.val .i64], []⟩
def term_compare_ftr (N : Nat) (rc : D28 → D28 → Option term_compare_R) : Ctr := ⟨term_compare_S4, term_compare_S5.un [false], 0, (fun y => rc y.1.1 y.1.2.1)⟩
def term_compare_C (N : Nat) (rc : D28 → D28 → Option term_compare_R) : Ctx := ⟨61, G_tys, [(55, term_compare_ftr N rc)], G_globs, G_ifs⟩
def term_compare_K (_N : Nat) (_rc : D28 → D28 → Option term_compare_R) : XE → GS → Option term_compare_R := retK 0 [4] [false] term_compare_S5
def term_compare_L : List Code := (bodyOf (some Tryd.f55))
def term_compare_L2 : List Code := (loopOf (term_compare_L[2]?))
def term_compare_L5 : List Code := (loopOf (term_compare_L[4]?))
def term_compare_K2 (N : Nat) (rc : D28 → D28 → Option term_compare_R) : XE → GS → Option (Lo (((List (List Int)) × Int × Unit) × (D28 × D28 × Unit)) ((Unit) × (D28 × D28 × Unit)) term_compare_R) := roundK (some 0) (fit 0 [2, 3, 27, 28] term_compare_S0) (fit 0 [2, 3] term_compare_S3) (term_compare_K N rc)
def term_compare_K5 (N : Nat) (rc : D28 → D28 → Option term_compare_R) : XE → GS → Option (Lo (((List D28) × Int × Int × Unit) × (D28 × Unit)) ((Unit) × (Unit)) term_compare_R) := roundK (some 2) (fit 0 [3, 43, 44, 45] term_compare_S1) (fit 0 [] term_compare_S2) (term_compare_K N rc)
theorem term_compare_s2_b {E : Env} (N : Nat) (rc : D28 → D28 → Option term_compare_R) (hb : Base Tryd.prog (term_compare_C N rc) E 0) : Blk Tryd.prog (term_compare_C N rc) E [2, 3, 27, 28] term_compare_S0 (term_compare_L2.drop 0) (fun y => term_compare_s2 N rc y.1.1 y.1.2.1 y.2.1 y.2.2.1) (term_compare_K2 N rc) :=
 Blk.chunkAt hb 4 (X := (term_compare_K2 N rc .normal)) (NxOk.end (by kernel_rfl)) rfl (fun x => by kernel_rfl)
theorem term_compare_s5_b {E : Env} (N : Nat) (rc : D28 → D28 → Option term_compare_R) (hb : Base Tryd.prog (term_compare_C N rc) E 0) : Blk Tryd.prog (term_compare_C N rc) E [3, 43, 44, 45] term_compare_S1 (term_compare_L5.drop 0) (fun y => term_compare_s5 N rc y.1.1 y.1.2.1 y.1.2.2.1 y.2.1) (term_compare_K5 N rc) :=
 Blk.chunkAt hb 4 (X := (term_compare_K5 N rc .normal)) (NxOk.end (by kernel_rfl)) rfl (fun x => by kernel_rfl)
theorem term_compare_6_b {E : Env} (N : Nat) (rc : D28 → D28 → Option term_compare_R) (hb : Base Tryd.prog (term_compare_C N rc) E 0) : Blk Tryd.prog (term_compare_C N rc) E [] term_compare_S2 (term_compare_L.drop 5) (fun y => term_compare_6 N rc) (term_compare_K N rc) :=
 Blk.chunkAt hb 2 (X := (term_compare_K N rc .normal)) (NxOk.end (by kernel_rfl)) rfl (fun x => by kernel_rfl)
theorem term_compare_4_b {E : Env} (N : Nat) (rc : D28 → D28 → Option term_compare_R) (hb : Base Tryd.prog (term_compare_C N rc) E 0) : Blk Tryd.prog (term_compare_C N rc) E [3, 43, 44, 45] term_compare_S1 (term_compare_L.drop 4) (fun y => term_compare_4 N rc y.1.1 y.1.2.1 y.1.2.2.1 y.2.1) (term_compare_K N rc) :=
 Blk.loopAt (Nf := N) (hns := [3, 43, 44, 45]) (ans := []) (hc := term_compare_S1) (ac := term_compare_S2) (bid := 2) (step := (fun y => term_compare_s5 N rc y.1.1 y.1.2.1 y.1.2.2.1 y.2.1)) (J := (fun e => (goK 0 [] term_compare_S2 (fun y => term_compare_6 N rc)) (term_compare_S2.st [] e))) hb (by kernel_rfl) (Blk.into (X := (goK 0 [] term_compare_S2 (fun y => term_compare_6 N rc))) (NxOk.go hb (term_compare_6_b N rc hb)) (fun x => by kernel_rfl)) (term_compare_s5_b N rc hb) (fun x => by kernel_rfl)
theorem term_compare_3_b {E : Env} (N : Nat) (rc : D28 → D28 → Option term_compare_R) (hb : Base Tryd.prog (term_compare_C N rc) E 0) : Blk Tryd.prog (term_compare_C N rc) E [2, 3] term_compare_S3 (term_compare_L.drop 3) (fun y => term_compare_3 N rc y.2.1 y.2.2.1) (term_compare_K N rc) :=
 Blk.chunkAt hb 1 (X := (goK 0 [3, 43, 44, 45] term_compare_S1 (fun y => term_compare_4 N rc y.1.1 y.1.2.1 y.1.2.2.1 y.2.1))) (NxOk.go hb (term_compare_4_b N rc hb)) rfl (fun x => by kernel_rfl)
theorem term_compare_1_b {E : Env} (N : Nat) (rc : D28 → D28 → Option term_compare_R) (hb : Base Tryd.prog (term_compare_C N rc) E 0) : Blk Tryd.prog (term_compare_C N rc) E [2, 3, 27, 28] term_compare_S0 (term_compare_L.drop 2) (fun y => term_compare_1 N rc y.1.1 y.1.2.1 y.2.1 y.2.2.1) (term_compare_K N rc) :=
 Blk.loopAt (Nf := N) (hns := [2, 3, 27, 28]) (ans := [2, 3]) (hc := term_compare_S0) (ac := term_compare_S3) (bid := 0) (step := (fun y => term_compare_s2 N rc y.1.1 y.1.2.1 y.2.1 y.2.2.1)) (J := (fun e => (goK 0 [2, 3] term_compare_S3 (fun y => term_compare_3 N rc y.2.1 y.2.2.1)) (term_compare_S3.st [2, 3] e))) hb (by kernel_rfl) (Blk.into (X := (goK 0 [2, 3] term_compare_S3 (fun y => term_compare_3 N rc y.2.1 y.2.2.1))) (NxOk.go hb (term_compare_3_b N rc hb)) (fun x => by kernel_rfl)) (term_compare_s2_b N rc hb) (fun x => by kernel_rfl)
theorem term_compare_b {E : Env} (N : Nat) (rc : D28 → D28 → Option term_compare_R) (hb : Base Tryd.prog (term_compare_C N rc) E 0) : Blk Tryd.prog (term_compare_C N rc) E (List.range term_compare_S4.ks.length) term_compare_S4 (term_compare_L.drop 0) (fun y => term_compare N rc y.1.1 y.1.2.1) (term_compare_K N rc) :=
 Blk.chunkAt hb 2 (X := (goK 0 [2, 3, 27, 28] term_compare_S0 (fun y => term_compare_1 N rc y.1.1 y.1.2.1 y.2.1 y.2.2.1))) (NxOk.go hb (term_compare_1_b N rc hb)) rfl (fun x => by kernel_rfl)
def term_compare_octr (N : Nat) (rc : D28 → D28 → Option term_compare_R) : Ctr := ⟨term_compare_S4, term_compare_S5.un [false], 0, (fun y => term_compare N rc y.1.1 y.1.2.1)⟩
theorem term_compare_ctrs (N : Nat) (rc : D28 → D28 → Option term_compare_R) (hf : Ctr.ok Tryd.prog G_globs 55 (term_compare_ftr N rc)) : CtrsOk Tryd.prog (term_compare_C N rc) := ctrs_of (Γ := term_compare_C N rc) G_ifs_ok (by
 intro p hp
 simp only [term_compare_C, List.mem_cons, List.not_mem_nil, or_false] at hp
 rcases hp with rfl
 · exact hf)
theorem term_compare_ook (N : Nat) (rc : D28 → D28 → Option term_compare_R) (hf : Ctr.ok Tryd.prog G_globs 55 (term_compare_ftr N rc))  : Ctr.ok Tryd.prog G_globs 55 (term_compare_octr N rc) :=
 ctr_fn (Γ := term_compare_C N rc) (rfit := term_compare_S5) (bs := [false]) (res := [4]) (by kernel_rfl) (tys_ok G_tys_ok) (term_compare_ctrs N rc hf) Tryd.func55 (by kernel_rfl) (by kernel_rfl) Tryd.ntmps55 (by kernel_rfl) (by kernel_rfl) (by kernel_rfl) (by kernel_rfl) (fun E hb => term_compare_b N rc hb)
def term_compareR (N : Nat) : Nat → D28 → D28 → Option term_compare_R
 | 0 => fun _ _ => none
 | n + 1 => fun a_0 b_1 => term_compare N (term_compareR N n) a_0 b_1
theorem term_compareR_ok (N : Nat) : ∀ n : Nat, Ctr.ok Tryd.prog G_globs 55 (term_compare_ftr N (term_compareR N n))
 | 0 => ctr_never Tryd.func55 (by kernel_rfl) (by kernel_rfl) (fun x => rfl)
 | n + 1 => term_compare_ook N (term_compareR N n) (term_compareR_ok N n)
def term_compare_ctr (N : Nat) : Ctr := term_compare_ftr N (term_compareR N N)
theorem term_compare_ok (N : Nat) : Ctr.ok Tryd.prog G_globs 55 (term_compare_ctr N) := term_compareR_ok N N
/-! ipsecgate/term.Less -/
abbrev term_Less_R : Type := ((Bool × Unit) × (Unit))
def term_Less (N : Nat) (a_0 : D28) (b_1 : D28) : Option term_Less_R :=
 Option.bind (term_compareR N N a_0 b_1) fun y1 =>
 some (((decide (y1.1.1 < (0 : Int))), ()), (()))
def term_Less_C (N : Nat) : Ctx := ⟨9, G_tys, [(55, term_compare_ctr N)], G_globs, G_ifs⟩
def term_Less_S0 : Spec := ⟨[.val T28, .val T28], []⟩
def term_Less_S1 : Spec := ⟨[.val .bool], []⟩
def term_Less_K (_N : Nat) : XE → GS → Option term_Less_R := retK 0 [4] [false] term_Less_S1
def term_Less_L : List Code := (bodyOf (some Tryd.f44))
theorem term_Less_b {E : Env} (N : Nat) (hb : Base Tryd.prog (term_Less_C N) E 0) : Blk Tryd.prog (term_Less_C N) E (List.range term_Less_S0.ks.length) term_Less_S0 (term_Less_L.drop 0) (fun y => term_Less N y.1.1 y.1.2.1) (term_Less_K N) :=
 Blk.chunkAt hb 3 (X := (term_Less_K N .normal)) (NxOk.end (by kernel_rfl)) rfl (fun x => by kernel_rfl)
def term_Less_ctr (N : Nat) : Ctr := ⟨term_Less_S0, term_Less_S1.un [false], 0, (fun y => term_Less N y.1.1 y.1.2.1)⟩
theorem term_Less_ctrs (N : Nat) : CtrsOk Tryd.prog (term_Less_C N) := ctrs_of (Γ := term_Less_C N) G_ifs_ok (by
 intro p hp
 simp only [term_Less_C, List.mem_cons, List.not_mem_nil, or_false] at hp
 rcases hp with rfl
 · exact term_compare_ok N)
theorem term_Less_ok (N : Nat) : Ctr.ok Tryd.prog G_globs 44 (term_Less_ctr N) :=
 ctr_fn (Γ := term_Less_C N) (rfit := term_Less_S1) (bs := [false]) (res := [4]) (by kernel_rfl) (tys_ok G_tys_ok) (term_Less_ctrs N) Tryd.func44 (by kernel_rfl) (by kernel_rfl) Tryd.ntmps44 (by kernel_rfl) (by kernel_rfl) (by kernel_rfl) (by kernel_rfl) (fun E hb => term_Less_b N hb)
/-! ipsecgate/term.sound -/
abbrev term_sound_R : Type := ((Bool × Unit) × (Unit))
def term_sound (N : Nat) (t_0 : D28) : Option term_sound_R :=
 let x2 := ((List.map Tree.un t_0.2.2.1).length : Int)
 bif (decide (t_0.1 = (1 : Int))) then
 some (((decide (x2 = (0 : Int))), ()), (()))
 else
 bif (decide (t_0.1 = (2 : Int))) then
 bif (decide (x2 = (0 : Int))) then
 some (((decide ((0 : Int) ≤ t_0.2.1)), ()), (()))
 else
 some ((false, ()), (()))
 else
 bif (decide (t_0.1 = (9 : Int))) then
 bif (decide (x2 = (0 : Int))) then
 some (((decide ((0 : Int) ≤ t_0.2.1)), ()), (()))
 else
 some ((false, ()), (()))
 else
 bif (decide (t_0.1 = (10 : Int))) then
 bif (decide (x2 = (0 : Int))) then
 some (((decide ((0 : Int) ≤ t_0.2.1)), ()), (()))
 else
 some ((false, ()), (()))
 else
 bif (decide (t_0.1 = (3 : Int))) then
 some (((decide (t_0.2.1 = (0 : Int))), ()), (()))
 else
 bif (decide (t_0.1 = (6 : Int))) then
 some (((decide ((0 : Int) ≤ t_0.2.1)), ()), (()))
 else
 bif (decide (t_0.1 = (4 : Int))) then
 bif (decide (x2 = (1 : Int))) then
 some (((decide (t_0.2.1 = (0 : Int))), ()), (()))
 else
 some ((false, ()), (()))
 else
 bif (decide (t_0.1 = (8 : Int))) then
 bif (decide (x2 = (1 : Int))) then
 some (((decide ((0 : Int) ≤ t_0.2.1)), ()), (()))
 else
 some ((false, ()), (()))
 else
 bif (decide (t_0.1 = (5 : Int))) then
 bif (decide (x2 = (2 : Int))) then
 bif (decide (t_0.2.1 = (0 : Int))) then
 let x27 := List.map Tree.un t_0.2.2.1
 bif inR (1 : Int) x27.length then
 let x29 := List.map Tree.un t_0.2.2.1
 bif inR (0 : Int) x29.length then
 Option.bind (term_Less N (x27.getD 1 ((0 : Int), (0 : Int), ([] : List Tree), ())) (x29.getD 0 ((0 : Int), (0 : Int), ([] : List Tree), ()))) fun y31 =>
 some (((!y31.1.1), ()), (()))
 else none
 else none
 else
 some ((false, ()), (()))
 else
 some ((false, ()), (()))
 else
 bif (decide (t_0.1 = (7 : Int))) then
 bif (decide (x2 = (2 : Int))) then
 some (((decide (t_0.2.1 = (0 : Int))), ()), (()))
 else
 some ((false, ()), (()))
 else
 some ((false, ()), (()))
def term_sound_C (N : Nat) : Ctx := ⟨82, G_tys, [(44, term_Less_ctr N)], G_globs, G_ifs⟩
def term_sound_S0 : Spec := ⟨[.val T28], []⟩
def term_sound_S1 : Spec := ⟨[.val .bool], []⟩
def term_sound_K (_N : Nat) : XE → GS → Option term_sound_R := retK 0 [2] [false] term_sound_S1
def term_sound_L : List Code := (bodyOf (some Tryd.f37))
theorem term_sound_b {E : Env} (N : Nat) (hb : Base Tryd.prog (term_sound_C N) E 0) : Blk Tryd.prog (term_sound_C N) E (List.range term_sound_S0.ks.length) term_sound_S0 (term_sound_L.drop 0) (fun y => term_sound N y.1.1) (term_sound_K N) :=
 Blk.chunkAt hb 6 (X := (term_sound_K N .normal)) (NxOk.end (by kernel_rfl)) rfl (fun x => by kernel_rfl)
def term_sound_ctr (N : Nat) : Ctr := ⟨term_sound_S0, term_sound_S1.un [false], 0, (fun y => term_sound N y.1.1)⟩
theorem term_sound_ctrs (N : Nat) : CtrsOk Tryd.prog (term_sound_C N) := ctrs_of (Γ := term_sound_C N) G_ifs_ok (by
 intro p hp
 simp only [term_sound_C, List.mem_cons, List.not_mem_nil, or_false] at hp
 rcases hp with rfl
 · exact term_Less_ok N)
theorem term_sound_ok (N : Nat) : Ctr.ok Tryd.prog G_globs 37 (term_sound_ctr N) :=
 ctr_fn (Γ := term_sound_C N) (rfit := term_sound_S1) (bs := [false]) (res := [2]) (by kernel_rfl) (tys_ok G_tys_ok) (term_sound_ctrs N) Tryd.func37 (by kernel_rfl) (by kernel_rfl) Tryd.ntmps37 (by kernel_rfl) (by kernel_rfl) (by kernel_rfl) (by kernel_rfl) (fun E hb => term_sound_b N hb)
/-! ipsecgate/wire.Put -/
abbrev wire_Put_R : Type := ((Unit) × ((List UInt8) × Unit))
def wire_Put_s3 (N : Nat) (v_1 : UInt64) (i_7 : Int) (b_0 : (List UInt8)) : Option (Lo ((UInt64 × Int × Unit) × ((List UInt8) × Unit)) ((Unit) × ((List UInt8) × Unit)) wire_Put_R) :=
 bif (decide ((0 : Int) ≤ i_7)) then
 let x4 := w64 ((8 : Int) * i_7)
 bif decide (0 ≤ x4) then
 let x5 := shr64 v_1 x4.toNat
 bif room (b_0.length + ([x5.toUInt8] : List UInt8).length) 1 then
 some (.go ((v_1, (w64 (i_7 - (1 : Int))), ()), ((b_0 ++ ([x5.toUInt8] : List UInt8)), ())))
 else none
 else none
 else
 some (.br ((()), (b_0, ())))
def wire_Put_4 (N : Nat) (b_0 : (List UInt8)) : Option wire_Put_R :=
 some ((()), (b_0, ()))
def wire_Put_2 (N : Nat) (v_1 : UInt64) (i_7 : Int) (b_0 : (List UInt8)) : Option wire_Put_R :=
 loopK N (fun y => wire_Put_s3 N y.1.1 y.1.2.1 y.2.1) (fun (e : ((Unit) × ((List UInt8) × Unit))) => wire_Put_4 N e.2.1) ((v_1, i_7, ()), (b_0, ()))
def wire_Put_1 (N : Nat) (v_1 : UInt64) (width_2 : Int) (t_13 : Bool) (b_0 : (List UInt8)) : Option wire_Put_R :=
 bif t_13 then
 some ((()), (b_0, ()))
 else
 wire_Put_2 N v_1 (w64 (width_2 - (1 : Int))) b_0
def wire_Put (N : Nat) (v_1 : UInt64) (width_2 : Int) (b_0 : (List UInt8)) : Option wire_Put_R :=
 bif (decide (width_2 < (1 : Int))) then
 wire_Put_1 N v_1 width_2 true b_0
 else
 wire_Put_1 N v_1 width_2 (decide ((8 : Int) < width_2)) b_0
def wire_Put_C (N : Nat) : Ctx := ⟨30, G_tys, [], G_globs, G_ifs⟩
def wire_Put_S0 : Spec := ⟨[.row 0, .val .u64, .val .i64], [(.row 5 .u8, .pos 0)]⟩
def wire_Put_S1 : Spec := ⟨[.row 0], [(.row 5 .u8, .pos 0)]⟩
def wire_Put_S2 : Spec := ⟨[.row 0, .val .u64, .val .i64, .val .bool], [(.row 5 .u8, .pos 0)]⟩
def wire_Put_K (_N : Nat) : XE → GS → Option wire_Put_R := retK 0 [6] [false] wire_Put_S1
def wire_Put_L : List Code := (bodyOf (some Tryd.f34))
def wire_Put_L3 : List Code := (loopOf (wire_Put_L[4]?))
def wire_Put_K3 (N : Nat) : XE → GS → Option (Lo ((UInt64 × Int × Unit) × ((List UInt8) × Unit)) ((Unit) × ((List UInt8) × Unit)) wire_Put_R) := roundK (some 0) (fit 0 [0, 1, 7] wire_Put_S0) (fit 0 [0] wire_Put_S1) (wire_Put_K N)
theorem wire_Put_s3_b {E : Env} (N : Nat) (hb : Base Tryd.prog (wire_Put_C N) E 0) : Blk Tryd.prog (wire_Put_C N) E [0, 1, 7] wire_Put_S0 (wire_Put_L3.drop 0) (fun y => wire_Put_s3 N y.1.1 y.1.2.1 y.2.1) (wire_Put_K3 N) :=
 Blk.chunkAt hb 4 (X := (wire_Put_K3 N .normal)) (NxOk.end (by kernel_rfl)) rfl (fun x => by kernel_rfl)
theorem wire_Put_4_b {E : Env} (N : Nat) (hb : Base Tryd.prog (wire_Put_C N) E 0) : Blk Tryd.prog (wire_Put_C N) E [0] wire_Put_S1 (wire_Put_L.drop 5) (fun y => wire_Put_4 N y.2.1) (wire_Put_K N) :=
 Blk.chunkAt hb 2 (X := (wire_Put_K N .normal)) (NxOk.end (by kernel_rfl)) rfl (fun x => by kernel_rfl)
theorem wire_Put_2_b {E : Env} (N : Nat) (hb : Base Tryd.prog (wire_Put_C N) E 0) : Blk Tryd.prog (wire_Put_C N) E [0, 1, 7] wire_Put_S0 (wire_Put_L.drop 4) (fun y => wire_Put_2 N y.1.1 y.1.2.1 y.2.1) (wire_Put_K N) :=
 Blk.loopAt (Nf := N) (hns := [0, 1, 7]) (ans := [0]) (hc := wire_Put_S0) (ac := wire_Put_S1) (bid := 0) (step := (fun y => wire_Put_s3 N y.1.1 y.1.2.1 y.2.1)) (J := (fun e => (goK 0 [0] wire_Put_S1 (fun y => wire_Put_4 N y.2.1)) (wire_Put_S1.st [0] e))) hb (by kernel_rfl) (Blk.into (X := (goK 0 [0] wire_Put_S1 (fun y => wire_Put_4 N y.2.1))) (NxOk.go hb (wire_Put_4_b N hb)) (fun x => by kernel_rfl)) (wire_Put_s3_b N hb) (fun x => by kernel_rfl)
theorem wire_Put_1_b {E : Env} (N : Nat) (hb : Base Tryd.prog (wire_Put_C N) E 0) : Blk Tryd.prog (wire_Put_C N) E [0, 1, 2, 13] wire_Put_S2 (wire_Put_L.drop 2) (fun y => wire_Put_1 N y.1.1 y.1.2.1 y.1.2.2.1 y.2.1) (wire_Put_K N) :=
 Blk.chunkAt hb 2 (X := (goK 0 [0, 1, 7] wire_Put_S0 (fun y => wire_Put_2 N y.1.1 y.1.2.1 y.2.1))) (NxOk.go hb (wire_Put_2_b N hb)) rfl (fun x => by kernel_rfl)
theorem wire_Put_b {E : Env} (N : Nat) (hb : Base Tryd.prog (wire_Put_C N) E 0) : Blk Tryd.prog (wire_Put_C N) E (List.range wire_Put_S0.ks.length) wire_Put_S0 (wire_Put_L.drop 0) (fun y => wire_Put N y.1.1 y.1.2.1 y.2.1) (wire_Put_K N) :=
 Blk.chunkAt hb 2 (X := (goK 0 [0, 1, 2, 13] wire_Put_S2 (fun y => wire_Put_1 N y.1.1 y.1.2.1 y.1.2.2.1 y.2.1))) (NxOk.go hb (wire_Put_1_b N hb)) rfl (fun x => by kernel_rfl)
def wire_Put_ctr (N : Nat) : Ctr := ⟨wire_Put_S0, wire_Put_S1.un [false], 0, (fun y => wire_Put N y.1.1 y.1.2.1 y.2.1)⟩
theorem wire_Put_ctrs (N : Nat) : CtrsOk Tryd.prog (wire_Put_C N) := ctrs_nil G_ifs_ok rfl
theorem wire_Put_ok (N : Nat) : Ctr.ok Tryd.prog G_globs 34 (wire_Put_ctr N) :=
 ctr_fn (Γ := wire_Put_C N) (rfit := wire_Put_S1) (bs := [false]) (res := [6]) (by kernel_rfl) (tys_ok G_tys_ok) (wire_Put_ctrs N) Tryd.func34 (by kernel_rfl) (by kernel_rfl) Tryd.ntmps34 (by kernel_rfl) (by kernel_rfl) (by kernel_rfl) (by kernel_rfl) (fun E hb => wire_Put_b N hb)
/-! ipsecgate/concrete.writers$1 -/
abbrev concrete_writers_f1_R : Type := ((Unit) × ((List UInt8) × Unit))
def concrete_writers_f1 (N : Nat) (t_1 : D28) (b_0 : (List UInt8)) : Option concrete_writers_f1_R :=
 Option.bind (wire_Put N (iu64 t_1.2.1) (8 : Int) b_0) fun y2 =>
 some ((()), (y2.2.1, ()))
def concrete_writers_f1_C (N : Nat) : Ctx := ⟨10, G_tys, [(34, wire_Put_ctr N)], G_globs, G_ifs⟩
def concrete_writers_f1_S0 : Spec := ⟨[.row 0, .val T28], [(.row 5 .u8, .pos 0)]⟩
def concrete_writers_f1_S1 : Spec := ⟨[.row 0], [(.row 5 .u8, .pos 0)]⟩
def concrete_writers_f1_K (_N : Nat) : XE → GS → Option concrete_writers_f1_R := retK 0 [4] [false] concrete_writers_f1_S1
def concrete_writers_f1_L : List Code := (bodyOf (some Tryd.f45))
theorem concrete_writers_f1_b {E : Env} (N : Nat) (hb : Base Tryd.prog (concrete_writers_f1_C N) E 0) : Blk Tryd.prog (concrete_writers_f1_C N) E (List.range concrete_writers_f1_S0.ks.length) concrete_writers_f1_S0 (concrete_writers_f1_L.drop 0) (fun y => concrete_writers_f1 N y.1.1 y.2.1) (concrete_writers_f1_K N) :=
 Blk.chunkAt hb 3 (X := (concrete_writers_f1_K N .normal)) (NxOk.end (by kernel_rfl)) rfl (fun x => by kernel_rfl)
def concrete_writers_f1_ctr (N : Nat) : Ctr := ⟨concrete_writers_f1_S0, concrete_writers_f1_S1.un [false], 0, (fun y => concrete_writers_f1 N y.1.1 y.2.1)⟩
theorem concrete_writers_f1_ctrs (N : Nat) : CtrsOk Tryd.prog (concrete_writers_f1_C N) := ctrs_of (Γ := concrete_writers_f1_C N) G_ifs_ok (by
 intro p hp
 simp only [concrete_writers_f1_C, List.mem_cons, List.not_mem_nil, or_false] at hp
 rcases hp with rfl
 · exact wire_Put_ok N)
theorem concrete_writers_f1_ok (N : Nat) : Ctr.ok Tryd.prog G_globs 45 (concrete_writers_f1_ctr N) :=
 ctr_fn (Γ := concrete_writers_f1_C N) (rfit := concrete_writers_f1_S1) (bs := [false]) (res := [4]) (by kernel_rfl) (tys_ok G_tys_ok) (concrete_writers_f1_ctrs N) Tryd.func45 (by kernel_rfl) (by kernel_rfl) Tryd.ntmps45 (by kernel_rfl) (by kernel_rfl) (by kernel_rfl) (by kernel_rfl) (fun E hb => concrete_writers_f1_b N hb)
end
end Go.Proofs.YtajpblfinenmjaaDoor